/- What something is in a course: the law's told, as a function. -/
import Derived.Test.YtighfmgkoepfkaaGreatMI
namespace Go.Proofs.YtighfmgkoepfkaaGreat

def toldL (hs : List Hd) (ms : List Mv) (kind id : Int) (st en ma : List Int) : Int × Bool :=
  if kind = 1 then (if posM ms id < ms.length ∧ posM ms id < ma.length then (iget ma (posM ms id), true) else (0, false))
  else if kind = 2 ∨ kind = 3 then (if posN hs id < hs.length ∧ posN hs id < st.length ∧ posN hs id < en.length then (iget (if kind = 2 then st else en) (posN hs id), true) else (0, false))
  else (0, false)
section
variable {hs : List Hd} {ms : List Mv} {kind id : Int} {st en ma : List Int}
theorem posM_hit {k : Nat} (hk : k < ms.length) (e : (mat ms k).id = id) (hno : ∀ i, i < k → (mat ms i).id ≠ id) : posM ms id = k := by
  have h1 := posM_first ms id k hk (by rw [← mat_eq hk]; exact e)
  refine Nat.le_antisymm h1 (Nat.le_of_not_lt fun hlt => ?_)
  have hp : posM ms id < ms.length := by omega
  exact hno _ hlt (by rw [mat_eq hp]; exact posM_at ms id hp)
theorem posN_hit {k : Nat} (hk : k < hs.length) (e : (hat hs k).id = id) (hno : ∀ i, i < k → (hat hs i).id ≠ id) : posN hs id = k := by
  have h1 := posN_first hs id k hk (by rw [← hat_eq hk]; exact e)
  refine Nat.le_antisymm h1 (Nat.le_of_not_lt fun hlt => ?_)
  have hp : posN hs id < hs.length := by omega
  exact hno _ hlt (by rw [hat_eq hp]; exact posN_at hs id hp)
theorem told_mass {k : Nat} (h1 : kind = 1) (hk : k < ms.length) (hk2 : k < ma.length) (e : (mat ms k).id = id) (hno : ∀ i, i < k → (mat ms i).id ≠ id) : toldL hs ms kind id st en ma = (iget ma k, true) := by
  unfold toldL
  rw [if_pos h1, posM_hit hk e hno, if_pos ⟨hk, hk2⟩]
theorem told_start {k : Nat} (h1 : kind = 2) (hk : k < hs.length) (hk2 : k < st.length) (hk3 : k < en.length) (e : (hat hs k).id = id) (hno : ∀ i, i < k → (hat hs i).id ≠ id) : toldL hs ms kind id st en ma = (iget st k, true) := by
  unfold toldL
  rw [if_neg (by omega), if_pos (.inl h1), posN_hit hk e hno, if_pos ⟨hk, hk2, hk3⟩, if_pos h1]
theorem told_end {k : Nat} (h1 : kind = 3) (hk : k < hs.length) (hk2 : k < st.length) (hk3 : k < en.length) (e : (hat hs k).id = id) (hno : ∀ i, i < k → (hat hs i).id ≠ id) : toldL hs ms kind id st en ma = (iget en k, true) := by
  unfold toldL
  rw [if_neg (by omega), if_pos (.inr h1), posN_hit hk e hno, if_pos ⟨hk, hk2, hk3⟩, if_neg (by omega)]
theorem told_none (h1 : kind = 1 → ∀ i, i < ms.length → i < ma.length → (mat ms i).id ≠ id) (h2 : kind = 2 ∨ kind = 3 → ∀ i, i < hs.length → i < st.length → i < en.length → (hat hs i).id ≠ id) : toldL hs ms kind id st en ma = (0, false) := by
  unfold toldL
  by_cases c1 : kind = 1
  · rw [if_pos c1, if_neg]
    rintro ⟨a, b⟩
    exact h1 c1 _ a b (by rw [mat_eq a]; exact posM_at ms id a)
  · rw [if_neg c1]
    by_cases c2 : kind = 2 ∨ kind = 3
    · rw [if_pos c2, if_neg]
      rintro ⟨a, b, c⟩
      exact h2 c2 _ a b c (by rw [hat_eq a]; exact posN_at hs id a)
    · rw [if_neg c2]
/-- Of a course, the number of something lies between the least and the greatest. -/
theorem told_fits (hv : TV hs ms) (hf : fitsL hs ms st en ma = true) : (plE hs ms kind id = 0 ↔ (toldL hs ms kind id st en ma).2 = true) ∧ (plE hs ms kind id = 0 → limN hs ms kind id false ≤ (toldL hs ms kind id st en ma).1 ∧ (toldL hs ms kind id st en ma).1 ≤ limN hs ms kind id true) := by
  obtain ⟨⟨l1, l2, l3⟩, _⟩ := fitsL_prop.1 hf
  have hp : plE hs ms kind id = placeE hs ms kind id := by unfold plE; rw [if_neg (by rw [tcheck_zero.2 hv]; decide)]
  rw [hp]
  have hb : placeE hs ms kind id = 0 → narLo hs ms (placeN hs ms kind id) ≤ valAt st en ma (placeN hs ms kind id) ∧ valAt st en ma (placeN hs ms kind id) ≤ narHi hs ms (placeN hs ms kind id) := fun h => nar_course hv (placeN_lt h) hf
  unfold limN
  rw [if_neg (by decide), if_pos rfl]
  have hval := fun at_ => valAt_pos (ma := ma) l1 l2 at_
  unfold placeE toldL at *
  by_cases c1 : kind = 1
  · rw [if_pos c1] at hb ⊢
    rw [if_pos c1]
    by_cases c2 : posM ms id < ms.length
    · rw [if_pos c2] at hb ⊢
      rw [if_pos ⟨c2, by omega⟩]
      refine ⟨by simp, fun _ => ?_⟩
      have h := hb rfl
      rw [hval] at h
      unfold placeN at h ⊢
      simp only [if_pos c1, if_neg (show ¬ (2 * hs.length + posM ms id < hs.length) by omega), if_neg (show ¬ (2 * hs.length + posM ms id < 2 * hs.length) by omega), Nat.add_sub_cancel_left] at h ⊢
      exact h
    · rw [if_neg c2, if_neg (fun h => c2 h.1)]
      refine ⟨by simp, fun h => by cases h⟩
  · rw [if_neg c1] at hb ⊢
    rw [if_neg c1]
    by_cases c3 : kind = 2 ∨ kind = 3
    · rw [if_pos c3] at hb ⊢
      rw [if_pos c3]
      by_cases c2 : posN hs id < hs.length
      · rw [if_pos c2] at hb ⊢
        rw [if_pos ⟨c2, by omega, by omega⟩]
        refine ⟨by simp, fun _ => ?_⟩
        have h := hb rfl
        rw [hval] at h
        unfold placeN at h ⊢
        by_cases c4 : kind = 2
        · simp only [if_neg c1, if_pos c4, if_pos c2] at h ⊢
          exact h
        · simp only [if_neg c1, if_neg c4, if_neg (show ¬ (hs.length + posN hs id < hs.length) by omega), if_pos (show hs.length + posN hs id < 2 * hs.length by omega), Nat.add_sub_cancel_left] at h ⊢
          exact h
      · rw [if_neg c2, if_neg (fun h => c2 h.1)]
        refine ⟨by simp, fun h => by cases h⟩
    · rw [if_neg c3, if_neg c3]
      refine ⟨by simp, fun h => by cases h⟩
end
end Go.Proofs.YtighfmgkoepfkaaGreat
