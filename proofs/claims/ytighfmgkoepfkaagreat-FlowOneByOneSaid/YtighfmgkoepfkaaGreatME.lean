/- Plain laws of limits: what something can be is found by halving. -/
import Derived.Test.YtighfmgkoepfkaaGreatMI
namespace Go.Proofs.YtighfmgkoepfkaaGreat

/-- A span put at something, by its ID. -/
def putIH (hs : List Hd) (kind id lo hi : Int) : List Hd := hs.map fun h => if kind = 2 ∧ h.id = id then setS lo hi h else if kind = 3 ∧ h.id = id then setE lo hi h else h
def putIM (ms : List Mv) (kind id lo hi : Int) : List Mv := ms.map fun m => if kind = 1 ∧ m.id = id then setM lo hi m else m
section
variable {hs : List Hd} {ms : List Mv} {kind id lo hi : Int}
theorem putH_id (hn : (hs.map Hd.id).Nodup) (hp : placeE hs ms kind id = 0) : putH hs (placeN hs ms kind id) lo hi = putIH hs kind id lo hi := by
  unfold placeE at hp
  have hid : ∀ i (hi : i < hs.length), (hs[i]).id = id → i = posN hs id := fun i hi e => by rw [← e]; exact (nodup_ids.1 hn i hi).symm
  have hle := posN_le hs id
  unfold putH placeN putIH
  by_cases c1 : kind = 1
  · rw [if_pos c1] at hp
    simp only [if_pos c1]
    rw [if_neg (by omega), if_neg (by omega)]
    rw [List.map_congr_left (g := fun h => h) (fun h _ => by rw [if_neg (by omega), if_neg (by omega)])]
    simp
  rw [if_neg c1] at hp
  by_cases c2 : kind = 2
  · rw [if_pos (.inl c2)] at hp
    have hlt : posN hs id < hs.length := by
      by_cases c : posN hs id < hs.length
      · exact c
      · rw [if_neg c] at hp; cases hp
    simp only [if_neg c1, if_pos c2]
    rw [if_pos hlt]
    apply List.ext_getElem (by simp)
    intro i h1 h2
    have hi' : i < hs.length := by simpa using h1
    rw [List.getElem_modify, List.getElem_map]
    by_cases e : (hs[i]).id = id
    · rw [if_pos (hid i hi' e).symm, if_pos ⟨c2, e⟩]
    · rw [if_neg (fun q => e (by subst q; exact posN_at hs id hlt)), if_neg (fun q => e q.2), if_neg (fun q => e q.2)]
  · by_cases c3 : kind = 3
    · rw [if_pos (.inr c3)] at hp
      have hlt : posN hs id < hs.length := by
        by_cases c : posN hs id < hs.length
        · exact c
        · rw [if_neg c] at hp; cases hp
      simp only [if_neg c1, if_neg c2]
      rw [if_neg (by omega), if_pos (by omega), Nat.add_sub_cancel_left]
      apply List.ext_getElem (by simp)
      intro i h1 h2
      have hi' : i < hs.length := by simpa using h1
      rw [List.getElem_modify, List.getElem_map]
      by_cases e : (hs[i]).id = id
      · rw [if_pos (hid i hi' e).symm, if_neg (fun q => c2 q.1), if_pos ⟨c3, e⟩]
      · rw [if_neg (fun q => e (by subst q; exact posN_at hs id hlt)), if_neg (fun q => e q.2), if_neg (fun q => e q.2)]
    · rw [if_neg (by omega)] at hp; cases hp
theorem posM_self (hn : (ms.map Mv.id).Nodup) {i : Nat} (hi : i < ms.length) : posM ms (ms[i]).id = i := by
  have h1 := posM_first ms (ms[i]).id i hi rfl
  have h2 : posM ms (ms[i]).id < ms.length := by omega
  have h3 := posM_at ms (ms[i]).id h2
  exact (List.getElem_inj (h₀ := by simpa using h2) (h₁ := by simpa using hi) hn).1 (by rw [List.getElem_map, List.getElem_map]; exact h3)
theorem putM_id (hn : (ms.map Mv.id).Nodup) (hp : placeE hs ms kind id = 0) : putM hs ms (placeN hs ms kind id) lo hi = putIM ms kind id lo hi := by
  unfold placeE at hp
  have hle := posN_le hs id
  unfold putM placeN putIM
  by_cases c1 : kind = 1
  · rw [if_pos c1] at hp
    have hlt : posM ms id < ms.length := by
      by_cases c : posM ms id < ms.length
      · exact c
      · rw [if_neg c] at hp; cases hp
    simp only [if_pos c1]
    rw [if_neg (by omega), Nat.add_sub_cancel_left]
    apply List.ext_getElem (by simp)
    intro i h1 h2
    have hi' : i < ms.length := by simpa using h1
    rw [List.getElem_modify, List.getElem_map]
    by_cases e : (ms[i]).id = id
    · rw [if_pos (by rw [← e]; exact posM_self hn hi'), if_pos ⟨c1, e⟩]
    · rw [if_neg (fun q => e (by subst q; exact posM_at ms id hlt)), if_neg (fun q => e q.2)]
  · rw [if_neg c1] at hp
    have hlt : (kind = 2 ∨ kind = 3) ∧ posN hs id < hs.length := by
      by_cases c : kind = 2 ∨ kind = 3
      · rw [if_pos c] at hp
        by_cases d : posN hs id < hs.length
        · exact ⟨c, d⟩
        · rw [if_neg d] at hp; cases hp
      · rw [if_neg c] at hp; cases hp
    simp only [if_neg c1]
    rw [if_pos (by split <;> omega), List.map_congr_left (g := fun h => h) (fun h _ => by rw [if_neg (by omega)])]
    simp
theorem putIH_ids : (putIH hs kind id lo hi).map Hd.id = hs.map Hd.id := by
  unfold putIH
  rw [List.map_map]
  refine List.map_congr_left fun h _ => ?_
  simp only [Function.comp]
  split
  · rfl
  · split <;> rfl
theorem hat_map {f : Hd → Hd} {i : Nat} (h : i < hs.length) : hat (hs.map f) i = f (hat hs i) := by
  rw [hat_eq h, hat_eq (by simpa using h), List.getElem_map]
end
end Go.Proofs.YtighfmgkoepfkaaGreat

namespace Go.Proofs.YtighfmgkoepfkaaGreat

section
variable {hs : List Hd} {ms : List Mv}
theorem lo_fits (h : TV hs ms) {at_ : Nat} (hat' : at_ < 2 * hs.length + ms.length) (ha : agrL hs ms = true) {mid : Int} (h1 : spanLo hs ms at_ ≤ mid) (h2 : mid ≤ spanHi hs ms at_) :
    agrL (putH hs at_ (spanLo hs ms at_) mid) (putM hs ms at_ (spanLo hs ms at_) mid) = decide (narLo hs ms at_ ≤ mid) := by
  rw [Bool.eq_iff_iff, agr_put h hat' (Int.le_refl _) h1 h2, decide_eq_true_iff]
  constructor
  · rintro ⟨st, en, ma, hf, _, q⟩
    have := (nar_course h hat' hf).1
    omega
  · intro q
    obtain ⟨r, st, en, ma, hf, e⟩ := nar_least h hat' ha
    exact ⟨st, en, ma, hf, by omega, by omega⟩
theorem hi_fits (h : TV hs ms) {at_ : Nat} (hat' : at_ < 2 * hs.length + ms.length) (ha : agrL hs ms = true) {mid : Int} (h1 : spanLo hs ms at_ ≤ mid) (h2 : mid ≤ spanHi hs ms at_) :
    agrL (putH hs at_ mid (spanHi hs ms at_)) (putM hs ms at_ mid (spanHi hs ms at_)) = decide (mid ≤ narHi hs ms at_) := by
  rw [Bool.eq_iff_iff, agr_put h hat' h1 h2 (Int.le_refl _), decide_eq_true_iff]
  constructor
  · rintro ⟨st, en, ma, hf, q, _⟩
    have := (nar_course h hat' hf).2
    omega
  · intro q
    obtain ⟨r, st, en, ma, hf, e⟩ := nar_most h hat' ha
    exact ⟨st, en, ma, hf, by omega, by omega⟩
theorem nar_ends (h : TV hs ms) {at_ : Nat} (hat' : at_ < 2 * hs.length + ms.length) (ha : agrL hs ms = true) : spanLo hs ms at_ ≤ narLo hs ms at_ ∧ narLo hs ms at_ ≤ narHi hs ms at_ ∧ narHi hs ms at_ ≤ spanHi hs ms at_ := by
  obtain ⟨q1, st, en, ma, hf, e⟩ := nar_least h hat' ha
  have q2 := (nar_course h hat' hf).2
  have q3 := (nar_most h hat' ha).1
  exact ⟨q1, by omega, q3⟩
theorem plE_tv {kind id : Int} (h : plE hs ms kind id = 0) : TV hs ms ∧ placeE hs ms kind id = 0 := by
  unfold plE at h
  by_cases c : tcheck hs ms ≠ 0
  · rw [if_pos c] at h; exact absurd h c
  · rw [if_neg c] at h; exact ⟨tcheck_zero.1 (Classical.byContradiction c), h⟩
end
end Go.Proofs.YtighfmgkoepfkaaGreat
