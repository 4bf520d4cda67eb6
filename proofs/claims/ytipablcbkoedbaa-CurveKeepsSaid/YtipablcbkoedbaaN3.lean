/- What CurveCrossings asks, in plain words. -/
import Derived.Test.YtipablcbkoedbaaN1
import Derived.Test.YtipablcbkoedbaaJ1
import Derived.Test.YtipablcbkoedbaaC9
import Derived.Test.YtipablcbkoedbaaH3
namespace Go.Proofs.Ytipablcbkoedbaa
open Go.RowKit

theorem low_sign {n d : Int} (hd : 1 ≤ d) : (lowN n d < 0 ↔ n < 0) ∧ (0 < lowN n d ↔ 0 < n) := by
  have h := low_ratio n d
  have hb := (lowD_bd (n := n) hd (Int.le_refl d)).1
  have hdp : 0 < d := by omega
  have hbp : 0 < lowD n d := by omega
  refine ⟨⟨fun a => ?_, fun a => ?_⟩, ⟨fun a => ?_, fun a => ?_⟩⟩
  · have : lowN n d * d < 0 := Int.mul_neg_of_neg_of_pos a hdp
    rw [h] at this
    exact Int.not_le.1 fun c => absurd (Int.mul_nonneg c (Int.le_of_lt hbp)) (by omega)
  · have : n * lowD n d < 0 := Int.mul_neg_of_neg_of_pos a hbp
    rw [← h] at this
    exact Int.not_le.1 fun c => absurd (Int.mul_nonneg c (Int.le_of_lt hdp)) (by omega)
  · have : 0 < lowN n d * d := Int.mul_pos a hdp
    rw [h] at this
    exact Int.not_le.1 fun c => absurd (Int.mul_nonpos_of_nonpos_of_nonneg c (Int.le_of_lt hbp)) (by omega)
  · have : 0 < n * lowD n d := Int.mul_pos a hbp
    rw [← h] at this
    exact Int.not_le.1 fun c => absurd (Int.mul_nonpos_of_nonpos_of_nonneg c (Int.le_of_lt hdp)) (by omega)

theorem df_sign {ks ks' : List (Int × Int)} (hv : Valid ks) (hv' : Valid ks') {x : Int} (h0 : kx ks 0 ≤ x) (h0' : kx ks' 0 ≤ x) :
    (dfN ks ks' x < 0 ↔ twO ks ks' x < 0) ∧ (0 < dfN ks ks' x ↔ 0 < twO ks ks' x) := by
  obtain ⟨_, _, _, _, e, _⟩ := df_bd hv hv' h0 h0'
  obtain ⟨a, b⟩ := low_sign (n := valN ks x * valD ks' x - valN ks' x * valD ks x) e
  have a' : dfN ks ks' x < 0 ↔ valN ks x * valD ks' x - valN ks' x * valD ks x < 0 := a
  have b' : 0 < dfN ks ks' x ↔ 0 < valN ks x * valD ks' x - valN ks' x * valD ks x := b
  rw [a', b']
  have ho : twO ks ks' x = cmpI (valN ks x * valD ks' x) (valN ks' x * valD ks x) := rfl
  rw [ho]
  generalize valN ks x * valD ks' x = p
  generalize valN ks' x * valD ks x = q
  unfold cmpI
  refine ⟨⟨fun h => ?_, fun h => ?_⟩, ⟨fun h => ?_, fun h => ?_⟩⟩ <;> (repeat' split) <;> first | omega | (split at h <;> first | omega | (split at h <;> omega))

theorem tw_lohi {ks ks' : List (Int × Int)} {err err' : Int} (h : twErr ks ks' err err' = 0) : twLo ks ks' = max (domLo ks) (domLo ks') ∧ twHi ks ks' = min (domHi ks) (domHi ks') ∧ 0 ≤ domLo ks ∧ domLo ks ≤ 2000 ∧ 0 ≤ domLo ks' ∧ domLo ks' ≤ 2000 ∧ 0 ≤ domHi ks ∧ domHi ks ≤ 2000 ∧ 0 ≤ domHi ks' ∧ domHi ks' ≤ 2000 := by
  obtain ⟨hv, hv', _, _⟩ := tw_valid h
  have p := hv.pos
  have p' := hv'.pos
  have a := hv.x0 0 p
  have a' := hv'.x0 0 p'
  have b := hv.x0 (ks.length - 1) (by omega)
  have b' := hv'.x0 (ks'.length - 1) (by omega)
  unfold twLo twHi domLo domHi
  omega
theorem tw_in {ks ks' : List (Int × Int)} {err err' : Int} (h : twErr ks ks' err err' = 0) {x : Int} (h1 : twLo ks ks' ≤ x) (h2 : x ≤ twHi ks ks') : valErr ks err x = 0 ∧ valErr ks' err' x = 0 ∧ kx ks 0 ≤ x ∧ kx ks' 0 ≤ x := by
  have e1 : check ks err = 0 := by unfold twErr at h; split at h <;> first | assumption | contradiction
  have e2 : check ks' err' = 0 := by unfold twErr at h; rw [if_pos e1] at h; exact h
  unfold twLo at h1
  unfold twHi at h2
  refine ⟨?_, ?_, ?_, ?_⟩
  · unfold valErr; rw [if_neg (by simp [e1]), if_pos (by omega)]
  · unfold valErr; rw [if_neg (by simp [e2]), if_pos (by omega)]
  · have : domLo ks ≤ x := by omega
    exact this
  · have : domLo ks' ≤ x := by omega
    exact this

/-- What the rounds of CurveCrossings ask. -/
theorem cross_plain {ks ks' : List (Int × Int)} {err err' : Int} (h : twErr ks ks' err err' = 0) :
    (∀ x, twLo ks ks' ≤ x → x < twHi ks ks' → (dfN ks ks' x = 0 → aln (crV ks ks' err err') x = true) ∧
      (tog (crV ks ks' err err') x = false → ¬ (dfN ks ks' x < 0 ∧ 0 < dfN ks ks' (x + 1)) ∧ ¬ (0 < dfN ks ks' x ∧ dfN ks ks' (x + 1) < 0)) ∧
      (tog (crV ks ks' err err') x = true → (dfN ks ks' x ≤ 0 ∧ 0 ≤ dfN ks ks' (x + 1)) ∨ (0 ≤ dfN ks ks' x ∧ dfN ks ks' (x + 1) ≤ 0))) ∧
    (∀ z ∈ crV ks ks' err err', twLo ks ks' ≤ z.1 ∧ z.1 ≤ twHi ks ks' ∧ twLo ks ks' ≤ z.2 ∧ z.2 ≤ twHi ks ks' ∧ ¬ (dfN ks ks' z.1 < 0 ∧ dfN ks ks' z.2 < 0) ∧ ¬ (0 < dfN ks ks' z.1 ∧ 0 < dfN ks ks' z.2)) := by
  obtain ⟨hv, hv', _, _⟩ := tw_valid h
  have hs : ∀ x, twLo ks ks' ≤ x → x ≤ twHi ks ks' → (dfN ks ks' x < 0 ↔ twO ks ks' x < 0) ∧ (0 < dfN ks ks' x ↔ 0 < twO ks ks' x) := fun x a b => by
    obtain ⟨_, _, c, d⟩ := tw_in h a b
    exact df_sign hv hv' c d
  have hl : crV ks ks' err err' = crL (twLo ks ks') (twO ks ks') (twHi ks ks' + 1 - twLo ks ks').toNat := by unfold crV; rw [if_pos h]
  have hi := cr_inv (twLo ks ks') (twO ks ks') (twHi ks ks' + 1 - twLo ks ks').toNat
  rw [← hl] at hi
  refine ⟨fun x a b => ?_, fun z hz => ?_⟩
  · obtain ⟨c1, c2, c3⟩ := cr_first (twO_bd ks ks') hi (by omega) a b
    obtain ⟨d1, d2⟩ := hs x a (by omega)
    obtain ⟨e1, e2⟩ := hs (x + 1) (by omega) (by omega)
    refine ⟨fun k => ?_, fun k => ?_, fun k => ?_⟩
    · cases hh : aln (crV ks ks' err err') x with
      | true => rfl
      | false => exact absurd ⟨by omega, hh⟩ c1
    · exact ⟨fun ⟨p, q⟩ => c2 ⟨k, .inl ⟨by omega, by omega⟩⟩, fun ⟨p, q⟩ => c2 ⟨k, .inr ⟨by omega, by omega⟩⟩⟩
    · by_cases hh : (twO ks ks' x ≤ 0 ∧ 0 ≤ twO ks ks' (x + 1) ∨ 0 ≤ twO ks ks' x ∧ twO ks ks' (x + 1) ≤ 0)
      · omega
      · exact absurd ⟨k, hh⟩ c3
  · have hne : 0 < (twHi ks ks' + 1 - twLo ks ks').toNat := by
      by_cases h0 : (twHi ks ks' + 1 - twLo ks ks').toNat = 0
      · rw [hl, h0] at hz; simp [crL] at hz
      · omega
    obtain ⟨c1, c2, c3, c4, c5, c6⟩ := cr_second hi (hi := twHi ks ks') (by omega) hz
    obtain ⟨d1, d2⟩ := hs z.1 (by omega) (by omega)
    obtain ⟨e1, e2⟩ := hs z.2 (by omega) (by omega)
    exact ⟨c1, c2, c3, c4, by omega, by omega⟩
end Go.Proofs.Ytipablcbkoedbaa
