/- Points of rows of pieces: where x is less, y is less. No program in sight. -/
import Derived.Test.YtipablcbkoedbaaJ1
namespace Go.Proofs.Ytipablcbkoedbaa
open Go.RowKit

/-- A point (x, y) of a piece. -/
structure Pt (X Y : Nat → Int) (m : Nat) (y x : Int × Int) (i : Nat) : Prop where
  im : i < m
  yp : 0 < y.2
  xp : 0 < x.2
  lo : X i * x.2 ≤ x.1
  hi : x.1 ≤ X (i + 1) * x.2
  eq : (x.1 - X i * x.2) * (Y (i + 1) - Y i) * y.2 = (y.1 - Y i * y.2) * (X (i + 1) - X i) * x.2

theorem pos_of_mul {a b c : Int} (ha : 0 < a) (h : a * b = c) : (0 ≤ b ↔ 0 ≤ c) ∧ (b = 0 ↔ c = 0) ∧ (0 < b ↔ 0 < c) := by
  subst h
  refine ⟨⟨fun h => Int.mul_nonneg (Int.le_of_lt ha) h, fun h => ?_⟩, ⟨fun h => by rw [h, Int.mul_zero], fun h => ?_⟩, ⟨fun h => Int.mul_pos ha h, fun h => ?_⟩⟩
  · exact Int.not_lt.1 fun c => absurd (Int.mul_neg_of_pos_of_neg ha c) (by omega)
  · rcases Int.mul_eq_zero.1 h with h | h <;> omega
  · exact Int.not_le.1 fun c => absurd (Int.mul_nonpos_of_nonneg_of_nonpos (Int.le_of_lt ha) c) (by omega)

theorem Pt.ends {X Y : Nat → Int} {m i : Nat} {y x : Int × Int} (h : Pt X Y m y x i) (hX : X i < X (i + 1)) (hY : Y i < Y (i + 1)) :
    Y i * y.2 ≤ y.1 ∧ y.1 ≤ Y (i + 1) * y.2 ∧ (y.1 = Y i * y.2 ↔ x.1 = X i * x.2) ∧ (y.1 = Y (i + 1) * y.2 ↔ x.1 = X (i + 1) * x.2) := by
  obtain ⟨_, yp, xp, lo, hi, eq⟩ := h
  have hc : 0 < (X (i + 1) - X i) * x.2 := Int.mul_pos (by omega) xp
  have hd : 0 < (Y (i + 1) - Y i) * y.2 := Int.mul_pos (by omega) yp
  have e1 : ((X (i + 1) - X i) * x.2) * (y.1 - Y i * y.2) = ((Y (i + 1) - Y i) * y.2) * (x.1 - X i * x.2) := by grind
  have e2 : ((X (i + 1) - X i) * x.2) * (Y (i + 1) * y.2 - y.1) = ((Y (i + 1) - Y i) * y.2) * (X (i + 1) * x.2 - x.1) := by grind
  obtain ⟨a1, a2, _⟩ := pos_of_mul hc e1
  obtain ⟨b1, b2, _⟩ := pos_of_mul hc e2
  obtain ⟨c1, c2, _⟩ := pos_of_mul hd (rfl : _ = ((Y (i + 1) - Y i) * y.2) * (x.1 - X i * x.2))
  obtain ⟨d1, d2, _⟩ := pos_of_mul hd (rfl : _ = ((Y (i + 1) - Y i) * y.2) * (X (i + 1) * x.2 - x.1))
  refine ⟨?_, ?_, ⟨fun h => ?_, fun h => ?_⟩, ⟨fun h => ?_, fun h => ?_⟩⟩ <;> omega

theorem inc_le {X : Nat → Int} {m : Nat} (hX : ∀ i, i < m → X i < X (i + 1)) : ∀ (d i : Nat), i + d ≤ m → X i ≤ X (i + d)
  | 0, i, _ => Int.le_refl _
  | d + 1, i, h => by
    have := inc_le hX d i (by omega)
    have := hX (i + d) (by omega)
    show X i ≤ X (i + d + 1)
    omega
theorem inc_lt {X : Nat → Int} {m : Nat} (hX : ∀ i, i < m → X i < X (i + 1)) {i j : Nat} (hj : j ≤ m) (h : i < j) : X i < X j := by
  have := inc_le hX (j - (i + 1)) (i + 1) (by omega)
  rw [show i + 1 + (j - (i + 1)) = j by omega] at this
  have := hX i (by omega)
  omega
theorem inc_lei {X : Nat → Int} {m : Nat} (hX : ∀ i, i < m → X i < X (i + 1)) {i j : Nat} (hj : j ≤ m) (h : i ≤ j) : X i ≤ X j := by
  have := inc_le hX (j - i) i (by omega)
  rw [show i + (j - i) = j by omega] at this
  exact this

theorem frac_le {a b : Int × Int} {p q : Int} (ha : 0 < a.2) (hb : 0 < b.2) (h1 : a.1 ≤ p * a.2) (h2 : q * b.2 ≤ b.1) (h : p ≤ q) : a.1 * b.2 ≤ b.1 * a.2 ∧ (a.1 * b.2 = b.1 * a.2 → a.1 = p * a.2 ∧ b.1 = q * b.2 ∧ p = q) := by
  have e1 : 0 ≤ (p * a.2 - a.1) * b.2 := Int.mul_nonneg (by omega) (by omega)
  have e2 : 0 ≤ (b.1 - q * b.2) * a.2 := Int.mul_nonneg (by omega) (by omega)
  have e3 : 0 ≤ (q - p) * (a.2 * b.2) := Int.mul_nonneg (by omega) (Int.mul_nonneg (by omega) (by omega))
  have e4 : b.1 * a.2 - a.1 * b.2 = (p * a.2 - a.1) * b.2 + (b.1 - q * b.2) * a.2 + (q - p) * (a.2 * b.2) := by grind
  refine ⟨by omega, fun h => ?_⟩
  have z1 : (p * a.2 - a.1) * b.2 = 0 := by omega
  have z2 : (b.1 - q * b.2) * a.2 = 0 := by omega
  have z3 : (q - p) * (a.2 * b.2) = 0 := by omega
  refine ⟨?_, ?_, ?_⟩
  · rcases Int.mul_eq_zero.1 z1 with h | h <;> omega
  · rcases Int.mul_eq_zero.1 z2 with h | h <;> omega
  · rcases Int.mul_eq_zero.1 z3 with h | h
    · omega
    · rcases Int.mul_eq_zero.1 h with h | h <;> omega

/-- A rising row of pieces rises. -/
theorem pt_mono {X Y : Nat → Int} {m i j : Nat} {y x y' x' : Int × Int} (hX : ∀ i, i < m → X i < X (i + 1)) (hY : ∀ i, i < m → Y i < Y (i + 1)) (h : Pt X Y m y x i) (h' : Pt X Y m y' x' j) :
    (x.1 * x'.2 < x'.1 * x.2 → y.1 * y'.2 < y'.1 * y.2) ∧ (x.1 * x'.2 = x'.1 * x.2 → y.1 * y'.2 = y'.1 * y.2) := by
  have hi := h.im
  have hj := h'.im
  obtain ⟨a1, a2, a3, a4⟩ := h.ends (hX i hi) (hY i hi)
  obtain ⟨b1, b2, b3, b4⟩ := h'.ends (hX j hj) (hY j hj)
  rcases Nat.lt_trichotomy i j with hij | hij | hij
  · obtain ⟨f1, f2⟩ := frac_le h.yp h'.yp a2 b1 (inc_lei hY (i := i + 1) (j := j) (by omega) (by omega))
    obtain ⟨g1, g2⟩ := frac_le h.xp h'.xp h.hi h'.lo (inc_lei hX (i := i + 1) (j := j) (by omega) (by omega))
    refine ⟨fun hlt => ?_, fun he => ?_⟩
    · by_cases e : y.1 * y'.2 = y'.1 * y.2
      · obtain ⟨p, q, r⟩ := f2 e
        exfalso
        have hjj : i + 1 = j := by
          by_cases k : i + 1 < j
          · have := inc_lt hY (i := i + 1) (j := j) (by omega) k; omega
          · omega
        have u := a4.1 p
        have v := b3.1 q
        rw [hjj] at u
        have : x.1 * x'.2 = x'.1 * x.2 := by rw [u, v]; grind
        omega
      · omega
    · obtain ⟨p, q, r⟩ := g2 he
      have hjj : i + 1 = j := by
        by_cases k : i + 1 < j
        · have := inc_lt hX (i := i + 1) (j := j) (by omega) k; omega
        · omega
      have u := a4.2 p
      have v := b3.2 q
      rw [hjj] at u
      rw [u, v]; grind
  · subst hij
    have hR : 0 < Y (i + 1) - Y i := by have := hY i hi; omega
    have hD : 0 < X (i + 1) - X i := by have := hX i hi; omega
    have hK : 0 < (X (i + 1) - X i) * (x.2 * x'.2) := Int.mul_pos hD (Int.mul_pos h.xp h'.xp)
    have hL : 0 < (Y (i + 1) - Y i) * (y.2 * y'.2) := Int.mul_pos hR (Int.mul_pos h.yp h'.yp)
    have e : ((X (i + 1) - X i) * (x.2 * x'.2)) * (y'.1 * y.2 - y.1 * y'.2) = ((Y (i + 1) - Y i) * (y.2 * y'.2)) * (x'.1 * x.2 - x.1 * x'.2) := by
      have e1 := h.eq
      have e2 := h'.eq
      grind
    obtain ⟨_, p2, p3⟩ := pos_of_mul hK e
    obtain ⟨_, q2, q3⟩ := pos_of_mul hL (rfl : _ = ((Y (i + 1) - Y i) * (y.2 * y'.2)) * (x'.1 * x.2 - x.1 * x'.2))
    exact ⟨fun _ => by omega, fun _ => by omega⟩
  · obtain ⟨g1, g2⟩ := frac_le h'.xp h.xp h'.hi h.lo (inc_lei hX (i := j + 1) (j := i) (by omega) (by omega))
    refine ⟨fun hlt => by omega, fun he => ?_⟩
    obtain ⟨p, q, r⟩ := g2 he.symm
    have hjj : j + 1 = i := by
      by_cases k : j + 1 < i
      · have := inc_lt hX (i := j + 1) (j := i) (by omega) k; omega
      · omega
    have u := b4.2 p
    have v := a3.2 q
    rw [hjj] at u
    rw [u, v]; grind
theorem pt_iff {X Y : Nat → Int} {m i j : Nat} {y x y' x' : Int × Int} (hX : ∀ i, i < m → X i < X (i + 1)) (hY : ∀ i, i < m → Y i < Y (i + 1)) (h : Pt X Y m y x i) (h' : Pt X Y m y' x' j) :
    (x.1 * x'.2 < x'.1 * x.2 ↔ y.1 * y'.2 < y'.1 * y.2) ∧ (x'.1 * x.2 < x.1 * x'.2 ↔ y'.1 * y.2 < y.1 * y'.2) := by
  obtain ⟨a, b⟩ := pt_mono hX hY h h'
  obtain ⟨c, d⟩ := pt_mono hX hY h' h
  refine ⟨⟨a, fun k => ?_⟩, ⟨c, fun k => ?_⟩⟩
  · rcases Int.lt_trichotomy (x.1 * x'.2) (x'.1 * x.2) with e | e | e
    · exact e
    · have := b e; omega
    · have := c e; omega
  · rcases Int.lt_trichotomy (x.1 * x'.2) (x'.1 * x.2) with e | e | e
    · have := a e; omega
    · have := b e; omega
    · exact e
theorem Pt.neg {X Y : Nat → Int} {m i : Nat} {y x : Int × Int} (h : Pt X Y m y x i) : Pt X (fun k => -Y k) m (-y.1, y.2) x i := by
  refine ⟨h.im, h.yp, h.xp, h.lo, h.hi, ?_⟩
  have := h.eq
  dsimp only
  grind
theorem pt_iff_neg {X Y : Nat → Int} {m i j : Nat} {y x y' x' : Int × Int} (hX : ∀ i, i < m → X i < X (i + 1)) (hY : ∀ i, i < m → Y (i + 1) < Y i) (h : Pt X Y m y x i) (h' : Pt X Y m y' x' j) :
    (x.1 * x'.2 < x'.1 * x.2 ↔ y'.1 * y.2 < y.1 * y'.2) ∧ (x'.1 * x.2 < x.1 * x'.2 ↔ y.1 * y'.2 < y'.1 * y.2) := by
  have k := pt_iff hX (Y := fun k => -Y k) (fun i hi => by have := hY i hi; show -Y i < -Y (i + 1); omega) h.neg h'.neg
  dsimp only at k
  rw [Int.neg_mul, Int.neg_mul] at k
  omega
end Go.Proofs.Ytipablcbkoedbaa
