/- The plain law of CurveInverts. No program in sight. -/
import Derived.Test.YtipablcbkoedbaaO2
import Derived.Test.YtipablcbkoedbaaD4
import Derived.Test.YtipablcbkoedbaaH3
namespace Go.Proofs.Ytipablcbkoedbaa
open Go.RowKit

theorem fr_ratio {n d : Int} (hd : d ≠ 0) : frN n d * d = n * frD n d ∧ 1 ≤ frD n d ∧ frD n d ≤ max d (-d) ∧ Nat.gcd (frN n d).natAbs (frD n d).natAbs = 1 := by
  unfold frN frD
  by_cases h : d < 0
  · rw [if_pos h, if_pos h]
    have a := low_ratio (-n) (-d)
    have b := lowD_bd (n := -n) (d := -d) (D := -d) (by omega) (Int.le_refl _)
    refine ⟨by rw [Int.mul_neg, Int.neg_mul] at a; omega, b.1, by omega, low_cop (by omega)⟩
  · rw [if_neg h, if_neg h]
    have b := lowD_bd (n := n) (d := d) (D := d) (by omega) (Int.le_refl _)
    exact ⟨low_ratio n d, b.1, by omega, low_cop (by omega)⟩

theorem rising_cases {ks : List (Int × Int)} (h : risingI ks ≠ 0) : (risingI ks = 1 ∧ ∀ i, i < ks.length - 1 → ky ks i < ky ks (i + 1)) ∨ (risingI ks = -1 ∧ ∀ i, i < ks.length - 1 → ky ks (i + 1) < ky ks i) := by
  unfold risingI at h ⊢
  by_cases hu : upTo ks (ks.length - 1) = true
  · rw [if_pos hu]
    refine .inl ⟨rfl, fun i hi => ?_⟩
    unfold upTo at hu
    rw [List.all_eq_true] at hu
    have := hu i (List.mem_range.2 hi)
    simp only [decide_eq_true_eq] at this
    omega
  · rw [if_neg hu] at h ⊢
    by_cases hd : dnTo ks (ks.length - 1) = true
    · rw [if_pos hd]
      refine .inr ⟨rfl, fun i hi => ?_⟩
      unfold dnTo at hd
      rw [List.all_eq_true] at hd
      have := hd i (List.mem_range.2 hi)
      simp only [decide_eq_true_eq] at this
      omega
    · rw [if_neg hd] at h
      exact absurd rfl h

theorem wh_pt {ks : List (Int × Int)} {y : Int} (hv : Valid ks) (hne : ∀ i, i + 1 < ks.length → ky ks (i + 1) ≠ ky ks i) (hl : 1 < ks.length) {a : Int × Int} (h : whF ks y = some a) :
    (∃ i, Pt (kx ks) (ky ks) (ks.length - 1) (y, 1) a i) ∧ Nat.gcd a.1.natAbs a.2.natAbs = 1 ∧ a.2 ≤ 131072 := by
  unfold whF at h
  by_cases h0 : y = ky ks 0
  · rw [if_pos h0, (low_one _).1, (low_one _).2] at h
    obtain rfl := Option.some.inj h
    refine ⟨⟨0, by omega, by show (0 : Int) < 1; omega, by show (0 : Int) < 1; omega, by show kx ks 0 * 1 ≤ kx ks 0; omega, ?_, ?_⟩, by simp, by show (1 : Int) ≤ _; omega⟩
    · have := hv.up 0 (by omega)
      show kx ks 0 ≤ kx ks (0 + 1) * 1
      omega
    · show (kx ks 0 - kx ks 0 * 1) * (ky ks (0 + 1) - ky ks 0) * 1 = (y - ky ks 0 * 1) * (kx ks (0 + 1) - kx ks 0) * 1
      rw [h0]
      grind
  · rw [if_neg h0] at h
    cases hw : whO ks y with
    | none => rw [hw] at h; cases h
    | some i =>
      rw [hw] at h
      obtain rfl := Option.some.inj h
      unfold whO at hw
      obtain ⟨h1, h2, _⟩ := List.find?_range_eq_some.1 hw
      have hi : i < ks.length - 1 := List.mem_range.1 h2
      unfold onP at h1
      rw [decide_eq_true_eq] at h1
      have hr := hne i (by omega)
      have hx := hv.up i (by omega)
      have hy1 := hv.y0 i (by omega)
      have hy2 := hv.y0 (i + 1) (by omega)
      obtain ⟨e, d1, d2, c⟩ := fr_ratio (n := kx ks i * (ky ks (i + 1) - ky ks i) + (y - ky ks i) * (kx ks (i + 1) - kx ks i)) (d := ky ks (i + 1) - ky ks i) (by omega)
      have e' : invN ks y i * (ky ks (i + 1) - ky ks i) = (kx ks i * (ky ks (i + 1) - ky ks i) + (y - ky ks i) * (kx ks (i + 1) - kx ks i)) * invD ks y i := e
      have d1' : 1 ≤ invD ks y i := d1
      have d2' : invD ks y i ≤ max (ky ks (i + 1) - ky ks i) (-(ky ks (i + 1) - ky ks i)) := d2
      have c' : Nat.gcd (invN ks y i).natAbs (invD ks y i).natAbs = 1 := c
      generalize invN ks y i = p at *
      generalize invD ks y i = q at *
      clear e d1 d2 c
      refine ⟨⟨i, hi, by show (0 : Int) < 1; omega, by show 0 < q; omega, ?_, ?_, ?_⟩, c', by show q ≤ _; omega⟩
      · show kx ks i * q ≤ p
        have e1 : (ky ks (i + 1) - ky ks i) * (p - kx ks i * q) = (y - ky ks i) * ((kx ks (i + 1) - kx ks i) * q) := by grind
        have e2 : (-(ky ks (i + 1) - ky ks i)) * (p - kx ks i * q) = (-(y - ky ks i)) * ((kx ks (i + 1) - kx ks i) * q) := by grind
        have hp : 0 ≤ (kx ks (i + 1) - kx ks i) * q := Int.mul_nonneg (by omega) (by omega)
        by_cases k : ky ks i < ky ks (i + 1)
        · have := (pos_of_mul (show 0 < ky ks (i + 1) - ky ks i by omega) e1).1.2 (Int.mul_nonneg (by omega) hp); omega
        · have := (pos_of_mul (show 0 < -(ky ks (i + 1) - ky ks i) by omega) e2).1.2 (Int.mul_nonneg (by omega) hp); omega
      · show p ≤ kx ks (i + 1) * q
        have e1 : (ky ks (i + 1) - ky ks i) * (kx ks (i + 1) * q - p) = (ky ks (i + 1) - y) * ((kx ks (i + 1) - kx ks i) * q) := by grind
        have e2 : (-(ky ks (i + 1) - ky ks i)) * (kx ks (i + 1) * q - p) = (-(ky ks (i + 1) - y)) * ((kx ks (i + 1) - kx ks i) * q) := by grind
        have hp : 0 ≤ (kx ks (i + 1) - kx ks i) * q := Int.mul_nonneg (by omega) (by omega)
        by_cases k : ky ks i < ky ks (i + 1)
        · have := (pos_of_mul (show 0 < ky ks (i + 1) - ky ks i by omega) e1).1.2 (Int.mul_nonneg (by omega) hp); omega
        · have := (pos_of_mul (show 0 < -(ky ks (i + 1) - ky ks i) by omega) e2).1.2 (Int.mul_nonneg (by omega) hp); omega
      · show (p - kx ks i * q) * (ky ks (i + 1) - ky ks i) * 1 = (y - ky ks i * 1) * (kx ks (i + 1) - kx ks i) * q
        grind

theorem piece_ex {ks : List (Int × Int)} (hv : Valid ks) (hl : 1 < ks.length) {x : Int} (h0 : kx ks 0 ≤ x) (h1 : x ≤ kx ks (ks.length - 1)) : ∃ i, i + 1 < ks.length ∧ kx ks i ≤ x ∧ x ≤ kx ks (i + 1) := by
  by_cases h : ∃ i, i < ks.length ∧ kx ks i = x
  · obtain ⟨i, hi, rfl⟩ := h
    by_cases hk : i + 1 < ks.length
    · exact ⟨i, hk, Int.le_refl _, by have := hv.up i hk; omega⟩
    · have := hv.up (i - 1) (by omega)
      rw [show i - 1 + 1 = i by omega] at this
      exact ⟨i - 1, by omega, by omega, by rw [show i - 1 + 1 = i by omega]; exact Int.le_refl _⟩
  · obtain ⟨i, a, b, c⟩ := piece_in hv h0 h1 (fun i hi e => h ⟨i, hi, e⟩)
    exact ⟨i, a, by omega, by omega⟩
theorem val_pt {ks : List (Int × Int)} (hv : Valid ks) (hl : 1 < ks.length) {x : Int} (h0 : kx ks 0 ≤ x) (h1 : x ≤ kx ks (ks.length - 1)) : ∃ i, Pt (kx ks) (ky ks) (ks.length - 1) (fV ks x) (x, 1) i := by
  obtain ⟨i, a, b, c⟩ := piece_ex hv hl h0 h1
  have e := val_line hv a b c
  have hb := (val_bd hv h0).2.2.1
  refine ⟨i, by omega, by show 0 < valD ks x; omega, by show (0 : Int) < 1; omega, by show kx ks i * 1 ≤ x; omega, by show x ≤ kx ks (i + 1) * 1; omega, ?_⟩
  unfold lineL at e
  show (x - kx ks i * 1) * (ky ks (i + 1) - ky ks i) * valD ks x = (valN ks x - ky ks i * valD ks x) * (kx ks (i + 1) - kx ks i) * 1
  grind

/-- A curve of one knot. -/
theorem val_single {ks : List (Int × Int)} (hv : Valid ks) (_ : ¬ 1 < ks.length) : valN ks (kx ks 0) = ky ks 0 ∧ valD ks (kx ks 0) = 1 :=
  (val_at hv (i := 0) hv.pos (Int.le_refl _) (Int.le_refl _) (fun j hj => absurd hj (by omega))).1 rfl
theorem wh_single {ks : List (Int × Int)} (hl : ¬ 1 < ks.length) {y : Int} {a : Int × Int} (h : whF ks y = some a) : y = ky ks 0 ∧ a = (kx ks 0, 1) := by
  unfold whF at h
  by_cases h0 : y = ky ks 0
  · rw [if_pos h0, (low_one _).1, (low_one _).2] at h
    exact ⟨h0, (Option.some.inj h).symm⟩
  · rw [if_neg h0] at h
    have : whO ks y = none := by
      unfold whO
      rw [show ks.length - 1 = 0 by omega]
      rfl
    rw [this] at h
    cases h

theorem iv_some {ks : List (Int × Int)} {err y : Int} (h : ivErr ks err y = 0) : check ks err = 0 ∧ risingI ks ≠ 0 ∧ ∃ a, whF ks y = some a ∧ ivN ks err y = a.1 ∧ ivD ks err y = a.2 := by
  have h' := h
  unfold ivErr at h'
  by_cases hc : check ks err = 0
  · rw [if_neg (by simp [hc])] at h'
    by_cases hr : risingI ks = 0
    · rw [if_pos hr] at h'; omega
    · rw [if_neg hr] at h'
      cases hw : whF ks y with
      | none => rw [hw] at h'; simp at h'
      | some a =>
        refine ⟨hc, hr, a, rfl, ?_, ?_⟩
        · unfold ivN whN; rw [if_pos h, hw]; rfl
        · unfold ivD whD; rw [if_pos h, hw]; rfl
  · rw [if_pos hc] at h'; exact absurd h' hc
theorem wh_frb {ks : List (Int × Int)} {y : Int} (hv : Valid ks) (hr : risingI ks ≠ 0) {a : Int × Int} (h : whF ks y = some a) : okF a.1 a.2 ∧ 0 ≤ a.1 ∧ kx ks 0 * a.2 ≤ a.1 ∧ a.1 ≤ kx ks (ks.length - 1) * a.2 := by
  by_cases hl : 1 < ks.length
  · obtain ⟨⟨i, hp⟩, c, d⟩ := wh_pt hv (rising_ne hr) hl h
    have him := hp.im
    have b1 := hv.x0 i (by omega)
    have b2 := hv.x0 (i + 1) (by omega)
    have m1 := kx_mono hv i 0 (by omega) (by omega)
    have m2 := kx_mono hv (ks.length - 1) (i + 1) (by omega) (by omega)
    have x0 := hp.xp
    have xl := hp.lo
    have xh := hp.hi
    obtain ⟨q1, q2⟩ := mul_bd (x := kx ks (i + 1)) (y := a.2) (A := 2000) (B := 131072) (by omega) (by omega) (by omega) (by omega)
    have q3 : 0 ≤ kx ks i * a.2 := Int.mul_nonneg (by omega) (by omega)
    have q4 : kx ks 0 * a.2 ≤ kx ks i * a.2 := Int.mul_le_mul_of_nonneg_right m1 (by omega)
    have q5 : kx ks (i + 1) * a.2 ≤ kx ks (ks.length - 1) * a.2 := Int.mul_le_mul_of_nonneg_right m2 (by omega)
    exact ⟨⟨by omega, by omega, by omega, by omega, c⟩, by omega, by omega, by omega⟩
  · obtain ⟨_, rfl⟩ := wh_single hl h
    have b1 := hv.x0 0 hv.pos
    have e : ks.length - 1 = 0 := by omega
    rw [e]
    refine ⟨⟨by show (1 : Int) ≤ 1; omega, by show (1 : Int) ≤ _; omega, by show _ ≤ kx ks 0; omega, by show kx ks 0 ≤ _; omega, by simp⟩, by show 0 ≤ kx ks 0; omega, by show kx ks 0 * 1 ≤ kx ks 0; omega, by show kx ks 0 ≤ kx ks 0 * 1; omega⟩
theorem iv_ok {ks : List (Int × Int)} {err y : Int} (h : ivErr ks err y = 0) : okF (ivN ks err y) (ivD ks err y) := by
  obtain ⟨hc, hr, a, hw, e1, e2⟩ := iv_some h
  rw [e1, e2]
  exact (wh_frb (check_zero hc).1 hr hw).1

/-- Where Inverse is an integer, the value there is the one asked for. -/
theorem inv_int {ks : List (Int × Int)} {err y : Int} (h : ivErr ks err y = 0) (hd : ivD ks err y = 1) : valErr ks err (ivN ks err y) = 0 ∧ vN ks err (ivN ks err y) = y ∧ vD ks err (ivN ks err y) = 1 := by
  obtain ⟨hc, hr, a, hw, e1, e2⟩ := iv_some h
  have hv := (check_zero hc).1
  obtain ⟨_, _, b1, b2⟩ := wh_frb hv hr hw
  rw [e1]
  rw [e2] at hd
  obtain ⟨p, q⟩ := a
  dsimp only at hd b1 b2 ⊢
  subst hd
  have hin : valErr ks err p = 0 := by
    unfold valErr
    rw [if_neg (by simp [hc]), if_pos]
    show kx ks 0 ≤ p ∧ p ≤ kx ks (ks.length - 1)
    omega
  unfold vN vD
  rw [if_pos hin, if_pos hin]
  refine ⟨hin, ?_⟩
  by_cases hl : 1 < ks.length
  · obtain ⟨⟨i, hp⟩, _, _⟩ := wh_pt hv (rising_ne hr) hl hw
    have him := hp.im
    have lo := hp.lo
    have hi := hp.hi
    dsimp only at lo hi
    have e := val_line hv (i := i) (x := p) (by omega) (by omega) (by omega)
    have f := hp.eq
    dsimp only at f
    unfold lineL at e
    have hup := hv.up i (by omega)
    have hg := val_cop hv p
    have hb := (val_bd hv (x := p) (by omega)).2.2.1
    have k : (kx ks (i + 1) - kx ks i) * valN ks p = (kx ks (i + 1) - kx ks i) * (y * valD ks p) := by grind
    have k2 := Int.eq_of_mul_eq_mul_left (by omega) k
    rw [k2] at hg
    have hd1 : valD ks p = 1 := by
      have h1 : Nat.gcd (y * valD ks p).natAbs (valD ks p).natAbs = (valD ks p).natAbs := by
        rw [Int.natAbs_mul]
        exact Nat.gcd_eq_right (Nat.dvd_mul_left _ _)
      rw [h1] at hg
      omega
    rw [k2, hd1]
    exact ⟨by omega, rfl⟩
  · obtain ⟨ey, ea⟩ := wh_single hl hw
    obtain ⟨u, v⟩ := val_single hv hl
    have ep : p = kx ks 0 := congrArg Prod.fst ea
    rw [ep, u, v]
    exact ⟨ey.symm, rfl⟩

theorem kx_inc {ks : List (Int × Int)} (hv : Valid ks) : ∀ i, i < ks.length - 1 → kx ks i < kx ks (i + 1) := fun i hi => by have := hv.up i (by omega); omega
/-- Inverses are in the order of the values, or in the opposite one. -/
theorem inv_order {ks : List (Int × Int)} {err y z : Int} (hy : ivErr ks err y = 0) (hz : ivErr ks err z = 0) (hlt : y < z) :
    (risingI ks = 1 ∧ ltF (ivN ks err y, ivD ks err y) (ivN ks err z, ivD ks err z) = true) ∨ (risingI ks = -1 ∧ ltF (ivN ks err z, ivD ks err z) (ivN ks err y, ivD ks err y) = true) := by
  obtain ⟨hc, hr, a, hw, e1, e2⟩ := iv_some hy
  obtain ⟨_, _, b, hw', f1, f2⟩ := iv_some hz
  have hv := (check_zero hc).1
  rw [e1, e2, f1, f2, ltF_iff, ltF_iff]
  by_cases hl : 1 < ks.length
  · obtain ⟨⟨i, hp⟩, _, _⟩ := wh_pt hv (rising_ne hr) hl hw
    obtain ⟨⟨j, hq⟩, _, _⟩ := wh_pt hv (rising_ne hr) hl hw'
    rcases rising_cases hr with ⟨r1, r2⟩ | ⟨r1, r2⟩
    · refine .inl ⟨r1, ?_⟩
      exact (pt_iff (kx_inc hv) r2 hp hq).1.2 (by dsimp only; omega)
    · refine .inr ⟨r1, ?_⟩
      exact (pt_iff_neg (kx_inc hv) r2 hp hq).2.2 (by dsimp only; omega)
  · obtain ⟨ey, _⟩ := wh_single hl hw
    obtain ⟨ez, _⟩ := wh_single hl hw'
    omega

/-- A curve that rises or falls everywhere has every value between those of its ends. -/
theorem wh_ex {ks : List (Int × Int)} (_ : Valid ks) {y : Int} (h1 : rcLeast ks ≤ y) (h2 : y ≤ rcMost ks) : ∃ a, whF ks y = some a := by
  unfold whF
  by_cases h0 : y = ky ks 0
  · rw [if_pos h0]; exact ⟨_, rfl⟩
  · rw [if_neg h0]
    cases hw : whO ks y with
    | some i => exact ⟨_, rfl⟩
    | none =>
      exfalso
      unfold whO at hw
      rw [List.find?_eq_none] at hw
      have hn : ∀ i, i < ks.length - 1 → ¬ (min (ky ks i) (ky ks (i + 1)) ≤ y ∧ y ≤ max (ky ks i) (ky ks (i + 1))) := fun i hi c => hw i (List.mem_range.2 hi) (by unfold onP; exact decide_eq_true c)
      unfold rcLeast at h1
      unfold rcMost at h2
      by_cases hlt : ky ks 0 < y
      · have : ∀ i, i ≤ ks.length - 1 → ky ks i < y := by
          intro i
          induction i with
          | zero => exact fun _ => hlt
          | succ i ih => exact fun hi => by have := ih (by omega); have := hn i (by omega); omega
        have := this (ks.length - 1) (Nat.le_refl _)
        omega
      · have : ∀ i, i ≤ ks.length - 1 → y < ky ks i := by
          intro i
          induction i with
          | zero => exact fun _ => by omega
          | succ i ih => exact fun hi => by have := ih (by omega); have := hn i (by omega); omega
        have := this (ks.length - 1) (Nat.le_refl _)
        omega

theorem ltf_false (a b : Int × Int) : ltF a b = false ↔ b.1 * a.2 ≤ a.1 * b.2 := by rw [f_iff (ltF_iff _ _)]; omega
/-- Values lie between those of the ends. -/
theorem val_range {ks : List (Int × Int)} (hv : Valid ks) (hr : risingI ks ≠ 0) {x : Int} (h0 : kx ks 0 ≤ x) (h1 : x ≤ kx ks (ks.length - 1)) : rcLeast ks * valD ks x ≤ valN ks x ∧ valN ks x ≤ rcMost ks * valD ks x := by
  unfold rcLeast rcMost
  by_cases hl : 1 < ks.length
  · obtain ⟨i, hp⟩ := val_pt hv hl h0 h1
    have him := hp.im
    have hd := hp.yp
    dsimp only at hd
    rcases rising_cases hr with ⟨r1, r2⟩ | ⟨r1, r2⟩
    · obtain ⟨a, b, _, _⟩ := hp.ends (kx_inc hv i him) (r2 i him)
      have m1 := inc_lei r2 (i := 0) (j := i) (by omega) (by omega)
      have m2 := inc_lei r2 (i := i + 1) (j := ks.length - 1) (by omega) (by omega)
      have m3 := inc_lei r2 (i := 0) (j := ks.length - 1) (by omega) (by omega)
      rw [Int.min_eq_left m3, Int.max_eq_right m3]
      exact ⟨Int.le_trans (Int.mul_le_mul_of_nonneg_right m1 (Int.le_of_lt hd)) a, Int.le_trans b (Int.mul_le_mul_of_nonneg_right m2 (Int.le_of_lt hd))⟩
    · obtain ⟨a, b, _, _⟩ := hp.neg.ends (kx_inc hv i him) (show -ky ks i < -ky ks (i + 1) by have := r2 i him; omega)
      have r3 : ∀ i, i < ks.length - 1 → -ky ks i < -ky ks (i + 1) := fun i hi => by have := r2 i hi; omega
      have m1 := inc_lei (X := fun k => -ky ks k) r3 (i := 0) (j := i) (by omega) (by omega)
      have m2 := inc_lei (X := fun k => -ky ks k) r3 (i := i + 1) (j := ks.length - 1) (by omega) (by omega)
      have m3 := inc_lei (X := fun k => -ky ks k) r3 (i := 0) (j := ks.length - 1) (by omega) (by omega)
      dsimp only at m1 m2 m3 a b
      rw [Int.min_eq_right (by omega), Int.max_eq_left (by omega)]
      have n1 : ky ks i * valD ks x ≤ ky ks 0 * valD ks x := Int.mul_le_mul_of_nonneg_right (by omega) (Int.le_of_lt hd)
      have n2 : ky ks (ks.length - 1) * valD ks x ≤ ky ks (i + 1) * valD ks x := Int.mul_le_mul_of_nonneg_right (by omega) (Int.le_of_lt hd)
      rw [Int.neg_mul] at a b
      exact ⟨by omega, by omega⟩
  · have e : ks.length - 1 = 0 := by omega
    rw [e] at h1 ⊢
    obtain rfl : x = kx ks 0 := by omega
    obtain ⟨u, v⟩ := val_single hv hl
    rw [u, v]
    omega

/-- An integer lies in Reach of a span exactly if Values there meet it. -/
theorem reach_meets {ks : List (Int × Int)} {err lo hi x : Int} (hx : valErr ks err x = 0) (hr : rcErr ks err lo hi = 0 ∨ rcErr ks err lo hi = 5) :
    ((vsV ks err x).1.1 ≤ hi * (vsV ks err x).1.2 ∧ lo * (vsV ks err x).2.2 ≤ (vsV ks err x).2.1) ↔ (rcErr ks err lo hi = 0 ∧ ltF (x, 1) (rcV ks err lo hi).1 = false ∧ ltF (rcV ks err lo hi).2 (x, 1) = false) := by
  obtain ⟨hv, e0, _, h0, h1⟩ := val_in hx
  have hc : check ks err = 0 := by
    unfold valErr at hx
    by_cases c : check ks err = 0
    · exact c
    · rw [if_pos c] at hx; exact hx
  unfold rcErr at hr
  rw [if_neg (by simp [hc])] at hr
  have hd := (val_bd hv h0).2.2.1
  have hs : vsV ks err x = ((valN ks x + -err * valD ks x, valD ks x), (valN ks x + err * valD ks x, valD ks x)) := by unfold vsV; rw [if_pos hx]
  rw [hs]
  dsimp only
  have s1 : hi * valD ks x - (valN ks x + -err * valD ks x) = (hi + err) * valD ks x - valN ks x := by grind
  have s2 : valN ks x + err * valD ks x - lo * valD ks x = valN ks x - (lo - err) * valD ks x := by grind
  by_cases a1 : lo > hi ∨ lo < -131072 ∨ hi > 131072
  · rw [if_pos a1] at hr; omega
  rw [if_neg a1] at hr
  by_cases a2 : risingI ks = 0
  · rw [if_pos a2] at hr; omega
  rw [if_neg a2] at hr
  obtain ⟨v1, v2⟩ := val_range hv a2 h0 h1
  by_cases a3 : hi + err < rcLeast ks ∨ lo - err > rcMost ks
  · have he : rcErr ks err lo hi = 5 := by unfold rcErr; rw [if_neg (by simp [hc]), if_neg a1, if_neg a2, if_pos a3]
    rw [he]
    refine ⟨fun ⟨p, q⟩ => ?_, fun ⟨p, _⟩ => by omega⟩
    exfalso
    rcases a3 with a3 | a3
    · have : (hi + err) * valD ks x < rcLeast ks * valD ks x := Int.mul_lt_mul_of_pos_right a3 (by omega)
      omega
    · have : rcMost ks * valD ks x < (lo - err) * valD ks x := Int.mul_lt_mul_of_pos_right a3 (by omega)
      omega
  · have he : rcErr ks err lo hi = 0 := by unfold rcErr; rw [if_neg (by simp [hc]), if_neg a1, if_neg a2, if_neg a3]
    have hlm : rcLeast ks ≤ rcMost ks := by unfold rcLeast rcMost; omega
    have hA1 : rcLeast ks ≤ rcA ks err lo := by unfold rcA; omega
    have hA2 : rcA ks err lo ≤ rcMost ks := by unfold rcA; omega
    have hB1 : rcLeast ks ≤ rcB ks err hi := by unfold rcB; omega
    have hB2 : rcB ks err hi ≤ rcMost ks := by unfold rcB; omega
    obtain ⟨a, ha⟩ := wh_ex hv hA1 hA2
    obtain ⟨b, hb⟩ := wh_ex hv hB1 hB2
    have wa : (whN ks (rcA ks err lo), whD ks (rcA ks err lo)) = a := by unfold whN whD; rw [ha]; rfl
    have wb : (whN ks (rcB ks err hi), whD ks (rcB ks err hi)) = b := by unfold whN whD; rw [hb]; rfl
    have lA : rcA ks err lo * valD ks x ≤ valN ks x ↔ (lo - err) * valD ks x ≤ valN ks x := by
      unfold rcA
      by_cases k : lo - err ≤ rcLeast ks
      · rw [Int.max_eq_right k]
        have := Int.mul_le_mul_of_nonneg_right k (show 0 ≤ valD ks x by omega)
        omega
      · rw [Int.max_eq_left (by omega)]
    have lB : valN ks x ≤ rcB ks err hi * valD ks x ↔ valN ks x ≤ (hi + err) * valD ks x := by
      unfold rcB
      by_cases k : rcMost ks ≤ hi + err
      · rw [Int.min_eq_right k]
        have := Int.mul_le_mul_of_nonneg_right k (show 0 ≤ valD ks x by omega)
        omega
      · rw [Int.min_eq_left (by omega)]
    have hL : (valN ks x + -err * valD ks x ≤ hi * valD ks x ∧ lo * valD ks x ≤ valN ks x + err * valD ks x) ↔ (rcA ks err lo * valD ks x ≤ valN ks x ∧ valN ks x ≤ rcB ks err hi * valD ks x) := by
      rw [lA, lB]; omega
    rw [hL]
    unfold rcV
    rw [if_pos he, wa, wb]
    by_cases hl : 1 < ks.length
    · obtain ⟨k, hk⟩ := val_pt hv hl h0 h1
      obtain ⟨⟨i, hp⟩, _, _⟩ := wh_pt hv (rising_ne a2) hl ha
      obtain ⟨⟨j, hq⟩, _, _⟩ := wh_pt hv (rising_ne a2) hl hb
      rcases rising_cases a2 with ⟨r1, r2⟩ | ⟨r1, r2⟩
      · rw [if_neg (by omega)]
        have t1 := (pt_iff (kx_inc hv) r2 hk hp).1
        have t2 := (pt_iff (kx_inc hv) r2 hk hq).2
        dsimp only at t1 t2
        rw [ltf_false, ltf_false]
        dsimp only
        rw [he]
        omega
      · rw [if_pos (by omega)]
        have t1 := (pt_iff_neg (kx_inc hv) r2 hk hp).2
        have t2 := (pt_iff_neg (kx_inc hv) r2 hk hq).1
        dsimp only at t1 t2
        rw [ltf_false, ltf_false]
        dsimp only
        rw [he]
        omega
    · obtain ⟨ea, rfl⟩ := wh_single hl ha
      obtain ⟨eb, rfl⟩ := wh_single hl hb
      have e : ks.length - 1 = 0 := by omega
      rw [e] at h1
      obtain rfl : x = kx ks 0 := by omega
      obtain ⟨u, v⟩ := val_single hv hl
      have hz : (if risingI ks < 0 then ((kx ks 0, (1 : Int)), (kx ks 0, (1 : Int))) else ((kx ks 0, 1), (kx ks 0, 1))) = ((kx ks 0, 1), (kx ks 0, 1)) := by split <;> rfl
      rw [hz, ltf_false, u, v, ea, eb, he]
      dsimp only
      omega
theorem rc_ok {ks : List (Int × Int)} {err lo hi : Int} (h : rcErr ks err lo hi = 0) : okF (rcV ks err lo hi).1.1 (rcV ks err lo hi).1.2 ∧ okF (rcV ks err lo hi).2.1 (rcV ks err lo hi).2.2 := by
  have h' := h
  unfold rcErr at h'
  by_cases hc : check ks err = 0
  · rw [if_neg (by simp [hc])] at h'
    by_cases a1 : lo > hi ∨ lo < -131072 ∨ hi > 131072
    · rw [if_pos a1] at h'; omega
    rw [if_neg a1] at h'
    by_cases a2 : risingI ks = 0
    · rw [if_pos a2] at h'; omega
    rw [if_neg a2] at h'
    by_cases a3 : hi + err < rcLeast ks ∨ lo - err > rcMost ks
    · rw [if_pos a3] at h'; omega
    have hv := (check_zero hc).1
    have hlm : rcLeast ks ≤ rcMost ks := by unfold rcLeast rcMost; omega
    obtain ⟨a, ha⟩ := wh_ex hv (y := rcA ks err lo) (by unfold rcA; omega) (by unfold rcA; have := (check_zero hc).2; omega)
    obtain ⟨b, hb⟩ := wh_ex hv (y := rcB ks err hi) (by unfold rcB; omega) (by unfold rcB; omega)
    have wa : (whN ks (rcA ks err lo), whD ks (rcA ks err lo)) = a := by unfold whN whD; rw [ha]; rfl
    have wb : (whN ks (rcB ks err hi), whD ks (rcB ks err hi)) = b := by unfold whN whD; rw [hb]; rfl
    have fa := (wh_frb hv a2 ha).1
    have fb := (wh_frb hv a2 hb).1
    unfold rcV
    rw [if_pos h, wa, wb]
    split
    · exact ⟨fb, fa⟩
    · exact ⟨fa, fb⟩
  · rw [if_pos hc] at h'; exact absurd h' hc
end Go.Proofs.Ytipablcbkoedbaa
