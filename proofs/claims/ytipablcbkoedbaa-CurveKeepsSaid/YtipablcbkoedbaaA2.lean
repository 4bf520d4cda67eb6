/- Contracts of the functions over fractions. -/
import Derived.WalkKit
import Derived.WalkLawsBesides
import Derived.Deep.QuietTactic
import Derived.BigQuiet
import Derived.RegionTactic
import Derived.Lib.Hide
import Derived.Outline
import Derived.WalkSmall
import Derived.Test.YtipablcbkoedbaaProg
import Derived.Test.YtipablcbkoedbaaReg
import Derived.Test.YtipablcbkoedbaaA1
namespace Go.Proofs.Ytipablcbkoedbaa
open Go.RowKit


theorem within_yes (n lo hi : Int) (w : World) (h : lo ≤ n ∧ n ≤ hi) :
    Calls Try.prog 98 #[.int .i64 n, .int .i64 lo, .int .i64 hi] w fun e w' => e = .returned (.bool true) ∧ w = w' :=
  (within_any n lo hi w).mono fun _ _ ⟨he, hw⟩ => ⟨by rw [he, decide_eq_true h], hw⟩
theorem within_no (n lo hi : Int) (w : World) (h : ¬ (lo ≤ n ∧ n ≤ hi)) :
    Calls Try.prog 98 #[.int .i64 n, .int .i64 lo, .int .i64 hi] w fun e w' => e = .returned (.bool false) ∧ w = w' :=
  (within_any n lo hi w).mono fun _ _ ⟨he, hw⟩ => ⟨by rw [he, decide_eq_false h], hw⟩

theorem frac_negN (n : Int) (D : Nat) (w : World) (h1 : -4611686018427387904 ≤ n) (h2 : n ≤ 4611686018427387904) (h3 : 1 ≤ (D : Int)) (h4 : (D : Int) ≤ 4611686018427387904) :
    Calls Try.prog 100 #[.int .i64 n, .int .i64 (-(D : Int))] w fun e w' => e = .returned (vFrac (lowN (-n) D) (lowD (-n) D)) ∧ Below w.heap.size w w' := by
  have hn1 : -4611686018427387904 ≤ -n := by omega
  have hn2 : -n ≤ 4611686018427387904 := by omega
  have hn3 : n.natAbs ≤ 4611686018427387904 := by omega
  have hn4 : D ≤ 4611686018427387904 := by omega
  have hs := fun w => size_any (-n) w hn1 hn2
  have hcm := fun w => common_any n.natAbs D w hn3 hn4
  have Hs := Lib.hid hs
  have Hc := Lib.hid hcm
  clear hs hcm
  go_enter Try.func100, Try.ntmps100
  go_wp2_with fail
  refine (Hs.out _).mono ?_; rintro e w' ⟨rfl, rfl⟩
  go_wp2_with fail
  refine (Hc.out _).mono ?_; rintro e w1 ⟨rfl, hb⟩
  have hg : 0 < Nat.gcd n.natAbs D := Nat.gcd_pos_of_pos_right _ (by omega)
  have hd0 : (0 : Int) ≤ (D : Int) / (Nat.gcd n.natAbs D : Int) := Int.ediv_nonneg (by omega) (by omega)
  have hd1 : (D : Int) / (Nat.gcd n.natAbs D : Int) ≤ D := Int.ediv_le_self _ (by omega)
  have hba := Int.natAbs_tdiv_le_natAbs n (Nat.gcd n.natAbs D : Int)
  have hb1 : -4611686018427387904 ≤ n.tdiv (Nat.gcd n.natAbs D : Int) := by omega
  have hb2 : n.tdiv (Nat.gcd n.natAbs D : Int) ≤ 4611686018427387904 := by omega
  clear hba
  have hq : -(n.tdiv (Nat.gcd n.natAbs D : Int)) = lowN (-n) D := by
    unfold lowN
    rw [Int.natAbs_natCast, Int.natAbs_neg, ← Int.neg_tdiv]
    exact Int.tdiv_eq_ediv_of_dvd (Int.dvd_neg.2 (Int.dvd_natAbs.1 (Int.natCast_dvd_natCast.2 (Nat.gcd_dvd_left _ _))))
  have HQ := Lib.hid hq
  clear hq
  go_wp2
  refine wp_region_quiet_tail 7 (by kernel_rfl) (by kernel_rfl) ?_
  simp only [List.take_succ_cons, List.take_zero, List.drop_succ_cons, List.drop_zero]
  repeat (first | go_big_quiet_step (fail) | quiet_step (fail))
  refine wpQuiet_nil ?_
  intro w2 hbb
  have hb3 := hb.trans (hbb.mono hb.size)
  obtain ⟨hc, hf⟩ := bcell hb3
  go_wp2
  refine bodyPost_ret (v := vFrac (-(n.tdiv (Nat.gcd n.natAbs D : Int))) ((D : Int) / (Nat.gcd n.natAbs D : Int))) (by simp [results, Try.results100, go_sem, hc]) rfl ⟨?_, ?_⟩
  · rw [HQ.out]; simp [lowD]
  · exact ((((Below.refl _ _).alloc (Nat.le_refl _) _).trans (hb3.mono (by simp))).setCell (Nat.le_refl _) _).setCell (Nat.le_refl _) _

theorem frac_neg (n d : Int) (w : World) (h1 : -4611686018427387904 ≤ n) (h2 : n ≤ 4611686018427387904) (h3 : d ≤ -1) (h4 : -4611686018427387904 ≤ d) :
    Calls Try.prog 100 #[.int .i64 n, .int .i64 d] w fun e w' => e = .returned (vFrac (lowN (-n) (-d)) (lowD (-n) (-d))) ∧ Below w.heap.size w w' := by
  have h := frac_negN n (-d).toNat w h1 h2 (by omega) (by omega)
  rw [show (((-d).toNat : Nat) : Int) = -d by omega, Int.neg_neg] at h
  exact h

/-- Is a fraction valid? -/
def okF (n d : Int) : Prop := 1 ≤ d ∧ d ≤ 4194304 ∧ -549755813888 ≤ n ∧ n ≤ 549755813888 ∧ Nat.gcd n.natAbs d.natAbs = 1

theorem valid_yes (n d : Int) (w : World) (h : okF n d) :
    Calls Try.prog 101 #[vFrac n d] w fun e w' => e = .returned (.bool true) ∧ Below w.heap.size w w' := by
  obtain ⟨h1, h2, h3, h4, h5⟩ := h
  obtain ⟨D, rfl⟩ := Int.eq_ofNat_of_zero_le (show 0 ≤ d by omega)
  have hcm := fun w => common_any n.natAbs D w (by omega) (by omega)
  rw [show Nat.gcd n.natAbs D = 1 by simpa using h5] at hcm
  have Hc := Lib.hid hcm
  clear hcm h5
  go_enter Try.func101, Try.ntmps101
  go_wp2
  refine wp_region_quiet_tail 18 (by kernel_rfl) (by kernel_rfl) ?_
  simp only [List.take_succ_cons, List.take_zero, List.drop_succ_cons, List.drop_zero]
  obtain ⟨xc, xf⟩ := xcell (W := w.alloc (.cells #[.int .i64 n, .int .i64 D] 30))
  repeat (first | go_big_quiet_step (first | (go_at_call 98; refine calls_ext_same (within_yes _ _ _ _ ?_); omega) | (go_at_call 117; exact calls_ext_same (size_any n _ (by omega) (by omega))) | (go_at_call 134; exact calls_ext (Hc.out _))))
  refine wpQuiet_nil ?_
  intro w2 hb2
  go_wp2
  go_ret
  exact ⟨rfl, ((Below.refl _ _).alloc (Nat.le_refl _) _).trans (hb2.mono (by simp))⟩

theorem valid_no (n d : Int) (w : World) (h : ¬ okF n d) :
    Calls Try.prog 101 #[vFrac n d] w fun e w' => e = .returned (.bool false) ∧ Below w.heap.size w w' := by
  obtain ⟨xc, xf⟩ := xcell (W := w.alloc (.cells #[.int .i64 n, .int .i64 d] 30))
  by_cases h1 : 1 ≤ d ∧ d ≤ 4194304
  · by_cases h2 : -549755813888 ≤ n ∧ n ≤ 549755813888
    · obtain ⟨D, rfl⟩ := Int.eq_ofNat_of_zero_le (show 0 ≤ d by omega)
      have h5 : ((Nat.gcd n.natAbs D : Nat) : Int) ≠ 1 := fun e => h ⟨h1.1, h1.2, h2.1, h2.2, by simp; omega⟩
      have hb5 : (((Nat.gcd n.natAbs D : Nat) : Int) == 1) = false := by simpa using h5
      have hcm := fun w => common_any n.natAbs D w (by omega) (by omega)
      clear h h5
      obtain ⟨h1a, h1b⟩ := h1
      obtain ⟨h2a, h2b⟩ := h2
      generalize Nat.gcd n.natAbs D = G at *
      have Hc := Lib.hid hcm
      clear hcm
      go_enter Try.func101, Try.ntmps101
      go_wp2
      refine wp_region_quiet_tail 18 (by kernel_rfl) (by kernel_rfl) ?_
      simp only [List.take_succ_cons, List.take_zero, List.drop_succ_cons, List.drop_zero]
      repeat (first | go_big_quiet_step (first | (go_at_call 98; refine calls_ext_same (within_yes _ _ _ _ ?_); omega) | (go_at_call 117; exact calls_ext_same (size_any n _ (by omega) (by omega))) | (go_at_call 134; exact calls_ext (Hc.out _))))
      refine wpQuiet_nil ?_
      intro w2 hb2
      go_wp2
      go_ret
      exact ⟨rfl, ((Below.refl _ _).alloc (Nat.le_refl _) _).trans (hb2.mono (by simp))⟩
    · clear h
      obtain ⟨h1a, h1b⟩ := h1
      go_enter Try.func101, Try.ntmps101
      go_wp2
      refine wp_region_quiet_tail 18 (by kernel_rfl) (by kernel_rfl) ?_
      simp only [List.take_succ_cons, List.take_zero, List.drop_succ_cons, List.drop_zero]
      repeat (first | go_big_quiet_step (first | (go_at_call 98; refine calls_ext_same (within_yes _ _ _ _ ?_); omega) | (go_at_call 98; refine calls_ext_same (within_no _ _ _ _ ?_); omega)))
      refine wpQuiet_nil ?_
      intro w2 hb2
      go_wp2
      go_ret
      exact ⟨rfl, ((Below.refl _ _).alloc (Nat.le_refl _) _).trans (hb2.mono (by simp))⟩
  · clear h
    go_enter Try.func101, Try.ntmps101
    go_wp2
    refine wp_region_quiet_tail 18 (by kernel_rfl) (by kernel_rfl) ?_
    simp only [List.take_succ_cons, List.take_zero, List.drop_succ_cons, List.drop_zero]
    repeat (first | go_big_quiet_step (first | (go_at_call 98; refine calls_ext_same (within_no _ _ _ _ ?_); omega)))
    refine wpQuiet_nil ?_
    intro w2 hb2
    go_wp2
    go_ret
    exact ⟨rfl, ((Below.refl _ _).alloc (Nat.le_refl _) _).trans (hb2.mono (by simp))⟩

/-- The order of two numbers. -/
def cmpI (x y : Int) : Int := if x < y then -1 else if y < x then 1 else 0
theorem isNaN_any (x : Int) (w : World) : Calls Try.prog 146 #[.int .i64 x] w fun e w' => e = .returned (.bool false) ∧ w = w' := by
  go_enter Try.func146, Try.ntmps146
  go_wp2
  go_ret
  exact ⟨ret_bool (by simp), rfl⟩
theorem cmp_any (x y : Int) (w : World) : Calls Try.prog 133 #[.int .i64 x, .int .i64 y] w fun e w' => e = .returned (.int .i64 (cmpI x y)) ∧ w = w' := by
  rcases Int.lt_trichotomy x y with h | h | h
  · go_enter Try.func133, Try.ntmps133
    go_wp2_with (go_at_call 146; refine (isNaN_any _ _).mono ?_; rintro e w' ⟨rfl, rfl⟩)
    go_ret
    exact ⟨ret_int (by simp [cmpI, h]), rfl⟩
  · subst h
    go_enter Try.func133, Try.ntmps133
    go_wp2_with (go_at_call 146; refine (isNaN_any _ _).mono ?_; rintro e w' ⟨rfl, rfl⟩)
    go_ret
    exact ⟨ret_int (by simp [cmpI]), rfl⟩
  · go_enter Try.func133, Try.ntmps133
    go_wp2_with (go_at_call 146; refine (isNaN_any _ _).mono ?_; rintro e w' ⟨rfl, rfl⟩)
    go_ret
    exact ⟨ret_int (by unfold cmpI; rw [if_neg (by omega), if_pos (by omega)]), rfl⟩

/-- The order of two fractions. -/
def ordF (a b c d : Int) : Int := cmpI (a * d) (c * b)
theorem order_any (a b c d : Int) (w : World) (h1 : -4611686018427387904 ≤ a * d) (h2 : a * d ≤ 4611686018427387904) (h3 : -4611686018427387904 ≤ c * b) (h4 : c * b ≤ 4611686018427387904) :
    Calls Try.prog 91 #[vFrac a b, vFrac c d] w fun e w' => e = .returned (.int .i64 (ordF a b c d)) ∧ Below w.heap.size w w' := by
  go_enter Try.func91, Try.ntmps91
  go_wp2_with (go_at_call 133; refine (cmp_any _ _ _).mono ?_; rintro e w' ⟨rfl, rfl⟩)
  go_ret
  exact ⟨rfl, ((Below.refl _ _).alloc (Nat.le_refl _) _).alloc (by simp) _⟩

theorem plus_any (a b n : Int) (w : World) (h1 : -4611686018427387904 ≤ n * b) (h2 : n * b ≤ 4611686018427387904) (h3 : -4611686018427387904 ≤ a + n * b) (h4 : a + n * b ≤ 4611686018427387904) :
    Calls Try.prog 88 #[vFrac a b, .int .i64 n] w fun e w' => e = .returned (vFrac (a + n * b) b) ∧ Below w.heap.size w w' := by
  go_enter Try.func88, Try.ntmps88
  go_wp2
  exact bodyPost_ret (v := vFrac (a + n * b) b) (by simp [results, Try.results88, go_sem]) rfl ⟨rfl, ((Below.refl _ _).alloc (Nat.le_refl _) _).alloc (by simp) _⟩

/-! ### The reference's -/
theorem divisor_any (a : Int) (b : Nat) (w : World) (h0 : -4611686018427387904 ≤ a) (h1 : a ≤ 4611686018427387904) (h2 : b ≤ 4611686018427387904) :
    Calls Try.prog 135 #[.int .i64 a, .int .i64 b] w fun e w' => e = .returned (.int .i64 (Nat.gcd a.natAbs b : Int)) ∧ Below w.heap.size w w' := by
  go_enter Try.func135, Try.ntmps135
  by_cases hneg : a < 0
  all_goals
    go_wp2
    go_loopw [0, 1] (fun x y wr => ∃ p q : Nat, p ≤ 4611686018427387904 ∧ q ≤ 4611686018427387904 ∧ x = .int .i64 p ∧ y = .int .i64 q ∧ Nat.gcd p q = Nat.gcd a.natAbs b ∧ Below w.heap.size w wr) (fun _ y _ => (intOf y).toNat)
    case atStart => exact ⟨a.natAbs, b, by omega, h2, congrArg (Value.int .i64) (by omega), rfl, rfl, Below.refl _ _⟩
    case round =>
      obtain ⟨p, q, hp, hq, rfl, rfl, hg, hb⟩ := hrel
      have H := Lib.hid hg
      clear hg
      by_cases h0 : 0 < q
      · go_wp2
        go_quiet (fail)
        go_wp2
        go_roundw
        case rel => exact ⟨q, p % q, hq, by have := Nat.mod_lt p h0; omega, rfl, rfl, by rw [← H.out, Nat.gcd_comm q (p % q), ← Nat.gcd_rec, Nat.gcd_comm], below_drewN hb _⟩
        case measure => have := Nat.mod_lt p h0; simp [intOf]; omega
      · have hq0 : q = 0 := by omega
        have hr := H.out
        rw [hq0, Nat.gcd_zero_right] at hr
        have HR := Lib.hid hr
        clear hr hq0 H
        go_wp2
        go_ret
        exact ⟨ret_int (by simp [HR.out]), hb⟩

theorem Low_any (n d : Int) (w : World) (h1 : -4611686018427387904 ≤ n) (h2 : n ≤ 4611686018427387904) (h3 : 1 ≤ d) (h4 : d ≤ 4611686018427387904) :
    Calls Try.prog 102 #[.int .i64 n, .int .i64 d] w fun e w' => e = .returned (vFrac (lowN n d) (lowD n d)) ∧ Below w.heap.size w w' := by
  obtain ⟨D, rfl⟩ := Int.eq_ofNat_of_zero_le (show 0 ≤ d by omega)
  have hcm := fun w => divisor_any n D w h1 h2 (by omega)
  have Hc := Lib.hid hcm
  clear hcm
  go_enter Try.func102, Try.ntmps102
  go_wp2_with fail
  refine (Hc.out _).mono ?_; rintro e w1 ⟨rfl, hb⟩
  have hg : 0 < Nat.gcd n.natAbs D := Nat.gcd_pos_of_pos_right _ (by omega)
  have hd0 : (0 : Int) ≤ (D : Int) / (Nat.gcd n.natAbs D : Int) := Int.ediv_nonneg (by omega) (by omega)
  have hd1 : (D : Int) / (Nat.gcd n.natAbs D : Int) ≤ D := Int.ediv_le_self _ (by omega)
  have hq : n.tdiv (Nat.gcd n.natAbs D : Int) = lowN n D := by
    unfold lowN
    rw [Int.natAbs_natCast]
    exact Int.tdiv_eq_ediv_of_dvd (Int.dvd_natAbs.1 (Int.natCast_dvd_natCast.2 (Nat.gcd_dvd_left _ _)))
  have HQ := Lib.hid hq
  clear hq
  go_wp2
  refine wp_region_quiet_tail 7 (by kernel_rfl) (by kernel_rfl) ?_
  simp only [List.take_succ_cons, List.take_zero, List.drop_succ_cons, List.drop_zero]
  repeat (first | go_big_quiet_step (fail) | quiet_step (fail))
  refine wpQuiet_nil ?_
  intro w2 hb2
  have hb3 := hb.trans (hb2.mono hb.size)
  obtain ⟨hc, hf⟩ := bcell hb3
  go_wp2
  refine bodyPost_ret (v := vFrac (n.tdiv (Nat.gcd n.natAbs D : Int)) ((D : Int) / (Nat.gcd n.natAbs D : Int))) (by simp [results, Try.results102, go_sem, hc]) rfl ⟨?_, ?_⟩
  · rw [HQ.out]; rfl
  · exact ((((Below.refl _ _).alloc (Nat.le_refl _) _).trans (hb3.mono (by simp))).setCell (Nat.le_refl _) _).setCell (Nat.le_refl _) _

theorem Order_any (a b c d : Int) (w : World) (h1 : -4611686018427387904 ≤ a * d) (h2 : a * d ≤ 4611686018427387904) (h3 : -4611686018427387904 ≤ c * b) (h4 : c * b ≤ 4611686018427387904) :
    Calls Try.prog 95 #[vFrac a b, vFrac c d] w fun e w' => e = .returned (.int .i64 (ordF a b c d)) ∧ Below w.heap.size w w' := by
  unfold ordF cmpI
  rcases Int.lt_trichotomy (a * d) (c * b) with h | h | h
  · go_enter Try.func95, Try.ntmps95
    go_wp2
    go_ret
    exact ⟨ret_int (by simp), ((Below.refl _ _).alloc (Nat.le_refl _) _).alloc (by simp) _⟩
  · go_enter Try.func95, Try.ntmps95
    go_wp2
    go_ret
    exact ⟨ret_int (by simp), ((Below.refl _ _).alloc (Nat.le_refl _) _).alloc (by simp) _⟩
  · go_enter Try.func95, Try.ntmps95
    go_wp2
    go_ret
    exact ⟨ret_int rfl, ((Below.refl _ _).alloc (Nat.le_refl _) _).alloc (by simp) _⟩

theorem Valid_yes (n d : Int) (w : World) (h : okF n d) :
    Calls Try.prog 103 #[vFrac n d] w fun e w' => e = .returned (.bool true) ∧ Below w.heap.size w w' := by
  obtain ⟨h1, h2, h3, h4, h5⟩ := h
  obtain ⟨D, rfl⟩ := Int.eq_ofNat_of_zero_le (show 0 ≤ d by omega)
  have hcm := fun w => divisor_any n D w (by omega) (by omega) (by omega)
  rw [show Nat.gcd n.natAbs D = 1 by simpa using h5] at hcm
  have Hc := Lib.hid hcm
  clear hcm h5
  go_enter Try.func103, Try.ntmps103
  go_wp2_with (go_at_call 135; refine (Hc.out _).mono ?_; rintro e w1 ⟨rfl, hb⟩)
  go_ret
  exact ⟨rfl, ((Below.refl _ _).alloc (Nat.le_refl _) _).trans (hb.mono (by simp))⟩

theorem Valid_no (n d : Int) (w : World) (h : ¬ okF n d) :
    Calls Try.prog 103 #[vFrac n d] w fun e w' => e = .returned (.bool false) ∧ Below w.heap.size w w' := by
  by_cases h1 : 1 ≤ d
  case neg =>
    clear h
    go_enter Try.func103, Try.ntmps103
    go_wp2
    go_ret
    exact ⟨rfl, (Below.refl _ _).alloc (Nat.le_refl _) _⟩
  by_cases h2 : d ≤ 4194304
  case neg =>
    clear h
    go_enter Try.func103, Try.ntmps103
    go_wp2
    go_ret
    exact ⟨rfl, (Below.refl _ _).alloc (Nat.le_refl _) _⟩
  by_cases h3 : -549755813888 ≤ n
  case neg =>
    clear h
    go_enter Try.func103, Try.ntmps103
    go_wp2
    go_ret
    exact ⟨rfl, (Below.refl _ _).alloc (Nat.le_refl _) _⟩
  by_cases h4 : n ≤ 549755813888
  case neg =>
    clear h
    go_enter Try.func103, Try.ntmps103
    go_wp2
    go_ret
    exact ⟨rfl, (Below.refl _ _).alloc (Nat.le_refl _) _⟩
  obtain ⟨D, rfl⟩ := Int.eq_ofNat_of_zero_le (show 0 ≤ d by omega)
  have h5 : ((Nat.gcd n.natAbs D : Nat) : Int) ≠ 1 := fun e => h ⟨h1, h2, h3, h4, by simp; omega⟩
  have hb5 : (((Nat.gcd n.natAbs D : Nat) : Int) == 1) = false := by simpa using h5
  have hcm := fun w => divisor_any n D w (by omega) (by omega) (by omega)
  clear h h5
  generalize Nat.gcd n.natAbs D = G at *
  have Hc := Lib.hid hcm
  clear hcm
  go_enter Try.func103, Try.ntmps103
  go_wp2_with (go_at_call 135; refine (Hc.out _).mono ?_; rintro e w1 ⟨rfl, hb⟩)
  go_ret
  exact ⟨rfl, ((Below.refl _ _).alloc (Nat.le_refl _) _).trans (hb.mono (by simp))⟩
end Go.Proofs.Ytipablcbkoedbaa
