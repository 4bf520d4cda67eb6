/- CurveInverts is proved: for every curve, two values, a span and an integer: if Inverse is an integer, the value there is the one asked for; inverses are in the order of the values, or in the opposite one; and an integer lies in Reach of the span exactly if Values there meet it. No condition. -/
import Derived.WalkKit
import Derived.WalkLawsBesides
import Derived.Lib.Hide
import Derived.Outline
import Derived.WalkSmall
import Derived.Lib.SmallJoins
import Derived.Deep.DeepCutAuto
import Derived.Test.YtipablcbkoedbaaProg
import Derived.Test.YtipablcbkoedbaaO3
import Derived.Test.YtipablcbkoedbaaN2
import Derived.Test.YtipablcbkoedbaaM1
import Derived.Test.YtipablcbkoedbaaF3
import Derived.Test.YtipablcbkoedbaaRow2
import Derived.Test.YtipablcbkoedbaaRow4
namespace Go.Proofs.Ytipablcbkoedbaa
open Go.RowKit Go.WideShapes Go.ChangeShapes Go.Joins

theorem rc_cases {ks : List (Int × Int)} {err lo hi : Int} (h : rcErr ks err lo hi = 0 ∨ rcErr ks err lo hi = 5) (hc : check ks err = 0) : -131072 ≤ lo ∧ lo ≤ hi ∧ hi ≤ 131072 := by
  unfold rcErr at h
  rw [if_neg (by simp [hc])] at h
  by_cases a1 : lo > hi ∨ lo < -131072 ∨ hi > 131072
  · rw [if_pos a1] at h; omega
  · omega
theorem val_of {ks : List (Int × Int)} {err x : Int} (h : valErr ks err x = 0) : okF x 1 := by
  obtain ⟨hv, _, _, a, b⟩ := val_in h
  have := hv.x0 0 hv.pos
  have := hv.x0 (ks.length - 1) (by have := hv.pos; omega)
  exact ⟨by omega, by omega, by omega, by omega, by simp⟩
/-- What the walk leans on. -/
structure IvOk (A : Option Addr) (n cap : Nat) (err : Int) (ks : List (Int × Int)) (y z lo hi x r fy yn yd fz zn zd a1 a2 b1 b2 ve re c1 c2 d1 d2 : Int) (l1 l2 : Bool) : Prop where
  H1 : ∀ W, CAt W A n ks → Calls Try.prog 19 #[vCv A n cap err, .int .i64 y] W fun e w' => e = .returned (.tuple #[vFrac yn yd, .int .i64 fy]) ∧ Below W.heap.size W w'
  H2 : ∀ W, CAt W A n ks → Calls Try.prog 19 #[vCv A n cap err, .int .i64 z] W fun e w' => e = .returned (.tuple #[vFrac zn zd, .int .i64 fz]) ∧ Below W.heap.size W w'
  HR : ∀ W, CAt W A n ks → Calls Try.prog 46 #[vCv A n cap err] W fun e w' => e = .returned (.tuple #[.int .i64 r, .int .i64 0]) ∧ Below W.heap.size W w'
  P1 : fy = 0 → yd = 1 → ∀ W, CAt W A n ks → Calls Try.prog 34 #[vCv A n cap err, .int .i64 yn] W fun e w' => e = .returned (.tuple #[vFrac y 1, .int .i64 0]) ∧ Below W.heap.size W w'
  P2 : fy = 0 → fz = 0 → y < z → (r = 1 ∧ ∀ W, Calls Try.prog 50 #[vFrac yn yd, vFrac zn zd] W fun e w' => e = .returned (.bool true) ∧ Below W.heap.size W w') ∨ (r = -1 ∧ ∀ W, Calls Try.prog 50 #[vFrac zn zd, vFrac yn yd] W fun e w' => e = .returned (.bool true) ∧ Below W.heap.size W w')
  HRe : ∀ W, CAt W A n ks → Calls Try.prog 21 #[vCv A n cap err, vSpan lo hi] W fun e w' => e = .returned (.tuple #[vRange c1 c2 d1 d2, .int .i64 re]) ∧ Below W.heap.size W w'
  HVs : ∀ W, CAt W A n ks → Calls Try.prog 36 #[vCv A n cap err, .int .i64 x] W fun e w' => e = .returned (.tuple #[vRange a1 a2 b1 b2, .int .i64 ve]) ∧ Below W.heap.size W w'
  P3 : ve = 0 → (re = 0 ∨ re = 5) → ((a1 ≤ hi * a2 ∧ lo * b2 ≤ b1) ↔ (re = 0 ∧ l1 = false ∧ l2 = false))
  P4 : ve = 0 → re = 0 → (∀ W, Calls Try.prog 50 #[vFrac x 1, vFrac c1 c2] W fun e w' => e = .returned (.bool l1) ∧ Below W.heap.size W w') ∧ (∀ W, Calls Try.prog 50 #[vFrac d1 d2, vFrac x 1] W fun e w' => e = .returned (.bool l2) ∧ Below W.heap.size W w')
  P5 : ve = 0 → (re = 0 ∨ re = 5) → -1000000000 ≤ hi * a2 ∧ hi * a2 ≤ 1000000000 ∧ -1000000000 ≤ lo * b2 ∧ lo * b2 ≤ 1000000000

theorem ivOk (A : Option Addr) (n cap : Nat) (err : Int) (ks : List (Int × Int)) (y z lo hi x : Int) (hm : n ≤ 9223372036854775807) (hlo : -9223372036854775808 ≤ lo ∧ lo ≤ 9223372036854775807) (hhi : -9223372036854775808 ≤ hi ∧ hi ≤ 9223372036854775807) (hc : check ks err = 0) (_ : risingI ks ≠ 0) :
    IvOk A n cap err ks y z lo hi x (risingI ks) (ivErr ks err y) (ivN ks err y) (ivD ks err y) (ivErr ks err z) (ivN ks err z) (ivD ks err z) (vsV ks err x).1.1 (vsV ks err x).1.2 (vsV ks err x).2.1 (vsV ks err x).2.2 (valErr ks err x)
      (rcErr ks err lo hi) (rcV ks err lo hi).1.1 (rcV ks err lo hi).1.2 (rcV ks err lo hi).2.1 (rcV ks err lo hi).2.2 (ltF (x, 1) (rcV ks err lo hi).1) (ltF (rcV ks err lo hi).2 (x, 1)) where
  H1 W hW := Inverse_any A n cap err ks y W hW hm
  H2 W hW := Inverse_any A n cap err ks z W hW hm
  HR W hW := by have := Rising_any A n cap err ks W hW hm; unfold rsV at this; rw [if_pos hc, hc] at this; exact this
  P1 h1 h2 W hW := by
    obtain ⟨a, b, c⟩ := inv_int h1 h2
    have := Value_any A n cap err ks (ivN ks err y) W hW hm
    rw [a, b, c] at this
    exact this
  P2 h1 h2 hlt := by
    rcases inv_order h1 h2 hlt with ⟨a, b⟩ | ⟨a, b⟩
    · refine .inl ⟨a, fun W => ?_⟩
      have := less_law (ivN ks err y, ivD ks err y) (ivN ks err z, ivD ks err z) W (iv_ok h1) (iv_ok h2)
      rw [b] at this
      exact this
    · refine .inr ⟨a, fun W => ?_⟩
      have := less_law (ivN ks err z, ivD ks err z) (ivN ks err y, ivD ks err y) W (iv_ok h2) (iv_ok h1)
      rw [b] at this
      exact this
  HRe W hW := Reach_any A n cap err ks lo hi W hW hm hlo hhi
  HVs W hW := Values_any A n cap err ks x W hW hm
  P3 h1 h2 := reach_meets h1 h2
  P4 h1 h2 := ⟨fun W => less_law (x, 1) (rcV ks err lo hi).1 W (val_of h1) (rc_ok h2).1, fun W => less_law (rcV ks err lo hi).2 (x, 1) W (rc_ok h2).2 (val_of h1)⟩
  P5 h1 h2 := by
    obtain ⟨p, q, s⟩ := rc_cases h2 hc
    obtain ⟨hv, _, _, h0, _⟩ := val_in h1
    obtain ⟨_, _, g1, g2⟩ := val_bd hv h0
    have hs : vsV ks err x = ((valN ks x + -err * valD ks x, valD ks x), (valN ks x + err * valD ks x, valD ks x)) := by unfold vsV; rw [if_pos h1]
    rw [hs]
    dsimp only
    have m1 := mul_bd (x := hi) (y := valD ks x) (A := 131072) (B := 2000) (by omega) (by omega) (by omega) (by omega)
    have m2 := mul_bd (x := lo) (y := valD ks x) (A := 131072) (B := 2000) (by omega) (by omega) (by omega) (by omega)
    exact ⟨by omega, by omega, by omega, by omega⟩

set_option maxRecDepth 100000 in
set_option maxHeartbeats 3200000 in
theorem curveInverts_dead (A : Option Addr) (n cap : Nat) (err : Int) (ks : List (Int × Int)) (y z lo hi x : Int) (w : World) (h : CAt w A n ks) (hm : n ≤ 9223372036854775807) (hd : 60 < n ∨ check ks err ≠ 0 ∨ risingI ks = 0) :
    Calls Try.prog 10 #[vCv A n cap err, .int .i64 y, .int .i64 z, vSpan lo hi, .int .i64 x] w fun e w' => e = .returned (.bool true) ∧ Below w.heap.size w w' := by
  have HH := Lib.hid head_any
  have HA := Lib.hid h
  by_cases hn : n ≤ 60
  case neg =>
    have HF := Lib.hid (fun W => calls_val (few_any A n cap err W hm) (v' := .bool false) (by rw [decide_eq_false hn]))
    clear h hd
    generalize hW : (w.alloc (.cells #[.slice A n cap, .int .i64 err] 24)).alloc (.cells #[.int .i64 lo, .int .i64 hi] 26) = W
    have B0 : Below w.heap.size w W := by rw [← hW]; exact (((Below.refl w.heap.size w).alloc (Nat.le_refl _) _).alloc (by simp) _)
    have x0_0 : Blk W w.heap.size 24 #[.slice A n cap, .int .i64 err] := by rw [← hW]; exact ((Blk.at_new _ _ rfl).alloc _)
    have x1_0 : Blk W (w.heap.size + 1) 26 #[.int .i64 lo, .int .i64 hi] := by rw [← hW]; exact (Blk.at_new _ _ (by simp))
    have HWE := Lib.hid hW
    clear hW
    go_enter Try.func10, Try.ntmps10
    have B1 := B0
    go_wp2_with fail
    rw [HWE.out]
    refine (HH.out _).mono ?_; rintro e w1 ⟨rfl, hb1⟩
    have x0_1 := x0_0.below hb1
    have x1_1 := x1_0.below hb1
    clear x0_0 x1_0
    have x0_1c0 := x0_1.cell 0
    have x0_1c1 := x0_1.cell 1
    simp only [List.getElem?_toArray, List.getElem?_cons_zero, List.getElem?_cons_succ] at x0_1c0 x0_1c1
    have x0_1l := x0_1.lt
    have x1_1c0 := x1_1.cell 0
    have x1_1c1 := x1_1.cell 1
    simp only [List.getElem?_toArray, List.getElem?_cons_zero, List.getElem?_cons_succ] at x1_1c0 x1_1c1
    have x1_1l := x1_1.lt
    have B2 := B1.trans (hb1.mono B1.size)
    go_wp2_with fail
    refine (HF.out _).mono ?_; rintro e w2 ⟨rfl, hb2⟩
    clear x0_1c0 x0_1c1 x0_1l x1_1c0 x1_1c1 x1_1l
    have x0_2 := x0_1.below hb2
    have x1_2 := x1_1.below hb2
    clear x0_1 x1_1
    have x0_2c0 := x0_2.cell 0
    have x0_2c1 := x0_2.cell 1
    simp only [List.getElem?_toArray, List.getElem?_cons_zero, List.getElem?_cons_succ] at x0_2c0 x0_2c1
    have x0_2l := x0_2.lt
    have x1_2c0 := x1_2.cell 0
    have x1_2c1 := x1_2.cell 1
    simp only [List.getElem?_toArray, List.getElem?_cons_zero, List.getElem?_cons_succ] at x1_2c0 x1_2c1
    have x1_2l := x1_2.lt
    go_wp2
    go_ret
    exact ⟨rfl, B2.trans (hb2.mono B2.size)⟩
  have HF := Lib.hid (fun W => calls_val (few_any A n cap err W hm) (v' := .bool true) (by rw [decide_eq_true hn]))
  have HR0 := fun W (hW : CAt W A n ks) => Rising_any A n cap err ks W hW hm
  have H10 := fun W (hW : CAt W A n ks) => Inverse_any A n cap err ks y W hW hm
  have H20 := fun W (hW : CAt W A n ks) => Inverse_any A n cap err ks z W hW hm
  generalize ivN ks err y = yn at *
  generalize ivD ks err y = yd at *
  generalize ivN ks err z = zn at *
  generalize ivD ks err z = zd at *
  by_cases hc : check ks err = 0
  case neg =>
    have e1 : ivErr ks err y = check ks err := by unfold ivErr; rw [if_pos hc]
    have e2 : ivErr ks err z = check ks err := by unfold ivErr; rw [if_pos hc]
    rw [e1] at H10
    rw [e2] at H20
    have HR := Lib.hid HR0
    have H1 := Lib.hid H10
    have H2 := Lib.hid H20
    have hc1 : (check ks err != 0) = true := by simpa using hc
    clear HR0 H10 H20 e1 e2 h hd hc
    generalize check ks err = ce at *
    generalize rsV ks err = rv at *
    generalize hW : (w.alloc (.cells #[.slice A n cap, .int .i64 err] 24)).alloc (.cells #[.int .i64 lo, .int .i64 hi] 26) = W
    have B0 : Below w.heap.size w W := by rw [← hW]; exact (((Below.refl w.heap.size w).alloc (Nat.le_refl _) _).alloc (by simp) _)
    have x0_0 : Blk W w.heap.size 24 #[.slice A n cap, .int .i64 err] := by rw [← hW]; exact ((Blk.at_new _ _ rfl).alloc _)
    have x1_0 : Blk W (w.heap.size + 1) 26 #[.int .i64 lo, .int .i64 hi] := by rw [← hW]; exact (Blk.at_new _ _ (by simp))
    have HWE := Lib.hid hW
    clear hW
    go_enter Try.func10, Try.ntmps10
    have B1 := B0
    go_wp2_with fail
    rw [HWE.out]
    refine (HH.out _).mono ?_; rintro e w1 ⟨rfl, hb1⟩
    have x0_1 := x0_0.below hb1
    have x1_1 := x1_0.below hb1
    clear x0_0 x1_0
    have x0_1c0 := x0_1.cell 0
    have x0_1c1 := x0_1.cell 1
    simp only [List.getElem?_toArray, List.getElem?_cons_zero, List.getElem?_cons_succ] at x0_1c0 x0_1c1
    have x0_1l := x0_1.lt
    have x1_1c0 := x1_1.cell 0
    have x1_1c1 := x1_1.cell 1
    simp only [List.getElem?_toArray, List.getElem?_cons_zero, List.getElem?_cons_succ] at x1_1c0 x1_1c1
    have x1_1l := x1_1.lt
    have B2 := B1.trans (hb1.mono B1.size)
    go_wp2_with fail
    refine (HF.out _).mono ?_; rintro e w2 ⟨rfl, hb2⟩
    clear x0_1c0 x0_1c1 x0_1l x1_1c0 x1_1c1 x1_1l
    have x0_2 := x0_1.below hb2
    have x1_2 := x1_1.below hb2
    clear x0_1 x1_1
    have x0_2c0 := x0_2.cell 0
    have x0_2c1 := x0_2.cell 1
    simp only [List.getElem?_toArray, List.getElem?_cons_zero, List.getElem?_cons_succ] at x0_2c0 x0_2c1
    have x0_2l := x0_2.lt
    have x1_2c0 := x1_2.cell 0
    have x1_2c1 := x1_2.cell 1
    simp only [List.getElem?_toArray, List.getElem?_cons_zero, List.getElem?_cons_succ] at x1_2c0 x1_2c1
    have x1_2l := x1_2.lt
    have B3 := B2.trans (hb2.mono B2.size)
    go_wp2_with fail
    refine (HR.out _ (HA.out.below B3)).mono ?_; rintro e w3 ⟨rfl, hb3⟩
    clear x0_2c0 x0_2c1 x0_2l x1_2c0 x1_2c1 x1_2l
    have x0_3 := x0_2.below hb3
    have x1_3 := x1_2.below hb3
    clear x0_2 x1_2
    have x0_3c0 := x0_3.cell 0
    have x0_3c1 := x0_3.cell 1
    simp only [List.getElem?_toArray, List.getElem?_cons_zero, List.getElem?_cons_succ] at x0_3c0 x0_3c1
    have x0_3l := x0_3.lt
    have x1_3c0 := x1_3.cell 0
    have x1_3c1 := x1_3.cell 1
    simp only [List.getElem?_toArray, List.getElem?_cons_zero, List.getElem?_cons_succ] at x1_3c0 x1_3c1
    have x1_3l := x1_3.lt
    have B4 := B3.trans (hb3.mono B3.size)
    go_wp2_with fail
    refine (H1.out _ (HA.out.below B4)).mono ?_; rintro e w4 ⟨rfl, hb4⟩
    clear x0_3c0 x0_3c1 x0_3l x1_3c0 x1_3c1 x1_3l
    have x0_4 := x0_3.below hb4
    have x1_4 := x1_3.below hb4
    clear x0_3 x1_3
    have x0_4c0 := x0_4.cell 0
    have x0_4c1 := x0_4.cell 1
    simp only [List.getElem?_toArray, List.getElem?_cons_zero, List.getElem?_cons_succ] at x0_4c0 x0_4c1
    have x0_4l := x0_4.lt
    have x1_4c0 := x1_4.cell 0
    have x1_4c1 := x1_4.cell 1
    simp only [List.getElem?_toArray, List.getElem?_cons_zero, List.getElem?_cons_succ] at x1_4c0 x1_4c1
    have x1_4l := x1_4.lt
    have B5 := B4.trans (hb4.mono B4.size)
    have B5a := B5.alloc B5.size (.cells #[.int .i64 yn, .int .i64 yd] 30)
    go_wp2_with fail
    refine (H2.out _ (HA.out.below B5a)).mono ?_; rintro e w5 ⟨rfl, hb5⟩
    clear x0_4c0 x0_4c1 x0_4l x1_4c0 x1_4c1 x1_4l
    have x0_5 := (x0_4.alloc (.cells #[.int .i64 yn, .int .i64 yd] 30)).below hb5
    have x1_5 := (x1_4.alloc (.cells #[.int .i64 yn, .int .i64 yd] 30)).below hb5
    clear x0_4 x1_4
    have a_5 := (Blk.new w4 30 #[.int .i64 yn, .int .i64 yd]).below hb5
    have x0_5c0 := x0_5.cell 0
    have x0_5c1 := x0_5.cell 1
    simp only [List.getElem?_toArray, List.getElem?_cons_zero, List.getElem?_cons_succ] at x0_5c0 x0_5c1
    have x0_5l := x0_5.lt
    have x1_5c0 := x1_5.cell 0
    have x1_5c1 := x1_5.cell 1
    simp only [List.getElem?_toArray, List.getElem?_cons_zero, List.getElem?_cons_succ] at x1_5c0 x1_5c1
    have x1_5l := x1_5.lt
    have a_5c0 := a_5.cell 0
    have a_5c1 := a_5.cell 1
    simp only [List.getElem?_toArray, List.getElem?_cons_zero, List.getElem?_cons_succ] at a_5c0 a_5c1
    have a_5l := a_5.lt
    go_wp2
    go_ret
    exact ⟨by simp, B5a.trans (hb5.mono B5a.size) |>.alloc (B5a.trans (hb5.mono B5a.size)).size _⟩
  have hr : risingI ks = 0 := by omega
  have e0 : rsV ks err = 0 := by unfold rsV; rw [if_pos hc, hr]
  have e1 : ivErr ks err y = 4 := by unfold ivErr; rw [if_neg (by simp [hc]), if_pos hr]
  have e2 : ivErr ks err z = 4 := by unfold ivErr; rw [if_neg (by simp [hc]), if_pos hr]
  rw [e0, hc] at HR0
  rw [e1] at H10
  rw [e2] at H20
  have HR := Lib.hid HR0
  have H1 := Lib.hid H10
  have H2 := Lib.hid H20
  clear HR0 H10 H20 e0 e1 e2 h hd hc hr
  generalize hW : (w.alloc (.cells #[.slice A n cap, .int .i64 err] 24)).alloc (.cells #[.int .i64 lo, .int .i64 hi] 26) = W
  have B0 : Below w.heap.size w W := by rw [← hW]; exact (((Below.refl w.heap.size w).alloc (Nat.le_refl _) _).alloc (by simp) _)
  have x0_0 : Blk W w.heap.size 24 #[.slice A n cap, .int .i64 err] := by rw [← hW]; exact ((Blk.at_new _ _ rfl).alloc _)
  have x1_0 : Blk W (w.heap.size + 1) 26 #[.int .i64 lo, .int .i64 hi] := by rw [← hW]; exact (Blk.at_new _ _ (by simp))
  have HWE := Lib.hid hW
  clear hW
  go_enter Try.func10, Try.ntmps10
  have B1 := B0
  go_wp2_with fail
  rw [HWE.out]
  refine (HH.out _).mono ?_; rintro e w1 ⟨rfl, hb1⟩
  have x0_1 := x0_0.below hb1
  have x1_1 := x1_0.below hb1
  clear x0_0 x1_0
  have x0_1c0 := x0_1.cell 0
  have x0_1c1 := x0_1.cell 1
  simp only [List.getElem?_toArray, List.getElem?_cons_zero, List.getElem?_cons_succ] at x0_1c0 x0_1c1
  have x0_1l := x0_1.lt
  have x1_1c0 := x1_1.cell 0
  have x1_1c1 := x1_1.cell 1
  simp only [List.getElem?_toArray, List.getElem?_cons_zero, List.getElem?_cons_succ] at x1_1c0 x1_1c1
  have x1_1l := x1_1.lt
  have B2 := B1.trans (hb1.mono B1.size)
  go_wp2_with fail
  refine (HF.out _).mono ?_; rintro e w2 ⟨rfl, hb2⟩
  clear x0_1c0 x0_1c1 x0_1l x1_1c0 x1_1c1 x1_1l
  have x0_2 := x0_1.below hb2
  have x1_2 := x1_1.below hb2
  clear x0_1 x1_1
  have x0_2c0 := x0_2.cell 0
  have x0_2c1 := x0_2.cell 1
  simp only [List.getElem?_toArray, List.getElem?_cons_zero, List.getElem?_cons_succ] at x0_2c0 x0_2c1
  have x0_2l := x0_2.lt
  have x1_2c0 := x1_2.cell 0
  have x1_2c1 := x1_2.cell 1
  simp only [List.getElem?_toArray, List.getElem?_cons_zero, List.getElem?_cons_succ] at x1_2c0 x1_2c1
  have x1_2l := x1_2.lt
  have B3 := B2.trans (hb2.mono B2.size)
  go_wp2_with fail
  refine (HR.out _ (HA.out.below B3)).mono ?_; rintro e w3 ⟨rfl, hb3⟩
  clear x0_2c0 x0_2c1 x0_2l x1_2c0 x1_2c1 x1_2l
  have x0_3 := x0_2.below hb3
  have x1_3 := x1_2.below hb3
  clear x0_2 x1_2
  have x0_3c0 := x0_3.cell 0
  have x0_3c1 := x0_3.cell 1
  simp only [List.getElem?_toArray, List.getElem?_cons_zero, List.getElem?_cons_succ] at x0_3c0 x0_3c1
  have x0_3l := x0_3.lt
  have x1_3c0 := x1_3.cell 0
  have x1_3c1 := x1_3.cell 1
  simp only [List.getElem?_toArray, List.getElem?_cons_zero, List.getElem?_cons_succ] at x1_3c0 x1_3c1
  have x1_3l := x1_3.lt
  have B4 := B3.trans (hb3.mono B3.size)
  go_wp2_with fail
  refine (H1.out _ (HA.out.below B4)).mono ?_; rintro e w4 ⟨rfl, hb4⟩
  clear x0_3c0 x0_3c1 x0_3l x1_3c0 x1_3c1 x1_3l
  have x0_4 := x0_3.below hb4
  have x1_4 := x1_3.below hb4
  clear x0_3 x1_3
  have x0_4c0 := x0_4.cell 0
  have x0_4c1 := x0_4.cell 1
  simp only [List.getElem?_toArray, List.getElem?_cons_zero, List.getElem?_cons_succ] at x0_4c0 x0_4c1
  have x0_4l := x0_4.lt
  have x1_4c0 := x1_4.cell 0
  have x1_4c1 := x1_4.cell 1
  simp only [List.getElem?_toArray, List.getElem?_cons_zero, List.getElem?_cons_succ] at x1_4c0 x1_4c1
  have x1_4l := x1_4.lt
  have B5 := B4.trans (hb4.mono B4.size)
  have B5a := B5.alloc B5.size (.cells #[.int .i64 yn, .int .i64 yd] 30)
  go_wp2_with fail
  refine (H2.out _ (HA.out.below B5a)).mono ?_; rintro e w5 ⟨rfl, hb5⟩
  clear x0_4c0 x0_4c1 x0_4l x1_4c0 x1_4c1 x1_4l
  have x0_5 := (x0_4.alloc (.cells #[.int .i64 yn, .int .i64 yd] 30)).below hb5
  have x1_5 := (x1_4.alloc (.cells #[.int .i64 yn, .int .i64 yd] 30)).below hb5
  clear x0_4 x1_4
  have a_5 := (Blk.new w4 30 #[.int .i64 yn, .int .i64 yd]).below hb5
  have x0_5c0 := x0_5.cell 0
  have x0_5c1 := x0_5.cell 1
  simp only [List.getElem?_toArray, List.getElem?_cons_zero, List.getElem?_cons_succ] at x0_5c0 x0_5c1
  have x0_5l := x0_5.lt
  have x1_5c0 := x1_5.cell 0
  have x1_5c1 := x1_5.cell 1
  simp only [List.getElem?_toArray, List.getElem?_cons_zero, List.getElem?_cons_succ] at x1_5c0 x1_5c1
  have x1_5l := x1_5.lt
  have a_5c0 := a_5.cell 0
  have a_5c1 := a_5.cell 1
  simp only [List.getElem?_toArray, List.getElem?_cons_zero, List.getElem?_cons_succ] at a_5c0 a_5c1
  have a_5l := a_5.lt
  go_wp2
  go_ret
  exact ⟨by simp, B5a.trans (hb5.mono B5a.size) |>.alloc (B5a.trans (hb5.mono B5a.size)).size _⟩

set_option maxRecDepth 100000 in
set_option maxHeartbeats 6400000 in
theorem curveInverts_main (A : Option Addr) (n cap : Nat) (err : Int) (ks : List (Int × Int)) (y z lo hi x r fy yn yd fz zn zd a1 a2 b1 b2 ve re c1 c2 d1 d2 : Int) (l1 l2 : Bool) (w : World) (h : CAt w A n ks) (hm : n ≤ 9223372036854775807) (hn : n ≤ 60) (hr0 : r ≠ 0)
    (K : IvOk A n cap err ks y z lo hi x r fy yn yd fz zn zd a1 a2 b1 b2 ve re c1 c2 d1 d2 l1 l2) :
    Calls Try.prog 10 #[vCv A n cap err, .int .i64 y, .int .i64 z, vSpan lo hi, .int .i64 x] w fun e w' => e = .returned (.bool true) ∧ Below w.heap.size w w' := by
  have HH := Lib.hid head_any
  have HA := Lib.hid h
  have HK := Lib.hid K
  have HR := Lib.hid K.HR
  have H1 := Lib.hid K.H1
  have H2 := Lib.hid K.H2
  have HRe := Lib.hid K.HRe
  have HVs := Lib.hid K.HVs
  have hr1 : (r == 0) = false := by simpa using hr0
  have HF := Lib.hid (fun W => calls_val (few_any A n cap err W hm) (v' := .bool true) (by rw [decide_eq_true hn]))
  clear h K hr0
  generalize hW : (w.alloc (.cells #[.slice A n cap, .int .i64 err] 24)).alloc (.cells #[.int .i64 lo, .int .i64 hi] 26) = W
  have B0 : Below w.heap.size w W := by rw [← hW]; exact (((Below.refl w.heap.size w).alloc (Nat.le_refl _) _).alloc (by simp) _)
  have x0_0 : Blk W w.heap.size 24 #[.slice A n cap, .int .i64 err] := by rw [← hW]; exact ((Blk.at_new _ _ rfl).alloc _)
  have x1_0 : Blk W (w.heap.size + 1) 26 #[.int .i64 lo, .int .i64 hi] := by rw [← hW]; exact (Blk.at_new _ _ (by simp))
  have HWE := Lib.hid hW
  clear hW
  go_enter Try.func10, Try.ntmps10
  have B1 := B0
  go_wp2_with fail
  rw [HWE.out]
  refine (HH.out _).mono ?_; rintro e w1 ⟨rfl, hb1⟩
  have x0_1 := x0_0.below hb1
  have x1_1 := x1_0.below hb1
  clear x0_0 x1_0
  have x0_1c0 := x0_1.cell 0
  have x0_1c1 := x0_1.cell 1
  simp only [List.getElem?_toArray, List.getElem?_cons_zero, List.getElem?_cons_succ] at x0_1c0 x0_1c1
  have x0_1l := x0_1.lt
  have x1_1c0 := x1_1.cell 0
  have x1_1c1 := x1_1.cell 1
  simp only [List.getElem?_toArray, List.getElem?_cons_zero, List.getElem?_cons_succ] at x1_1c0 x1_1c1
  have x1_1l := x1_1.lt
  have B2 := B1.trans (hb1.mono B1.size)
  go_wp2_with fail
  refine (HF.out _).mono ?_; rintro e w2 ⟨rfl, hb2⟩
  clear x0_1c0 x0_1c1 x0_1l x1_1c0 x1_1c1 x1_1l
  have x0_2 := x0_1.below hb2
  have x1_2 := x1_1.below hb2
  clear x0_1 x1_1
  have x0_2c0 := x0_2.cell 0
  have x0_2c1 := x0_2.cell 1
  simp only [List.getElem?_toArray, List.getElem?_cons_zero, List.getElem?_cons_succ] at x0_2c0 x0_2c1
  have x0_2l := x0_2.lt
  have x1_2c0 := x1_2.cell 0
  have x1_2c1 := x1_2.cell 1
  simp only [List.getElem?_toArray, List.getElem?_cons_zero, List.getElem?_cons_succ] at x1_2c0 x1_2c1
  have x1_2l := x1_2.lt
  have B3 := B2.trans (hb2.mono B2.size)
  go_wp2_with fail
  refine (HR.out _ (HA.out.below B3)).mono ?_; rintro e w3 ⟨rfl, hb3⟩
  clear x0_2c0 x0_2c1 x0_2l x1_2c0 x1_2c1 x1_2l
  have x0_3 := x0_2.below hb3
  have x1_3 := x1_2.below hb3
  clear x0_2 x1_2
  have x0_3c0 := x0_3.cell 0
  have x0_3c1 := x0_3.cell 1
  simp only [List.getElem?_toArray, List.getElem?_cons_zero, List.getElem?_cons_succ] at x0_3c0 x0_3c1
  have x0_3l := x0_3.lt
  have x1_3c0 := x1_3.cell 0
  have x1_3c1 := x1_3.cell 1
  simp only [List.getElem?_toArray, List.getElem?_cons_zero, List.getElem?_cons_succ] at x1_3c0 x1_3c1
  have x1_3l := x1_3.lt
  have B4 := B3.trans (hb3.mono B3.size)
  go_wp2_with fail
  refine (H1.out _ (HA.out.below B4)).mono ?_; rintro e w4 ⟨rfl, hb4⟩
  clear x0_3c0 x0_3c1 x0_3l x1_3c0 x1_3c1 x1_3l
  have x0_4 := x0_3.below hb4
  have x1_4 := x1_3.below hb4
  clear x0_3 x1_3
  have x0_4c0 := x0_4.cell 0
  have x0_4c1 := x0_4.cell 1
  simp only [List.getElem?_toArray, List.getElem?_cons_zero, List.getElem?_cons_succ] at x0_4c0 x0_4c1
  have x0_4l := x0_4.lt
  have x1_4c0 := x1_4.cell 0
  have x1_4c1 := x1_4.cell 1
  simp only [List.getElem?_toArray, List.getElem?_cons_zero, List.getElem?_cons_succ] at x1_4c0 x1_4c1
  have x1_4l := x1_4.lt
  have B5 := B4.trans (hb4.mono B4.size)
  have B5a := B5.alloc B5.size (.cells #[.int .i64 yn, .int .i64 yd] 30)
  go_wp2_with fail
  refine (H2.out _ (HA.out.below B5a)).mono ?_; rintro e w5 ⟨rfl, hb5⟩
  clear x0_4c0 x0_4c1 x0_4l x1_4c0 x1_4c1 x1_4l
  have x0_5 := (x0_4.alloc (.cells #[.int .i64 yn, .int .i64 yd] 30)).below hb5
  have x1_5 := (x1_4.alloc (.cells #[.int .i64 yn, .int .i64 yd] 30)).below hb5
  clear x0_4 x1_4
  have a_5 := (Blk.new w4 30 #[.int .i64 yn, .int .i64 yd]).below hb5
  have x0_5c0 := x0_5.cell 0
  have x0_5c1 := x0_5.cell 1
  simp only [List.getElem?_toArray, List.getElem?_cons_zero, List.getElem?_cons_succ] at x0_5c0 x0_5c1
  have x0_5l := x0_5.lt
  have x1_5c0 := x1_5.cell 0
  have x1_5c1 := x1_5.cell 1
  simp only [List.getElem?_toArray, List.getElem?_cons_zero, List.getElem?_cons_succ] at x1_5c0 x1_5c1
  have x1_5l := x1_5.lt
  have a_5c0 := a_5.cell 0
  have a_5c1 := a_5.cell 1
  simp only [List.getElem?_toArray, List.getElem?_cons_zero, List.getElem?_cons_succ] at a_5c0 a_5c1
  have a_5l := a_5.lt
  have B6 := B5a.trans (hb5.mono B5a.size)
  have B6a := B6.alloc B6.size (.cells #[.int .i64 zn, .int .i64 zd] 30)
  clear x0_5c0 x0_5c1 x0_5l x1_5c0 x1_5c1 x1_5l a_5c0 a_5c1 a_5l
  have x0_6 := (x0_5.alloc (.cells #[.int .i64 zn, .int .i64 zd] 30))
  have x1_6 := (x1_5.alloc (.cells #[.int .i64 zn, .int .i64 zd] 30))
  have a_6 := (a_5.alloc (.cells #[.int .i64 zn, .int .i64 zd] 30))
  clear x0_5 x1_5 a_5
  have b_6 := (Blk.new w5 30 #[.int .i64 zn, .int .i64 zd])
  go_upto_region 9 with fail
  generalize hV6 : w5.alloc (.cells #[.int .i64 zn, .int .i64 zd] 30) = V6 at *
  generalize hg6 : w5.heap.size = g6 at *
  clear hV6 hg6
  have x0_6c0 := x0_6.cell 0
  have x0_6c1 := x0_6.cell 1
  simp only [List.getElem?_toArray, List.getElem?_cons_zero, List.getElem?_cons_succ] at x0_6c0 x0_6c1
  have x0_6l := x0_6.lt
  have x1_6c0 := x1_6.cell 0
  have x1_6c1 := x1_6.cell 1
  simp only [List.getElem?_toArray, List.getElem?_cons_zero, List.getElem?_cons_succ] at x1_6c0 x1_6c1
  have x1_6l := x1_6.lt
  have a_6c0 := a_6.cell 0
  have a_6c1 := a_6.cell 1
  simp only [List.getElem?_toArray, List.getElem?_cons_zero, List.getElem?_cons_succ] at a_6c0 a_6c1
  have a_6l := a_6.lt
  have b_6c0 := b_6.cell 0
  have b_6c1 := b_6.cell 1
  simp only [List.getElem?_toArray, List.getElem?_cons_zero, List.getElem?_cons_succ] at b_6c0 b_6c1
  have b_6l := b_6.lt
  go_cut [71] (fun s wx => ∃ bb : Bool, s = .bool bb ∧ (bb = true → fy = 0 ∧ yd = 1) ∧ wx = V6)
  case first =>
    by_cases hf : fy = 0
    · subst hf
      by_cases hy : yd = 1
      · subst hy
        go_wp2
        go_meet
        exact ⟨true, rfl, by simp, rfl⟩
      · have hy1 : (yd == 1) = false := by simpa using hy
        go_wp2
        go_meet
        exact ⟨false, by simp, by simp, rfl⟩
    · have hf1 : (fy == 0) = false := by simpa using hf
      go_wp2
      go_meet
      exact ⟨false, by simp, by simp, rfl⟩
  case rest =>
    obtain ⟨bb, hs71, hbb, hwc⟩ := hcut
    have HBB := Lib.hid hbb
    clear hbb
    subst hs71 hwc
    go_upto_if 71 with fail
    go_cut [] (fun wx => Below w.heap.size w wx ∧ Blk wx w.heap.size 24 #[.slice A n cap, .int .i64 err] ∧ Blk wx (w.heap.size + 1) 26 #[.int .i64 lo, .int .i64 hi] ∧ Blk wx w4.heap.size 30 #[.int .i64 yn, .int .i64 yd] ∧ Blk wx g6 30 #[.int .i64 zn, .int .i64 zd])
    case first =>
      cases bb
      case true =>
        obtain ⟨hf1, hf2⟩ := HBB.out rfl
        have HV1 := Lib.hid (HK.out.P1 hf1 hf2)
        subst hf1 hf2
        have B7 := B6a
        go_wp2_with fail
        refine (HV1.out _ (HA.out.below B7)).mono ?_; rintro e w7 ⟨rfl, hb7⟩
        clear x0_6c0 x0_6c1 x0_6l x1_6c0 x1_6c1 x1_6l a_6c0 a_6c1 a_6l b_6c0 b_6c1 b_6l
        have x0_7 := x0_6.below hb7
        have x1_7 := x1_6.below hb7
        have a_7 := a_6.below hb7
        have b_7 := b_6.below hb7
        clear x0_6 x1_6 a_6 b_6
        have x0_7c0 := x0_7.cell 0
        have x0_7c1 := x0_7.cell 1
        simp only [List.getElem?_toArray, List.getElem?_cons_zero, List.getElem?_cons_succ] at x0_7c0 x0_7c1
        have x0_7l := x0_7.lt
        have x1_7c0 := x1_7.cell 0
        have x1_7c1 := x1_7.cell 1
        simp only [List.getElem?_toArray, List.getElem?_cons_zero, List.getElem?_cons_succ] at x1_7c0 x1_7c1
        have x1_7l := x1_7.lt
        have a_7c0 := a_7.cell 0
        have a_7c1 := a_7.cell 1
        simp only [List.getElem?_toArray, List.getElem?_cons_zero, List.getElem?_cons_succ] at a_7c0 a_7c1
        have a_7l := a_7.lt
        have b_7c0 := b_7.cell 0
        have b_7c1 := b_7.cell 1
        simp only [List.getElem?_toArray, List.getElem?_cons_zero, List.getElem?_cons_succ] at b_7c0 b_7c1
        have b_7l := b_7.lt
        go_wp2
        go_meet
        exact ⟨((B7.trans (hb7.mono B7.size)).alloc (B7.trans (hb7.mono B7.size)).size _), (x0_7.alloc (.cells #[.int .i64 y, .int .i64 1] 30)), (x1_7.alloc (.cells #[.int .i64 y, .int .i64 1] 30)), (a_7.alloc (.cells #[.int .i64 y, .int .i64 1] 30)), (b_7.alloc (.cells #[.int .i64 y, .int .i64 1] 30))⟩
      case false =>
        go_wp2
        go_meet
        exact ⟨(B6a), x0_6, x1_6, a_6, b_6⟩
    case rest =>
      have hcut7 := hcut
      clear hcut
      obtain ⟨Bc7, x0_7, x1_7, a_7, b_7⟩ := hcut7
      have x0_7c0 := x0_7.cell 0
      have x0_7c1 := x0_7.cell 1
      simp only [List.getElem?_toArray, List.getElem?_cons_zero, List.getElem?_cons_succ] at x0_7c0 x0_7c1
      have x0_7l := x0_7.lt
      have x1_7c0 := x1_7.cell 0
      have x1_7c1 := x1_7.cell 1
      simp only [List.getElem?_toArray, List.getElem?_cons_zero, List.getElem?_cons_succ] at x1_7c0 x1_7c1
      have x1_7l := x1_7.lt
      have a_7c0 := a_7.cell 0
      have a_7c1 := a_7.cell 1
      simp only [List.getElem?_toArray, List.getElem?_cons_zero, List.getElem?_cons_succ] at a_7c0 a_7c1
      have a_7l := a_7.lt
      have b_7c0 := b_7.cell 0
      have b_7c1 := b_7.cell 1
      simp only [List.getElem?_toArray, List.getElem?_cons_zero, List.getElem?_cons_succ] at b_7c0 b_7c1
      have b_7l := b_7.lt
      go_upto_region 13 with fail
      go_cut [117] (fun s wx => s = .bool false ∧ Below w.heap.size w wx ∧ Blk wx w.heap.size 24 #[.slice A n cap, .int .i64 err] ∧ Blk wx (w.heap.size + 1) 26 #[.int .i64 lo, .int .i64 hi] ∧ Blk wx w4.heap.size 30 #[.int .i64 yn, .int .i64 yd] ∧ Blk wx g6 30 #[.int .i64 zn, .int .i64 zd])
      case first =>
        by_cases hf : fy = 0
        case neg =>
          have hf1 : (fy == 0) = false := by simpa using hf
          go_wp2
          go_meet
          exact ⟨rfl, (Bc7), x0_7, x1_7, a_7, b_7⟩
        subst hf
        by_cases hf : fz = 0
        case neg =>
          have hf1 : (fz == 0) = false := by simpa using hf
          go_wp2
          go_meet
          exact ⟨rfl, (Bc7), x0_7, x1_7, a_7, b_7⟩
        subst hf
        by_cases hlt : y < z
        case neg =>
          go_wp2
          go_meet
          exact ⟨rfl, (Bc7), x0_7, x1_7, a_7, b_7⟩
        rcases HK.out.P2 rfl rfl hlt with ⟨rfl, hl⟩ | ⟨rfl, hl⟩
        · have HL := Lib.hid hl
          clear hl
          have B8 := Bc7
          go_wp2_with fail
          refine (HL.out _).mono ?_; rintro e w8 ⟨rfl, hb8⟩
          clear x0_7c0 x0_7c1 x0_7l x1_7c0 x1_7c1 x1_7l a_7c0 a_7c1 a_7l b_7c0 b_7c1 b_7l
          have x0_8 := x0_7.below hb8
          have x1_8 := x1_7.below hb8
          have a_8 := a_7.below hb8
          have b_8 := b_7.below hb8
          clear x0_7 x1_7 a_7 b_7
          have x0_8c0 := x0_8.cell 0
          have x0_8c1 := x0_8.cell 1
          simp only [List.getElem?_toArray, List.getElem?_cons_zero, List.getElem?_cons_succ] at x0_8c0 x0_8c1
          have x0_8l := x0_8.lt
          have x1_8c0 := x1_8.cell 0
          have x1_8c1 := x1_8.cell 1
          simp only [List.getElem?_toArray, List.getElem?_cons_zero, List.getElem?_cons_succ] at x1_8c0 x1_8c1
          have x1_8l := x1_8.lt
          have a_8c0 := a_8.cell 0
          have a_8c1 := a_8.cell 1
          simp only [List.getElem?_toArray, List.getElem?_cons_zero, List.getElem?_cons_succ] at a_8c0 a_8c1
          have a_8l := a_8.lt
          have b_8c0 := b_8.cell 0
          have b_8c1 := b_8.cell 1
          simp only [List.getElem?_toArray, List.getElem?_cons_zero, List.getElem?_cons_succ] at b_8c0 b_8c1
          have b_8l := b_8.lt
          go_wp2
          go_meet
          exact ⟨rfl, (B8.trans (hb8.mono B8.size)), x0_8, x1_8, a_8, b_8⟩
        · have HL := Lib.hid hl
          clear hl
          have B8 := Bc7
          go_wp2_with fail
          refine (HL.out _).mono ?_; rintro e w8 ⟨rfl, hb8⟩
          clear x0_7c0 x0_7c1 x0_7l x1_7c0 x1_7c1 x1_7l a_7c0 a_7c1 a_7l b_7c0 b_7c1 b_7l
          have x0_8 := x0_7.below hb8
          have x1_8 := x1_7.below hb8
          have a_8 := a_7.below hb8
          have b_8 := b_7.below hb8
          clear x0_7 x1_7 a_7 b_7
          have x0_8c0 := x0_8.cell 0
          have x0_8c1 := x0_8.cell 1
          simp only [List.getElem?_toArray, List.getElem?_cons_zero, List.getElem?_cons_succ] at x0_8c0 x0_8c1
          have x0_8l := x0_8.lt
          have x1_8c0 := x1_8.cell 0
          have x1_8c1 := x1_8.cell 1
          simp only [List.getElem?_toArray, List.getElem?_cons_zero, List.getElem?_cons_succ] at x1_8c0 x1_8c1
          have x1_8l := x1_8.lt
          have a_8c0 := a_8.cell 0
          have a_8c1 := a_8.cell 1
          simp only [List.getElem?_toArray, List.getElem?_cons_zero, List.getElem?_cons_succ] at a_8c0 a_8c1
          have a_8l := a_8.lt
          have b_8c0 := b_8.cell 0
          have b_8c1 := b_8.cell 1
          simp only [List.getElem?_toArray, List.getElem?_cons_zero, List.getElem?_cons_succ] at b_8c0 b_8c1
          have b_8l := b_8.lt
          go_wp2
          go_meet
          exact ⟨rfl, (B8.trans (hb8.mono B8.size)), x0_8, x1_8, a_8, b_8⟩
      case rest =>
        have hcut8 := hcut
        clear hcut
        obtain ⟨rfl, Bc8, x0_8, x1_8, a_8, b_8⟩ := hcut8
        have x0_8c0 := x0_8.cell 0
        have x0_8c1 := x0_8.cell 1
        simp only [List.getElem?_toArray, List.getElem?_cons_zero, List.getElem?_cons_succ] at x0_8c0 x0_8c1
        have x0_8l := x0_8.lt
        have x1_8c0 := x1_8.cell 0
        have x1_8c1 := x1_8.cell 1
        simp only [List.getElem?_toArray, List.getElem?_cons_zero, List.getElem?_cons_succ] at x1_8c0 x1_8c1
        have x1_8l := x1_8.lt
        have a_8c0 := a_8.cell 0
        have a_8c1 := a_8.cell 1
        simp only [List.getElem?_toArray, List.getElem?_cons_zero, List.getElem?_cons_succ] at a_8c0 a_8c1
        have a_8l := a_8.lt
        have b_8c0 := b_8.cell 0
        have b_8c1 := b_8.cell 1
        simp only [List.getElem?_toArray, List.getElem?_cons_zero, List.getElem?_cons_succ] at b_8c0 b_8c1
        have b_8l := b_8.lt
        have B9 := Bc8
        go_wp2_with fail
        refine (HRe.out _ (HA.out.below B9)).mono ?_; rintro e w9 ⟨rfl, hb9⟩
        clear x0_8c0 x0_8c1 x0_8l x1_8c0 x1_8c1 x1_8l a_8c0 a_8c1 a_8l b_8c0 b_8c1 b_8l
        have x0_9 := x0_8.below hb9
        have x1_9 := x1_8.below hb9
        have a_9 := a_8.below hb9
        have b_9 := b_8.below hb9
        clear x0_8 x1_8 a_8 b_8
        have x0_9c0 := x0_9.cell 0
        have x0_9c1 := x0_9.cell 1
        simp only [List.getElem?_toArray, List.getElem?_cons_zero, List.getElem?_cons_succ] at x0_9c0 x0_9c1
        have x0_9l := x0_9.lt
        have x1_9c0 := x1_9.cell 0
        have x1_9c1 := x1_9.cell 1
        simp only [List.getElem?_toArray, List.getElem?_cons_zero, List.getElem?_cons_succ] at x1_9c0 x1_9c1
        have x1_9l := x1_9.lt
        have a_9c0 := a_9.cell 0
        have a_9c1 := a_9.cell 1
        simp only [List.getElem?_toArray, List.getElem?_cons_zero, List.getElem?_cons_succ] at a_9c0 a_9c1
        have a_9l := a_9.lt
        have b_9c0 := b_9.cell 0
        have b_9c1 := b_9.cell 1
        simp only [List.getElem?_toArray, List.getElem?_cons_zero, List.getElem?_cons_succ] at b_9c0 b_9c1
        have b_9l := b_9.lt
        have B10 := B9.trans (hb9.mono B9.size)
        have B10a := B10.alloc B10.size (.cells #[.int .i64 c1, .int .i64 c2, .int .i64 d1, .int .i64 d2] 35)
        go_wp2_with fail
        refine (HVs.out _ (HA.out.below B10a)).mono ?_; rintro e w10 ⟨rfl, hb10⟩
        clear x0_9c0 x0_9c1 x0_9l x1_9c0 x1_9c1 x1_9l a_9c0 a_9c1 a_9l b_9c0 b_9c1 b_9l
        have x0_10 := (x0_9.alloc (.cells #[.int .i64 c1, .int .i64 c2, .int .i64 d1, .int .i64 d2] 35)).below hb10
        have x1_10 := (x1_9.alloc (.cells #[.int .i64 c1, .int .i64 c2, .int .i64 d1, .int .i64 d2] 35)).below hb10
        have a_10 := (a_9.alloc (.cells #[.int .i64 c1, .int .i64 c2, .int .i64 d1, .int .i64 d2] 35)).below hb10
        have b_10 := (b_9.alloc (.cells #[.int .i64 c1, .int .i64 c2, .int .i64 d1, .int .i64 d2] 35)).below hb10
        clear x0_9 x1_9 a_9 b_9
        have c_10 := (Blk.new w9 35 #[.int .i64 c1, .int .i64 c2, .int .i64 d1, .int .i64 d2]).below hb10
        have x0_10c0 := x0_10.cell 0
        have x0_10c1 := x0_10.cell 1
        simp only [List.getElem?_toArray, List.getElem?_cons_zero, List.getElem?_cons_succ] at x0_10c0 x0_10c1
        have x0_10l := x0_10.lt
        have x1_10c0 := x1_10.cell 0
        have x1_10c1 := x1_10.cell 1
        simp only [List.getElem?_toArray, List.getElem?_cons_zero, List.getElem?_cons_succ] at x1_10c0 x1_10c1
        have x1_10l := x1_10.lt
        have a_10c0 := a_10.cell 0
        have a_10c1 := a_10.cell 1
        simp only [List.getElem?_toArray, List.getElem?_cons_zero, List.getElem?_cons_succ] at a_10c0 a_10c1
        have a_10l := a_10.lt
        have b_10c0 := b_10.cell 0
        have b_10c1 := b_10.cell 1
        simp only [List.getElem?_toArray, List.getElem?_cons_zero, List.getElem?_cons_succ] at b_10c0 b_10c1
        have b_10l := b_10.lt
        have c_10c0 := c_10.cell 0
        have c_10c1 := c_10.cell 1
        have c_10c2 := c_10.cell 2
        have c_10c3 := c_10.cell 3
        simp only [List.getElem?_toArray, List.getElem?_cons_zero, List.getElem?_cons_succ] at c_10c0 c_10c1 c_10c2 c_10c3
        have c_10l := c_10.lt
        have B11 := B10a.trans (hb10.mono B10a.size)
        have B11a := B11.alloc B11.size (.cells #[.int .i64 a1, .int .i64 a2, .int .i64 b1, .int .i64 b2] 35)
        clear x0_10c0 x0_10c1 x0_10l x1_10c0 x1_10c1 x1_10l a_10c0 a_10c1 a_10l b_10c0 b_10c1 b_10l c_10c0 c_10c1 c_10c2 c_10c3 c_10l
        have x0_11 := (x0_10.alloc (.cells #[.int .i64 a1, .int .i64 a2, .int .i64 b1, .int .i64 b2] 35))
        have x1_11 := (x1_10.alloc (.cells #[.int .i64 a1, .int .i64 a2, .int .i64 b1, .int .i64 b2] 35))
        have a_11 := (a_10.alloc (.cells #[.int .i64 a1, .int .i64 a2, .int .i64 b1, .int .i64 b2] 35))
        have b_11 := (b_10.alloc (.cells #[.int .i64 a1, .int .i64 a2, .int .i64 b1, .int .i64 b2] 35))
        have c_11 := (c_10.alloc (.cells #[.int .i64 a1, .int .i64 a2, .int .i64 b1, .int .i64 b2] 35))
        clear x0_10 x1_10 a_10 b_10 c_10
        have d_11 := (Blk.new w10 35 #[.int .i64 a1, .int .i64 a2, .int .i64 b1, .int .i64 b2])
        go_upto_region 17 with fail
        generalize hV11 : w10.alloc (.cells #[.int .i64 a1, .int .i64 a2, .int .i64 b1, .int .i64 b2] 35) = V11 at *
        generalize hg11 : w10.heap.size = g11 at *
        clear hV11 hg11
        have x0_11c0 := x0_11.cell 0
        have x0_11c1 := x0_11.cell 1
        simp only [List.getElem?_toArray, List.getElem?_cons_zero, List.getElem?_cons_succ] at x0_11c0 x0_11c1
        have x0_11l := x0_11.lt
        have x1_11c0 := x1_11.cell 0
        have x1_11c1 := x1_11.cell 1
        simp only [List.getElem?_toArray, List.getElem?_cons_zero, List.getElem?_cons_succ] at x1_11c0 x1_11c1
        have x1_11l := x1_11.lt
        have a_11c0 := a_11.cell 0
        have a_11c1 := a_11.cell 1
        simp only [List.getElem?_toArray, List.getElem?_cons_zero, List.getElem?_cons_succ] at a_11c0 a_11c1
        have a_11l := a_11.lt
        have b_11c0 := b_11.cell 0
        have b_11c1 := b_11.cell 1
        simp only [List.getElem?_toArray, List.getElem?_cons_zero, List.getElem?_cons_succ] at b_11c0 b_11c1
        have b_11l := b_11.lt
        have c_11c0 := c_11.cell 0
        have c_11c1 := c_11.cell 1
        have c_11c2 := c_11.cell 2
        have c_11c3 := c_11.cell 3
        simp only [List.getElem?_toArray, List.getElem?_cons_zero, List.getElem?_cons_succ] at c_11c0 c_11c1 c_11c2 c_11c3
        have c_11l := c_11.lt
        have d_11c0 := d_11.cell 0
        have d_11c1 := d_11.cell 1
        have d_11c2 := d_11.cell 2
        have d_11c3 := d_11.cell 3
        simp only [List.getElem?_toArray, List.getElem?_cons_zero, List.getElem?_cons_succ] at d_11c0 d_11c1 d_11c2 d_11c3
        have d_11l := d_11.lt
        by_cases hve : ve = 0
        case neg =>
          have hv1 : (ve == 0) = false := by simpa using hve
          have hv2 : (ve != 0) = true := by simpa using hve
          go_wp2
          go_ret
          exact ⟨by simp, B11a⟩
        by_cases hre : re = 0 ∨ re = 5
        case neg =>
          have hv1 : (re == 0) = false := by simp; omega
          have hv2 : (re != 0) = true := by simp; omega
          have hv3 : (re != 5) = true := by simp; omega
          subst hve
          go_wp2
          go_ret
          exact ⟨by simp, B11a⟩
        have P3 := HK.out.P3 hve hre
        have P4 := HK.out.P4 hve
        obtain ⟨p1, p2, p3, p4⟩ := HK.out.P5 hve hre
        subst hve
        rcases hre with rfl | rfl
        · have HL1 := Lib.hid (P4 rfl).1
          have HL2 := Lib.hid (P4 rfl).2
          clear P4
          cases l1
          case false =>
            cases l2
            case false =>
              obtain ⟨m1, m2⟩ := P3.2 ⟨rfl, rfl, rfl⟩
              clear P3
              have B12 := B11a
              have B12a := B12.alloc B12.size (.cells #[.int .i64 x, .int .i64 1] 30)
              go_wp2_with fail
              refine (HL1.out _).mono ?_; rintro e w12 ⟨rfl, hb12⟩
              clear x0_11c0 x0_11c1 x0_11l x1_11c0 x1_11c1 x1_11l a_11c0 a_11c1 a_11l b_11c0 b_11c1 b_11l c_11c0 c_11c1 c_11c2 c_11c3 c_11l d_11c0 d_11c1 d_11c2 d_11c3 d_11l
              have x0_12 := (x0_11.alloc (.cells #[.int .i64 x, .int .i64 1] 30)).below hb12
              have x1_12 := (x1_11.alloc (.cells #[.int .i64 x, .int .i64 1] 30)).below hb12
              have a_12 := (a_11.alloc (.cells #[.int .i64 x, .int .i64 1] 30)).below hb12
              have b_12 := (b_11.alloc (.cells #[.int .i64 x, .int .i64 1] 30)).below hb12
              have c_12 := (c_11.alloc (.cells #[.int .i64 x, .int .i64 1] 30)).below hb12
              have d_12 := (d_11.alloc (.cells #[.int .i64 x, .int .i64 1] 30)).below hb12
              clear x0_11 x1_11 a_11 b_11 c_11 d_11
              have at_12 := (Blk.new V11 30 #[.int .i64 x, .int .i64 1]).below hb12
              have x0_12c0 := x0_12.cell 0
              have x0_12c1 := x0_12.cell 1
              simp only [List.getElem?_toArray, List.getElem?_cons_zero, List.getElem?_cons_succ] at x0_12c0 x0_12c1
              have x0_12l := x0_12.lt
              have x1_12c0 := x1_12.cell 0
              have x1_12c1 := x1_12.cell 1
              simp only [List.getElem?_toArray, List.getElem?_cons_zero, List.getElem?_cons_succ] at x1_12c0 x1_12c1
              have x1_12l := x1_12.lt
              have a_12c0 := a_12.cell 0
              have a_12c1 := a_12.cell 1
              simp only [List.getElem?_toArray, List.getElem?_cons_zero, List.getElem?_cons_succ] at a_12c0 a_12c1
              have a_12l := a_12.lt
              have b_12c0 := b_12.cell 0
              have b_12c1 := b_12.cell 1
              simp only [List.getElem?_toArray, List.getElem?_cons_zero, List.getElem?_cons_succ] at b_12c0 b_12c1
              have b_12l := b_12.lt
              have c_12c0 := c_12.cell 0
              have c_12c1 := c_12.cell 1
              have c_12c2 := c_12.cell 2
              have c_12c3 := c_12.cell 3
              simp only [List.getElem?_toArray, List.getElem?_cons_zero, List.getElem?_cons_succ] at c_12c0 c_12c1 c_12c2 c_12c3
              have c_12l := c_12.lt
              have d_12c0 := d_12.cell 0
              have d_12c1 := d_12.cell 1
              have d_12c2 := d_12.cell 2
              have d_12c3 := d_12.cell 3
              simp only [List.getElem?_toArray, List.getElem?_cons_zero, List.getElem?_cons_succ] at d_12c0 d_12c1 d_12c2 d_12c3
              have d_12l := d_12.lt
              have at_12c0 := at_12.cell 0
              have at_12c1 := at_12.cell 1
              simp only [List.getElem?_toArray, List.getElem?_cons_zero, List.getElem?_cons_succ] at at_12c0 at_12c1
              have at_12l := at_12.lt
              have B13 := B12a.trans (hb12.mono B12a.size)
              go_wp2_with fail
              refine (HL2.out _).mono ?_; rintro e w13 ⟨rfl, hb13⟩
              clear x0_12c0 x0_12c1 x0_12l x1_12c0 x1_12c1 x1_12l a_12c0 a_12c1 a_12l b_12c0 b_12c1 b_12l c_12c0 c_12c1 c_12c2 c_12c3 c_12l d_12c0 d_12c1 d_12c2 d_12c3 d_12l at_12c0 at_12c1 at_12l
              have x0_13 := x0_12.below hb13
              have x1_13 := x1_12.below hb13
              have a_13 := a_12.below hb13
              have b_13 := b_12.below hb13
              have c_13 := c_12.below hb13
              have d_13 := d_12.below hb13
              have at_13 := at_12.below hb13
              clear x0_12 x1_12 a_12 b_12 c_12 d_12 at_12
              have x0_13c0 := x0_13.cell 0
              have x0_13c1 := x0_13.cell 1
              simp only [List.getElem?_toArray, List.getElem?_cons_zero, List.getElem?_cons_succ] at x0_13c0 x0_13c1
              have x0_13l := x0_13.lt
              have x1_13c0 := x1_13.cell 0
              have x1_13c1 := x1_13.cell 1
              simp only [List.getElem?_toArray, List.getElem?_cons_zero, List.getElem?_cons_succ] at x1_13c0 x1_13c1
              have x1_13l := x1_13.lt
              have a_13c0 := a_13.cell 0
              have a_13c1 := a_13.cell 1
              simp only [List.getElem?_toArray, List.getElem?_cons_zero, List.getElem?_cons_succ] at a_13c0 a_13c1
              have a_13l := a_13.lt
              have b_13c0 := b_13.cell 0
              have b_13c1 := b_13.cell 1
              simp only [List.getElem?_toArray, List.getElem?_cons_zero, List.getElem?_cons_succ] at b_13c0 b_13c1
              have b_13l := b_13.lt
              have c_13c0 := c_13.cell 0
              have c_13c1 := c_13.cell 1
              have c_13c2 := c_13.cell 2
              have c_13c3 := c_13.cell 3
              simp only [List.getElem?_toArray, List.getElem?_cons_zero, List.getElem?_cons_succ] at c_13c0 c_13c1 c_13c2 c_13c3
              have c_13l := c_13.lt
              have d_13c0 := d_13.cell 0
              have d_13c1 := d_13.cell 1
              have d_13c2 := d_13.cell 2
              have d_13c3 := d_13.cell 3
              simp only [List.getElem?_toArray, List.getElem?_cons_zero, List.getElem?_cons_succ] at d_13c0 d_13c1 d_13c2 d_13c3
              have d_13l := d_13.lt
              have at_13c0 := at_13.cell 0
              have at_13c1 := at_13.cell 1
              simp only [List.getElem?_toArray, List.getElem?_cons_zero, List.getElem?_cons_succ] at at_13c0 at_13c1
              have at_13l := at_13.lt
              go_wp2
              go_ret
              exact ⟨by simp, B13.trans (hb13.mono B13.size)⟩
            case true =>
              have m3 : ¬ (a1 ≤ hi * a2 ∧ lo * b2 ≤ b1) := fun c => by have := P3.1 c; simp at this
              clear P3
              by_cases m1 : a1 ≤ hi * a2
              · have m2 : ¬ lo * b2 ≤ b1 := fun c => m3 ⟨m1, c⟩
                clear m3
                have B12 := B11a
                have B12a := B12.alloc B12.size (.cells #[.int .i64 x, .int .i64 1] 30)
                go_wp2_with fail
                refine (HL1.out _).mono ?_; rintro e w12 ⟨rfl, hb12⟩
                clear x0_11c0 x0_11c1 x0_11l x1_11c0 x1_11c1 x1_11l a_11c0 a_11c1 a_11l b_11c0 b_11c1 b_11l c_11c0 c_11c1 c_11c2 c_11c3 c_11l d_11c0 d_11c1 d_11c2 d_11c3 d_11l
                have x0_12 := (x0_11.alloc (.cells #[.int .i64 x, .int .i64 1] 30)).below hb12
                have x1_12 := (x1_11.alloc (.cells #[.int .i64 x, .int .i64 1] 30)).below hb12
                have a_12 := (a_11.alloc (.cells #[.int .i64 x, .int .i64 1] 30)).below hb12
                have b_12 := (b_11.alloc (.cells #[.int .i64 x, .int .i64 1] 30)).below hb12
                have c_12 := (c_11.alloc (.cells #[.int .i64 x, .int .i64 1] 30)).below hb12
                have d_12 := (d_11.alloc (.cells #[.int .i64 x, .int .i64 1] 30)).below hb12
                clear x0_11 x1_11 a_11 b_11 c_11 d_11
                have at_12 := (Blk.new V11 30 #[.int .i64 x, .int .i64 1]).below hb12
                have x0_12c0 := x0_12.cell 0
                have x0_12c1 := x0_12.cell 1
                simp only [List.getElem?_toArray, List.getElem?_cons_zero, List.getElem?_cons_succ] at x0_12c0 x0_12c1
                have x0_12l := x0_12.lt
                have x1_12c0 := x1_12.cell 0
                have x1_12c1 := x1_12.cell 1
                simp only [List.getElem?_toArray, List.getElem?_cons_zero, List.getElem?_cons_succ] at x1_12c0 x1_12c1
                have x1_12l := x1_12.lt
                have a_12c0 := a_12.cell 0
                have a_12c1 := a_12.cell 1
                simp only [List.getElem?_toArray, List.getElem?_cons_zero, List.getElem?_cons_succ] at a_12c0 a_12c1
                have a_12l := a_12.lt
                have b_12c0 := b_12.cell 0
                have b_12c1 := b_12.cell 1
                simp only [List.getElem?_toArray, List.getElem?_cons_zero, List.getElem?_cons_succ] at b_12c0 b_12c1
                have b_12l := b_12.lt
                have c_12c0 := c_12.cell 0
                have c_12c1 := c_12.cell 1
                have c_12c2 := c_12.cell 2
                have c_12c3 := c_12.cell 3
                simp only [List.getElem?_toArray, List.getElem?_cons_zero, List.getElem?_cons_succ] at c_12c0 c_12c1 c_12c2 c_12c3
                have c_12l := c_12.lt
                have d_12c0 := d_12.cell 0
                have d_12c1 := d_12.cell 1
                have d_12c2 := d_12.cell 2
                have d_12c3 := d_12.cell 3
                simp only [List.getElem?_toArray, List.getElem?_cons_zero, List.getElem?_cons_succ] at d_12c0 d_12c1 d_12c2 d_12c3
                have d_12l := d_12.lt
                have at_12c0 := at_12.cell 0
                have at_12c1 := at_12.cell 1
                simp only [List.getElem?_toArray, List.getElem?_cons_zero, List.getElem?_cons_succ] at at_12c0 at_12c1
                have at_12l := at_12.lt
                have B13 := B12a.trans (hb12.mono B12a.size)
                go_wp2_with fail
                refine (HL2.out _).mono ?_; rintro e w13 ⟨rfl, hb13⟩
                clear x0_12c0 x0_12c1 x0_12l x1_12c0 x1_12c1 x1_12l a_12c0 a_12c1 a_12l b_12c0 b_12c1 b_12l c_12c0 c_12c1 c_12c2 c_12c3 c_12l d_12c0 d_12c1 d_12c2 d_12c3 d_12l at_12c0 at_12c1 at_12l
                have x0_13 := x0_12.below hb13
                have x1_13 := x1_12.below hb13
                have a_13 := a_12.below hb13
                have b_13 := b_12.below hb13
                have c_13 := c_12.below hb13
                have d_13 := d_12.below hb13
                have at_13 := at_12.below hb13
                clear x0_12 x1_12 a_12 b_12 c_12 d_12 at_12
                have x0_13c0 := x0_13.cell 0
                have x0_13c1 := x0_13.cell 1
                simp only [List.getElem?_toArray, List.getElem?_cons_zero, List.getElem?_cons_succ] at x0_13c0 x0_13c1
                have x0_13l := x0_13.lt
                have x1_13c0 := x1_13.cell 0
                have x1_13c1 := x1_13.cell 1
                simp only [List.getElem?_toArray, List.getElem?_cons_zero, List.getElem?_cons_succ] at x1_13c0 x1_13c1
                have x1_13l := x1_13.lt
                have a_13c0 := a_13.cell 0
                have a_13c1 := a_13.cell 1
                simp only [List.getElem?_toArray, List.getElem?_cons_zero, List.getElem?_cons_succ] at a_13c0 a_13c1
                have a_13l := a_13.lt
                have b_13c0 := b_13.cell 0
                have b_13c1 := b_13.cell 1
                simp only [List.getElem?_toArray, List.getElem?_cons_zero, List.getElem?_cons_succ] at b_13c0 b_13c1
                have b_13l := b_13.lt
                have c_13c0 := c_13.cell 0
                have c_13c1 := c_13.cell 1
                have c_13c2 := c_13.cell 2
                have c_13c3 := c_13.cell 3
                simp only [List.getElem?_toArray, List.getElem?_cons_zero, List.getElem?_cons_succ] at c_13c0 c_13c1 c_13c2 c_13c3
                have c_13l := c_13.lt
                have d_13c0 := d_13.cell 0
                have d_13c1 := d_13.cell 1
                have d_13c2 := d_13.cell 2
                have d_13c3 := d_13.cell 3
                simp only [List.getElem?_toArray, List.getElem?_cons_zero, List.getElem?_cons_succ] at d_13c0 d_13c1 d_13c2 d_13c3
                have d_13l := d_13.lt
                have at_13c0 := at_13.cell 0
                have at_13c1 := at_13.cell 1
                simp only [List.getElem?_toArray, List.getElem?_cons_zero, List.getElem?_cons_succ] at at_13c0 at_13c1
                have at_13l := at_13.lt
                go_wp2
                go_ret
                exact ⟨by simp, B13.trans (hb13.mono B13.size)⟩
              · have m2 := m1
                clear m3
                have B12 := B11a
                have B12a := B12.alloc B12.size (.cells #[.int .i64 x, .int .i64 1] 30)
                go_wp2_with fail
                refine (HL1.out _).mono ?_; rintro e w12 ⟨rfl, hb12⟩
                clear x0_11c0 x0_11c1 x0_11l x1_11c0 x1_11c1 x1_11l a_11c0 a_11c1 a_11l b_11c0 b_11c1 b_11l c_11c0 c_11c1 c_11c2 c_11c3 c_11l d_11c0 d_11c1 d_11c2 d_11c3 d_11l
                have x0_12 := (x0_11.alloc (.cells #[.int .i64 x, .int .i64 1] 30)).below hb12
                have x1_12 := (x1_11.alloc (.cells #[.int .i64 x, .int .i64 1] 30)).below hb12
                have a_12 := (a_11.alloc (.cells #[.int .i64 x, .int .i64 1] 30)).below hb12
                have b_12 := (b_11.alloc (.cells #[.int .i64 x, .int .i64 1] 30)).below hb12
                have c_12 := (c_11.alloc (.cells #[.int .i64 x, .int .i64 1] 30)).below hb12
                have d_12 := (d_11.alloc (.cells #[.int .i64 x, .int .i64 1] 30)).below hb12
                clear x0_11 x1_11 a_11 b_11 c_11 d_11
                have at_12 := (Blk.new V11 30 #[.int .i64 x, .int .i64 1]).below hb12
                have x0_12c0 := x0_12.cell 0
                have x0_12c1 := x0_12.cell 1
                simp only [List.getElem?_toArray, List.getElem?_cons_zero, List.getElem?_cons_succ] at x0_12c0 x0_12c1
                have x0_12l := x0_12.lt
                have x1_12c0 := x1_12.cell 0
                have x1_12c1 := x1_12.cell 1
                simp only [List.getElem?_toArray, List.getElem?_cons_zero, List.getElem?_cons_succ] at x1_12c0 x1_12c1
                have x1_12l := x1_12.lt
                have a_12c0 := a_12.cell 0
                have a_12c1 := a_12.cell 1
                simp only [List.getElem?_toArray, List.getElem?_cons_zero, List.getElem?_cons_succ] at a_12c0 a_12c1
                have a_12l := a_12.lt
                have b_12c0 := b_12.cell 0
                have b_12c1 := b_12.cell 1
                simp only [List.getElem?_toArray, List.getElem?_cons_zero, List.getElem?_cons_succ] at b_12c0 b_12c1
                have b_12l := b_12.lt
                have c_12c0 := c_12.cell 0
                have c_12c1 := c_12.cell 1
                have c_12c2 := c_12.cell 2
                have c_12c3 := c_12.cell 3
                simp only [List.getElem?_toArray, List.getElem?_cons_zero, List.getElem?_cons_succ] at c_12c0 c_12c1 c_12c2 c_12c3
                have c_12l := c_12.lt
                have d_12c0 := d_12.cell 0
                have d_12c1 := d_12.cell 1
                have d_12c2 := d_12.cell 2
                have d_12c3 := d_12.cell 3
                simp only [List.getElem?_toArray, List.getElem?_cons_zero, List.getElem?_cons_succ] at d_12c0 d_12c1 d_12c2 d_12c3
                have d_12l := d_12.lt
                have at_12c0 := at_12.cell 0
                have at_12c1 := at_12.cell 1
                simp only [List.getElem?_toArray, List.getElem?_cons_zero, List.getElem?_cons_succ] at at_12c0 at_12c1
                have at_12l := at_12.lt
                have B13 := B12a.trans (hb12.mono B12a.size)
                go_wp2_with fail
                refine (HL2.out _).mono ?_; rintro e w13 ⟨rfl, hb13⟩
                clear x0_12c0 x0_12c1 x0_12l x1_12c0 x1_12c1 x1_12l a_12c0 a_12c1 a_12l b_12c0 b_12c1 b_12l c_12c0 c_12c1 c_12c2 c_12c3 c_12l d_12c0 d_12c1 d_12c2 d_12c3 d_12l at_12c0 at_12c1 at_12l
                have x0_13 := x0_12.below hb13
                have x1_13 := x1_12.below hb13
                have a_13 := a_12.below hb13
                have b_13 := b_12.below hb13
                have c_13 := c_12.below hb13
                have d_13 := d_12.below hb13
                have at_13 := at_12.below hb13
                clear x0_12 x1_12 a_12 b_12 c_12 d_12 at_12
                have x0_13c0 := x0_13.cell 0
                have x0_13c1 := x0_13.cell 1
                simp only [List.getElem?_toArray, List.getElem?_cons_zero, List.getElem?_cons_succ] at x0_13c0 x0_13c1
                have x0_13l := x0_13.lt
                have x1_13c0 := x1_13.cell 0
                have x1_13c1 := x1_13.cell 1
                simp only [List.getElem?_toArray, List.getElem?_cons_zero, List.getElem?_cons_succ] at x1_13c0 x1_13c1
                have x1_13l := x1_13.lt
                have a_13c0 := a_13.cell 0
                have a_13c1 := a_13.cell 1
                simp only [List.getElem?_toArray, List.getElem?_cons_zero, List.getElem?_cons_succ] at a_13c0 a_13c1
                have a_13l := a_13.lt
                have b_13c0 := b_13.cell 0
                have b_13c1 := b_13.cell 1
                simp only [List.getElem?_toArray, List.getElem?_cons_zero, List.getElem?_cons_succ] at b_13c0 b_13c1
                have b_13l := b_13.lt
                have c_13c0 := c_13.cell 0
                have c_13c1 := c_13.cell 1
                have c_13c2 := c_13.cell 2
                have c_13c3 := c_13.cell 3
                simp only [List.getElem?_toArray, List.getElem?_cons_zero, List.getElem?_cons_succ] at c_13c0 c_13c1 c_13c2 c_13c3
                have c_13l := c_13.lt
                have d_13c0 := d_13.cell 0
                have d_13c1 := d_13.cell 1
                have d_13c2 := d_13.cell 2
                have d_13c3 := d_13.cell 3
                simp only [List.getElem?_toArray, List.getElem?_cons_zero, List.getElem?_cons_succ] at d_13c0 d_13c1 d_13c2 d_13c3
                have d_13l := d_13.lt
                have at_13c0 := at_13.cell 0
                have at_13c1 := at_13.cell 1
                simp only [List.getElem?_toArray, List.getElem?_cons_zero, List.getElem?_cons_succ] at at_13c0 at_13c1
                have at_13l := at_13.lt
                go_wp2
                go_ret
                exact ⟨by simp, B13.trans (hb13.mono B13.size)⟩
          case true =>
            have m3 : ¬ (a1 ≤ hi * a2 ∧ lo * b2 ≤ b1) := fun c => by have := P3.1 c; simp at this
            clear P3
            by_cases m1 : a1 ≤ hi * a2
            · have m2 : ¬ lo * b2 ≤ b1 := fun c => m3 ⟨m1, c⟩
              clear m3
              have B12 := B11a
              have B12a := B12.alloc B12.size (.cells #[.int .i64 x, .int .i64 1] 30)
              go_wp2_with fail
              refine (HL1.out _).mono ?_; rintro e w12 ⟨rfl, hb12⟩
              clear x0_11c0 x0_11c1 x0_11l x1_11c0 x1_11c1 x1_11l a_11c0 a_11c1 a_11l b_11c0 b_11c1 b_11l c_11c0 c_11c1 c_11c2 c_11c3 c_11l d_11c0 d_11c1 d_11c2 d_11c3 d_11l
              have x0_12 := (x0_11.alloc (.cells #[.int .i64 x, .int .i64 1] 30)).below hb12
              have x1_12 := (x1_11.alloc (.cells #[.int .i64 x, .int .i64 1] 30)).below hb12
              have a_12 := (a_11.alloc (.cells #[.int .i64 x, .int .i64 1] 30)).below hb12
              have b_12 := (b_11.alloc (.cells #[.int .i64 x, .int .i64 1] 30)).below hb12
              have c_12 := (c_11.alloc (.cells #[.int .i64 x, .int .i64 1] 30)).below hb12
              have d_12 := (d_11.alloc (.cells #[.int .i64 x, .int .i64 1] 30)).below hb12
              clear x0_11 x1_11 a_11 b_11 c_11 d_11
              have at_12 := (Blk.new V11 30 #[.int .i64 x, .int .i64 1]).below hb12
              have x0_12c0 := x0_12.cell 0
              have x0_12c1 := x0_12.cell 1
              simp only [List.getElem?_toArray, List.getElem?_cons_zero, List.getElem?_cons_succ] at x0_12c0 x0_12c1
              have x0_12l := x0_12.lt
              have x1_12c0 := x1_12.cell 0
              have x1_12c1 := x1_12.cell 1
              simp only [List.getElem?_toArray, List.getElem?_cons_zero, List.getElem?_cons_succ] at x1_12c0 x1_12c1
              have x1_12l := x1_12.lt
              have a_12c0 := a_12.cell 0
              have a_12c1 := a_12.cell 1
              simp only [List.getElem?_toArray, List.getElem?_cons_zero, List.getElem?_cons_succ] at a_12c0 a_12c1
              have a_12l := a_12.lt
              have b_12c0 := b_12.cell 0
              have b_12c1 := b_12.cell 1
              simp only [List.getElem?_toArray, List.getElem?_cons_zero, List.getElem?_cons_succ] at b_12c0 b_12c1
              have b_12l := b_12.lt
              have c_12c0 := c_12.cell 0
              have c_12c1 := c_12.cell 1
              have c_12c2 := c_12.cell 2
              have c_12c3 := c_12.cell 3
              simp only [List.getElem?_toArray, List.getElem?_cons_zero, List.getElem?_cons_succ] at c_12c0 c_12c1 c_12c2 c_12c3
              have c_12l := c_12.lt
              have d_12c0 := d_12.cell 0
              have d_12c1 := d_12.cell 1
              have d_12c2 := d_12.cell 2
              have d_12c3 := d_12.cell 3
              simp only [List.getElem?_toArray, List.getElem?_cons_zero, List.getElem?_cons_succ] at d_12c0 d_12c1 d_12c2 d_12c3
              have d_12l := d_12.lt
              have at_12c0 := at_12.cell 0
              have at_12c1 := at_12.cell 1
              simp only [List.getElem?_toArray, List.getElem?_cons_zero, List.getElem?_cons_succ] at at_12c0 at_12c1
              have at_12l := at_12.lt
              go_wp2
              go_ret
              exact ⟨by simp, B12a.trans (hb12.mono B12a.size)⟩
            · have m2 := m1
              clear m3
              have B12 := B11a
              have B12a := B12.alloc B12.size (.cells #[.int .i64 x, .int .i64 1] 30)
              go_wp2_with fail
              refine (HL1.out _).mono ?_; rintro e w12 ⟨rfl, hb12⟩
              clear x0_11c0 x0_11c1 x0_11l x1_11c0 x1_11c1 x1_11l a_11c0 a_11c1 a_11l b_11c0 b_11c1 b_11l c_11c0 c_11c1 c_11c2 c_11c3 c_11l d_11c0 d_11c1 d_11c2 d_11c3 d_11l
              have x0_12 := (x0_11.alloc (.cells #[.int .i64 x, .int .i64 1] 30)).below hb12
              have x1_12 := (x1_11.alloc (.cells #[.int .i64 x, .int .i64 1] 30)).below hb12
              have a_12 := (a_11.alloc (.cells #[.int .i64 x, .int .i64 1] 30)).below hb12
              have b_12 := (b_11.alloc (.cells #[.int .i64 x, .int .i64 1] 30)).below hb12
              have c_12 := (c_11.alloc (.cells #[.int .i64 x, .int .i64 1] 30)).below hb12
              have d_12 := (d_11.alloc (.cells #[.int .i64 x, .int .i64 1] 30)).below hb12
              clear x0_11 x1_11 a_11 b_11 c_11 d_11
              have at_12 := (Blk.new V11 30 #[.int .i64 x, .int .i64 1]).below hb12
              have x0_12c0 := x0_12.cell 0
              have x0_12c1 := x0_12.cell 1
              simp only [List.getElem?_toArray, List.getElem?_cons_zero, List.getElem?_cons_succ] at x0_12c0 x0_12c1
              have x0_12l := x0_12.lt
              have x1_12c0 := x1_12.cell 0
              have x1_12c1 := x1_12.cell 1
              simp only [List.getElem?_toArray, List.getElem?_cons_zero, List.getElem?_cons_succ] at x1_12c0 x1_12c1
              have x1_12l := x1_12.lt
              have a_12c0 := a_12.cell 0
              have a_12c1 := a_12.cell 1
              simp only [List.getElem?_toArray, List.getElem?_cons_zero, List.getElem?_cons_succ] at a_12c0 a_12c1
              have a_12l := a_12.lt
              have b_12c0 := b_12.cell 0
              have b_12c1 := b_12.cell 1
              simp only [List.getElem?_toArray, List.getElem?_cons_zero, List.getElem?_cons_succ] at b_12c0 b_12c1
              have b_12l := b_12.lt
              have c_12c0 := c_12.cell 0
              have c_12c1 := c_12.cell 1
              have c_12c2 := c_12.cell 2
              have c_12c3 := c_12.cell 3
              simp only [List.getElem?_toArray, List.getElem?_cons_zero, List.getElem?_cons_succ] at c_12c0 c_12c1 c_12c2 c_12c3
              have c_12l := c_12.lt
              have d_12c0 := d_12.cell 0
              have d_12c1 := d_12.cell 1
              have d_12c2 := d_12.cell 2
              have d_12c3 := d_12.cell 3
              simp only [List.getElem?_toArray, List.getElem?_cons_zero, List.getElem?_cons_succ] at d_12c0 d_12c1 d_12c2 d_12c3
              have d_12l := d_12.lt
              have at_12c0 := at_12.cell 0
              have at_12c1 := at_12.cell 1
              simp only [List.getElem?_toArray, List.getElem?_cons_zero, List.getElem?_cons_succ] at at_12c0 at_12c1
              have at_12l := at_12.lt
              go_wp2
              go_ret
              exact ⟨by simp, B12a.trans (hb12.mono B12a.size)⟩
        · have m3 : ¬ (a1 ≤ hi * a2 ∧ lo * b2 ≤ b1) := fun c => by have := P3.1 c; simp at this
          clear P3 P4
          by_cases m1 : a1 ≤ hi * a2
          · have m2 : ¬ lo * b2 ≤ b1 := fun c => m3 ⟨m1, c⟩
            clear m3
            go_wp2
            go_ret
            exact ⟨by simp, (B11a).alloc (B11a).size _⟩
          · have m2 := m1
            clear m3
            go_wp2
            go_ret
            exact ⟨by simp, (B11a).alloc (B11a).size _⟩

theorem curveInverts_walk (A : Option Addr) (n cap : Nat) (err : Int) (ks : List (Int × Int)) (y z lo hi x : Int) (w : World) (h : CAt w A n ks) (hm : n ≤ 9223372036854775807) (hlo : -9223372036854775808 ≤ lo ∧ lo ≤ 9223372036854775807) (hhi : -9223372036854775808 ≤ hi ∧ hi ≤ 9223372036854775807) :
    Calls Try.prog 10 #[vCv A n cap err, .int .i64 y, .int .i64 z, vSpan lo hi, .int .i64 x] w fun e w' => e = .returned (.bool true) ∧ Below w.heap.size w w' := by
  by_cases hn : n ≤ 60
  · by_cases hc : check ks err = 0
    · by_cases hr : risingI ks = 0
      · exact curveInverts_dead A n cap err ks y z lo hi x w h hm (.inr (.inr hr))
      · exact curveInverts_main A n cap err ks y z lo hi x _ _ _ _ _ _ _ _ _ _ _ _ _ _ _ _ _ _ _ w h hm hn hr (ivOk A n cap err ks y z lo hi x hm hlo hhi hc hr)
    · exact curveInverts_dead A n cap err ks y z lo hi x w h hm (.inr (.inl hc))
  · exact curveInverts_dead A n cap err ks y z lo hi x w h hm (.inl (by omega))


set_option maxRecDepth 100000 in
theorem curveInverts_lifted (os : Os) (started : os.Started) (H : Type) (enc : TypeId × Value → H) :
    ReturnsInHanded Rows.curveInvertsRow.assume Try.checked os 10 .any (Rows.curveInvertsSpec.pre6 enc Try.prog Try.f10 Rows.curveInvertsRow.domain false) (Rows.curveInvertsSpec.post enc Try.prog Try.f10 false Rows.curveInvertsRow.fresh Rows.curveInvertsRow.handsOn Rows.curveInvertsRow.again) := by
  refine returnsInHanded_of_change (C := Try.checked) (by kernel_rfl) started (by kernel_rfl) Try.func10
    (ChangeSpec.witness6 (enc := enc) (C := Try.checked) false ⟨#[], #[vCv none 0 0 0, .int .i64 0, .int .i64 0, vSpan 0 0, .int .i64 0], []⟩ 8 (by kernel_rfl) (by kernel_rfl) (by kernel_rfl) (by kernel_rfl)) ?_
  intro W base args ds gs before hval0 hW hcnd _
  have hval : ∀ (j : Nat) t v, Try.f10.params[j]? = some t → args[j]? = some v → Value.okWide Try.prog W .any base t v := hval0
  have hW' := hW
  obtain ⟨p, q, hA0, hV, rfl, hfz, hnd⟩ := hW
  obtain ⟨rfl, rfl⟩ := trodVars_none hV
  have hA : DataW.TrodAll enc Try.prog W 0 (fun _ => true) true [24, 3, 3, 26, 3] args.toList ds p := hA0
  obtain ⟨v0, v1, v2, v3, v4, d0, d1, d2, d3, d4, p0, p1, p2, p3, p4, rfl, rfl, rfl, h0, h1, h2, h3, h4⟩ := trodAll_five hA
  obtain ⟨A, n, cap, err, ks, rfl, hC, hm, _, _, rfl⟩ := open_cv (hval 0 24 v0 rfl rfl) h0
  obtain ⟨y, rfl, rfl, rfl, _⟩ := open_int Try.underlying3 (hval 1 3 v1 rfl rfl) h1
  obtain ⟨z, rfl, rfl, rfl, _⟩ := open_int Try.underlying3 (hval 2 3 v2 rfl rfl) h2
  obtain ⟨lo, hi, rfl, hlo, hhi, _, rfl⟩ := open_sp (hval 3 26 v3 rfl rfl) h3
  obtain ⟨x, rfl, rfl, rfl, _⟩ := open_int Try.underlying3 (hval 4 3 v4 rfl rfl) h4
  refine (curveInverts_walk A n cap err ks y z lo hi x W hC hm hlo hhi).mono fun e W' ⟨he, hb⟩ => ⟨_, he, law_post laid_out (by kernel_rfl) rfl Try.underlying4 rfl hW' rfl rfl rfl hb⟩

theorem curveInverts : Rows.CurveInvertsSaid :=
  OpenClaim.holds_of_wide 10 Try.f10 rfl rfl rfl rfl rfl rfl rfl ⟨rfl, rfl, rfl, rfl, rfl⟩ rfl rfl rfl rfl rfl (by kernel_rfl) Try.func10 (by kernel_rfl)
    (of_decide_eq_true (by kernel_rfl)) (by unfold Func.isWrapper; first | (rw [if_pos (by decide +kernel)]; kernel_rfl) | (rw [if_neg (by decide +kernel)]; exact ⟨rfl, rfl⟩))
    (fun os started H enc _ => curveInverts_lifted os started H enc)
#print axioms curveInverts

end Go.Proofs.Ytipablcbkoedbaa
