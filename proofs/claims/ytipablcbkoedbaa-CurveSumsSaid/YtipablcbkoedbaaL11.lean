/- CurveSums is proved: for every two curves the program's Add and Minus answer as the reference implementation does. No condition. -/
import Derived.WalkKit
import Derived.WalkLawsBesides
import Derived.Deep.QuietTactic
import Derived.BigQuiet
import Derived.RegionTactic
import Derived.Lib.Hide
import Derived.Outline
import Derived.WalkSmall
import Derived.Lib.SmallJoins
import Derived.Deep.DeepCutAuto
import Derived.Test.YtipablcbkoedbaaProg
import Derived.Test.YtipablcbkoedbaaS3
import Derived.Test.YtipablcbkoedbaaF3
import Derived.Test.YtipablcbkoedbaaRow2
namespace Go.Proofs.Ytipablcbkoedbaa
open Go.RowKit Go.WideShapes Go.ChangeShapes Go.Joins

set_option maxRecDepth 100000 in
set_option maxHeartbeats 6400000 in
theorem curveSums_walk (A A' : Option Addr) (n cap n' cap' : Nat) (err err' : Int) (ks ks' : List (Int × Int)) (w : World) (h : CAt w A n ks) (hm : n ≤ 9223372036854775807) (h' : CAt w A' n' ks') (hm' : n' ≤ 9223372036854775807) :
    Calls Try.prog 12 #[vCv A n cap err, vCv A' n' cap' err'] w fun e w' => e = .returned (.bool true) ∧ Below w.heap.size w w' := by
  have HH := Lib.hid head_any
  have HA := Lib.hid h
  have HA' := Lib.hid h'
  by_cases hn : n ≤ 60
  case neg =>
    have HF := Lib.hid (fun W => calls_val (few_any A n cap err W hm) (v' := .bool false) (by rw [decide_eq_false hn]))
    clear h h'
    generalize hW : (w.alloc (.cells #[.slice A n cap, .int .i64 err] 24)).alloc (.cells #[.slice A' n' cap', .int .i64 err'] 24) = W
    have B0 : Below w.heap.size w W := by rw [← hW]; exact (((Below.refl w.heap.size w).alloc (Nat.le_refl _) _).alloc (by simp) _)
    have x0_0 : Blk W w.heap.size 24 #[.slice A n cap, .int .i64 err] := by rw [← hW]; exact ((Blk.at_new _ _ rfl).alloc _)
    have x1_0 : Blk W (w.heap.size + 1) 24 #[.slice A' n' cap', .int .i64 err'] := by rw [← hW]; exact (Blk.at_new _ _ (by simp))
    have HWE := Lib.hid hW
    clear hW
    go_enter Try.func12, Try.ntmps12
    have B1 := B0
    go_wp2_with fail
    rw [HWE.out]
    refine (HH.out _).mono ?_; rintro e w1 ⟨rfl, hb1⟩
    have x0_1 := x0_0.below hb1
    have x1_1 := x1_0.below hb1
    clear x0_0 x1_0
    have x0_1c0 := x0_1.cell 0
    have x0_1c1 := x0_1.cell 1
    simp only [List.getElem?_toArray, List.getElem?_cons_zero, List.getElem?_cons_succ] at x0_1c0 x0_1c1
    have x0_1l := x0_1.lt
    have x1_1c0 := x1_1.cell 0
    have x1_1c1 := x1_1.cell 1
    simp only [List.getElem?_toArray, List.getElem?_cons_zero, List.getElem?_cons_succ] at x1_1c0 x1_1c1
    have x1_1l := x1_1.lt
    have B2 := B1.trans (hb1.mono B1.size)
    go_wp2_with fail
    refine (HF.out _).mono ?_; rintro e w2 ⟨rfl, hb2⟩
    clear x0_1c0 x0_1c1 x0_1l x1_1c0 x1_1c1 x1_1l
    have x0_2 := x0_1.below hb2
    have x1_2 := x1_1.below hb2
    clear x0_1 x1_1
    have x0_2c0 := x0_2.cell 0
    have x0_2c1 := x0_2.cell 1
    simp only [List.getElem?_toArray, List.getElem?_cons_zero, List.getElem?_cons_succ] at x0_2c0 x0_2c1
    have x0_2l := x0_2.lt
    have x1_2c0 := x1_2.cell 0
    have x1_2c1 := x1_2.cell 1
    simp only [List.getElem?_toArray, List.getElem?_cons_zero, List.getElem?_cons_succ] at x1_2c0 x1_2c1
    have x1_2l := x1_2.lt
    go_wp2
    go_ret
    exact ⟨rfl, B2.trans (hb2.mono B2.size)⟩
  have HF := Lib.hid (fun W => calls_val (few_any A n cap err W hm) (v' := .bool true) (by rw [decide_eq_true hn]))
  by_cases hn' : n' ≤ 60
  case neg =>
    have HF' := Lib.hid (fun W => calls_val (few_any A' n' cap' err' W hm') (v' := .bool false) (by rw [decide_eq_false hn']))
    clear h h'
    generalize hW : (w.alloc (.cells #[.slice A n cap, .int .i64 err] 24)).alloc (.cells #[.slice A' n' cap', .int .i64 err'] 24) = W
    have B0 : Below w.heap.size w W := by rw [← hW]; exact (((Below.refl w.heap.size w).alloc (Nat.le_refl _) _).alloc (by simp) _)
    have x0_0 : Blk W w.heap.size 24 #[.slice A n cap, .int .i64 err] := by rw [← hW]; exact ((Blk.at_new _ _ rfl).alloc _)
    have x1_0 : Blk W (w.heap.size + 1) 24 #[.slice A' n' cap', .int .i64 err'] := by rw [← hW]; exact (Blk.at_new _ _ (by simp))
    have HWE := Lib.hid hW
    clear hW
    go_enter Try.func12, Try.ntmps12
    have B1 := B0
    go_wp2_with fail
    rw [HWE.out]
    refine (HH.out _).mono ?_; rintro e w1 ⟨rfl, hb1⟩
    have x0_1 := x0_0.below hb1
    have x1_1 := x1_0.below hb1
    clear x0_0 x1_0
    have x0_1c0 := x0_1.cell 0
    have x0_1c1 := x0_1.cell 1
    simp only [List.getElem?_toArray, List.getElem?_cons_zero, List.getElem?_cons_succ] at x0_1c0 x0_1c1
    have x0_1l := x0_1.lt
    have x1_1c0 := x1_1.cell 0
    have x1_1c1 := x1_1.cell 1
    simp only [List.getElem?_toArray, List.getElem?_cons_zero, List.getElem?_cons_succ] at x1_1c0 x1_1c1
    have x1_1l := x1_1.lt
    have B2 := B1.trans (hb1.mono B1.size)
    go_wp2_with fail
    refine (HF.out _).mono ?_; rintro e w2 ⟨rfl, hb2⟩
    clear x0_1c0 x0_1c1 x0_1l x1_1c0 x1_1c1 x1_1l
    have x0_2 := x0_1.below hb2
    have x1_2 := x1_1.below hb2
    clear x0_1 x1_1
    have x0_2c0 := x0_2.cell 0
    have x0_2c1 := x0_2.cell 1
    simp only [List.getElem?_toArray, List.getElem?_cons_zero, List.getElem?_cons_succ] at x0_2c0 x0_2c1
    have x0_2l := x0_2.lt
    have x1_2c0 := x1_2.cell 0
    have x1_2c1 := x1_2.cell 1
    simp only [List.getElem?_toArray, List.getElem?_cons_zero, List.getElem?_cons_succ] at x1_2c0 x1_2c1
    have x1_2l := x1_2.lt
    have B3 := B2.trans (hb2.mono B2.size)
    go_wp2_with fail
    refine (HF'.out _).mono ?_; rintro e w3 ⟨rfl, hb3⟩
    clear x0_2c0 x0_2c1 x0_2l x1_2c0 x1_2c1 x1_2l
    have x0_3 := x0_2.below hb3
    have x1_3 := x1_2.below hb3
    clear x0_2 x1_2
    have x0_3c0 := x0_3.cell 0
    have x0_3c1 := x0_3.cell 1
    simp only [List.getElem?_toArray, List.getElem?_cons_zero, List.getElem?_cons_succ] at x0_3c0 x0_3c1
    have x0_3l := x0_3.lt
    have x1_3c0 := x1_3.cell 0
    have x1_3c1 := x1_3.cell 1
    simp only [List.getElem?_toArray, List.getElem?_cons_zero, List.getElem?_cons_succ] at x1_3c0 x1_3c1
    have x1_3l := x1_3.lt
    go_wp2
    go_ret
    exact ⟨rfl, B3.trans (hb3.mono B3.size)⟩
  have HF' := Lib.hid (fun W => calls_val (few_any A' n' cap' err' W hm') (v' := .bool true) (by rw [decide_eq_true hn']))
  have HAdd := Lib.hid (fun W (hW : CAt W A n ks) (hW' : CAt W A' n' ks') => Add_any A A' n cap n' cap' err err' ks ks' W hW hm hW' hm')
  have HRAdd := Lib.hid (fun W (hW : CAt W A n ks) (hW' : CAt W A' n' ks') => RAdd_any A A' n cap n' cap' err err' ks ks' W hW hm hW' hm')
  generalize jnR (fun a b => a + b) ks ks' err err' = R0 at *
  generalize jnF (fun a b => a + b) ks ks' err err' = F0 at *
  generalize jnErr (fun a b => a + b) ks ks' err err' = E0 at *
  have HMinus := Lib.hid (fun W (hW : CAt W A n ks) (hW' : CAt W A' n' ks') => Minus_any A A' n cap n' cap' err err' ks ks' W hW hm hW' hm')
  have HRMinus := Lib.hid (fun W (hW : CAt W A n ks) (hW' : CAt W A' n' ks') => RMinus_any A A' n cap n' cap' err err' ks ks' W hW hm hW' hm')
  generalize jnR (fun a b => a - b) ks ks' err err' = R1 at *
  generalize jnF (fun a b => a - b) ks ks' err err' = F1 at *
  generalize jnErr (fun a b => a - b) ks ks' err err' = E1 at *
  clear h h'
  generalize hW : (w.alloc (.cells #[.slice A n cap, .int .i64 err] 24)).alloc (.cells #[.slice A' n' cap', .int .i64 err'] 24) = W
  have B0 : Below w.heap.size w W := by rw [← hW]; exact (((Below.refl w.heap.size w).alloc (Nat.le_refl _) _).alloc (by simp) _)
  have x0_0 : Blk W w.heap.size 24 #[.slice A n cap, .int .i64 err] := by rw [← hW]; exact ((Blk.at_new _ _ rfl).alloc _)
  have x1_0 : Blk W (w.heap.size + 1) 24 #[.slice A' n' cap', .int .i64 err'] := by rw [← hW]; exact (Blk.at_new _ _ (by simp))
  have HWE := Lib.hid hW
  clear hW
  go_enter Try.func12, Try.ntmps12
  have B1 := B0
  go_wp2_with fail
  rw [HWE.out]
  refine (HH.out _).mono ?_; rintro e w1 ⟨rfl, hb1⟩
  have x0_1 := x0_0.below hb1
  have x1_1 := x1_0.below hb1
  clear x0_0 x1_0
  have x0_1c0 := x0_1.cell 0
  have x0_1c1 := x0_1.cell 1
  simp only [List.getElem?_toArray, List.getElem?_cons_zero, List.getElem?_cons_succ] at x0_1c0 x0_1c1
  have x0_1l := x0_1.lt
  have x1_1c0 := x1_1.cell 0
  have x1_1c1 := x1_1.cell 1
  simp only [List.getElem?_toArray, List.getElem?_cons_zero, List.getElem?_cons_succ] at x1_1c0 x1_1c1
  have x1_1l := x1_1.lt
  have B2 := B1.trans (hb1.mono B1.size)
  go_wp2_with fail
  refine (HF.out _).mono ?_; rintro e w2 ⟨rfl, hb2⟩
  clear x0_1c0 x0_1c1 x0_1l x1_1c0 x1_1c1 x1_1l
  have x0_2 := x0_1.below hb2
  have x1_2 := x1_1.below hb2
  clear x0_1 x1_1
  have x0_2c0 := x0_2.cell 0
  have x0_2c1 := x0_2.cell 1
  simp only [List.getElem?_toArray, List.getElem?_cons_zero, List.getElem?_cons_succ] at x0_2c0 x0_2c1
  have x0_2l := x0_2.lt
  have x1_2c0 := x1_2.cell 0
  have x1_2c1 := x1_2.cell 1
  simp only [List.getElem?_toArray, List.getElem?_cons_zero, List.getElem?_cons_succ] at x1_2c0 x1_2c1
  have x1_2l := x1_2.lt
  have B3 := B2.trans (hb2.mono B2.size)
  go_wp2_with fail
  refine (HF'.out _).mono ?_; rintro e w3 ⟨rfl, hb3⟩
  clear x0_2c0 x0_2c1 x0_2l x1_2c0 x1_2c1 x1_2l
  have x0_3 := x0_2.below hb3
  have x1_3 := x1_2.below hb3
  clear x0_2 x1_2
  have x0_3c0 := x0_3.cell 0
  have x0_3c1 := x0_3.cell 1
  simp only [List.getElem?_toArray, List.getElem?_cons_zero, List.getElem?_cons_succ] at x0_3c0 x0_3c1
  have x0_3l := x0_3.lt
  have x1_3c0 := x1_3.cell 0
  have x1_3c1 := x1_3.cell 1
  simp only [List.getElem?_toArray, List.getElem?_cons_zero, List.getElem?_cons_succ] at x1_3c0 x1_3c1
  have x1_3l := x1_3.lt
  have B4 := B3.trans (hb3.mono B3.size)
  go_wp2_with fail
  refine (HAdd.out _ (HA.out.below B4) (HA'.out.below B4)).mono ?_; rintro e w4 ⟨A1_, n1_, cap1_, rfl, hC1, hN1, _, hb4⟩
  clear x0_3c0 x0_3c1 x0_3l x1_3c0 x1_3c1 x1_3l
  have x0_4 := x0_3.below hb4
  have x1_4 := x1_3.below hb4
  clear x0_3 x1_3
  have x0_4c0 := x0_4.cell 0
  have x0_4c1 := x0_4.cell 1
  simp only [List.getElem?_toArray, List.getElem?_cons_zero, List.getElem?_cons_succ] at x0_4c0 x0_4c1
  have x0_4l := x0_4.lt
  have x1_4c0 := x1_4.cell 0
  have x1_4c1 := x1_4.cell 1
  simp only [List.getElem?_toArray, List.getElem?_cons_zero, List.getElem?_cons_succ] at x1_4c0 x1_4c1
  have x1_4l := x1_4.lt
  have HC1 := Lib.hid hC1
  clear hC1
  have B5 := B4.trans (hb4.mono B4.size)
  have B5a := B5.alloc B5.size (.cells #[.slice A1_ n1_ cap1_, .int .i64 F0] 24)
  go_wp2_with fail
  refine (HRAdd.out _ (HA.out.below B5a) (HA'.out.below B5a)).mono ?_; rintro e w5 ⟨A2_, n2_, cap2_, rfl, hC2, hN2, _, hb5⟩
  clear x0_4c0 x0_4c1 x0_4l x1_4c0 x1_4c1 x1_4l
  have x0_5 := (x0_4.alloc (.cells #[.slice A1_ n1_ cap1_, .int .i64 F0] 24)).below hb5
  have x1_5 := (x1_4.alloc (.cells #[.slice A1_ n1_ cap1_, .int .i64 F0] 24)).below hb5
  clear x0_4 x1_4
  have y1_5 := (Blk.new w4 24 #[.slice A1_ n1_ cap1_, .int .i64 F0]).below hb5
  have x0_5c0 := x0_5.cell 0
  have x0_5c1 := x0_5.cell 1
  simp only [List.getElem?_toArray, List.getElem?_cons_zero, List.getElem?_cons_succ] at x0_5c0 x0_5c1
  have x0_5l := x0_5.lt
  have x1_5c0 := x1_5.cell 0
  have x1_5c1 := x1_5.cell 1
  simp only [List.getElem?_toArray, List.getElem?_cons_zero, List.getElem?_cons_succ] at x1_5c0 x1_5c1
  have x1_5l := x1_5.lt
  have y1_5c0 := y1_5.cell 0
  have y1_5c1 := y1_5.cell 1
  simp only [List.getElem?_toArray, List.getElem?_cons_zero, List.getElem?_cons_succ] at y1_5c0 y1_5c1
  have y1_5l := y1_5.lt
  have HC2 := Lib.hid hC2
  clear hC2
  have B6 := B5a.trans (hb5.mono B5a.size)
  have B6a := B6.alloc B6.size (.cells #[.slice A2_ n2_ cap2_, .int .i64 F0, .int .i64 E0] 78)
  go_wp2_with fail
  refine (HMinus.out _ (HA.out.below B6a) (HA'.out.below B6a)).mono ?_; rintro e w6 ⟨A3_, n3_, cap3_, rfl, hC3, hN3, _, hb6⟩
  clear x0_5c0 x0_5c1 x0_5l x1_5c0 x1_5c1 x1_5l y1_5c0 y1_5c1 y1_5l
  have x0_6 := (x0_5.alloc (.cells #[.slice A2_ n2_ cap2_, .int .i64 F0, .int .i64 E0] 78)).below hb6
  have x1_6 := (x1_5.alloc (.cells #[.slice A2_ n2_ cap2_, .int .i64 F0, .int .i64 E0] 78)).below hb6
  have y1_6 := (y1_5.alloc (.cells #[.slice A2_ n2_ cap2_, .int .i64 F0, .int .i64 E0] 78)).below hb6
  clear x0_5 x1_5 y1_5
  have y2_6 := (Blk.new w5 78 #[.slice A2_ n2_ cap2_, .int .i64 F0, .int .i64 E0]).below hb6
  have x0_6c0 := x0_6.cell 0
  have x0_6c1 := x0_6.cell 1
  simp only [List.getElem?_toArray, List.getElem?_cons_zero, List.getElem?_cons_succ] at x0_6c0 x0_6c1
  have x0_6l := x0_6.lt
  have x1_6c0 := x1_6.cell 0
  have x1_6c1 := x1_6.cell 1
  simp only [List.getElem?_toArray, List.getElem?_cons_zero, List.getElem?_cons_succ] at x1_6c0 x1_6c1
  have x1_6l := x1_6.lt
  have y1_6c0 := y1_6.cell 0
  have y1_6c1 := y1_6.cell 1
  simp only [List.getElem?_toArray, List.getElem?_cons_zero, List.getElem?_cons_succ] at y1_6c0 y1_6c1
  have y1_6l := y1_6.lt
  have y2_6c0 := y2_6.cell 0
  have y2_6c1 := y2_6.cell 1
  have y2_6c2 := y2_6.cell 2
  simp only [List.getElem?_toArray, List.getElem?_cons_zero, List.getElem?_cons_succ] at y2_6c0 y2_6c1 y2_6c2
  have y2_6l := y2_6.lt
  have HC3 := Lib.hid hC3
  clear hC3
  have B7 := B6a.trans (hb6.mono B6a.size)
  have B7a := B7.alloc B7.size (.cells #[.slice A3_ n3_ cap3_, .int .i64 F1] 24)
  go_wp2_with fail
  refine (HRMinus.out _ (HA.out.below B7a) (HA'.out.below B7a)).mono ?_; rintro e w7 ⟨A4_, n4_, cap4_, rfl, hC4, hN4, _, hb7⟩
  clear x0_6c0 x0_6c1 x0_6l x1_6c0 x1_6c1 x1_6l y1_6c0 y1_6c1 y1_6l y2_6c0 y2_6c1 y2_6c2 y2_6l
  have x0_7 := (x0_6.alloc (.cells #[.slice A3_ n3_ cap3_, .int .i64 F1] 24)).below hb7
  have x1_7 := (x1_6.alloc (.cells #[.slice A3_ n3_ cap3_, .int .i64 F1] 24)).below hb7
  have y1_7 := (y1_6.alloc (.cells #[.slice A3_ n3_ cap3_, .int .i64 F1] 24)).below hb7
  have y2_7 := (y2_6.alloc (.cells #[.slice A3_ n3_ cap3_, .int .i64 F1] 24)).below hb7
  clear x0_6 x1_6 y1_6 y2_6
  have y3_7 := (Blk.new w6 24 #[.slice A3_ n3_ cap3_, .int .i64 F1]).below hb7
  have x0_7c0 := x0_7.cell 0
  have x0_7c1 := x0_7.cell 1
  simp only [List.getElem?_toArray, List.getElem?_cons_zero, List.getElem?_cons_succ] at x0_7c0 x0_7c1
  have x0_7l := x0_7.lt
  have x1_7c0 := x1_7.cell 0
  have x1_7c1 := x1_7.cell 1
  simp only [List.getElem?_toArray, List.getElem?_cons_zero, List.getElem?_cons_succ] at x1_7c0 x1_7c1
  have x1_7l := x1_7.lt
  have y1_7c0 := y1_7.cell 0
  have y1_7c1 := y1_7.cell 1
  simp only [List.getElem?_toArray, List.getElem?_cons_zero, List.getElem?_cons_succ] at y1_7c0 y1_7c1
  have y1_7l := y1_7.lt
  have y2_7c0 := y2_7.cell 0
  have y2_7c1 := y2_7.cell 1
  have y2_7c2 := y2_7.cell 2
  simp only [List.getElem?_toArray, List.getElem?_cons_zero, List.getElem?_cons_succ] at y2_7c0 y2_7c1 y2_7c2
  have y2_7l := y2_7.lt
  have y3_7c0 := y3_7.cell 0
  have y3_7c1 := y3_7.cell 1
  simp only [List.getElem?_toArray, List.getElem?_cons_zero, List.getElem?_cons_succ] at y3_7c0 y3_7c1
  have y3_7l := y3_7.lt
  have HC4 := Lib.hid hC4
  clear hC4
  have HQ1 := Lib.hid ((((((((HC1.out).below ((Below.refl _ _).alloc (Nat.le_refl _) _)).below hb5).below ((Below.refl _ _).alloc (Nat.le_refl _) _)).below hb6).below ((Below.refl _ _).alloc (Nat.le_refl _) _)).below hb7).below ((Below.refl w7.heap.size w7).alloc (Nat.le_refl _) (.cells #[.slice A4_ n4_ cap4_, .int .i64 F1, .int .i64 E1] 78)))
  have HQ2 := Lib.hid ((((((HC2.out).below ((Below.refl _ _).alloc (Nat.le_refl _) _)).below hb6).below ((Below.refl _ _).alloc (Nat.le_refl _) _)).below hb7).below ((Below.refl w7.heap.size w7).alloc (Nat.le_refl _) (.cells #[.slice A4_ n4_ cap4_, .int .i64 F1, .int .i64 E1] 78)))
  have HQ3 := Lib.hid ((((HC3.out).below ((Below.refl _ _).alloc (Nat.le_refl _) _)).below hb7).below ((Below.refl w7.heap.size w7).alloc (Nat.le_refl _) (.cells #[.slice A4_ n4_ cap4_, .int .i64 F1, .int .i64 E1] 78)))
  have HQ4 := Lib.hid ((HC4.out).below ((Below.refl w7.heap.size w7).alloc (Nat.le_refl _) (.cells #[.slice A4_ n4_ cap4_, .int .i64 F1, .int .i64 E1] 78)))
  have B8 := B7a.trans (hb7.mono B7a.size)
  have B8a := B8.alloc B8.size (.cells #[.slice A4_ n4_ cap4_, .int .i64 F1, .int .i64 E1] 78)
  go_upto_region 8 with fail
  clear x0_7c0 x0_7c1 x0_7l x1_7c0 x1_7c1 x1_7l y1_7c0 y1_7c1 y1_7l y2_7c0 y2_7c1 y2_7c2 y2_7l y3_7c0 y3_7c1 y3_7l
  have x0_8 := (x0_7.alloc (.cells #[.slice A4_ n4_ cap4_, .int .i64 F1, .int .i64 E1] 78))
  have x1_8 := (x1_7.alloc (.cells #[.slice A4_ n4_ cap4_, .int .i64 F1, .int .i64 E1] 78))
  have y1_8 := (y1_7.alloc (.cells #[.slice A4_ n4_ cap4_, .int .i64 F1, .int .i64 E1] 78))
  have y2_8 := (y2_7.alloc (.cells #[.slice A4_ n4_ cap4_, .int .i64 F1, .int .i64 E1] 78))
  have y3_8 := (y3_7.alloc (.cells #[.slice A4_ n4_ cap4_, .int .i64 F1, .int .i64 E1] 78))
  clear x0_7 x1_7 y1_7 y2_7 y3_7
  have y4_8 := (Blk.new w7 78 #[.slice A4_ n4_ cap4_, .int .i64 F1, .int .i64 E1])
  generalize hV8 : w7.alloc (.cells #[.slice A4_ n4_ cap4_, .int .i64 F1, .int .i64 E1] 78) = V8 at *
  generalize hg8 : w7.heap.size = g8 at *
  clear hV8 hg8
  have x0_8c0 := x0_8.cell 0
  have x0_8c1 := x0_8.cell 1
  simp only [List.getElem?_toArray, List.getElem?_cons_zero, List.getElem?_cons_succ] at x0_8c0 x0_8c1
  have x0_8l := x0_8.lt
  have x1_8c0 := x1_8.cell 0
  have x1_8c1 := x1_8.cell 1
  simp only [List.getElem?_toArray, List.getElem?_cons_zero, List.getElem?_cons_succ] at x1_8c0 x1_8c1
  have x1_8l := x1_8.lt
  have y1_8c0 := y1_8.cell 0
  have y1_8c1 := y1_8.cell 1
  simp only [List.getElem?_toArray, List.getElem?_cons_zero, List.getElem?_cons_succ] at y1_8c0 y1_8c1
  have y1_8l := y1_8.lt
  have y2_8c0 := y2_8.cell 0
  have y2_8c1 := y2_8.cell 1
  have y2_8c2 := y2_8.cell 2
  simp only [List.getElem?_toArray, List.getElem?_cons_zero, List.getElem?_cons_succ] at y2_8c0 y2_8c1 y2_8c2
  have y2_8l := y2_8.lt
  have y3_8c0 := y3_8.cell 0
  have y3_8c1 := y3_8.cell 1
  simp only [List.getElem?_toArray, List.getElem?_cons_zero, List.getElem?_cons_succ] at y3_8c0 y3_8c1
  have y3_8l := y3_8.lt
  have y4_8c0 := y4_8.cell 0
  have y4_8c1 := y4_8.cell 1
  have y4_8c2 := y4_8.cell 2
  simp only [List.getElem?_toArray, List.getElem?_cons_zero, List.getElem?_cons_succ] at y4_8c0 y4_8c1 y4_8c2
  have y4_8l := y4_8.lt
  have BY := B8a
  have HS0 := Lib.hid (fun X (hX : Below V8.heap.size V8 X) => SameCurve_same A1_ A2_ n1_ cap1_ n2_ cap2_ F0 R0 X (HQ1.out.below hX) (by omega) (HQ2.out.below hX) (by omega))
  have HS1 := Lib.hid (fun X (hX : Below V8.heap.size V8 X) => SameCurve_same A3_ A4_ n3_ cap3_ n4_ cap4_ F1 R1 X (HQ3.out.below hX) (by omega) (HQ4.out.below hX) (by omega))
  have B9 := BY
  go_wp2_with fail
  refine (HS0.out _ (Below.refl _ _)).mono ?_; rintro e w9 ⟨rfl, hb9⟩
  clear x0_8c0 x0_8c1 x0_8l x1_8c0 x1_8c1 x1_8l y1_8c0 y1_8c1 y1_8l y2_8c0 y2_8c1 y2_8c2 y2_8l y3_8c0 y3_8c1 y3_8l y4_8c0 y4_8c1 y4_8c2 y4_8l
  have x0_9 := x0_8.below hb9
  have x1_9 := x1_8.below hb9
  have y1_9 := y1_8.below hb9
  have y2_9 := y2_8.below hb9
  have y3_9 := y3_8.below hb9
  have y4_9 := y4_8.below hb9
  clear x0_8 x1_8 y1_8 y2_8 y3_8 y4_8
  have x0_9c0 := x0_9.cell 0
  have x0_9c1 := x0_9.cell 1
  simp only [List.getElem?_toArray, List.getElem?_cons_zero, List.getElem?_cons_succ] at x0_9c0 x0_9c1
  have x0_9l := x0_9.lt
  have x1_9c0 := x1_9.cell 0
  have x1_9c1 := x1_9.cell 1
  simp only [List.getElem?_toArray, List.getElem?_cons_zero, List.getElem?_cons_succ] at x1_9c0 x1_9c1
  have x1_9l := x1_9.lt
  have y1_9c0 := y1_9.cell 0
  have y1_9c1 := y1_9.cell 1
  simp only [List.getElem?_toArray, List.getElem?_cons_zero, List.getElem?_cons_succ] at y1_9c0 y1_9c1
  have y1_9l := y1_9.lt
  have y2_9c0 := y2_9.cell 0
  have y2_9c1 := y2_9.cell 1
  have y2_9c2 := y2_9.cell 2
  simp only [List.getElem?_toArray, List.getElem?_cons_zero, List.getElem?_cons_succ] at y2_9c0 y2_9c1 y2_9c2
  have y2_9l := y2_9.lt
  have y3_9c0 := y3_9.cell 0
  have y3_9c1 := y3_9.cell 1
  simp only [List.getElem?_toArray, List.getElem?_cons_zero, List.getElem?_cons_succ] at y3_9c0 y3_9c1
  have y3_9l := y3_9.lt
  have y4_9c0 := y4_9.cell 0
  have y4_9c1 := y4_9.cell 1
  have y4_9c2 := y4_9.cell 2
  simp only [List.getElem?_toArray, List.getElem?_cons_zero, List.getElem?_cons_succ] at y4_9c0 y4_9c1 y4_9c2
  have y4_9l := y4_9.lt
  have B10 := B9.trans (hb9.mono B9.size)
  go_wp2_with fail
  refine (HS1.out _ hb9).mono ?_; rintro e w10 ⟨rfl, hb10⟩
  clear x0_9c0 x0_9c1 x0_9l x1_9c0 x1_9c1 x1_9l y1_9c0 y1_9c1 y1_9l y2_9c0 y2_9c1 y2_9c2 y2_9l y3_9c0 y3_9c1 y3_9l y4_9c0 y4_9c1 y4_9c2 y4_9l
  have x0_10 := x0_9.below hb10
  have x1_10 := x1_9.below hb10
  have y1_10 := y1_9.below hb10
  have y2_10 := y2_9.below hb10
  have y3_10 := y3_9.below hb10
  have y4_10 := y4_9.below hb10
  clear x0_9 x1_9 y1_9 y2_9 y3_9 y4_9
  have x0_10c0 := x0_10.cell 0
  have x0_10c1 := x0_10.cell 1
  simp only [List.getElem?_toArray, List.getElem?_cons_zero, List.getElem?_cons_succ] at x0_10c0 x0_10c1
  have x0_10l := x0_10.lt
  have x1_10c0 := x1_10.cell 0
  have x1_10c1 := x1_10.cell 1
  simp only [List.getElem?_toArray, List.getElem?_cons_zero, List.getElem?_cons_succ] at x1_10c0 x1_10c1
  have x1_10l := x1_10.lt
  have y1_10c0 := y1_10.cell 0
  have y1_10c1 := y1_10.cell 1
  simp only [List.getElem?_toArray, List.getElem?_cons_zero, List.getElem?_cons_succ] at y1_10c0 y1_10c1
  have y1_10l := y1_10.lt
  have y2_10c0 := y2_10.cell 0
  have y2_10c1 := y2_10.cell 1
  have y2_10c2 := y2_10.cell 2
  simp only [List.getElem?_toArray, List.getElem?_cons_zero, List.getElem?_cons_succ] at y2_10c0 y2_10c1 y2_10c2
  have y2_10l := y2_10.lt
  have y3_10c0 := y3_10.cell 0
  have y3_10c1 := y3_10.cell 1
  simp only [List.getElem?_toArray, List.getElem?_cons_zero, List.getElem?_cons_succ] at y3_10c0 y3_10c1
  have y3_10l := y3_10.lt
  have y4_10c0 := y4_10.cell 0
  have y4_10c1 := y4_10.cell 1
  have y4_10c2 := y4_10.cell 2
  simp only [List.getElem?_toArray, List.getElem?_cons_zero, List.getElem?_cons_succ] at y4_10c0 y4_10c1 y4_10c2
  have y4_10l := y4_10.lt
  go_wp2
  go_ret
  exact ⟨by simp, B10.trans (hb10.mono B10.size)⟩

set_option maxRecDepth 100000 in
theorem curveSums_lifted (os : Os) (started : os.Started) (H : Type) (enc : TypeId × Value → H) :
    ReturnsInHanded Rows.curveSumsRow.assume Try.checked os 12 .any (Rows.curveSumsSpec.pre6 enc Try.prog Try.f12 Rows.curveSumsRow.domain false) (Rows.curveSumsSpec.post enc Try.prog Try.f12 false Rows.curveSumsRow.fresh Rows.curveSumsRow.handsOn Rows.curveSumsRow.again) := by
  refine returnsInHanded_of_change (C := Try.checked) (by kernel_rfl) started (by kernel_rfl) Try.func12
    (ChangeSpec.witness6 (enc := enc) (C := Try.checked) false ⟨#[], #[vCv none 0 0 0, vCv none 0 0 0], []⟩ 8 (by kernel_rfl) (by kernel_rfl) (by kernel_rfl) (by kernel_rfl)) ?_
  intro W base args ds gs before hval0 hW hcnd _
  have hval : ∀ (j : Nat) t v, Try.f12.params[j]? = some t → args[j]? = some v → Value.okWide Try.prog W .any base t v := hval0
  have hW' := hW
  obtain ⟨p, q, hA0, hV, rfl, hfz, hnd⟩ := hW
  obtain ⟨rfl, rfl⟩ := trodVars_none hV
  have hA : DataW.TrodAll enc Try.prog W 0 (fun _ => true) true [24, 24] args.toList ds p := hA0
  obtain ⟨v0, v1, d0, d1, p0, p1, rfl, rfl, rfl, h0, h1⟩ := trodAll_two hA
  obtain ⟨A, n, cap, err, ks, rfl, hC, hm, _, _, rfl⟩ := open_cv (hval 0 24 v0 rfl rfl) h0
  obtain ⟨A', n', cap', err', ks', rfl, hC', hm', _, _, rfl⟩ := open_cv (hval 1 24 v1 rfl rfl) h1
  refine (curveSums_walk A A' n cap n' cap' err err' ks ks' W hC hm hC' hm').mono fun e W' ⟨he, hb⟩ => ⟨_, he, law_post laid_out (by kernel_rfl) rfl Try.underlying4 rfl hW' rfl rfl rfl hb⟩

theorem curveSums : Rows.CurveSumsSaid :=
  OpenClaim.holds_of_wide 12 Try.f12 rfl rfl rfl rfl rfl rfl rfl ⟨rfl, rfl, rfl, rfl, rfl⟩ rfl rfl rfl rfl rfl (by kernel_rfl) Try.func12 (by kernel_rfl)
    (of_decide_eq_true (by kernel_rfl)) (by unfold Func.isWrapper; first | (rw [if_pos (by decide +kernel)]; kernel_rfl) | (rw [if_neg (by decide +kernel)]; exact ⟨rfl, rfl⟩))
    (fun os started H enc _ => curveSums_lifted os started H enc)
#print axioms curveSums

end Go.Proofs.Ytipablcbkoedbaa
