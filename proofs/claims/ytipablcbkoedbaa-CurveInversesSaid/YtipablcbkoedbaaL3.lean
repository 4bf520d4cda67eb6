/- CurveInverses is proved: for every curve, value and span the program's Inverse and Reach answer as the reference implementation does. No condition. -/
import Derived.WalkKit
import Derived.WalkLawsBesides
import Derived.Lib.Hide
import Derived.Outline
import Derived.WalkSmall
import Derived.Lib.SmallJoins
import Derived.Test.YtipablcbkoedbaaProg
import Derived.Test.YtipablcbkoedbaaH6
import Derived.Test.YtipablcbkoedbaaF3
import Derived.Test.YtipablcbkoedbaaRow2
namespace Go.Proofs.Ytipablcbkoedbaa
open Go.RowKit Go.WideShapes Go.ChangeShapes Go.Joins

set_option maxRecDepth 100000 in
set_option maxHeartbeats 3200000 in
theorem curveInverses_walk (A : Option Addr) (n cap : Nat) (err : Int) (ks : List (Int × Int)) (y lo hi : Int) (w : World) (h : CAt w A n ks) (hm : n ≤ 9223372036854775807) (hlo : -9223372036854775808 ≤ lo ∧ lo ≤ 9223372036854775807) (hhi : -9223372036854775808 ≤ hi ∧ hi ≤ 9223372036854775807) :
    Calls Try.prog 3 #[vCv A n cap err, .int .i64 y, vSpan lo hi] w fun e w' => e = .returned (.bool true) ∧ Below w.heap.size w w' := by
  have HH := Lib.hid head_any
  have HA := Lib.hid h
  by_cases hn : n ≤ 60
  case neg =>
    have HF := Lib.hid (fun W => calls_val (few_any A n cap err W hm) (v' := .bool false) (by rw [decide_eq_false hn]))
    clear h
    generalize hW : (w.alloc (.cells #[.slice A n cap, .int .i64 err] 24)).alloc (.cells #[.int .i64 lo, .int .i64 hi] 26) = W
    have hbw : Below w.heap.size w W := by rw [← hW]; exact (((Below.refl w.heap.size w).alloc (Nat.le_refl _) _).alloc (by simp) _)
    have x0_0 : Blk W w.heap.size 24 #[.slice A n cap, .int .i64 err] := by rw [← hW]; exact ((Blk.at_new _ _ rfl).alloc _)
    have x1_0 : Blk W (w.heap.size + 1) 26 #[.int .i64 lo, .int .i64 hi] := by rw [← hW]; exact (Blk.at_new _ _ (by simp))
    have HWE := Lib.hid hW
    clear hW
    go_enter Try.func3, Try.ntmps3
    have B1 := hbw
    go_wp2_with fail
    rw [HWE.out]
    refine (HH.out _).mono ?_; rintro e w1 ⟨rfl, hb1⟩
    have x0_1 := x0_0.below hb1
    have x1_1 := x1_0.below hb1
    clear x0_0 x1_0
    have x0_1c0 := x0_1.cell 0
    have x0_1c1 := x0_1.cell 1
    simp only [List.getElem?_toArray, List.getElem?_cons_zero, List.getElem?_cons_succ] at x0_1c0 x0_1c1
    have x0_1l := x0_1.lt
    have x1_1c0 := x1_1.cell 0
    have x1_1c1 := x1_1.cell 1
    simp only [List.getElem?_toArray, List.getElem?_cons_zero, List.getElem?_cons_succ] at x1_1c0 x1_1c1
    have x1_1l := x1_1.lt
    have B2 := B1.trans (hb1.mono B1.size)
    go_wp2_with fail
    refine (HF.out _).mono ?_; rintro e w2 ⟨rfl, hb2⟩
    clear x0_1c0 x0_1c1 x0_1l x1_1c0 x1_1c1 x1_1l
    have x0_2 := x0_1.below hb2
    have x1_2 := x1_1.below hb2
    clear x0_1 x1_1
    have x0_2c0 := x0_2.cell 0
    have x0_2c1 := x0_2.cell 1
    simp only [List.getElem?_toArray, List.getElem?_cons_zero, List.getElem?_cons_succ] at x0_2c0 x0_2c1
    have x0_2l := x0_2.lt
    have x1_2c0 := x1_2.cell 0
    have x1_2c1 := x1_2.cell 1
    simp only [List.getElem?_toArray, List.getElem?_cons_zero, List.getElem?_cons_succ] at x1_2c0 x1_2c1
    have x1_2l := x1_2.lt
    go_wp2
    go_ret
    exact ⟨rfl, B2.trans (hb2.mono B2.size)⟩
  have HF := Lib.hid (fun W => calls_val (few_any A n cap err W hm) (v' := .bool true) (by rw [decide_eq_true hn]))
  have H1 := Lib.hid (fun W (hW : CAt W A n ks) => Inverse_any A n cap err ks y W hW hm)
  have H2 := Lib.hid (fun W (hW : CAt W A n ks) => RInverse_any A n cap err ks y W hW hm)
  have H3 := Lib.hid (fun W (hW : CAt W A n ks) => Reach_any A n cap err ks lo hi W hW hm hlo hhi)
  have H4 := Lib.hid (fun W (hW : CAt W A n ks) => RReach_any A n cap err ks lo hi W hW hm hlo hhi)
  clear h
  generalize ivErr ks err y = ie at *
  generalize ivN ks err y = vn at *
  generalize ivD ks err y = vd at *
  generalize rcErr ks err lo hi = re at *
  generalize rcV ks err lo hi = rs at *
  obtain ⟨⟨r1, r2⟩, ⟨r3, r4⟩⟩ := rs
  generalize hW : (w.alloc (.cells #[.slice A n cap, .int .i64 err] 24)).alloc (.cells #[.int .i64 lo, .int .i64 hi] 26) = W
  have hbw : Below w.heap.size w W := by rw [← hW]; exact (((Below.refl w.heap.size w).alloc (Nat.le_refl _) _).alloc (by simp) _)
  have x0_0 : Blk W w.heap.size 24 #[.slice A n cap, .int .i64 err] := by rw [← hW]; exact ((Blk.at_new _ _ rfl).alloc _)
  have x1_0 : Blk W (w.heap.size + 1) 26 #[.int .i64 lo, .int .i64 hi] := by rw [← hW]; exact (Blk.at_new _ _ (by simp))
  have HWE := Lib.hid hW
  clear hW
  go_enter Try.func3, Try.ntmps3
  have B1 := hbw
  go_wp2_with fail
  rw [HWE.out]
  refine (HH.out _).mono ?_; rintro e w1 ⟨rfl, hb1⟩
  have x0_1 := x0_0.below hb1
  have x1_1 := x1_0.below hb1
  clear x0_0 x1_0
  have x0_1c0 := x0_1.cell 0
  have x0_1c1 := x0_1.cell 1
  simp only [List.getElem?_toArray, List.getElem?_cons_zero, List.getElem?_cons_succ] at x0_1c0 x0_1c1
  have x0_1l := x0_1.lt
  have x1_1c0 := x1_1.cell 0
  have x1_1c1 := x1_1.cell 1
  simp only [List.getElem?_toArray, List.getElem?_cons_zero, List.getElem?_cons_succ] at x1_1c0 x1_1c1
  have x1_1l := x1_1.lt
  have B2 := B1.trans (hb1.mono B1.size)
  go_wp2_with fail
  refine (HF.out _).mono ?_; rintro e w2 ⟨rfl, hb2⟩
  clear x0_1c0 x0_1c1 x0_1l x1_1c0 x1_1c1 x1_1l
  have x0_2 := x0_1.below hb2
  have x1_2 := x1_1.below hb2
  clear x0_1 x1_1
  have x0_2c0 := x0_2.cell 0
  have x0_2c1 := x0_2.cell 1
  simp only [List.getElem?_toArray, List.getElem?_cons_zero, List.getElem?_cons_succ] at x0_2c0 x0_2c1
  have x0_2l := x0_2.lt
  have x1_2c0 := x1_2.cell 0
  have x1_2c1 := x1_2.cell 1
  simp only [List.getElem?_toArray, List.getElem?_cons_zero, List.getElem?_cons_succ] at x1_2c0 x1_2c1
  have x1_2l := x1_2.lt
  have B3 := B2.trans (hb2.mono B2.size)
  go_wp2_with fail
  refine (H1.out _ (HA.out.below B3)).mono ?_; rintro e w3 ⟨rfl, hb3⟩
  clear x0_2c0 x0_2c1 x0_2l x1_2c0 x1_2c1 x1_2l
  have x0_3 := x0_2.below hb3
  have x1_3 := x1_2.below hb3
  clear x0_2 x1_2
  have x0_3c0 := x0_3.cell 0
  have x0_3c1 := x0_3.cell 1
  simp only [List.getElem?_toArray, List.getElem?_cons_zero, List.getElem?_cons_succ] at x0_3c0 x0_3c1
  have x0_3l := x0_3.lt
  have x1_3c0 := x1_3.cell 0
  have x1_3c1 := x1_3.cell 1
  simp only [List.getElem?_toArray, List.getElem?_cons_zero, List.getElem?_cons_succ] at x1_3c0 x1_3c1
  have x1_3l := x1_3.lt
  have B4 := B3.trans (hb3.mono B3.size)
  have B4a := B4.alloc B4.size (.cells #[.int .i64 vn, .int .i64 vd] 30)
  go_wp2_with fail
  refine (H2.out _ (HA.out.below B4a)).mono ?_; rintro e w4 ⟨rfl, hb4⟩
  clear x0_3c0 x0_3c1 x0_3l x1_3c0 x1_3c1 x1_3l
  have x0_4 := (x0_3.alloc (.cells #[.int .i64 vn, .int .i64 vd] 30)).below hb4
  have x1_4 := (x1_3.alloc (.cells #[.int .i64 vn, .int .i64 vd] 30)).below hb4
  have y0_4 := (Blk.new w3 30 #[.int .i64 vn, .int .i64 vd]).below hb4
  clear x0_3 x1_3
  have x0_4c0 := x0_4.cell 0
  have x0_4c1 := x0_4.cell 1
  simp only [List.getElem?_toArray, List.getElem?_cons_zero, List.getElem?_cons_succ] at x0_4c0 x0_4c1
  have x0_4l := x0_4.lt
  have x1_4c0 := x1_4.cell 0
  have x1_4c1 := x1_4.cell 1
  simp only [List.getElem?_toArray, List.getElem?_cons_zero, List.getElem?_cons_succ] at x1_4c0 x1_4c1
  have x1_4l := x1_4.lt
  have y0_4c0 := y0_4.cell 0
  have y0_4c1 := y0_4.cell 1
  simp only [List.getElem?_toArray, List.getElem?_cons_zero, List.getElem?_cons_succ] at y0_4c0 y0_4c1
  have y0_4l := y0_4.lt
  have B5 := B4a.trans (hb4.mono B4a.size)
  have B5a := B5.alloc B5.size (.cells #[.int .i64 vn, .int .i64 vd] 30)
  go_wp2_with fail
  refine (H3.out _ (HA.out.below B5a)).mono ?_; rintro e w5 ⟨rfl, hb5⟩
  clear x0_4c0 x0_4c1 x0_4l x1_4c0 x1_4c1 x1_4l y0_4c0 y0_4c1 y0_4l
  have x0_5 := (x0_4.alloc (.cells #[.int .i64 vn, .int .i64 vd] 30)).below hb5
  have x1_5 := (x1_4.alloc (.cells #[.int .i64 vn, .int .i64 vd] 30)).below hb5
  have y0_5 := (y0_4.alloc (.cells #[.int .i64 vn, .int .i64 vd] 30)).below hb5
  have y1_5 := (Blk.new w4 30 #[.int .i64 vn, .int .i64 vd]).below hb5
  clear x0_4 x1_4 y0_4
  have x0_5c0 := x0_5.cell 0
  have x0_5c1 := x0_5.cell 1
  simp only [List.getElem?_toArray, List.getElem?_cons_zero, List.getElem?_cons_succ] at x0_5c0 x0_5c1
  have x0_5l := x0_5.lt
  have x1_5c0 := x1_5.cell 0
  have x1_5c1 := x1_5.cell 1
  simp only [List.getElem?_toArray, List.getElem?_cons_zero, List.getElem?_cons_succ] at x1_5c0 x1_5c1
  have x1_5l := x1_5.lt
  have y0_5c0 := y0_5.cell 0
  have y0_5c1 := y0_5.cell 1
  simp only [List.getElem?_toArray, List.getElem?_cons_zero, List.getElem?_cons_succ] at y0_5c0 y0_5c1
  have y0_5l := y0_5.lt
  have y1_5c0 := y1_5.cell 0
  have y1_5c1 := y1_5.cell 1
  simp only [List.getElem?_toArray, List.getElem?_cons_zero, List.getElem?_cons_succ] at y1_5c0 y1_5c1
  have y1_5l := y1_5.lt
  have B6 := B5a.trans (hb5.mono B5a.size)
  have B6a := B6.alloc B6.size (.cells #[.int .i64 r1, .int .i64 r2, .int .i64 r3, .int .i64 r4] 35)
  go_wp2_with fail
  refine (H4.out _ (HA.out.below B6a)).mono ?_; rintro e w6 ⟨rfl, hb6⟩
  clear x0_5c0 x0_5c1 x0_5l x1_5c0 x1_5c1 x1_5l y0_5c0 y0_5c1 y0_5l y1_5c0 y1_5c1 y1_5l
  have x0_6 := (x0_5.alloc (.cells #[.int .i64 r1, .int .i64 r2, .int .i64 r3, .int .i64 r4] 35)).below hb6
  have x1_6 := (x1_5.alloc (.cells #[.int .i64 r1, .int .i64 r2, .int .i64 r3, .int .i64 r4] 35)).below hb6
  have y0_6 := (y0_5.alloc (.cells #[.int .i64 r1, .int .i64 r2, .int .i64 r3, .int .i64 r4] 35)).below hb6
  have y1_6 := (y1_5.alloc (.cells #[.int .i64 r1, .int .i64 r2, .int .i64 r3, .int .i64 r4] 35)).below hb6
  have y2_6 := (Blk.new w5 35 #[.int .i64 r1, .int .i64 r2, .int .i64 r3, .int .i64 r4]).below hb6
  clear x0_5 x1_5 y0_5 y1_5
  have x0_6c0 := x0_6.cell 0
  have x0_6c1 := x0_6.cell 1
  simp only [List.getElem?_toArray, List.getElem?_cons_zero, List.getElem?_cons_succ] at x0_6c0 x0_6c1
  have x0_6l := x0_6.lt
  have x1_6c0 := x1_6.cell 0
  have x1_6c1 := x1_6.cell 1
  simp only [List.getElem?_toArray, List.getElem?_cons_zero, List.getElem?_cons_succ] at x1_6c0 x1_6c1
  have x1_6l := x1_6.lt
  have y0_6c0 := y0_6.cell 0
  have y0_6c1 := y0_6.cell 1
  simp only [List.getElem?_toArray, List.getElem?_cons_zero, List.getElem?_cons_succ] at y0_6c0 y0_6c1
  have y0_6l := y0_6.lt
  have y1_6c0 := y1_6.cell 0
  have y1_6c1 := y1_6.cell 1
  simp only [List.getElem?_toArray, List.getElem?_cons_zero, List.getElem?_cons_succ] at y1_6c0 y1_6c1
  have y1_6l := y1_6.lt
  have y2_6c0 := y2_6.cell 0
  have y2_6c1 := y2_6.cell 1
  have y2_6c2 := y2_6.cell 2
  have y2_6c3 := y2_6.cell 3
  simp only [List.getElem?_toArray, List.getElem?_cons_zero, List.getElem?_cons_succ] at y2_6c0 y2_6c1 y2_6c2 y2_6c3
  have y2_6l := y2_6.lt
  have BZ := B6a.trans (hb6.mono B6a.size)
  go_wp2
  go_ret
  exact ⟨rfl, BZ.alloc BZ.size _⟩

set_option maxRecDepth 100000 in
theorem curveInverses_lifted (os : Os) (started : os.Started) (H : Type) (enc : TypeId × Value → H) :
    ReturnsInHanded Rows.curveInversesRow.assume Try.checked os 3 .any (Rows.curveInversesSpec.pre6 enc Try.prog Try.f3 Rows.curveInversesRow.domain false) (Rows.curveInversesSpec.post enc Try.prog Try.f3 false Rows.curveInversesRow.fresh Rows.curveInversesRow.handsOn Rows.curveInversesRow.again) := by
  refine returnsInHanded_of_change (C := Try.checked) (by kernel_rfl) started (by kernel_rfl) Try.func3
    (ChangeSpec.witness6 (enc := enc) (C := Try.checked) false ⟨#[], #[vCv none 0 0 0, .int .i64 0, vSpan 0 0], []⟩ 8 (by kernel_rfl) (by kernel_rfl) (by kernel_rfl) (by kernel_rfl)) ?_
  intro W base args ds gs before hval0 hW hcnd _
  have hval : ∀ (j : Nat) t v, Try.f3.params[j]? = some t → args[j]? = some v → Value.okWide Try.prog W .any base t v := hval0
  have hW' := hW
  obtain ⟨p, q, hA0, hV, rfl, hfz, hnd⟩ := hW
  obtain ⟨rfl, rfl⟩ := trodVars_none hV
  have hA : DataW.TrodAll enc Try.prog W 0 (fun _ => true) true [24, 3, 26] args.toList ds p := hA0
  obtain ⟨v0, v1, v2, d0, d1, d2, p0, p1, p2, rfl, rfl, rfl, h0, h1, h2⟩ := trodAll_three hA
  obtain ⟨A, n, cap, err, ks, rfl, hC, hm, _, _, rfl⟩ := open_cv (hval 0 24 v0 rfl rfl) h0
  obtain ⟨y, rfl, rfl, rfl, _⟩ := open_int Try.underlying3 (hval 1 3 v1 rfl rfl) h1
  obtain ⟨lo, hi, rfl, hlo, hhi, _, rfl⟩ := open_sp (hval 2 26 v2 rfl rfl) h2
  refine (curveInverses_walk A n cap err ks y lo hi W hC hm hlo hhi).mono fun e W' ⟨he, hb⟩ => ⟨_, he, law_post laid_out (by kernel_rfl) rfl Try.underlying4 rfl hW' rfl rfl rfl hb⟩

theorem curveInverses : Rows.CurveInversesSaid :=
  OpenClaim.holds_of_wide 3 Try.f3 rfl rfl rfl rfl rfl rfl rfl ⟨rfl, rfl, rfl, rfl, rfl⟩ rfl rfl rfl rfl rfl (by kernel_rfl) Try.func3 (by kernel_rfl)
    (of_decide_eq_true (by kernel_rfl)) (by unfold Func.isWrapper; first | (rw [if_pos (by decide +kernel)]; kernel_rfl) | (rw [if_neg (by decide +kernel)]; exact ⟨rfl, rfl⟩))
    (fun os started H enc _ => curveInverses_lifted os started H enc)
#print axioms curveInverses

end Go.Proofs.Ytipablcbkoedbaa
