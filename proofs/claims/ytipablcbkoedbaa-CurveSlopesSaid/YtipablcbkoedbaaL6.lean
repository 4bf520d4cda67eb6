/- CurveSlopes is proved: for every curve the program's Rising and Steepest answer as the reference implementation does. No condition. -/
import Derived.WalkKit
import Derived.WalkLawsBesides
import Derived.Lib.Hide
import Derived.Outline
import Derived.WalkSmall
import Derived.Lib.SmallJoins
import Derived.Test.YtipablcbkoedbaaProg
import Derived.Test.YtipablcbkoedbaaM2
import Derived.Test.YtipablcbkoedbaaF3
import Derived.Test.YtipablcbkoedbaaRow2
namespace Go.Proofs.Ytipablcbkoedbaa
open Go.RowKit Go.WideShapes Go.ChangeShapes Go.Joins

set_option maxRecDepth 100000 in
set_option maxHeartbeats 3200000 in
theorem curveSlopes_walk (A : Option Addr) (n cap : Nat) (err : Int) (ks : List (Int × Int)) (w : World) (h : CAt w A n ks) (hm : n ≤ 9223372036854775807) :
    Calls Try.prog 9 #[vCv A n cap err] w fun e w' => e = .returned (.bool true) ∧ Below w.heap.size w w' := by
  have HH := Lib.hid head_any
  have HA := Lib.hid h
  by_cases hn : n ≤ 60
  case neg =>
    have HF := Lib.hid (fun W => calls_val (few_any A n cap err W hm) (v' := .bool false) (by rw [decide_eq_false hn]))
    clear h
    generalize hW : w.alloc (.cells #[.slice A n cap, .int .i64 err] 24) = W
    have hbw : Below w.heap.size w W := by rw [← hW]; exact ((Below.refl w.heap.size w).alloc (Nat.le_refl _) _)
    have x0_0 : Blk W w.heap.size 24 #[.slice A n cap, .int .i64 err] := by rw [← hW]; exact (Blk.at_new _ _ rfl)
    have HWE := Lib.hid hW
    clear hW
    go_enter Try.func9, Try.ntmps9
    have B1 := hbw
    go_wp2_with fail
    rw [HWE.out]
    refine (HH.out _).mono ?_; rintro e w1 ⟨rfl, hb1⟩
    have x0_1 := x0_0.below hb1
    clear x0_0
    have x0_1c0 := x0_1.cell 0
    have x0_1c1 := x0_1.cell 1
    simp only [List.getElem?_toArray, List.getElem?_cons_zero, List.getElem?_cons_succ] at x0_1c0 x0_1c1
    have x0_1l := x0_1.lt
    have B2 := B1.trans (hb1.mono B1.size)
    go_wp2_with fail
    refine (HF.out _).mono ?_; rintro e w2 ⟨rfl, hb2⟩
    clear x0_1c0 x0_1c1 x0_1l
    have x0_2 := x0_1.below hb2
    clear x0_1
    have x0_2c0 := x0_2.cell 0
    have x0_2c1 := x0_2.cell 1
    simp only [List.getElem?_toArray, List.getElem?_cons_zero, List.getElem?_cons_succ] at x0_2c0 x0_2c1
    have x0_2l := x0_2.lt
    go_wp2
    go_ret
    exact ⟨rfl, B2.trans (hb2.mono B2.size)⟩
  have HF := Lib.hid (fun W => calls_val (few_any A n cap err W hm) (v' := .bool true) (by rw [decide_eq_true hn]))
  have H1 := Lib.hid (fun W (hW : CAt W A n ks) => Rising_any A n cap err ks W hW hm)
  have H2 := Lib.hid (fun W (hW : CAt W A n ks) => RRising_any A n cap err ks W hW hm)
  have H3 := Lib.hid (fun W (hW : CAt W A n ks) => Steepest_any A n cap err ks W hW hm)
  have H4 := Lib.hid (fun W (hW : CAt W A n ks) => RSteepest_any A n cap err ks W hW hm)
  clear h
  generalize check ks err = ce at *
  generalize rsV ks err = rv at *
  generalize stErr ks err = se at *
  generalize stB ks err = sb at *
  obtain ⟨⟨s1, s2⟩, s3⟩ := sb
  generalize hW : w.alloc (.cells #[.slice A n cap, .int .i64 err] 24) = W
  have hbw : Below w.heap.size w W := by rw [← hW]; exact ((Below.refl w.heap.size w).alloc (Nat.le_refl _) _)
  have x0_0 : Blk W w.heap.size 24 #[.slice A n cap, .int .i64 err] := by rw [← hW]; exact (Blk.at_new _ _ rfl)
  have HWE := Lib.hid hW
  clear hW
  go_enter Try.func9, Try.ntmps9
  have B1 := hbw
  go_wp2_with fail
  rw [HWE.out]
  refine (HH.out _).mono ?_; rintro e w1 ⟨rfl, hb1⟩
  have x0_1 := x0_0.below hb1
  clear x0_0
  have x0_1c0 := x0_1.cell 0
  have x0_1c1 := x0_1.cell 1
  simp only [List.getElem?_toArray, List.getElem?_cons_zero, List.getElem?_cons_succ] at x0_1c0 x0_1c1
  have x0_1l := x0_1.lt
  have B2 := B1.trans (hb1.mono B1.size)
  go_wp2_with fail
  refine (HF.out _).mono ?_; rintro e w2 ⟨rfl, hb2⟩
  clear x0_1c0 x0_1c1 x0_1l
  have x0_2 := x0_1.below hb2
  clear x0_1
  have x0_2c0 := x0_2.cell 0
  have x0_2c1 := x0_2.cell 1
  simp only [List.getElem?_toArray, List.getElem?_cons_zero, List.getElem?_cons_succ] at x0_2c0 x0_2c1
  have x0_2l := x0_2.lt
  have B3 := B2.trans (hb2.mono B2.size)
  go_wp2_with fail
  refine (H1.out _ (HA.out.below B3)).mono ?_; rintro e w3 ⟨rfl, hb3⟩
  clear x0_2c0 x0_2c1 x0_2l
  have x0_3 := x0_2.below hb3
  clear x0_2
  have x0_3c0 := x0_3.cell 0
  have x0_3c1 := x0_3.cell 1
  simp only [List.getElem?_toArray, List.getElem?_cons_zero, List.getElem?_cons_succ] at x0_3c0 x0_3c1
  have x0_3l := x0_3.lt
  have B4 := B3.trans (hb3.mono B3.size)
  go_wp2_with fail
  refine (H2.out _ (HA.out.below B4)).mono ?_; rintro e w4 ⟨rfl, hb4⟩
  clear x0_3c0 x0_3c1 x0_3l
  have x0_4 := x0_3.below hb4
  clear x0_3
  have x0_4c0 := x0_4.cell 0
  have x0_4c1 := x0_4.cell 1
  simp only [List.getElem?_toArray, List.getElem?_cons_zero, List.getElem?_cons_succ] at x0_4c0 x0_4c1
  have x0_4l := x0_4.lt
  have B5 := B4.trans (hb4.mono B4.size)
  go_wp2_with fail
  refine (H3.out _ (HA.out.below B5)).mono ?_; rintro e w5 ⟨rfl, hb5⟩
  clear x0_4c0 x0_4c1 x0_4l
  have x0_5 := x0_4.below hb5
  clear x0_4
  have x0_5c0 := x0_5.cell 0
  have x0_5c1 := x0_5.cell 1
  simp only [List.getElem?_toArray, List.getElem?_cons_zero, List.getElem?_cons_succ] at x0_5c0 x0_5c1
  have x0_5l := x0_5.lt
  have B6 := B5.trans (hb5.mono B5.size)
  have B6a := B6.alloc B6.size (.cells #[.int .i64 s1, .int .i64 s2] 30)
  go_wp2_with fail
  refine (H4.out _ (HA.out.below B6a)).mono ?_; rintro e w6 ⟨rfl, hb6⟩
  clear x0_5c0 x0_5c1 x0_5l
  have x0_6 := (x0_5.alloc (.cells #[.int .i64 s1, .int .i64 s2] 30)).below hb6
  have y2_6 := (Blk.new w5 30 #[.int .i64 s1, .int .i64 s2]).below hb6
  clear x0_5
  have x0_6c0 := x0_6.cell 0
  have x0_6c1 := x0_6.cell 1
  simp only [List.getElem?_toArray, List.getElem?_cons_zero, List.getElem?_cons_succ] at x0_6c0 x0_6c1
  have x0_6l := x0_6.lt
  have y2_6c0 := y2_6.cell 0
  have y2_6c1 := y2_6.cell 1
  simp only [List.getElem?_toArray, List.getElem?_cons_zero, List.getElem?_cons_succ] at y2_6c0 y2_6c1
  have y2_6l := y2_6.lt
  have BZ := B6a.trans (hb6.mono B6a.size)
  go_wp2
  go_ret
  exact ⟨rfl, BZ.alloc BZ.size _⟩

set_option maxRecDepth 100000 in
theorem curveSlopes_lifted (os : Os) (started : os.Started) (H : Type) (enc : TypeId × Value → H) :
    ReturnsInHanded Rows.curveSlopesRow.assume Try.checked os 9 .any (Rows.curveSlopesSpec.pre6 enc Try.prog Try.f9 Rows.curveSlopesRow.domain false) (Rows.curveSlopesSpec.post enc Try.prog Try.f9 false Rows.curveSlopesRow.fresh Rows.curveSlopesRow.handsOn Rows.curveSlopesRow.again) := by
  refine returnsInHanded_of_change (C := Try.checked) (by kernel_rfl) started (by kernel_rfl) Try.func9
    (ChangeSpec.witness6 (enc := enc) (C := Try.checked) false ⟨#[], #[vCv none 0 0 0], []⟩ 8 (by kernel_rfl) (by kernel_rfl) (by kernel_rfl) (by kernel_rfl)) ?_
  intro W base args ds gs before hval0 hW hcnd _
  have hval : ∀ (j : Nat) t v, Try.f9.params[j]? = some t → args[j]? = some v → Value.okWide Try.prog W .any base t v := hval0
  have hW' := hW
  obtain ⟨p, q, hA0, hV, rfl, hfz, hnd⟩ := hW
  obtain ⟨rfl, rfl⟩ := trodVars_none hV
  have hA : DataW.TrodAll enc Try.prog W 0 (fun _ => true) true [24] args.toList ds p := hA0
  obtain ⟨v0, d0, rfl, rfl, h0⟩ := trodAll_one hA
  obtain ⟨A, n, cap, err, ks, rfl, hC, hm, _, _, rfl⟩ := open_cv (hval 0 24 v0 rfl rfl) h0
  refine (curveSlopes_walk A n cap err ks W hC hm).mono fun e W' ⟨he, hb⟩ => ⟨_, he, law_post laid_out (by kernel_rfl) rfl Try.underlying4 rfl hW' rfl rfl rfl hb⟩

theorem curveSlopes : Rows.CurveSlopesSaid :=
  OpenClaim.holds_of_wide 9 Try.f9 rfl rfl rfl rfl rfl rfl rfl ⟨rfl, rfl, rfl, rfl, rfl⟩ rfl rfl rfl rfl rfl (by kernel_rfl) Try.func9 (by kernel_rfl)
    (of_decide_eq_true (by kernel_rfl)) (by unfold Func.isWrapper; first | (rw [if_pos (by decide +kernel)]; kernel_rfl) | (rw [if_neg (by decide +kernel)]; exact ⟨rfl, rfl⟩))
    (fun os started H enc _ => curveSlopes_lifted os started H enc)
#print axioms curveSlopes

end Go.Proofs.Ytipablcbkoedbaa
