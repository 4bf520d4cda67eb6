/- CurveFracs is proved: for all numbers and fractions the program's Lowest and Compare answer as the reference implementation does. No condition. -/
import Derived.WalkKit
import Derived.WalkLawsBesides
import Derived.Lib.Hide
import Derived.Outline
import Derived.WalkSmall
import Derived.Lib.SmallJoins
import Derived.Test.YtipablcbkoedbaaProg
import Derived.Test.YtipablcbkoedbaaG1
import Derived.Test.YtipablcbkoedbaaRow2
namespace Go.Proofs.Ytipablcbkoedbaa
open Go.RowKit Go.WideShapes Go.ChangeShapes Go.Joins

set_option maxRecDepth 100000 in
theorem curveFracs_walk (n d : Int) (a b : Int × Int) (w : World) : Calls Try.prog 7 #[.int .i64 n, .int .i64 d, vFrac a.1 a.2, vFrac b.1 b.2] w fun e w' => e = .returned (.bool true) ∧ Below w.heap.size w w' := by
  have H1 := Lib.hid (fun W => Lowest_any n d W)
  have H2 := Lib.hid (fun W => RLowest_any n d W)
  have H3 := Lib.hid (fun W => Compare_any a b W)
  have H4 := Lib.hid (fun W => RCompare_any a b W)
  have HH := Lib.hid head_any
  have hbw := ((Below.refl w.heap.size w).alloc (Nat.le_refl _) (.cells #[.int .i64 a.1, .int .i64 a.2] 30)).alloc (by simp) (.cells #[.int .i64 b.1, .int .i64 b.2] 30)
  have hA := (Blk.at_new (W := w) 30 #[.int .i64 a.1, .int .i64 a.2] rfl).alloc (.cells #[.int .i64 b.1, .int .i64 b.2] 30)
  have hB := Blk.at_new (W := w.alloc (.cells #[.int .i64 a.1, .int .i64 a.2] 30)) 30 #[.int .i64 b.1, .int .i64 b.2] (g := w.heap.size + 1) (by simp)
  unfold lwOut at H1 H2
  unfold cpOut at H3 H4
  generalize lwN n d = ln at *
  generalize lwD n d = ld at *
  generalize lwErr n d = le at *
  generalize cpV a b = cv at *
  generalize cpErr a b = ce at *
  generalize a.1 = x at *
  generalize a.2 = y at *
  generalize b.1 = u at *
  generalize b.2 = v at *
  go_enter Try.func7, Try.ntmps7
  go_wp2_with fail
  refine (HH.out _).mono ?_; rintro e w1 ⟨rfl, hb1⟩
  have hb1' := hbw.trans (hb1.mono hbw.size)
  have hA1 := hA.below hb1
  have hB1 := hB.below hb1
  go_wp2_with fail
  refine (H1.out _).mono ?_; rintro e w2 ⟨rfl, hb2⟩
  have hb2' := hb1'.trans (hb2.mono hb1'.size)
  have hA2 := hA1.below hb2
  have hB2 := hB1.below hb2
  have hb2a := hb2'.alloc hb2'.size (.cells #[.int .i64 ln, .int .i64 ld] 30)
  go_wp2_with fail
  refine (H2.out _).mono ?_; rintro e w3 ⟨rfl, hb3⟩
  have hb3' := hb2a.trans (hb3.mono hb2a.size)
  have hA3 := (hA2.alloc (.cells #[.int .i64 ln, .int .i64 ld] 30)).below hb3
  have hB3 := (hB2.alloc (.cells #[.int .i64 ln, .int .i64 ld] 30)).below hb3
  have hF3 := (Blk.new w2 30 #[.int .i64 ln, .int .i64 ld]).below hb3
  have hb3a := hb3'.alloc hb3'.size (.cells #[.int .i64 ln, .int .i64 ld] 30)
  have a0 := hA3.cell 0
  have a1 := hA3.cell 1
  have b0 := hB3.cell 0
  have b1 := hB3.cell 1
  have al := hA3.lt
  have bl := hB3.lt
  simp only [List.getElem?_toArray, List.getElem?_cons_zero, List.getElem?_cons_succ] at a0 a1 b0 b1
  go_wp2_with fail
  refine (H3.out _).mono ?_; rintro e w4 ⟨rfl, hb4⟩
  have hb4' := hb3a.trans (hb4.mono hb3a.size)
  have hA4 := (hA3.alloc (.cells #[.int .i64 ln, .int .i64 ld] 30)).below hb4
  have hB4 := (hB3.alloc (.cells #[.int .i64 ln, .int .i64 ld] 30)).below hb4
  have hF4 := (hF3.alloc (.cells #[.int .i64 ln, .int .i64 ld] 30)).below hb4
  have hG4 := (Blk.new w3 30 #[.int .i64 ln, .int .i64 ld]).below hb4
  clear a0 a1 b0 b1 al bl
  have a0 := hA4.cell 0
  have a1 := hA4.cell 1
  have b0 := hB4.cell 0
  have b1 := hB4.cell 1
  simp only [List.getElem?_toArray, List.getElem?_cons_zero, List.getElem?_cons_succ] at a0 a1 b0 b1
  go_wp2_with fail
  refine (H4.out _).mono ?_; rintro e w5 ⟨rfl, hb5⟩
  have hb5' := hb4'.trans (hb5.mono hb4'.size)
  have hF5 := hF4.below hb5
  have hG5 := hG4.below hb5
  have f0 := hF5.cell 0
  have f1 := hF5.cell 1
  have g0 := hG5.cell 0
  have g1 := hG5.cell 1
  simp only [List.getElem?_toArray, List.getElem?_cons_zero, List.getElem?_cons_succ] at f0 f1 g0 g1
  go_wp2
  go_ret
  exact ⟨rfl, hb5'⟩

set_option maxRecDepth 100000 in
theorem curveFracs_lifted (os : Os) (started : os.Started) (H : Type) (enc : TypeId × Value → H) :
    ReturnsInHanded Rows.curveFracsRow.assume Try.checked os 7 .any (Rows.curveFracsSpec.pre6 enc Try.prog Try.f7 Rows.curveFracsRow.domain false) (Rows.curveFracsSpec.post enc Try.prog Try.f7 false Rows.curveFracsRow.fresh Rows.curveFracsRow.handsOn Rows.curveFracsRow.again) := by
  refine returnsInHanded_of_change (C := Try.checked) (by kernel_rfl) started (by kernel_rfl) Try.func7
    (ChangeSpec.witness6 (enc := enc) (C := Try.checked) false ⟨#[], #[.int .i64 0, .int .i64 0, vFrac 0 0, vFrac 0 0], []⟩ 8 (by kernel_rfl) (by kernel_rfl) (by kernel_rfl) (by kernel_rfl)) ?_
  intro W base args ds gs before hval0 hW hcnd _
  have hval : ∀ (j : Nat) t v, Try.f7.params[j]? = some t → args[j]? = some v → Value.okWide Try.prog W .any base t v := hval0
  have hW' := hW
  obtain ⟨p, q, hA0, hV, rfl, hfz, hnd⟩ := hW
  obtain ⟨rfl, rfl⟩ := trodVars_none hV
  have hA : DataW.TrodAll enc Try.prog W 0 (fun _ => true) true [3, 3, 30, 30] args.toList ds p := hA0
  obtain ⟨v0, v1, v2, v3, d0, d1, d2, d3, p0, p1, p2, p3, rfl, rfl, rfl, h0, h1, h2, h3⟩ := trodAll_four hA
  obtain ⟨n, rfl, rfl, rfl, wn⟩ := open_int Try.underlying3 (hval 0 3 v0 rfl rfl) h0
  obtain ⟨d, rfl, rfl, rfl, wd⟩ := open_int Try.underlying3 (hval 1 3 v1 rfl rfl) h1
  obtain ⟨an, ad, rfl, _, _, _, rfl⟩ := open_fr (hval 2 30 v2 rfl rfl) h2
  obtain ⟨bn, bd, rfl, _, _, _, rfl⟩ := open_fr (hval 3 30 v3 rfl rfl) h3
  refine (curveFracs_walk n d (an, ad) (bn, bd) W).mono fun e W' ⟨he, hb⟩ => ⟨_, he, law_post laid_out (by kernel_rfl) rfl Try.underlying4 rfl hW' rfl rfl rfl hb⟩

theorem curveFracs : Rows.CurveFracsSaid :=
  OpenClaim.holds_of_wide 7 Try.f7 rfl rfl rfl rfl rfl rfl rfl ⟨rfl, rfl, rfl, rfl, rfl⟩ rfl rfl rfl rfl rfl (by kernel_rfl) Try.func7 (by kernel_rfl)
    (of_decide_eq_true (by kernel_rfl)) (by unfold Func.isWrapper; first | (rw [if_pos (by decide +kernel)]; kernel_rfl) | (rw [if_neg (by decide +kernel)]; exact ⟨rfl, rfl⟩))
    (fun os started H enc _ => curveFracs_lifted os started H enc)
#print axioms curveFracs
end Go.Proofs.Ytipablcbkoedbaa
