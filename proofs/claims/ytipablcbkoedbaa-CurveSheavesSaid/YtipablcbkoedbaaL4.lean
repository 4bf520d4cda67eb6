/- CurveSheaves is proved: for all of at most 20 curves and an x the program's Both and Least answer as the reference implementation does. No condition. -/
import Derived.WalkKit
import Derived.WalkLawsBesides
import Derived.OwnWalk
import Derived.Lib.Hide
import Derived.Outline
import Derived.WalkSmall
import Derived.Lib.SmallJoins
import Derived.Test.YtipablcbkoedbaaProg
import Derived.Test.YtipablcbkoedbaaI1
import Derived.Test.YtipablcbkoedbaaF3
import Derived.Test.YtipablcbkoedbaaRow3
namespace Go.Proofs.Ytipablcbkoedbaa
open Go.RowKit Go.WideShapes Go.ChangeShapes Go.Joins Go.Deep

set_option maxHeartbeats 800000 in
theorem lawSheaf_any (A : Option Addr) (n cap : Nat) (cs : List CV) (w : World) (h : LAt w A n cs) (hm : n ≤ 9223372036854775807) :
    Calls Try.prog 27 #[.slice A n cap] w fun e w' => ∃ bb : Bool, e = .returned (.bool bb) ∧ Below w.heap.size w w' := by
  have HL := Lib.hid h.len
  have HA0 := Lib.hid h
  clear h
  go_enter Try.func27, Try.ntmps27
  go_wp2_with fail
  go_loopw [3] (fun i wr => ∃ (k : Nat), k ≤ n ∧ i = .int .i64 k ∧ Below w.heap.size w wr) (fun i _ => n - (intOf i).toNat)
  case atStart => exact ⟨0, Nat.zero_le _, rfl, Below.refl _ _⟩
  case round =>
    obtain ⟨k, hk, rfl, hb⟩ := hrel
    by_cases hkn : k < n
    · obtain ⟨b, off, hAe, hcs⟩ := HA0.out.at_ (by omega)
      subst hAe
      have hkl : k < cs.length := by rw [HL.out]; exact hkn
      have hcs' := hcs.below hb
      have hs := hcs'.s k hkl
      have he := hcs'.e k hkl
      have hlb := hcs'.lt
      have hcn := hcs.le k hkl
      clear hcs hcs' hkl
      generalize cvA cs k = cA at *
      generalize cvn cs k = cn at *
      generalize cvcap cs k = cc at *
      generalize cverr cs k = ce at *
      by_cases h60 : cn ≤ 60
      · have HF := Lib.hid (fun W => calls_val (few_any cA cn cc ce W hcn) (v' := .bool true) (by rw [decide_eq_true h60]))
        go_wp2_with fail
        refine (HF.out _).mono ?_; rintro e w1 ⟨rfl, hb1⟩
        have hb2 := hb.trans (hb1.mono hb.size)
        go_wp2
        go_roundw
        case rel => exact ⟨k + 1, by omega, by go_num, hb2⟩
        case measure => simp [intOf]; omega
      · have HF := Lib.hid (fun W => calls_val (few_any cA cn cc ce W hcn) (v' := .bool false) (by rw [decide_eq_false h60]))
        go_wp2_with fail
        refine (HF.out _).mono ?_; rintro e w1 ⟨rfl, hb1⟩
        have hb2 := hb.trans (hb1.mono hb.size)
        go_wp2
        go_ret
        exact ⟨_, rfl, hb2⟩
    · have hkk : k = n := by omega
      subst hkk
      go_wp2
      go_ret
      exact ⟨_, rfl, hb⟩

set_option maxRecDepth 100000 in
set_option maxHeartbeats 3200000 in
theorem curveSheaves_walk (A : Option Addr) (n cap : Nat) (cs : List CV) (x : Int) (w : World) (h : LAt w A n cs) (hm : n ≤ 9223372036854775807) :
    Calls Try.prog 5 #[.slice A n cap, .int .i64 x] w fun e w' => e = .returned (.bool true) ∧ Below w.heap.size w w' := by
  have HH := Lib.hid head_any
  have HA := Lib.hid h
  have HF := Lib.hid (fun W (hW : LAt W A n cs) => lawSheaf_any A n cap cs W hW hm)
  have H1 := Lib.hid (fun W (hW : LAt W A n cs) => Both_any A n cap cs x W hW hm)
  have H2 := Lib.hid (fun W (hW : LAt W A n cs) => RBoth_any A n cap cs x W hW hm)
  have H3 := Lib.hid (fun W (hW : LAt W A n cs) => Least_any A n cap cs x W hW hm)
  have H4 := Lib.hid (fun W (hW : LAt W A n cs) => RLeast_any A n cap cs x W hW hm)
  clear h
  generalize boErr cs x = be at *
  generalize boV cs x = bv at *
  generalize leB cs x = lb at *
  generalize shErr cs x = se at *
  obtain ⟨⟨r1, r2⟩, ⟨r3, r4⟩⟩ := bv
  obtain ⟨⟨l1, l2⟩, l3⟩ := lb
  go_enter Try.func5, Try.ntmps5
  have B1 := (Below.refl w.heap.size w)
  go_wp2_with fail
  refine (HH.out _).mono ?_; rintro e w1 ⟨rfl, hb1⟩
  have B2 := B1.trans (hb1.mono B1.size)
  go_wp2_with fail
  refine (HF.out _ (HA.out.below B2)).mono ?_; rintro e w2 ⟨bb, rfl, hb2⟩
  cases bb with
  | false =>
    go_wp2
    go_ret
    exact ⟨rfl, B2.trans (hb2.mono B2.size)⟩
  | true =>
    have B3 := B2.trans (hb2.mono B2.size)
    go_wp2_with fail
    refine (H1.out _ (HA.out.below B3)).mono ?_; rintro e w3 ⟨rfl, hb3⟩
    have B4 := B3.trans (hb3.mono B3.size)
    have B4a := B4.alloc B4.size (.cells #[.int .i64 r1, .int .i64 r2, .int .i64 r3, .int .i64 r4] 35)
    go_wp2_with fail
    refine (H2.out _ (HA.out.below B4a)).mono ?_; rintro e w4 ⟨rfl, hb4⟩
    have y0_4 := (Blk.new w3 35 #[.int .i64 r1, .int .i64 r2, .int .i64 r3, .int .i64 r4]).below hb4
    have y0_4c0 := y0_4.cell 0
    have y0_4c1 := y0_4.cell 1
    have y0_4c2 := y0_4.cell 2
    have y0_4c3 := y0_4.cell 3
    simp only [List.getElem?_toArray, List.getElem?_cons_zero, List.getElem?_cons_succ] at y0_4c0 y0_4c1 y0_4c2 y0_4c3
    have y0_4l := y0_4.lt
    have B5 := B4a.trans (hb4.mono B4a.size)
    have B5a := B5.alloc B5.size (.cells #[.int .i64 r1, .int .i64 r2, .int .i64 r3, .int .i64 r4] 35)
    go_wp2_with fail
    refine (H3.out _ (HA.out.below B5a)).mono ?_; rintro e w5 ⟨rfl, hb5⟩
    clear y0_4c0 y0_4c1 y0_4c2 y0_4c3 y0_4l
    have y0_5 := (y0_4.alloc (.cells #[.int .i64 r1, .int .i64 r2, .int .i64 r3, .int .i64 r4] 35)).below hb5
    have y1_5 := (Blk.new w4 35 #[.int .i64 r1, .int .i64 r2, .int .i64 r3, .int .i64 r4]).below hb5
    clear y0_4
    have y0_5c0 := y0_5.cell 0
    have y0_5c1 := y0_5.cell 1
    have y0_5c2 := y0_5.cell 2
    have y0_5c3 := y0_5.cell 3
    simp only [List.getElem?_toArray, List.getElem?_cons_zero, List.getElem?_cons_succ] at y0_5c0 y0_5c1 y0_5c2 y0_5c3
    have y0_5l := y0_5.lt
    have y1_5c0 := y1_5.cell 0
    have y1_5c1 := y1_5.cell 1
    have y1_5c2 := y1_5.cell 2
    have y1_5c3 := y1_5.cell 3
    simp only [List.getElem?_toArray, List.getElem?_cons_zero, List.getElem?_cons_succ] at y1_5c0 y1_5c1 y1_5c2 y1_5c3
    have y1_5l := y1_5.lt
    have B6 := B5a.trans (hb5.mono B5a.size)
    have B6a := B6.alloc B6.size (.cells #[.int .i64 l1, .int .i64 l2] 30)
    go_wp2_with fail
    refine (H4.out _ (HA.out.below B6a)).mono ?_; rintro e w6 ⟨rfl, hb6⟩
    clear y0_5c0 y0_5c1 y0_5c2 y0_5c3 y0_5l y1_5c0 y1_5c1 y1_5c2 y1_5c3 y1_5l
    have y0_6 := (y0_5.alloc (.cells #[.int .i64 l1, .int .i64 l2] 30)).below hb6
    have y1_6 := (y1_5.alloc (.cells #[.int .i64 l1, .int .i64 l2] 30)).below hb6
    have y2_6 := (Blk.new w5 30 #[.int .i64 l1, .int .i64 l2]).below hb6
    clear y0_5 y1_5
    have y0_6c0 := y0_6.cell 0
    have y0_6c1 := y0_6.cell 1
    have y0_6c2 := y0_6.cell 2
    have y0_6c3 := y0_6.cell 3
    simp only [List.getElem?_toArray, List.getElem?_cons_zero, List.getElem?_cons_succ] at y0_6c0 y0_6c1 y0_6c2 y0_6c3
    have y0_6l := y0_6.lt
    have y1_6c0 := y1_6.cell 0
    have y1_6c1 := y1_6.cell 1
    have y1_6c2 := y1_6.cell 2
    have y1_6c3 := y1_6.cell 3
    simp only [List.getElem?_toArray, List.getElem?_cons_zero, List.getElem?_cons_succ] at y1_6c0 y1_6c1 y1_6c2 y1_6c3
    have y1_6l := y1_6.lt
    have y2_6c0 := y2_6.cell 0
    have y2_6c1 := y2_6.cell 1
    simp only [List.getElem?_toArray, List.getElem?_cons_zero, List.getElem?_cons_succ] at y2_6c0 y2_6c1
    have y2_6l := y2_6.lt
    have BZ := B6a.trans (hb6.mono B6a.size)
    go_wp2
    go_ret
    exact ⟨rfl, BZ.alloc BZ.size _⟩

set_option maxRecDepth 100000 in
theorem curveSheaves_lifted (os : Os) (started : os.Started) (H : Type) (enc : TypeId × Value → H) :
    ReturnsInHanded Rows.curveSheavesRow.assume Try.checked os 5 .any (Rows.curveSheavesSpec.pre6 enc Try.prog Try.f5 Rows.curveSheavesRow.domain false) (Rows.curveSheavesSpec.post enc Try.prog Try.f5 false Rows.curveSheavesRow.fresh Rows.curveSheavesRow.handsOn Rows.curveSheavesRow.again) := by
  refine returnsInHanded_of_change (C := Try.checked) (by kernel_rfl) started (by kernel_rfl) Try.func5
    (ChangeSpec.witness6 (enc := enc) (C := Try.checked) false ⟨#[], #[.slice none 0 0, .int .i64 0], []⟩ 8 (by kernel_rfl) (by kernel_rfl) (by kernel_rfl) (by kernel_rfl)) ?_
  intro W base args ds gs before hval0 hW hcnd _
  have hval : ∀ (j : Nat) t v, Try.f5.params[j]? = some t → args[j]? = some v → Value.okWide Try.prog W .any base t v := hval0
  have hW' := hW
  obtain ⟨p, q, hA0, hV, rfl, hfz, hnd⟩ := hW
  obtain ⟨rfl, rfl⟩ := trodVars_none hV
  have hA : DataW.TrodAll enc Try.prog W 0 (fun _ => true) true [45, 3] args.toList ds p := hA0
  obtain ⟨v0, v1, d0, d1, p0, p1, rfl, rfl, rfl, h0, h1⟩ := trodAll_two hA
  obtain ⟨A, n, cap, cs, rfl, hC, hm⟩ := open_cvs (hval 0 45 v0 rfl rfl) h0
  obtain ⟨x, rfl, rfl, rfl, _⟩ := open_int Try.underlying3 (hval 1 3 v1 rfl rfl) h1
  refine (curveSheaves_walk A n cap cs x W hC hm).mono fun e W' ⟨he, hb⟩ => ⟨_, he, law_post laid_out (by kernel_rfl) rfl Try.underlying4 rfl hW' rfl rfl rfl hb⟩

theorem curveSheaves : Rows.CurveSheavesSaid :=
  OpenClaim.holds_of_wide 5 Try.f5 rfl rfl rfl rfl rfl rfl rfl ⟨rfl, rfl, rfl, rfl, rfl⟩ rfl rfl rfl rfl rfl (by kernel_rfl) Try.func5 (by kernel_rfl)
    (of_decide_eq_true (by kernel_rfl)) (by unfold Func.isWrapper; first | (rw [if_pos (by decide +kernel)]; kernel_rfl) | (rw [if_neg (by decide +kernel)]; exact ⟨rfl, rfl⟩))
    (fun os started H enc _ => curveSheaves_lifted os started H enc)
#print axioms curveSheaves

end Go.Proofs.Ytipablcbkoedbaa
