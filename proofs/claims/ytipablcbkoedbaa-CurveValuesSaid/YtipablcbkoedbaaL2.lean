/- CurveValues is proved: for every curve and x the program's Check, Domain, Value and Values answer as the reference implementation does. No condition. -/
import Derived.WalkKit
import Derived.WalkLawsBesides
import Derived.Deep.QuietTactic
import Derived.BigQuiet
import Derived.RegionTactic
import Derived.Lib.Hide
import Derived.Outline
import Derived.WalkSmall
import Derived.Lib.SmallJoins
import Derived.Test.YtipablcbkoedbaaProg
import Derived.Test.YtipablcbkoedbaaH3
import Derived.Test.YtipablcbkoedbaaF3
import Derived.Test.YtipablcbkoedbaaRow2
namespace Go.Proofs.Ytipablcbkoedbaa
open Go.RowKit Go.WideShapes Go.ChangeShapes Go.Joins

set_option maxRecDepth 100000 in
set_option maxHeartbeats 3200000 in
theorem curveValues_walk (A : Option Addr) (n cap : Nat) (err : Int) (ks : List (Int × Int)) (x : Int) (w : World) (h : CAt w A n ks) (hm : n ≤ 9223372036854775807) :
    Calls Try.prog 6 #[vCv A n cap err, .int .i64 x] w fun e w' => e = .returned (.bool true) ∧ Below w.heap.size w w' := by
  have HH := Lib.hid head_any
  have HA := Lib.hid h
  by_cases hn : n ≤ 60
  case neg =>
    have HF := Lib.hid (fun W => calls_val (few_any A n cap err W hm) (v' := .bool false) (by rw [decide_eq_false hn]))
    clear h
    generalize hW : w.alloc (.cells #[.slice A n cap, .int .i64 err] 24) = W
    have hbw : Below w.heap.size w W := by rw [← hW]; exact ((Below.refl w.heap.size w).alloc (Nat.le_refl _) _)
    have x0_0 : Blk W w.heap.size 24 #[.slice A n cap, .int .i64 err] := by rw [← hW]; exact (Blk.at_new _ _ rfl)
    have HWE := Lib.hid hW
    clear hW
    go_enter Try.func6, Try.ntmps6
    have B1 := hbw
    go_wp2_with fail
    rw [HWE.out]
    refine (HH.out _).mono ?_; rintro e w1 ⟨rfl, hb1⟩
    have x0_1 := x0_0.below hb1
    clear x0_0
    have x0_1c0 := x0_1.cell 0
    have x0_1c1 := x0_1.cell 1
    simp only [List.getElem?_toArray, List.getElem?_cons_zero, List.getElem?_cons_succ] at x0_1c0 x0_1c1
    have x0_1l := x0_1.lt
    have B2 := B1.trans (hb1.mono B1.size)
    go_wp2_with fail
    refine (HF.out _).mono ?_; rintro e w2 ⟨rfl, hb2⟩
    clear x0_1c0 x0_1c1 x0_1l
    have x0_2 := x0_1.below hb2
    clear x0_1
    have x0_2c0 := x0_2.cell 0
    have x0_2c1 := x0_2.cell 1
    simp only [List.getElem?_toArray, List.getElem?_cons_zero, List.getElem?_cons_succ] at x0_2c0 x0_2c1
    have x0_2l := x0_2.lt
    go_wp2
    go_ret
    exact ⟨rfl, B2.trans (hb2.mono B2.size)⟩
  have HF := Lib.hid (fun W => calls_val (few_any A n cap err W hm) (v' := .bool true) (by rw [decide_eq_true hn]))
  have H1 := Lib.hid (fun W (hW : CAt W A n ks) => Domain_any A n cap err ks W hW hm)
  have H2 := Lib.hid (fun W (hW : CAt W A n ks) => RDomain_any A n cap err ks W hW hm)
  have H3 := Lib.hid (fun W (hW : CAt W A n ks) => Value_any A n cap err ks x W hW hm)
  have H4 := Lib.hid (fun W (hW : CAt W A n ks) => RValue_any A n cap err ks x W hW hm)
  have H5 := Lib.hid (fun W (hW : CAt W A n ks) => Values_any A n cap err ks x W hW hm)
  have H6 := Lib.hid (fun W (hW : CAt W A n ks) => RValues_any A n cap err ks x W hW hm)
  have H7 := Lib.hid (fun W (hW : CAt W A n ks) => Check_any A n cap err ks W hW hm)
  have H8 := Lib.hid (fun W (hW : CAt W A n ks) => RCheck_any A n cap err ks W hW hm)
  clear h
  generalize check ks err = ce at *
  generalize valErr ks err x = ve at *
  generalize dmLo ks err = dl at *
  generalize dmHi ks err = dh at *
  generalize vN ks err x = vn at *
  generalize vD ks err x = vd at *
  generalize vsV ks err x = vs at *
  obtain ⟨⟨r1, r2⟩, ⟨r3, r4⟩⟩ := vs
  generalize hW : w.alloc (.cells #[.slice A n cap, .int .i64 err] 24) = W
  have hbw : Below w.heap.size w W := by rw [← hW]; exact ((Below.refl w.heap.size w).alloc (Nat.le_refl _) _)
  have x0_0 : Blk W w.heap.size 24 #[.slice A n cap, .int .i64 err] := by rw [← hW]; exact (Blk.at_new _ _ rfl)
  have HWE := Lib.hid hW
  clear hW
  go_enter Try.func6, Try.ntmps6
  have B1 := hbw
  go_wp2_with fail
  rw [HWE.out]
  refine (HH.out _).mono ?_; rintro e w1 ⟨rfl, hb1⟩
  have x0_1 := x0_0.below hb1
  clear x0_0
  have x0_1c0 := x0_1.cell 0
  have x0_1c1 := x0_1.cell 1
  simp only [List.getElem?_toArray, List.getElem?_cons_zero, List.getElem?_cons_succ] at x0_1c0 x0_1c1
  have x0_1l := x0_1.lt
  have B2 := B1.trans (hb1.mono B1.size)
  go_wp2_with fail
  refine (HF.out _).mono ?_; rintro e w2 ⟨rfl, hb2⟩
  clear x0_1c0 x0_1c1 x0_1l
  have x0_2 := x0_1.below hb2
  clear x0_1
  have x0_2c0 := x0_2.cell 0
  have x0_2c1 := x0_2.cell 1
  simp only [List.getElem?_toArray, List.getElem?_cons_zero, List.getElem?_cons_succ] at x0_2c0 x0_2c1
  have x0_2l := x0_2.lt
  have B3 := B2.trans (hb2.mono B2.size)
  go_wp2_with fail
  refine (H1.out _ (HA.out.below B3)).mono ?_; rintro e w3 ⟨rfl, hb3⟩
  clear x0_2c0 x0_2c1 x0_2l
  have x0_3 := x0_2.below hb3
  clear x0_2
  have x0_3c0 := x0_3.cell 0
  have x0_3c1 := x0_3.cell 1
  simp only [List.getElem?_toArray, List.getElem?_cons_zero, List.getElem?_cons_succ] at x0_3c0 x0_3c1
  have x0_3l := x0_3.lt
  have B4 := B3.trans (hb3.mono B3.size)
  have B4a := B4.alloc B4.size (.cells #[.int .i64 dl, .int .i64 dh] 26)
  go_wp2_with fail
  refine (H2.out _ (HA.out.below B4a)).mono ?_; rintro e w4 ⟨rfl, hb4⟩
  clear x0_3c0 x0_3c1 x0_3l
  have x0_4 := (x0_3.alloc (.cells #[.int .i64 dl, .int .i64 dh] 26)).below hb4
  have y0_4 := (Blk.new w3 26 #[.int .i64 dl, .int .i64 dh]).below hb4
  clear x0_3
  have x0_4c0 := x0_4.cell 0
  have x0_4c1 := x0_4.cell 1
  simp only [List.getElem?_toArray, List.getElem?_cons_zero, List.getElem?_cons_succ] at x0_4c0 x0_4c1
  have x0_4l := x0_4.lt
  have y0_4c0 := y0_4.cell 0
  have y0_4c1 := y0_4.cell 1
  simp only [List.getElem?_toArray, List.getElem?_cons_zero, List.getElem?_cons_succ] at y0_4c0 y0_4c1
  have y0_4l := y0_4.lt
  have B5 := B4a.trans (hb4.mono B4a.size)
  have B5a := B5.alloc B5.size (.cells #[.int .i64 dl, .int .i64 dh] 26)
  go_wp2_with fail
  refine (H3.out _ (HA.out.below B5a)).mono ?_; rintro e w5 ⟨rfl, hb5⟩
  clear x0_4c0 x0_4c1 x0_4l y0_4c0 y0_4c1 y0_4l
  have x0_5 := (x0_4.alloc (.cells #[.int .i64 dl, .int .i64 dh] 26)).below hb5
  have y0_5 := (y0_4.alloc (.cells #[.int .i64 dl, .int .i64 dh] 26)).below hb5
  have y1_5 := (Blk.new w4 26 #[.int .i64 dl, .int .i64 dh]).below hb5
  clear x0_4 y0_4
  have x0_5c0 := x0_5.cell 0
  have x0_5c1 := x0_5.cell 1
  simp only [List.getElem?_toArray, List.getElem?_cons_zero, List.getElem?_cons_succ] at x0_5c0 x0_5c1
  have x0_5l := x0_5.lt
  have y0_5c0 := y0_5.cell 0
  have y0_5c1 := y0_5.cell 1
  simp only [List.getElem?_toArray, List.getElem?_cons_zero, List.getElem?_cons_succ] at y0_5c0 y0_5c1
  have y0_5l := y0_5.lt
  have y1_5c0 := y1_5.cell 0
  have y1_5c1 := y1_5.cell 1
  simp only [List.getElem?_toArray, List.getElem?_cons_zero, List.getElem?_cons_succ] at y1_5c0 y1_5c1
  have y1_5l := y1_5.lt
  have B6 := B5a.trans (hb5.mono B5a.size)
  have B6a := B6.alloc B6.size (.cells #[.int .i64 vn, .int .i64 vd] 30)
  go_wp2_with fail
  refine (H4.out _ (HA.out.below B6a)).mono ?_; rintro e w6 ⟨rfl, hb6⟩
  clear x0_5c0 x0_5c1 x0_5l y0_5c0 y0_5c1 y0_5l y1_5c0 y1_5c1 y1_5l
  have x0_6 := (x0_5.alloc (.cells #[.int .i64 vn, .int .i64 vd] 30)).below hb6
  have y0_6 := (y0_5.alloc (.cells #[.int .i64 vn, .int .i64 vd] 30)).below hb6
  have y1_6 := (y1_5.alloc (.cells #[.int .i64 vn, .int .i64 vd] 30)).below hb6
  have y2_6 := (Blk.new w5 30 #[.int .i64 vn, .int .i64 vd]).below hb6
  clear x0_5 y0_5 y1_5
  have x0_6c0 := x0_6.cell 0
  have x0_6c1 := x0_6.cell 1
  simp only [List.getElem?_toArray, List.getElem?_cons_zero, List.getElem?_cons_succ] at x0_6c0 x0_6c1
  have x0_6l := x0_6.lt
  have y0_6c0 := y0_6.cell 0
  have y0_6c1 := y0_6.cell 1
  simp only [List.getElem?_toArray, List.getElem?_cons_zero, List.getElem?_cons_succ] at y0_6c0 y0_6c1
  have y0_6l := y0_6.lt
  have y1_6c0 := y1_6.cell 0
  have y1_6c1 := y1_6.cell 1
  simp only [List.getElem?_toArray, List.getElem?_cons_zero, List.getElem?_cons_succ] at y1_6c0 y1_6c1
  have y1_6l := y1_6.lt
  have y2_6c0 := y2_6.cell 0
  have y2_6c1 := y2_6.cell 1
  simp only [List.getElem?_toArray, List.getElem?_cons_zero, List.getElem?_cons_succ] at y2_6c0 y2_6c1
  have y2_6l := y2_6.lt
  have B7 := B6a.trans (hb6.mono B6a.size)
  have B7a := B7.alloc B7.size (.cells #[.int .i64 vn, .int .i64 vd] 30)
  go_wp2_with fail
  refine (H5.out _ (HA.out.below B7a)).mono ?_; rintro e w7 ⟨rfl, hb7⟩
  clear x0_6c0 x0_6c1 x0_6l y0_6c0 y0_6c1 y0_6l y1_6c0 y1_6c1 y1_6l y2_6c0 y2_6c1 y2_6l
  have x0_7 := (x0_6.alloc (.cells #[.int .i64 vn, .int .i64 vd] 30)).below hb7
  have y0_7 := (y0_6.alloc (.cells #[.int .i64 vn, .int .i64 vd] 30)).below hb7
  have y1_7 := (y1_6.alloc (.cells #[.int .i64 vn, .int .i64 vd] 30)).below hb7
  have y2_7 := (y2_6.alloc (.cells #[.int .i64 vn, .int .i64 vd] 30)).below hb7
  have y3_7 := (Blk.new w6 30 #[.int .i64 vn, .int .i64 vd]).below hb7
  clear x0_6 y0_6 y1_6 y2_6
  have x0_7c0 := x0_7.cell 0
  have x0_7c1 := x0_7.cell 1
  simp only [List.getElem?_toArray, List.getElem?_cons_zero, List.getElem?_cons_succ] at x0_7c0 x0_7c1
  have x0_7l := x0_7.lt
  have y0_7c0 := y0_7.cell 0
  have y0_7c1 := y0_7.cell 1
  simp only [List.getElem?_toArray, List.getElem?_cons_zero, List.getElem?_cons_succ] at y0_7c0 y0_7c1
  have y0_7l := y0_7.lt
  have y1_7c0 := y1_7.cell 0
  have y1_7c1 := y1_7.cell 1
  simp only [List.getElem?_toArray, List.getElem?_cons_zero, List.getElem?_cons_succ] at y1_7c0 y1_7c1
  have y1_7l := y1_7.lt
  have y2_7c0 := y2_7.cell 0
  have y2_7c1 := y2_7.cell 1
  simp only [List.getElem?_toArray, List.getElem?_cons_zero, List.getElem?_cons_succ] at y2_7c0 y2_7c1
  have y2_7l := y2_7.lt
  have y3_7c0 := y3_7.cell 0
  have y3_7c1 := y3_7.cell 1
  simp only [List.getElem?_toArray, List.getElem?_cons_zero, List.getElem?_cons_succ] at y3_7c0 y3_7c1
  have y3_7l := y3_7.lt
  have B8 := B7a.trans (hb7.mono B7a.size)
  have B8a := B8.alloc B8.size (.cells #[.int .i64 r1, .int .i64 r2, .int .i64 r3, .int .i64 r4] 35)
  go_wp2_with fail
  refine (H6.out _ (HA.out.below B8a)).mono ?_; rintro e w8 ⟨rfl, hb8⟩
  clear x0_7c0 x0_7c1 x0_7l y0_7c0 y0_7c1 y0_7l y1_7c0 y1_7c1 y1_7l y2_7c0 y2_7c1 y2_7l y3_7c0 y3_7c1 y3_7l
  have x0_8 := (x0_7.alloc (.cells #[.int .i64 r1, .int .i64 r2, .int .i64 r3, .int .i64 r4] 35)).below hb8
  have y0_8 := (y0_7.alloc (.cells #[.int .i64 r1, .int .i64 r2, .int .i64 r3, .int .i64 r4] 35)).below hb8
  have y1_8 := (y1_7.alloc (.cells #[.int .i64 r1, .int .i64 r2, .int .i64 r3, .int .i64 r4] 35)).below hb8
  have y2_8 := (y2_7.alloc (.cells #[.int .i64 r1, .int .i64 r2, .int .i64 r3, .int .i64 r4] 35)).below hb8
  have y3_8 := (y3_7.alloc (.cells #[.int .i64 r1, .int .i64 r2, .int .i64 r3, .int .i64 r4] 35)).below hb8
  have y4_8 := (Blk.new w7 35 #[.int .i64 r1, .int .i64 r2, .int .i64 r3, .int .i64 r4]).below hb8
  clear x0_7 y0_7 y1_7 y2_7 y3_7
  have x0_8c0 := x0_8.cell 0
  have x0_8c1 := x0_8.cell 1
  simp only [List.getElem?_toArray, List.getElem?_cons_zero, List.getElem?_cons_succ] at x0_8c0 x0_8c1
  have x0_8l := x0_8.lt
  have y0_8c0 := y0_8.cell 0
  have y0_8c1 := y0_8.cell 1
  simp only [List.getElem?_toArray, List.getElem?_cons_zero, List.getElem?_cons_succ] at y0_8c0 y0_8c1
  have y0_8l := y0_8.lt
  have y1_8c0 := y1_8.cell 0
  have y1_8c1 := y1_8.cell 1
  simp only [List.getElem?_toArray, List.getElem?_cons_zero, List.getElem?_cons_succ] at y1_8c0 y1_8c1
  have y1_8l := y1_8.lt
  have y2_8c0 := y2_8.cell 0
  have y2_8c1 := y2_8.cell 1
  simp only [List.getElem?_toArray, List.getElem?_cons_zero, List.getElem?_cons_succ] at y2_8c0 y2_8c1
  have y2_8l := y2_8.lt
  have y3_8c0 := y3_8.cell 0
  have y3_8c1 := y3_8.cell 1
  simp only [List.getElem?_toArray, List.getElem?_cons_zero, List.getElem?_cons_succ] at y3_8c0 y3_8c1
  have y3_8l := y3_8.lt
  have y4_8c0 := y4_8.cell 0
  have y4_8c1 := y4_8.cell 1
  have y4_8c2 := y4_8.cell 2
  have y4_8c3 := y4_8.cell 3
  simp only [List.getElem?_toArray, List.getElem?_cons_zero, List.getElem?_cons_succ] at y4_8c0 y4_8c1 y4_8c2 y4_8c3
  have y4_8l := y4_8.lt
  have B9 := B8a.trans (hb8.mono B8a.size)
  clear x0_8c0 x0_8c1 x0_8l y0_8c0 y0_8c1 y0_8l y1_8c0 y1_8c1 y1_8l y2_8c0 y2_8c1 y2_8l y3_8c0 y3_8c1 y3_8l y4_8c0 y4_8c1 y4_8c2 y4_8c3 y4_8l
  have B9a := B9.alloc B9.size (.cells #[.int .i64 r1, .int .i64 r2, .int .i64 r3, .int .i64 r4] 35)
  have x0_9 := (x0_8.alloc (.cells #[.int .i64 r1, .int .i64 r2, .int .i64 r3, .int .i64 r4] 35))
  have y0_9 := (y0_8.alloc (.cells #[.int .i64 r1, .int .i64 r2, .int .i64 r3, .int .i64 r4] 35))
  have y1_9 := (y1_8.alloc (.cells #[.int .i64 r1, .int .i64 r2, .int .i64 r3, .int .i64 r4] 35))
  have y2_9 := (y2_8.alloc (.cells #[.int .i64 r1, .int .i64 r2, .int .i64 r3, .int .i64 r4] 35))
  have y3_9 := (y3_8.alloc (.cells #[.int .i64 r1, .int .i64 r2, .int .i64 r3, .int .i64 r4] 35))
  have y4_9 := (y4_8.alloc (.cells #[.int .i64 r1, .int .i64 r2, .int .i64 r3, .int .i64 r4] 35))
  have y5_9 := Blk.new w8 35 #[.int .i64 r1, .int .i64 r2, .int .i64 r3, .int .i64 r4]
  go_wp2_with fail
  generalize hV : w8.alloc (.cells #[.int .i64 r1, .int .i64 r2, .int .i64 r3, .int .i64 r4] 35) = V at *
  generalize hg : w8.heap.size = gv at *
  clear hV hg
  have x0_9c0 := x0_9.cell 0
  have x0_9c1 := x0_9.cell 1
  simp only [List.getElem?_toArray, List.getElem?_cons_zero, List.getElem?_cons_succ] at x0_9c0 x0_9c1
  have x0_9l := x0_9.lt
  have y0_9c0 := y0_9.cell 0
  have y0_9c1 := y0_9.cell 1
  simp only [List.getElem?_toArray, List.getElem?_cons_zero, List.getElem?_cons_succ] at y0_9c0 y0_9c1
  have y0_9l := y0_9.lt
  have y1_9c0 := y1_9.cell 0
  have y1_9c1 := y1_9.cell 1
  simp only [List.getElem?_toArray, List.getElem?_cons_zero, List.getElem?_cons_succ] at y1_9c0 y1_9c1
  have y1_9l := y1_9.lt
  have y2_9c0 := y2_9.cell 0
  have y2_9c1 := y2_9.cell 1
  simp only [List.getElem?_toArray, List.getElem?_cons_zero, List.getElem?_cons_succ] at y2_9c0 y2_9c1
  have y2_9l := y2_9.lt
  have y3_9c0 := y3_9.cell 0
  have y3_9c1 := y3_9.cell 1
  simp only [List.getElem?_toArray, List.getElem?_cons_zero, List.getElem?_cons_succ] at y3_9c0 y3_9c1
  have y3_9l := y3_9.lt
  have y4_9c0 := y4_9.cell 0
  have y4_9c1 := y4_9.cell 1
  have y4_9c2 := y4_9.cell 2
  have y4_9c3 := y4_9.cell 3
  simp only [List.getElem?_toArray, List.getElem?_cons_zero, List.getElem?_cons_succ] at y4_9c0 y4_9c1 y4_9c2 y4_9c3
  have y4_9l := y4_9.lt
  have y5_9c0 := y5_9.cell 0
  have y5_9c1 := y5_9.cell 1
  have y5_9c2 := y5_9.cell 2
  have y5_9c3 := y5_9.cell 3
  simp only [List.getElem?_toArray, List.getElem?_cons_zero, List.getElem?_cons_succ] at y5_9c0 y5_9c1 y5_9c2 y5_9c3
  have y5_9l := y5_9.lt
  have HAV := Lib.hid (HA.out.below B9a)
  obtain ⟨xc, xf⟩ := xcell (W := V)
  refine wp_region_quiet_tail 38 (by kernel_rfl) (by kernel_rfl) ?_
  simp only [List.take_succ_cons, List.take_zero, List.drop_succ_cons, List.drop_zero]
  repeat (first | go_big_quiet_step (first | (go_at_call 38; with_reducible refine calls_ext (H7.out _ ?_); exact HAV.out.below (Ext.below _)) | (go_at_call 39; with_reducible refine calls_ext (H8.out _ ?_); exact HAV.out.below (Ext.below _))) | quiet_step (first | (go_at_call 38; with_reducible refine calls_ext (H7.out _ ?_); exact HAV.out.below (Ext.below _)) | (go_at_call 39; with_reducible refine calls_ext (H8.out _ ?_); exact HAV.out.below (Ext.below _))))
  refine wpQuiet_nil ?_
  intro wz hbz
  go_wp2
  go_ret
  exact ⟨rfl, B9a.trans (hbz.mono B9a.size)⟩

set_option maxRecDepth 100000 in
theorem curveValues_lifted (os : Os) (started : os.Started) (H : Type) (enc : TypeId × Value → H) :
    ReturnsInHanded Rows.curveValuesRow.assume Try.checked os 6 .any (Rows.curveValuesSpec.pre6 enc Try.prog Try.f6 Rows.curveValuesRow.domain false) (Rows.curveValuesSpec.post enc Try.prog Try.f6 false Rows.curveValuesRow.fresh Rows.curveValuesRow.handsOn Rows.curveValuesRow.again) := by
  refine returnsInHanded_of_change (C := Try.checked) (by kernel_rfl) started (by kernel_rfl) Try.func6
    (ChangeSpec.witness6 (enc := enc) (C := Try.checked) false ⟨#[], #[vCv none 0 0 0, .int .i64 0], []⟩ 8 (by kernel_rfl) (by kernel_rfl) (by kernel_rfl) (by kernel_rfl)) ?_
  intro W base args ds gs before hval0 hW hcnd _
  have hval : ∀ (j : Nat) t v, Try.f6.params[j]? = some t → args[j]? = some v → Value.okWide Try.prog W .any base t v := hval0
  have hW' := hW
  obtain ⟨p, q, hA0, hV, rfl, hfz, hnd⟩ := hW
  obtain ⟨rfl, rfl⟩ := trodVars_none hV
  have hA : DataW.TrodAll enc Try.prog W 0 (fun _ => true) true [24, 3] args.toList ds p := hA0
  obtain ⟨v0, v1, d0, d1, p0, p1, rfl, rfl, rfl, h0, h1⟩ := trodAll_two hA
  obtain ⟨A, n, cap, err, ks, rfl, hC, hm, _, _, rfl⟩ := open_cv (hval 0 24 v0 rfl rfl) h0
  obtain ⟨x, rfl, rfl, rfl, _⟩ := open_int Try.underlying3 (hval 1 3 v1 rfl rfl) h1
  refine (curveValues_walk A n cap err ks x W hC hm).mono fun e W' ⟨he, hb⟩ => ⟨_, he, law_post laid_out (by kernel_rfl) rfl Try.underlying4 rfl hW' rfl rfl rfl hb⟩

theorem curveValues : Rows.CurveValuesSaid :=
  OpenClaim.holds_of_wide 6 Try.f6 rfl rfl rfl rfl rfl rfl rfl ⟨rfl, rfl, rfl, rfl, rfl⟩ rfl rfl rfl rfl rfl (by kernel_rfl) Try.func6 (by kernel_rfl)
    (of_decide_eq_true (by kernel_rfl)) (by unfold Func.isWrapper; first | (rw [if_pos (by decide +kernel)]; kernel_rfl) | (rw [if_neg (by decide +kernel)]; exact ⟨rfl, rfl⟩))
    (fun os started H enc _ => curveValues_lifted os started H enc)
#print axioms curveValues

end Go.Proofs.Ytipablcbkoedbaa
