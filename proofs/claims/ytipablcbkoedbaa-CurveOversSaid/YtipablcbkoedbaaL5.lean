/- CurveOvers is proved: for every curve, span and peak the program's Over and CheckOver answer as the reference implementation does. No condition. -/
import Derived.WalkKit
import Derived.WalkLawsBesides
import Derived.Deep.QuietTactic
import Derived.BigQuiet
import Derived.RegionTactic
import Derived.Lib.Hide
import Derived.Outline
import Derived.WalkSmall
import Derived.Lib.SmallJoins
import Derived.Test.YtipablcbkoedbaaProg
import Derived.Test.YtipablcbkoedbaaK2
import Derived.Test.YtipablcbkoedbaaF3
import Derived.Test.YtipablcbkoedbaaRow2
namespace Go.Proofs.Ytipablcbkoedbaa
open Go.RowKit Go.WideShapes Go.ChangeShapes Go.Joins Go.Deep

/-- The parts of a peak are small. -/
structure PkB (p : Pk) : Prop where
  a : -1099511627776 ≤ p.ln ∧ p.ln ≤ 1099511627776
  b : -1099511627776 ≤ p.ld ∧ p.ld ≤ 1099511627776
  c : -1099511627776 ≤ p.hn ∧ p.hn ≤ 1099511627776
  d : -1099511627776 ≤ p.hd ∧ p.hd ≤ 1099511627776
  e : -1099511627776 ≤ p.la ∧ p.la ≤ 1099511627776
  f : -1099511627776 ≤ p.ha ∧ p.ha ≤ 1099511627776
theorem ovPk_bd (ks : List (Int × Int)) (err lo hi : Int) : PkB (ovPk ks err lo hi) := by
  by_cases h : ovErr ks err lo hi = 0
  · obtain ⟨hv, _, _, hlh, hlo, hhi⟩ := ov_valid h
    have hpos := hv.pos
    have hl0 := (hv.x0 0 hpos).1
    have hh0 := (hv.x0 (ks.length - 1) (by omega)).2
    have hXm : ∀ x ∈ ovXs ks lo hi, lo ≤ x ∧ x ≤ hi := fun x hx => cornerL_mem hlh hx
    have hfr : ∀ x ∈ ovXs ks lo hi, FrB (fV ks x) := fun x hx => fV_frb hv (by have := hXm x hx; omega)
    obtain ⟨a, ha, ea⟩ := best_spots cmp_lt (fV ks) (ovXs ks lo hi) (corner_inc _ _ _) (fun x hx => by have := (hfr x hx).d1; omega) (cornerL_pos _ _ _)
    obtain ⟨b, hb, eb⟩ := best_spots cmp_gt (fV ks) (ovXs ks lo hi) (corner_inc _ _ _) (fun x hx => by have := (hfr x hx).d1; omega) (cornerL_pos _ _ _)
    have ea' : (extr ltS (spots (fV ks) (ovXs ks lo hi)) (0, 0, 0)).1 = (a, fV ks a) := ea
    have eb' : (extr gtS (spots (fV ks) (ovXs ks lo hi)) (0, 0, 0)).1 = (b, fV ks b) := eb
    have f1 := hfr a ha.mem
    have f2 := hfr b hb.mem
    have m1 := hXm a ha.mem
    have m2 := hXm b hb.mem
    unfold ovPk
    rw [if_pos h]
    unfold pkOf pkLo pkHi
    rw [ea', eb']
    show PkB ⟨(fV ks a).1, (fV ks a).2, (fV ks b).1, (fV ks b).2, a, b⟩
    generalize fV ks a = u at *
    generalize fV ks b = v at *
    obtain ⟨p1, p2, p3, p4⟩ := f1
    obtain ⟨q1, q2, q3, q4⟩ := f2
    refine ⟨⟨?_, ?_⟩, ⟨?_, ?_⟩, ⟨?_, ?_⟩, ⟨?_, ?_⟩, ⟨?_, ?_⟩, ⟨?_, ?_⟩⟩ <;> dsimp only <;> omega
  · unfold ovPk
    rw [if_neg h]
    exact ⟨by decide, by decide, by decide, by decide, by decide, by decide⟩

set_option maxRecDepth 100000 in
set_option maxHeartbeats 6400000 in
theorem curveOvers_walk (A : Option Addr) (n cap : Nat) (err : Int) (ks : List (Int × Int)) (lo hi : Int) (p : Pk) (what : Int) (w : World) (h : CAt w A n ks) (hm : n ≤ 9223372036854775807) (hw1 : 0 ≤ what) (hw2 : what ≤ 255) :
    Calls Try.prog 4 #[vCv A n cap err, vSpan lo hi, p.v, .int .u8 what] w fun e w' => e = .returned (.bool true) ∧ Below w.heap.size w w' := by
  have HH := Lib.hid head_any
  have HA := Lib.hid h
  obtain ⟨p1, p2, p3, p4, p5, p6⟩ := p
  dsimp only [Pk.v]
  by_cases hn : n ≤ 60
  case neg =>
    have HF := Lib.hid (fun W => calls_val (few_any A n cap err W hm) (v' := .bool false) (by rw [decide_eq_false hn]))
    clear h
    generalize hW : ((w.alloc (.cells #[.slice A n cap, .int .i64 err] 24)).alloc (.cells #[.int .i64 lo, .int .i64 hi] 26)).alloc (.cells #[.int .i64 p1, .int .i64 p2, .int .i64 p3, .int .i64 p4, .int .i64 p5, .int .i64 p6] 40) = W
    have hbw : Below w.heap.size w W := by rw [← hW]; exact ((((Below.refl w.heap.size w).alloc (Nat.le_refl _) _).alloc (by simp) _).alloc (by simp; omega) _)
    have x0_0 : Blk W w.heap.size 24 #[.slice A n cap, .int .i64 err] := by rw [← hW]; exact (((Blk.at_new _ _ rfl).alloc _).alloc _)
    have x1_0 : Blk W (w.heap.size + 1) 26 #[.int .i64 lo, .int .i64 hi] := by rw [← hW]; exact ((Blk.at_new _ _ (by simp)).alloc _)
    have x2_0 : Blk W (w.heap.size + 2) 40 #[.int .i64 p1, .int .i64 p2, .int .i64 p3, .int .i64 p4, .int .i64 p5, .int .i64 p6] := by rw [← hW]; exact (Blk.at_new _ _ (by simp))
    have HWE := Lib.hid hW
    clear hW
    go_enter Try.func4, Try.ntmps4
    have B1 := hbw
    go_wp2_with fail
    rw [HWE.out]
    refine (HH.out _).mono ?_; rintro e w1 ⟨rfl, hb1⟩
    have x0_1 := x0_0.below hb1
    have x1_1 := x1_0.below hb1
    have x2_1 := x2_0.below hb1
    clear x0_0 x1_0 x2_0
    have x0_1c0 := x0_1.cell 0
    have x0_1c1 := x0_1.cell 1
    simp only [List.getElem?_toArray, List.getElem?_cons_zero, List.getElem?_cons_succ] at x0_1c0 x0_1c1
    have x0_1l := x0_1.lt
    have x1_1c0 := x1_1.cell 0
    have x1_1c1 := x1_1.cell 1
    simp only [List.getElem?_toArray, List.getElem?_cons_zero, List.getElem?_cons_succ] at x1_1c0 x1_1c1
    have x1_1l := x1_1.lt
    have x2_1c0 := x2_1.cell 0
    have x2_1c1 := x2_1.cell 1
    have x2_1c2 := x2_1.cell 2
    have x2_1c3 := x2_1.cell 3
    have x2_1c4 := x2_1.cell 4
    have x2_1c5 := x2_1.cell 5
    simp only [List.getElem?_toArray, List.getElem?_cons_zero, List.getElem?_cons_succ] at x2_1c0 x2_1c1 x2_1c2 x2_1c3 x2_1c4 x2_1c5
    have x2_1l := x2_1.lt
    have B2 := B1.trans (hb1.mono B1.size)
    go_wp2_with fail
    refine (HF.out _).mono ?_; rintro e w2 ⟨rfl, hb2⟩
    clear x0_1c0 x0_1c1 x0_1l x1_1c0 x1_1c1 x1_1l x2_1c0 x2_1c1 x2_1c2 x2_1c3 x2_1c4 x2_1c5 x2_1l
    have x0_2 := x0_1.below hb2
    have x1_2 := x1_1.below hb2
    have x2_2 := x2_1.below hb2
    clear x0_1 x1_1 x2_1
    have x0_2c0 := x0_2.cell 0
    have x0_2c1 := x0_2.cell 1
    simp only [List.getElem?_toArray, List.getElem?_cons_zero, List.getElem?_cons_succ] at x0_2c0 x0_2c1
    have x0_2l := x0_2.lt
    have x1_2c0 := x1_2.cell 0
    have x1_2c1 := x1_2.cell 1
    simp only [List.getElem?_toArray, List.getElem?_cons_zero, List.getElem?_cons_succ] at x1_2c0 x1_2c1
    have x1_2l := x1_2.lt
    have x2_2c0 := x2_2.cell 0
    have x2_2c1 := x2_2.cell 1
    have x2_2c2 := x2_2.cell 2
    have x2_2c3 := x2_2.cell 3
    have x2_2c4 := x2_2.cell 4
    have x2_2c5 := x2_2.cell 5
    simp only [List.getElem?_toArray, List.getElem?_cons_zero, List.getElem?_cons_succ] at x2_2c0 x2_2c1 x2_2c2 x2_2c3 x2_2c4 x2_2c5
    have x2_2l := x2_2.lt
    go_wp2
    go_ret
    exact ⟨rfl, B2.trans (hb2.mono B2.size)⟩
  have HF := Lib.hid (fun W => calls_val (few_any A n cap err W hm) (v' := .bool true) (by rw [decide_eq_true hn]))
  have h1 : ∀ W, CAt W A n ks → Calls Try.prog 23 #[vCv A n cap err, vSpan lo hi] W fun e w' => e = .returned (.tuple #[vPeak (ovPk ks err lo hi).ln (ovPk ks err lo hi).ld (ovPk ks err lo hi).hn (ovPk ks err lo hi).hd (ovPk ks err lo hi).la (ovPk ks err lo hi).ha, .int .i64 (ovErr ks err lo hi)]) ∧ Below W.heap.size W w' := fun W hW => Over_any A n cap err ks lo hi W hW hm
  have h2 : ∀ W, CAt W A n ks → Calls Try.prog 24 #[vCv A n cap err, vSpan lo hi] W fun e w' => e = .returned (.tuple #[vPeak (ovPk ks err lo hi).ln (ovPk ks err lo hi).ld (ovPk ks err lo hi).hn (ovPk ks err lo hi).hd (ovPk ks err lo hi).la (ovPk ks err lo hi).ha, .int .i64 (ovErr ks err lo hi)]) ∧ Below W.heap.size W w' := fun W hW => ROver_any A n cap err ks lo hi W hW hm
  have h3 : ∀ (q1 q2 q3 q4 q5 q6 : Int) W, CAt W A n ks → Calls Try.prog 25 #[vCv A n cap err, vSpan lo hi, vPeak q1 q2 q3 q4 q5 q6] W fun e w' => e = .returned (.int .i64 (coErr ks err lo hi ⟨q1, q2, q3, q4, q5, q6⟩)) ∧ Below W.heap.size W w' := fun q1 q2 q3 q4 q5 q6 W hW => CheckOver_any A n cap err ks lo hi ⟨q1, q2, q3, q4, q5, q6⟩ W hW hm
  have h4 : ∀ (q1 q2 q3 q4 q5 q6 : Int) W, CAt W A n ks → Calls Try.prog 26 #[vCv A n cap err, vSpan lo hi, vPeak q1 q2 q3 q4 q5 q6] W fun e w' => e = .returned (.int .i64 (coErr ks err lo hi ⟨q1, q2, q3, q4, q5, q6⟩)) ∧ Below W.heap.size W w' := fun q1 q2 q3 q4 q5 q6 W hW => RCheckOver_any A n cap err ks lo hi ⟨q1, q2, q3, q4, q5, q6⟩ W hW hm
  obtain ⟨⟨ba, ba'⟩, ⟨bb, bb'⟩, ⟨bc, bc'⟩, ⟨bd, bd'⟩, ⟨be, be'⟩, ⟨bf, bf'⟩⟩ := ovPk_bd ks err lo hi
  generalize (ovPk ks err lo hi).ln = ln at *
  generalize (ovPk ks err lo hi).ld = ld at *
  generalize (ovPk ks err lo hi).hn = hn' at *
  generalize (ovPk ks err lo hi).hd = hd at *
  generalize (ovPk ks err lo hi).la = la at *
  generalize (ovPk ks err lo hi).ha = ha at *
  have H1 := Lib.hid h1
  have H2 := Lib.hid h2
  have H3 := Lib.hid h3
  have H4 := Lib.hid h4
  clear h h1 h2 h3 h4
  generalize ovErr ks err lo hi = oe at *
  generalize hW : ((w.alloc (.cells #[.slice A n cap, .int .i64 err] 24)).alloc (.cells #[.int .i64 lo, .int .i64 hi] 26)).alloc (.cells #[.int .i64 p1, .int .i64 p2, .int .i64 p3, .int .i64 p4, .int .i64 p5, .int .i64 p6] 40) = W
  have hbw : Below w.heap.size w W := by rw [← hW]; exact ((((Below.refl w.heap.size w).alloc (Nat.le_refl _) _).alloc (by simp) _).alloc (by simp; omega) _)
  have x0_0 : Blk W w.heap.size 24 #[.slice A n cap, .int .i64 err] := by rw [← hW]; exact (((Blk.at_new _ _ rfl).alloc _).alloc _)
  have x1_0 : Blk W (w.heap.size + 1) 26 #[.int .i64 lo, .int .i64 hi] := by rw [← hW]; exact ((Blk.at_new _ _ (by simp)).alloc _)
  have x2_0 : Blk W (w.heap.size + 2) 40 #[.int .i64 p1, .int .i64 p2, .int .i64 p3, .int .i64 p4, .int .i64 p5, .int .i64 p6] := by rw [← hW]; exact (Blk.at_new _ _ (by simp))
  have HWE := Lib.hid hW
  clear hW
  go_enter Try.func4, Try.ntmps4
  have B1 := hbw
  go_wp2_with fail
  rw [HWE.out]
  refine (HH.out _).mono ?_; rintro e w1 ⟨rfl, hb1⟩
  have x0_1 := x0_0.below hb1
  have x1_1 := x1_0.below hb1
  have x2_1 := x2_0.below hb1
  clear x0_0 x1_0 x2_0
  have x0_1c0 := x0_1.cell 0
  have x0_1c1 := x0_1.cell 1
  simp only [List.getElem?_toArray, List.getElem?_cons_zero, List.getElem?_cons_succ] at x0_1c0 x0_1c1
  have x0_1l := x0_1.lt
  have x1_1c0 := x1_1.cell 0
  have x1_1c1 := x1_1.cell 1
  simp only [List.getElem?_toArray, List.getElem?_cons_zero, List.getElem?_cons_succ] at x1_1c0 x1_1c1
  have x1_1l := x1_1.lt
  have x2_1c0 := x2_1.cell 0
  have x2_1c1 := x2_1.cell 1
  have x2_1c2 := x2_1.cell 2
  have x2_1c3 := x2_1.cell 3
  have x2_1c4 := x2_1.cell 4
  have x2_1c5 := x2_1.cell 5
  simp only [List.getElem?_toArray, List.getElem?_cons_zero, List.getElem?_cons_succ] at x2_1c0 x2_1c1 x2_1c2 x2_1c3 x2_1c4 x2_1c5
  have x2_1l := x2_1.lt
  have B2 := B1.trans (hb1.mono B1.size)
  go_wp2_with fail
  refine (HF.out _).mono ?_; rintro e w2 ⟨rfl, hb2⟩
  clear x0_1c0 x0_1c1 x0_1l x1_1c0 x1_1c1 x1_1l x2_1c0 x2_1c1 x2_1c2 x2_1c3 x2_1c4 x2_1c5 x2_1l
  have x0_2 := x0_1.below hb2
  have x1_2 := x1_1.below hb2
  have x2_2 := x2_1.below hb2
  clear x0_1 x1_1 x2_1
  have x0_2c0 := x0_2.cell 0
  have x0_2c1 := x0_2.cell 1
  simp only [List.getElem?_toArray, List.getElem?_cons_zero, List.getElem?_cons_succ] at x0_2c0 x0_2c1
  have x0_2l := x0_2.lt
  have x1_2c0 := x1_2.cell 0
  have x1_2c1 := x1_2.cell 1
  simp only [List.getElem?_toArray, List.getElem?_cons_zero, List.getElem?_cons_succ] at x1_2c0 x1_2c1
  have x1_2l := x1_2.lt
  have x2_2c0 := x2_2.cell 0
  have x2_2c1 := x2_2.cell 1
  have x2_2c2 := x2_2.cell 2
  have x2_2c3 := x2_2.cell 3
  have x2_2c4 := x2_2.cell 4
  have x2_2c5 := x2_2.cell 5
  simp only [List.getElem?_toArray, List.getElem?_cons_zero, List.getElem?_cons_succ] at x2_2c0 x2_2c1 x2_2c2 x2_2c3 x2_2c4 x2_2c5
  have x2_2l := x2_2.lt
  have B3 := B2.trans (hb2.mono B2.size)
  go_wp2_with fail
  refine (H1.out _ (HA.out.below B3)).mono ?_; rintro e w3 ⟨rfl, hb3⟩
  clear x0_2c0 x0_2c1 x0_2l x1_2c0 x1_2c1 x1_2l x2_2c0 x2_2c1 x2_2c2 x2_2c3 x2_2c4 x2_2c5 x2_2l
  have x0_3 := x0_2.below hb3
  have x1_3 := x1_2.below hb3
  have x2_3 := x2_2.below hb3
  clear x0_2 x1_2 x2_2
  have x0_3c0 := x0_3.cell 0
  have x0_3c1 := x0_3.cell 1
  simp only [List.getElem?_toArray, List.getElem?_cons_zero, List.getElem?_cons_succ] at x0_3c0 x0_3c1
  have x0_3l := x0_3.lt
  have x1_3c0 := x1_3.cell 0
  have x1_3c1 := x1_3.cell 1
  simp only [List.getElem?_toArray, List.getElem?_cons_zero, List.getElem?_cons_succ] at x1_3c0 x1_3c1
  have x1_3l := x1_3.lt
  have x2_3c0 := x2_3.cell 0
  have x2_3c1 := x2_3.cell 1
  have x2_3c2 := x2_3.cell 2
  have x2_3c3 := x2_3.cell 3
  have x2_3c4 := x2_3.cell 4
  have x2_3c5 := x2_3.cell 5
  simp only [List.getElem?_toArray, List.getElem?_cons_zero, List.getElem?_cons_succ] at x2_3c0 x2_3c1 x2_3c2 x2_3c3 x2_3c4 x2_3c5
  have x2_3l := x2_3.lt
  have B4 := B3.trans (hb3.mono B3.size)
  have B4a := B4.alloc B4.size (.cells #[.int .i64 ln, .int .i64 ld, .int .i64 hn', .int .i64 hd, .int .i64 la, .int .i64 ha] 40)
  go_wp2_with fail
  refine (H2.out _ (HA.out.below B4a)).mono ?_; rintro e w4 ⟨rfl, hb4⟩
  clear x0_3c0 x0_3c1 x0_3l x1_3c0 x1_3c1 x1_3l x2_3c0 x2_3c1 x2_3c2 x2_3c3 x2_3c4 x2_3c5 x2_3l
  have x0_4 := (x0_3.alloc (.cells #[.int .i64 ln, .int .i64 ld, .int .i64 hn', .int .i64 hd, .int .i64 la, .int .i64 ha] 40)).below hb4
  have x1_4 := (x1_3.alloc (.cells #[.int .i64 ln, .int .i64 ld, .int .i64 hn', .int .i64 hd, .int .i64 la, .int .i64 ha] 40)).below hb4
  have x2_4 := (x2_3.alloc (.cells #[.int .i64 ln, .int .i64 ld, .int .i64 hn', .int .i64 hd, .int .i64 la, .int .i64 ha] 40)).below hb4
  have y0_4 := (Blk.new w3 40 #[.int .i64 ln, .int .i64 ld, .int .i64 hn', .int .i64 hd, .int .i64 la, .int .i64 ha]).below hb4
  clear x0_3 x1_3 x2_3
  have x0_4c0 := x0_4.cell 0
  have x0_4c1 := x0_4.cell 1
  simp only [List.getElem?_toArray, List.getElem?_cons_zero, List.getElem?_cons_succ] at x0_4c0 x0_4c1
  have x0_4l := x0_4.lt
  have x1_4c0 := x1_4.cell 0
  have x1_4c1 := x1_4.cell 1
  simp only [List.getElem?_toArray, List.getElem?_cons_zero, List.getElem?_cons_succ] at x1_4c0 x1_4c1
  have x1_4l := x1_4.lt
  have x2_4c0 := x2_4.cell 0
  have x2_4c1 := x2_4.cell 1
  have x2_4c2 := x2_4.cell 2
  have x2_4c3 := x2_4.cell 3
  have x2_4c4 := x2_4.cell 4
  have x2_4c5 := x2_4.cell 5
  simp only [List.getElem?_toArray, List.getElem?_cons_zero, List.getElem?_cons_succ] at x2_4c0 x2_4c1 x2_4c2 x2_4c3 x2_4c4 x2_4c5
  have x2_4l := x2_4.lt
  have y0_4c0 := y0_4.cell 0
  have y0_4c1 := y0_4.cell 1
  have y0_4c2 := y0_4.cell 2
  have y0_4c3 := y0_4.cell 3
  have y0_4c4 := y0_4.cell 4
  have y0_4c5 := y0_4.cell 5
  simp only [List.getElem?_toArray, List.getElem?_cons_zero, List.getElem?_cons_succ] at y0_4c0 y0_4c1 y0_4c2 y0_4c3 y0_4c4 y0_4c5
  have y0_4l := y0_4.lt
  have hr : what % 6 = 0 ∨ what % 6 = 1 ∨ what % 6 = 2 ∨ what % 6 = 3 ∨ what % 6 = 4 ∨ what % 6 = 5 := by omega
  rcases hr with hr | hr | hr | hr | hr | hr
  · skip
    have B5 := B4a.trans (hb4.mono B4a.size)
    clear x0_4c0 x0_4c1 x0_4l x1_4c0 x1_4c1 x1_4l x2_4c0 x2_4c1 x2_4c2 x2_4c3 x2_4c4 x2_4c5 x2_4l y0_4c0 y0_4c1 y0_4c2 y0_4c3 y0_4c4 y0_4c5 y0_4l
    have B5a := B5.alloc B5.size (.cells #[.int .i64 ln, .int .i64 ld, .int .i64 hn', .int .i64 hd, .int .i64 la, .int .i64 ha] 40)
    have B5b := B5a.alloc B5a.size (.cells #[.int .i64 ln, .int .i64 ld, .int .i64 hn', .int .i64 hd, .int .i64 la, .int .i64 ha] 40)
    have x0_5 := ((x0_4.alloc (.cells #[.int .i64 ln, .int .i64 ld, .int .i64 hn', .int .i64 hd, .int .i64 la, .int .i64 ha] 40)).alloc (.cells #[.int .i64 ln, .int .i64 ld, .int .i64 hn', .int .i64 hd, .int .i64 la, .int .i64 ha] 40))
    have x1_5 := ((x1_4.alloc (.cells #[.int .i64 ln, .int .i64 ld, .int .i64 hn', .int .i64 hd, .int .i64 la, .int .i64 ha] 40)).alloc (.cells #[.int .i64 ln, .int .i64 ld, .int .i64 hn', .int .i64 hd, .int .i64 la, .int .i64 ha] 40))
    have x2_5 := ((x2_4.alloc (.cells #[.int .i64 ln, .int .i64 ld, .int .i64 hn', .int .i64 hd, .int .i64 la, .int .i64 ha] 40)).alloc (.cells #[.int .i64 ln, .int .i64 ld, .int .i64 hn', .int .i64 hd, .int .i64 la, .int .i64 ha] 40))
    have y0_5 := ((y0_4.alloc (.cells #[.int .i64 ln, .int .i64 ld, .int .i64 hn', .int .i64 hd, .int .i64 la, .int .i64 ha] 40)).alloc (.cells #[.int .i64 ln, .int .i64 ld, .int .i64 hn', .int .i64 hd, .int .i64 la, .int .i64 ha] 40))
    have y1_5 := (Blk.new w4 40 #[.int .i64 ln, .int .i64 ld, .int .i64 hn', .int .i64 hd, .int .i64 la, .int .i64 ha]).alloc (.cells #[.int .i64 ln, .int .i64 ld, .int .i64 hn', .int .i64 hd, .int .i64 la, .int .i64 ha] 40)
    have zz_5 := Blk.at_new (W := w4.alloc (.cells #[.int .i64 ln, .int .i64 ld, .int .i64 hn', .int .i64 hd, .int .i64 la, .int .i64 ha] 40)) 40 #[.int .i64 ln, .int .i64 ld, .int .i64 hn', .int .i64 hd, .int .i64 la, .int .i64 ha] (g := w4.heap.size + 1) (by simp)
    go_wp2_with fail
    generalize hV : (w4.alloc (.cells #[.int .i64 ln, .int .i64 ld, .int .i64 hn', .int .i64 hd, .int .i64 la, .int .i64 ha] 40)).alloc (.cells #[.int .i64 ln, .int .i64 ld, .int .i64 hn', .int .i64 hd, .int .i64 la, .int .i64 ha] 40) = V at *
    generalize hg : w4.heap.size = gv at *
    clear hV hg
    have x0_5c0 := x0_5.cell 0
    have x0_5c1 := x0_5.cell 1
    simp only [List.getElem?_toArray, List.getElem?_cons_zero, List.getElem?_cons_succ] at x0_5c0 x0_5c1
    have x0_5l := x0_5.lt
    have x1_5c0 := x1_5.cell 0
    have x1_5c1 := x1_5.cell 1
    simp only [List.getElem?_toArray, List.getElem?_cons_zero, List.getElem?_cons_succ] at x1_5c0 x1_5c1
    have x1_5l := x1_5.lt
    have x2_5c0 := x2_5.cell 0
    have x2_5c1 := x2_5.cell 1
    have x2_5c2 := x2_5.cell 2
    have x2_5c3 := x2_5.cell 3
    have x2_5c4 := x2_5.cell 4
    have x2_5c5 := x2_5.cell 5
    simp only [List.getElem?_toArray, List.getElem?_cons_zero, List.getElem?_cons_succ] at x2_5c0 x2_5c1 x2_5c2 x2_5c3 x2_5c4 x2_5c5
    have x2_5l := x2_5.lt
    have y0_5c0 := y0_5.cell 0
    have y0_5c1 := y0_5.cell 1
    have y0_5c2 := y0_5.cell 2
    have y0_5c3 := y0_5.cell 3
    have y0_5c4 := y0_5.cell 4
    have y0_5c5 := y0_5.cell 5
    simp only [List.getElem?_toArray, List.getElem?_cons_zero, List.getElem?_cons_succ] at y0_5c0 y0_5c1 y0_5c2 y0_5c3 y0_5c4 y0_5c5
    have y0_5l := y0_5.lt
    have y1_5c0 := y1_5.cell 0
    have y1_5c1 := y1_5.cell 1
    have y1_5c2 := y1_5.cell 2
    have y1_5c3 := y1_5.cell 3
    have y1_5c4 := y1_5.cell 4
    have y1_5c5 := y1_5.cell 5
    simp only [List.getElem?_toArray, List.getElem?_cons_zero, List.getElem?_cons_succ] at y1_5c0 y1_5c1 y1_5c2 y1_5c3 y1_5c4 y1_5c5
    have y1_5l := y1_5.lt
    have zz_5c0 := zz_5.cell 0
    have zz_5c1 := zz_5.cell 1
    have zz_5c2 := zz_5.cell 2
    have zz_5c3 := zz_5.cell 3
    have zz_5c4 := zz_5.cell 4
    have zz_5c5 := zz_5.cell 5
    simp only [List.getElem?_toArray, List.getElem?_cons_zero, List.getElem?_cons_succ] at zz_5c0 zz_5c1 zz_5c2 zz_5c3 zz_5c4 zz_5c5
    have zz_5l := zz_5.lt
    have HAV := Lib.hid (HA.out.below B5b)
    have C1 := Lib.hid (H3.out p1 p2 p3 p4 p5 p6)
    have C2 := Lib.hid (H4.out p1 p2 p3 p4 p5 p6)
    have C3 := Lib.hid (H3.out ln ld hn' hd la ha)
    have C4 := Lib.hid (H4.out ln ld hn' hd la ha)
    generalize coErr ks err lo hi ⟨p1, p2, p3, p4, p5, p6⟩ = e1 at *
    generalize coErr ks err lo hi ⟨ln, ld, hn', hd, la, ha⟩ = e2 at *
    obtain ⟨xc, xf⟩ := xcell (W := V)
    refine wp_region_quiet_tail 33 (by kernel_rfl) (by kernel_rfl) ?_
    simp only [List.take_succ_cons, List.take_zero, List.drop_succ_cons, List.drop_zero]
    repeat (first | go_big_quiet_step (first | (go_at_call 25; with_reducible refine calls_ext (C1.out _ ?_); exact HAV.out.below (Ext.below _)) | (go_at_call 26; with_reducible refine calls_ext (C2.out _ ?_); exact HAV.out.below (Ext.below _)) | (go_at_call 25; with_reducible refine calls_ext (C3.out _ ?_); exact HAV.out.below (Ext.below _)) | (go_at_call 26; with_reducible refine calls_ext (C4.out _ ?_); exact HAV.out.below (Ext.below _))) | quiet_step (first | (go_at_call 25; with_reducible refine calls_ext (C1.out _ ?_); exact HAV.out.below (Ext.below _)) | (go_at_call 26; with_reducible refine calls_ext (C2.out _ ?_); exact HAV.out.below (Ext.below _)) | (go_at_call 25; with_reducible refine calls_ext (C3.out _ ?_); exact HAV.out.below (Ext.below _)) | (go_at_call 26; with_reducible refine calls_ext (C4.out _ ?_); exact HAV.out.below (Ext.below _))))
    refine wpQuiet_nil ?_
    intro wz hbz
    go_wp2
    go_ret
    exact ⟨rfl, B5b.trans (hbz.mono B5b.size)⟩
  · skip
    have B5 := B4a.trans (hb4.mono B4a.size)
    clear x0_4c0 x0_4c1 x0_4l x1_4c0 x1_4c1 x1_4l x2_4c0 x2_4c1 x2_4c2 x2_4c3 x2_4c4 x2_4c5 x2_4l y0_4c0 y0_4c1 y0_4c2 y0_4c3 y0_4c4 y0_4c5 y0_4l
    have B5a := B5.alloc B5.size (.cells #[.int .i64 ln, .int .i64 ld, .int .i64 hn', .int .i64 hd, .int .i64 la, .int .i64 ha] 40)
    have B5b := B5a.alloc B5a.size (.cells #[.int .i64 ln, .int .i64 ld, .int .i64 hn', .int .i64 hd, .int .i64 (la + 1), .int .i64 ha] 40)
    have x0_5 := ((x0_4.alloc (.cells #[.int .i64 ln, .int .i64 ld, .int .i64 hn', .int .i64 hd, .int .i64 la, .int .i64 ha] 40)).alloc (.cells #[.int .i64 ln, .int .i64 ld, .int .i64 hn', .int .i64 hd, .int .i64 (la + 1), .int .i64 ha] 40))
    have x1_5 := ((x1_4.alloc (.cells #[.int .i64 ln, .int .i64 ld, .int .i64 hn', .int .i64 hd, .int .i64 la, .int .i64 ha] 40)).alloc (.cells #[.int .i64 ln, .int .i64 ld, .int .i64 hn', .int .i64 hd, .int .i64 (la + 1), .int .i64 ha] 40))
    have x2_5 := ((x2_4.alloc (.cells #[.int .i64 ln, .int .i64 ld, .int .i64 hn', .int .i64 hd, .int .i64 la, .int .i64 ha] 40)).alloc (.cells #[.int .i64 ln, .int .i64 ld, .int .i64 hn', .int .i64 hd, .int .i64 (la + 1), .int .i64 ha] 40))
    have y0_5 := ((y0_4.alloc (.cells #[.int .i64 ln, .int .i64 ld, .int .i64 hn', .int .i64 hd, .int .i64 la, .int .i64 ha] 40)).alloc (.cells #[.int .i64 ln, .int .i64 ld, .int .i64 hn', .int .i64 hd, .int .i64 (la + 1), .int .i64 ha] 40))
    have y1_5 := (Blk.new w4 40 #[.int .i64 ln, .int .i64 ld, .int .i64 hn', .int .i64 hd, .int .i64 la, .int .i64 ha]).alloc (.cells #[.int .i64 ln, .int .i64 ld, .int .i64 hn', .int .i64 hd, .int .i64 (la + 1), .int .i64 ha] 40)
    have zz_5 := Blk.at_new (W := w4.alloc (.cells #[.int .i64 ln, .int .i64 ld, .int .i64 hn', .int .i64 hd, .int .i64 la, .int .i64 ha] 40)) 40 #[.int .i64 ln, .int .i64 ld, .int .i64 hn', .int .i64 hd, .int .i64 (la + 1), .int .i64 ha] (g := w4.heap.size + 1) (by simp)
    go_wp2_with fail
    generalize hV : (w4.alloc (.cells #[.int .i64 ln, .int .i64 ld, .int .i64 hn', .int .i64 hd, .int .i64 la, .int .i64 ha] 40)).alloc (.cells #[.int .i64 ln, .int .i64 ld, .int .i64 hn', .int .i64 hd, .int .i64 (la + 1), .int .i64 ha] 40) = V at *
    generalize hg : w4.heap.size = gv at *
    clear hV hg
    have x0_5c0 := x0_5.cell 0
    have x0_5c1 := x0_5.cell 1
    simp only [List.getElem?_toArray, List.getElem?_cons_zero, List.getElem?_cons_succ] at x0_5c0 x0_5c1
    have x0_5l := x0_5.lt
    have x1_5c0 := x1_5.cell 0
    have x1_5c1 := x1_5.cell 1
    simp only [List.getElem?_toArray, List.getElem?_cons_zero, List.getElem?_cons_succ] at x1_5c0 x1_5c1
    have x1_5l := x1_5.lt
    have x2_5c0 := x2_5.cell 0
    have x2_5c1 := x2_5.cell 1
    have x2_5c2 := x2_5.cell 2
    have x2_5c3 := x2_5.cell 3
    have x2_5c4 := x2_5.cell 4
    have x2_5c5 := x2_5.cell 5
    simp only [List.getElem?_toArray, List.getElem?_cons_zero, List.getElem?_cons_succ] at x2_5c0 x2_5c1 x2_5c2 x2_5c3 x2_5c4 x2_5c5
    have x2_5l := x2_5.lt
    have y0_5c0 := y0_5.cell 0
    have y0_5c1 := y0_5.cell 1
    have y0_5c2 := y0_5.cell 2
    have y0_5c3 := y0_5.cell 3
    have y0_5c4 := y0_5.cell 4
    have y0_5c5 := y0_5.cell 5
    simp only [List.getElem?_toArray, List.getElem?_cons_zero, List.getElem?_cons_succ] at y0_5c0 y0_5c1 y0_5c2 y0_5c3 y0_5c4 y0_5c5
    have y0_5l := y0_5.lt
    have y1_5c0 := y1_5.cell 0
    have y1_5c1 := y1_5.cell 1
    have y1_5c2 := y1_5.cell 2
    have y1_5c3 := y1_5.cell 3
    have y1_5c4 := y1_5.cell 4
    have y1_5c5 := y1_5.cell 5
    simp only [List.getElem?_toArray, List.getElem?_cons_zero, List.getElem?_cons_succ] at y1_5c0 y1_5c1 y1_5c2 y1_5c3 y1_5c4 y1_5c5
    have y1_5l := y1_5.lt
    have zz_5c0 := zz_5.cell 0
    have zz_5c1 := zz_5.cell 1
    have zz_5c2 := zz_5.cell 2
    have zz_5c3 := zz_5.cell 3
    have zz_5c4 := zz_5.cell 4
    have zz_5c5 := zz_5.cell 5
    simp only [List.getElem?_toArray, List.getElem?_cons_zero, List.getElem?_cons_succ] at zz_5c0 zz_5c1 zz_5c2 zz_5c3 zz_5c4 zz_5c5
    have zz_5l := zz_5.lt
    have HAV := Lib.hid (HA.out.below B5b)
    have C1 := Lib.hid (H3.out p1 p2 p3 p4 p5 p6)
    have C2 := Lib.hid (H4.out p1 p2 p3 p4 p5 p6)
    have C3 := Lib.hid (H3.out ln ld hn' hd (la + 1) ha)
    have C4 := Lib.hid (H4.out ln ld hn' hd (la + 1) ha)
    generalize coErr ks err lo hi ⟨p1, p2, p3, p4, p5, p6⟩ = e1 at *
    generalize coErr ks err lo hi ⟨ln, ld, hn', hd, (la + 1), ha⟩ = e2 at *
    obtain ⟨xc, xf⟩ := xcell (W := V)
    refine wp_region_quiet_tail 33 (by kernel_rfl) (by kernel_rfl) ?_
    simp only [List.take_succ_cons, List.take_zero, List.drop_succ_cons, List.drop_zero]
    repeat (first | go_big_quiet_step (first | (go_at_call 25; with_reducible refine calls_ext (C1.out _ ?_); exact HAV.out.below (Ext.below _)) | (go_at_call 26; with_reducible refine calls_ext (C2.out _ ?_); exact HAV.out.below (Ext.below _)) | (go_at_call 25; with_reducible refine calls_ext (C3.out _ ?_); exact HAV.out.below (Ext.below _)) | (go_at_call 26; with_reducible refine calls_ext (C4.out _ ?_); exact HAV.out.below (Ext.below _))) | quiet_step (first | (go_at_call 25; with_reducible refine calls_ext (C1.out _ ?_); exact HAV.out.below (Ext.below _)) | (go_at_call 26; with_reducible refine calls_ext (C2.out _ ?_); exact HAV.out.below (Ext.below _)) | (go_at_call 25; with_reducible refine calls_ext (C3.out _ ?_); exact HAV.out.below (Ext.below _)) | (go_at_call 26; with_reducible refine calls_ext (C4.out _ ?_); exact HAV.out.below (Ext.below _))))
    refine wpQuiet_nil ?_
    intro wz hbz
    go_wp2
    go_ret
    exact ⟨rfl, B5b.trans (hbz.mono B5b.size)⟩
  · skip
    have B5 := B4a.trans (hb4.mono B4a.size)
    clear x0_4c0 x0_4c1 x0_4l x1_4c0 x1_4c1 x1_4l x2_4c0 x2_4c1 x2_4c2 x2_4c3 x2_4c4 x2_4c5 x2_4l y0_4c0 y0_4c1 y0_4c2 y0_4c3 y0_4c4 y0_4c5 y0_4l
    have B5a := B5.alloc B5.size (.cells #[.int .i64 ln, .int .i64 ld, .int .i64 hn', .int .i64 hd, .int .i64 la, .int .i64 ha] 40)
    have B5b := B5a.alloc B5a.size (.cells #[.int .i64 ln, .int .i64 ld, .int .i64 hn', .int .i64 hd, .int .i64 la, .int .i64 (ha - 1)] 40)
    have x0_5 := ((x0_4.alloc (.cells #[.int .i64 ln, .int .i64 ld, .int .i64 hn', .int .i64 hd, .int .i64 la, .int .i64 ha] 40)).alloc (.cells #[.int .i64 ln, .int .i64 ld, .int .i64 hn', .int .i64 hd, .int .i64 la, .int .i64 (ha - 1)] 40))
    have x1_5 := ((x1_4.alloc (.cells #[.int .i64 ln, .int .i64 ld, .int .i64 hn', .int .i64 hd, .int .i64 la, .int .i64 ha] 40)).alloc (.cells #[.int .i64 ln, .int .i64 ld, .int .i64 hn', .int .i64 hd, .int .i64 la, .int .i64 (ha - 1)] 40))
    have x2_5 := ((x2_4.alloc (.cells #[.int .i64 ln, .int .i64 ld, .int .i64 hn', .int .i64 hd, .int .i64 la, .int .i64 ha] 40)).alloc (.cells #[.int .i64 ln, .int .i64 ld, .int .i64 hn', .int .i64 hd, .int .i64 la, .int .i64 (ha - 1)] 40))
    have y0_5 := ((y0_4.alloc (.cells #[.int .i64 ln, .int .i64 ld, .int .i64 hn', .int .i64 hd, .int .i64 la, .int .i64 ha] 40)).alloc (.cells #[.int .i64 ln, .int .i64 ld, .int .i64 hn', .int .i64 hd, .int .i64 la, .int .i64 (ha - 1)] 40))
    have y1_5 := (Blk.new w4 40 #[.int .i64 ln, .int .i64 ld, .int .i64 hn', .int .i64 hd, .int .i64 la, .int .i64 ha]).alloc (.cells #[.int .i64 ln, .int .i64 ld, .int .i64 hn', .int .i64 hd, .int .i64 la, .int .i64 (ha - 1)] 40)
    have zz_5 := Blk.at_new (W := w4.alloc (.cells #[.int .i64 ln, .int .i64 ld, .int .i64 hn', .int .i64 hd, .int .i64 la, .int .i64 ha] 40)) 40 #[.int .i64 ln, .int .i64 ld, .int .i64 hn', .int .i64 hd, .int .i64 la, .int .i64 (ha - 1)] (g := w4.heap.size + 1) (by simp)
    go_wp2_with fail
    generalize hV : (w4.alloc (.cells #[.int .i64 ln, .int .i64 ld, .int .i64 hn', .int .i64 hd, .int .i64 la, .int .i64 ha] 40)).alloc (.cells #[.int .i64 ln, .int .i64 ld, .int .i64 hn', .int .i64 hd, .int .i64 la, .int .i64 (ha - 1)] 40) = V at *
    generalize hg : w4.heap.size = gv at *
    clear hV hg
    have x0_5c0 := x0_5.cell 0
    have x0_5c1 := x0_5.cell 1
    simp only [List.getElem?_toArray, List.getElem?_cons_zero, List.getElem?_cons_succ] at x0_5c0 x0_5c1
    have x0_5l := x0_5.lt
    have x1_5c0 := x1_5.cell 0
    have x1_5c1 := x1_5.cell 1
    simp only [List.getElem?_toArray, List.getElem?_cons_zero, List.getElem?_cons_succ] at x1_5c0 x1_5c1
    have x1_5l := x1_5.lt
    have x2_5c0 := x2_5.cell 0
    have x2_5c1 := x2_5.cell 1
    have x2_5c2 := x2_5.cell 2
    have x2_5c3 := x2_5.cell 3
    have x2_5c4 := x2_5.cell 4
    have x2_5c5 := x2_5.cell 5
    simp only [List.getElem?_toArray, List.getElem?_cons_zero, List.getElem?_cons_succ] at x2_5c0 x2_5c1 x2_5c2 x2_5c3 x2_5c4 x2_5c5
    have x2_5l := x2_5.lt
    have y0_5c0 := y0_5.cell 0
    have y0_5c1 := y0_5.cell 1
    have y0_5c2 := y0_5.cell 2
    have y0_5c3 := y0_5.cell 3
    have y0_5c4 := y0_5.cell 4
    have y0_5c5 := y0_5.cell 5
    simp only [List.getElem?_toArray, List.getElem?_cons_zero, List.getElem?_cons_succ] at y0_5c0 y0_5c1 y0_5c2 y0_5c3 y0_5c4 y0_5c5
    have y0_5l := y0_5.lt
    have y1_5c0 := y1_5.cell 0
    have y1_5c1 := y1_5.cell 1
    have y1_5c2 := y1_5.cell 2
    have y1_5c3 := y1_5.cell 3
    have y1_5c4 := y1_5.cell 4
    have y1_5c5 := y1_5.cell 5
    simp only [List.getElem?_toArray, List.getElem?_cons_zero, List.getElem?_cons_succ] at y1_5c0 y1_5c1 y1_5c2 y1_5c3 y1_5c4 y1_5c5
    have y1_5l := y1_5.lt
    have zz_5c0 := zz_5.cell 0
    have zz_5c1 := zz_5.cell 1
    have zz_5c2 := zz_5.cell 2
    have zz_5c3 := zz_5.cell 3
    have zz_5c4 := zz_5.cell 4
    have zz_5c5 := zz_5.cell 5
    simp only [List.getElem?_toArray, List.getElem?_cons_zero, List.getElem?_cons_succ] at zz_5c0 zz_5c1 zz_5c2 zz_5c3 zz_5c4 zz_5c5
    have zz_5l := zz_5.lt
    have HAV := Lib.hid (HA.out.below B5b)
    have C1 := Lib.hid (H3.out p1 p2 p3 p4 p5 p6)
    have C2 := Lib.hid (H4.out p1 p2 p3 p4 p5 p6)
    have C3 := Lib.hid (H3.out ln ld hn' hd la (ha - 1))
    have C4 := Lib.hid (H4.out ln ld hn' hd la (ha - 1))
    generalize coErr ks err lo hi ⟨p1, p2, p3, p4, p5, p6⟩ = e1 at *
    generalize coErr ks err lo hi ⟨ln, ld, hn', hd, la, (ha - 1)⟩ = e2 at *
    obtain ⟨xc, xf⟩ := xcell (W := V)
    refine wp_region_quiet_tail 33 (by kernel_rfl) (by kernel_rfl) ?_
    simp only [List.take_succ_cons, List.take_zero, List.drop_succ_cons, List.drop_zero]
    repeat (first | go_big_quiet_step (first | (go_at_call 25; with_reducible refine calls_ext (C1.out _ ?_); exact HAV.out.below (Ext.below _)) | (go_at_call 26; with_reducible refine calls_ext (C2.out _ ?_); exact HAV.out.below (Ext.below _)) | (go_at_call 25; with_reducible refine calls_ext (C3.out _ ?_); exact HAV.out.below (Ext.below _)) | (go_at_call 26; with_reducible refine calls_ext (C4.out _ ?_); exact HAV.out.below (Ext.below _))) | quiet_step (first | (go_at_call 25; with_reducible refine calls_ext (C1.out _ ?_); exact HAV.out.below (Ext.below _)) | (go_at_call 26; with_reducible refine calls_ext (C2.out _ ?_); exact HAV.out.below (Ext.below _)) | (go_at_call 25; with_reducible refine calls_ext (C3.out _ ?_); exact HAV.out.below (Ext.below _)) | (go_at_call 26; with_reducible refine calls_ext (C4.out _ ?_); exact HAV.out.below (Ext.below _))))
    refine wpQuiet_nil ?_
    intro wz hbz
    go_wp2
    go_ret
    exact ⟨rfl, B5b.trans (hbz.mono B5b.size)⟩
  · skip
    have B5 := B4a.trans (hb4.mono B4a.size)
    clear x0_4c0 x0_4c1 x0_4l x1_4c0 x1_4c1 x1_4l x2_4c0 x2_4c1 x2_4c2 x2_4c3 x2_4c4 x2_4c5 x2_4l y0_4c0 y0_4c1 y0_4c2 y0_4c3 y0_4c4 y0_4c5 y0_4l
    have B5a := B5.alloc B5.size (.cells #[.int .i64 ln, .int .i64 ld, .int .i64 hn', .int .i64 hd, .int .i64 la, .int .i64 ha] 40)
    have B5b := B5a.alloc B5a.size (.cells #[.int .i64 (ln - 1), .int .i64 ld, .int .i64 hn', .int .i64 hd, .int .i64 la, .int .i64 ha] 40)
    have x0_5 := ((x0_4.alloc (.cells #[.int .i64 ln, .int .i64 ld, .int .i64 hn', .int .i64 hd, .int .i64 la, .int .i64 ha] 40)).alloc (.cells #[.int .i64 (ln - 1), .int .i64 ld, .int .i64 hn', .int .i64 hd, .int .i64 la, .int .i64 ha] 40))
    have x1_5 := ((x1_4.alloc (.cells #[.int .i64 ln, .int .i64 ld, .int .i64 hn', .int .i64 hd, .int .i64 la, .int .i64 ha] 40)).alloc (.cells #[.int .i64 (ln - 1), .int .i64 ld, .int .i64 hn', .int .i64 hd, .int .i64 la, .int .i64 ha] 40))
    have x2_5 := ((x2_4.alloc (.cells #[.int .i64 ln, .int .i64 ld, .int .i64 hn', .int .i64 hd, .int .i64 la, .int .i64 ha] 40)).alloc (.cells #[.int .i64 (ln - 1), .int .i64 ld, .int .i64 hn', .int .i64 hd, .int .i64 la, .int .i64 ha] 40))
    have y0_5 := ((y0_4.alloc (.cells #[.int .i64 ln, .int .i64 ld, .int .i64 hn', .int .i64 hd, .int .i64 la, .int .i64 ha] 40)).alloc (.cells #[.int .i64 (ln - 1), .int .i64 ld, .int .i64 hn', .int .i64 hd, .int .i64 la, .int .i64 ha] 40))
    have y1_5 := (Blk.new w4 40 #[.int .i64 ln, .int .i64 ld, .int .i64 hn', .int .i64 hd, .int .i64 la, .int .i64 ha]).alloc (.cells #[.int .i64 (ln - 1), .int .i64 ld, .int .i64 hn', .int .i64 hd, .int .i64 la, .int .i64 ha] 40)
    have zz_5 := Blk.at_new (W := w4.alloc (.cells #[.int .i64 ln, .int .i64 ld, .int .i64 hn', .int .i64 hd, .int .i64 la, .int .i64 ha] 40)) 40 #[.int .i64 (ln - 1), .int .i64 ld, .int .i64 hn', .int .i64 hd, .int .i64 la, .int .i64 ha] (g := w4.heap.size + 1) (by simp)
    go_wp2_with fail
    generalize hV : (w4.alloc (.cells #[.int .i64 ln, .int .i64 ld, .int .i64 hn', .int .i64 hd, .int .i64 la, .int .i64 ha] 40)).alloc (.cells #[.int .i64 (ln - 1), .int .i64 ld, .int .i64 hn', .int .i64 hd, .int .i64 la, .int .i64 ha] 40) = V at *
    generalize hg : w4.heap.size = gv at *
    clear hV hg
    have x0_5c0 := x0_5.cell 0
    have x0_5c1 := x0_5.cell 1
    simp only [List.getElem?_toArray, List.getElem?_cons_zero, List.getElem?_cons_succ] at x0_5c0 x0_5c1
    have x0_5l := x0_5.lt
    have x1_5c0 := x1_5.cell 0
    have x1_5c1 := x1_5.cell 1
    simp only [List.getElem?_toArray, List.getElem?_cons_zero, List.getElem?_cons_succ] at x1_5c0 x1_5c1
    have x1_5l := x1_5.lt
    have x2_5c0 := x2_5.cell 0
    have x2_5c1 := x2_5.cell 1
    have x2_5c2 := x2_5.cell 2
    have x2_5c3 := x2_5.cell 3
    have x2_5c4 := x2_5.cell 4
    have x2_5c5 := x2_5.cell 5
    simp only [List.getElem?_toArray, List.getElem?_cons_zero, List.getElem?_cons_succ] at x2_5c0 x2_5c1 x2_5c2 x2_5c3 x2_5c4 x2_5c5
    have x2_5l := x2_5.lt
    have y0_5c0 := y0_5.cell 0
    have y0_5c1 := y0_5.cell 1
    have y0_5c2 := y0_5.cell 2
    have y0_5c3 := y0_5.cell 3
    have y0_5c4 := y0_5.cell 4
    have y0_5c5 := y0_5.cell 5
    simp only [List.getElem?_toArray, List.getElem?_cons_zero, List.getElem?_cons_succ] at y0_5c0 y0_5c1 y0_5c2 y0_5c3 y0_5c4 y0_5c5
    have y0_5l := y0_5.lt
    have y1_5c0 := y1_5.cell 0
    have y1_5c1 := y1_5.cell 1
    have y1_5c2 := y1_5.cell 2
    have y1_5c3 := y1_5.cell 3
    have y1_5c4 := y1_5.cell 4
    have y1_5c5 := y1_5.cell 5
    simp only [List.getElem?_toArray, List.getElem?_cons_zero, List.getElem?_cons_succ] at y1_5c0 y1_5c1 y1_5c2 y1_5c3 y1_5c4 y1_5c5
    have y1_5l := y1_5.lt
    have zz_5c0 := zz_5.cell 0
    have zz_5c1 := zz_5.cell 1
    have zz_5c2 := zz_5.cell 2
    have zz_5c3 := zz_5.cell 3
    have zz_5c4 := zz_5.cell 4
    have zz_5c5 := zz_5.cell 5
    simp only [List.getElem?_toArray, List.getElem?_cons_zero, List.getElem?_cons_succ] at zz_5c0 zz_5c1 zz_5c2 zz_5c3 zz_5c4 zz_5c5
    have zz_5l := zz_5.lt
    have HAV := Lib.hid (HA.out.below B5b)
    have C1 := Lib.hid (H3.out p1 p2 p3 p4 p5 p6)
    have C2 := Lib.hid (H4.out p1 p2 p3 p4 p5 p6)
    have C3 := Lib.hid (H3.out (ln - 1) ld hn' hd la ha)
    have C4 := Lib.hid (H4.out (ln - 1) ld hn' hd la ha)
    generalize coErr ks err lo hi ⟨p1, p2, p3, p4, p5, p6⟩ = e1 at *
    generalize coErr ks err lo hi ⟨(ln - 1), ld, hn', hd, la, ha⟩ = e2 at *
    obtain ⟨xc, xf⟩ := xcell (W := V)
    refine wp_region_quiet_tail 33 (by kernel_rfl) (by kernel_rfl) ?_
    simp only [List.take_succ_cons, List.take_zero, List.drop_succ_cons, List.drop_zero]
    repeat (first | go_big_quiet_step (first | (go_at_call 25; with_reducible refine calls_ext (C1.out _ ?_); exact HAV.out.below (Ext.below _)) | (go_at_call 26; with_reducible refine calls_ext (C2.out _ ?_); exact HAV.out.below (Ext.below _)) | (go_at_call 25; with_reducible refine calls_ext (C3.out _ ?_); exact HAV.out.below (Ext.below _)) | (go_at_call 26; with_reducible refine calls_ext (C4.out _ ?_); exact HAV.out.below (Ext.below _))) | quiet_step (first | (go_at_call 25; with_reducible refine calls_ext (C1.out _ ?_); exact HAV.out.below (Ext.below _)) | (go_at_call 26; with_reducible refine calls_ext (C2.out _ ?_); exact HAV.out.below (Ext.below _)) | (go_at_call 25; with_reducible refine calls_ext (C3.out _ ?_); exact HAV.out.below (Ext.below _)) | (go_at_call 26; with_reducible refine calls_ext (C4.out _ ?_); exact HAV.out.below (Ext.below _))))
    refine wpQuiet_nil ?_
    intro wz hbz
    go_wp2
    go_ret
    exact ⟨rfl, B5b.trans (hbz.mono B5b.size)⟩
  · skip
    have B5 := B4a.trans (hb4.mono B4a.size)
    clear x0_4c0 x0_4c1 x0_4l x1_4c0 x1_4c1 x1_4l x2_4c0 x2_4c1 x2_4c2 x2_4c3 x2_4c4 x2_4c5 x2_4l y0_4c0 y0_4c1 y0_4c2 y0_4c3 y0_4c4 y0_4c5 y0_4l
    have B5a := B5.alloc B5.size (.cells #[.int .i64 ln, .int .i64 ld, .int .i64 hn', .int .i64 hd, .int .i64 la, .int .i64 ha] 40)
    have B5b := B5a.alloc B5a.size (.cells #[.int .i64 ln, .int .i64 ld, .int .i64 hn', .int .i64 (hd + 1), .int .i64 la, .int .i64 ha] 40)
    have x0_5 := ((x0_4.alloc (.cells #[.int .i64 ln, .int .i64 ld, .int .i64 hn', .int .i64 hd, .int .i64 la, .int .i64 ha] 40)).alloc (.cells #[.int .i64 ln, .int .i64 ld, .int .i64 hn', .int .i64 (hd + 1), .int .i64 la, .int .i64 ha] 40))
    have x1_5 := ((x1_4.alloc (.cells #[.int .i64 ln, .int .i64 ld, .int .i64 hn', .int .i64 hd, .int .i64 la, .int .i64 ha] 40)).alloc (.cells #[.int .i64 ln, .int .i64 ld, .int .i64 hn', .int .i64 (hd + 1), .int .i64 la, .int .i64 ha] 40))
    have x2_5 := ((x2_4.alloc (.cells #[.int .i64 ln, .int .i64 ld, .int .i64 hn', .int .i64 hd, .int .i64 la, .int .i64 ha] 40)).alloc (.cells #[.int .i64 ln, .int .i64 ld, .int .i64 hn', .int .i64 (hd + 1), .int .i64 la, .int .i64 ha] 40))
    have y0_5 := ((y0_4.alloc (.cells #[.int .i64 ln, .int .i64 ld, .int .i64 hn', .int .i64 hd, .int .i64 la, .int .i64 ha] 40)).alloc (.cells #[.int .i64 ln, .int .i64 ld, .int .i64 hn', .int .i64 (hd + 1), .int .i64 la, .int .i64 ha] 40))
    have y1_5 := (Blk.new w4 40 #[.int .i64 ln, .int .i64 ld, .int .i64 hn', .int .i64 hd, .int .i64 la, .int .i64 ha]).alloc (.cells #[.int .i64 ln, .int .i64 ld, .int .i64 hn', .int .i64 (hd + 1), .int .i64 la, .int .i64 ha] 40)
    have zz_5 := Blk.at_new (W := w4.alloc (.cells #[.int .i64 ln, .int .i64 ld, .int .i64 hn', .int .i64 hd, .int .i64 la, .int .i64 ha] 40)) 40 #[.int .i64 ln, .int .i64 ld, .int .i64 hn', .int .i64 (hd + 1), .int .i64 la, .int .i64 ha] (g := w4.heap.size + 1) (by simp)
    go_wp2_with fail
    generalize hV : (w4.alloc (.cells #[.int .i64 ln, .int .i64 ld, .int .i64 hn', .int .i64 hd, .int .i64 la, .int .i64 ha] 40)).alloc (.cells #[.int .i64 ln, .int .i64 ld, .int .i64 hn', .int .i64 (hd + 1), .int .i64 la, .int .i64 ha] 40) = V at *
    generalize hg : w4.heap.size = gv at *
    clear hV hg
    have x0_5c0 := x0_5.cell 0
    have x0_5c1 := x0_5.cell 1
    simp only [List.getElem?_toArray, List.getElem?_cons_zero, List.getElem?_cons_succ] at x0_5c0 x0_5c1
    have x0_5l := x0_5.lt
    have x1_5c0 := x1_5.cell 0
    have x1_5c1 := x1_5.cell 1
    simp only [List.getElem?_toArray, List.getElem?_cons_zero, List.getElem?_cons_succ] at x1_5c0 x1_5c1
    have x1_5l := x1_5.lt
    have x2_5c0 := x2_5.cell 0
    have x2_5c1 := x2_5.cell 1
    have x2_5c2 := x2_5.cell 2
    have x2_5c3 := x2_5.cell 3
    have x2_5c4 := x2_5.cell 4
    have x2_5c5 := x2_5.cell 5
    simp only [List.getElem?_toArray, List.getElem?_cons_zero, List.getElem?_cons_succ] at x2_5c0 x2_5c1 x2_5c2 x2_5c3 x2_5c4 x2_5c5
    have x2_5l := x2_5.lt
    have y0_5c0 := y0_5.cell 0
    have y0_5c1 := y0_5.cell 1
    have y0_5c2 := y0_5.cell 2
    have y0_5c3 := y0_5.cell 3
    have y0_5c4 := y0_5.cell 4
    have y0_5c5 := y0_5.cell 5
    simp only [List.getElem?_toArray, List.getElem?_cons_zero, List.getElem?_cons_succ] at y0_5c0 y0_5c1 y0_5c2 y0_5c3 y0_5c4 y0_5c5
    have y0_5l := y0_5.lt
    have y1_5c0 := y1_5.cell 0
    have y1_5c1 := y1_5.cell 1
    have y1_5c2 := y1_5.cell 2
    have y1_5c3 := y1_5.cell 3
    have y1_5c4 := y1_5.cell 4
    have y1_5c5 := y1_5.cell 5
    simp only [List.getElem?_toArray, List.getElem?_cons_zero, List.getElem?_cons_succ] at y1_5c0 y1_5c1 y1_5c2 y1_5c3 y1_5c4 y1_5c5
    have y1_5l := y1_5.lt
    have zz_5c0 := zz_5.cell 0
    have zz_5c1 := zz_5.cell 1
    have zz_5c2 := zz_5.cell 2
    have zz_5c3 := zz_5.cell 3
    have zz_5c4 := zz_5.cell 4
    have zz_5c5 := zz_5.cell 5
    simp only [List.getElem?_toArray, List.getElem?_cons_zero, List.getElem?_cons_succ] at zz_5c0 zz_5c1 zz_5c2 zz_5c3 zz_5c4 zz_5c5
    have zz_5l := zz_5.lt
    have HAV := Lib.hid (HA.out.below B5b)
    have C1 := Lib.hid (H3.out p1 p2 p3 p4 p5 p6)
    have C2 := Lib.hid (H4.out p1 p2 p3 p4 p5 p6)
    have C3 := Lib.hid (H3.out ln ld hn' (hd + 1) la ha)
    have C4 := Lib.hid (H4.out ln ld hn' (hd + 1) la ha)
    generalize coErr ks err lo hi ⟨p1, p2, p3, p4, p5, p6⟩ = e1 at *
    generalize coErr ks err lo hi ⟨ln, ld, hn', (hd + 1), la, ha⟩ = e2 at *
    obtain ⟨xc, xf⟩ := xcell (W := V)
    refine wp_region_quiet_tail 33 (by kernel_rfl) (by kernel_rfl) ?_
    simp only [List.take_succ_cons, List.take_zero, List.drop_succ_cons, List.drop_zero]
    repeat (first | go_big_quiet_step (first | (go_at_call 25; with_reducible refine calls_ext (C1.out _ ?_); exact HAV.out.below (Ext.below _)) | (go_at_call 26; with_reducible refine calls_ext (C2.out _ ?_); exact HAV.out.below (Ext.below _)) | (go_at_call 25; with_reducible refine calls_ext (C3.out _ ?_); exact HAV.out.below (Ext.below _)) | (go_at_call 26; with_reducible refine calls_ext (C4.out _ ?_); exact HAV.out.below (Ext.below _))) | quiet_step (first | (go_at_call 25; with_reducible refine calls_ext (C1.out _ ?_); exact HAV.out.below (Ext.below _)) | (go_at_call 26; with_reducible refine calls_ext (C2.out _ ?_); exact HAV.out.below (Ext.below _)) | (go_at_call 25; with_reducible refine calls_ext (C3.out _ ?_); exact HAV.out.below (Ext.below _)) | (go_at_call 26; with_reducible refine calls_ext (C4.out _ ?_); exact HAV.out.below (Ext.below _))))
    refine wpQuiet_nil ?_
    intro wz hbz
    go_wp2
    go_ret
    exact ⟨rfl, B5b.trans (hbz.mono B5b.size)⟩
  · skip
    have B5 := B4a.trans (hb4.mono B4a.size)
    clear x0_4c0 x0_4c1 x0_4l x1_4c0 x1_4c1 x1_4l x2_4c0 x2_4c1 x2_4c2 x2_4c3 x2_4c4 x2_4c5 x2_4l y0_4c0 y0_4c1 y0_4c2 y0_4c3 y0_4c4 y0_4c5 y0_4l
    have B5a := B5.alloc B5.size (.cells #[.int .i64 ln, .int .i64 ld, .int .i64 hn', .int .i64 hd, .int .i64 la, .int .i64 ha] 40)
    have B5b := B5a.alloc B5a.size (.cells #[.int .i64 ln, .int .i64 ld, .int .i64 ln, .int .i64 ld, .int .i64 la, .int .i64 ha] 40)
    have x0_5 := ((x0_4.alloc (.cells #[.int .i64 ln, .int .i64 ld, .int .i64 hn', .int .i64 hd, .int .i64 la, .int .i64 ha] 40)).alloc (.cells #[.int .i64 ln, .int .i64 ld, .int .i64 ln, .int .i64 ld, .int .i64 la, .int .i64 ha] 40))
    have x1_5 := ((x1_4.alloc (.cells #[.int .i64 ln, .int .i64 ld, .int .i64 hn', .int .i64 hd, .int .i64 la, .int .i64 ha] 40)).alloc (.cells #[.int .i64 ln, .int .i64 ld, .int .i64 ln, .int .i64 ld, .int .i64 la, .int .i64 ha] 40))
    have x2_5 := ((x2_4.alloc (.cells #[.int .i64 ln, .int .i64 ld, .int .i64 hn', .int .i64 hd, .int .i64 la, .int .i64 ha] 40)).alloc (.cells #[.int .i64 ln, .int .i64 ld, .int .i64 ln, .int .i64 ld, .int .i64 la, .int .i64 ha] 40))
    have y0_5 := ((y0_4.alloc (.cells #[.int .i64 ln, .int .i64 ld, .int .i64 hn', .int .i64 hd, .int .i64 la, .int .i64 ha] 40)).alloc (.cells #[.int .i64 ln, .int .i64 ld, .int .i64 ln, .int .i64 ld, .int .i64 la, .int .i64 ha] 40))
    have y1_5 := (Blk.new w4 40 #[.int .i64 ln, .int .i64 ld, .int .i64 hn', .int .i64 hd, .int .i64 la, .int .i64 ha]).alloc (.cells #[.int .i64 ln, .int .i64 ld, .int .i64 ln, .int .i64 ld, .int .i64 la, .int .i64 ha] 40)
    have zz_5 := Blk.at_new (W := w4.alloc (.cells #[.int .i64 ln, .int .i64 ld, .int .i64 hn', .int .i64 hd, .int .i64 la, .int .i64 ha] 40)) 40 #[.int .i64 ln, .int .i64 ld, .int .i64 ln, .int .i64 ld, .int .i64 la, .int .i64 ha] (g := w4.heap.size + 1) (by simp)
    go_wp2_with fail
    generalize hV : (w4.alloc (.cells #[.int .i64 ln, .int .i64 ld, .int .i64 hn', .int .i64 hd, .int .i64 la, .int .i64 ha] 40)).alloc (.cells #[.int .i64 ln, .int .i64 ld, .int .i64 ln, .int .i64 ld, .int .i64 la, .int .i64 ha] 40) = V at *
    generalize hg : w4.heap.size = gv at *
    clear hV hg
    have x0_5c0 := x0_5.cell 0
    have x0_5c1 := x0_5.cell 1
    simp only [List.getElem?_toArray, List.getElem?_cons_zero, List.getElem?_cons_succ] at x0_5c0 x0_5c1
    have x0_5l := x0_5.lt
    have x1_5c0 := x1_5.cell 0
    have x1_5c1 := x1_5.cell 1
    simp only [List.getElem?_toArray, List.getElem?_cons_zero, List.getElem?_cons_succ] at x1_5c0 x1_5c1
    have x1_5l := x1_5.lt
    have x2_5c0 := x2_5.cell 0
    have x2_5c1 := x2_5.cell 1
    have x2_5c2 := x2_5.cell 2
    have x2_5c3 := x2_5.cell 3
    have x2_5c4 := x2_5.cell 4
    have x2_5c5 := x2_5.cell 5
    simp only [List.getElem?_toArray, List.getElem?_cons_zero, List.getElem?_cons_succ] at x2_5c0 x2_5c1 x2_5c2 x2_5c3 x2_5c4 x2_5c5
    have x2_5l := x2_5.lt
    have y0_5c0 := y0_5.cell 0
    have y0_5c1 := y0_5.cell 1
    have y0_5c2 := y0_5.cell 2
    have y0_5c3 := y0_5.cell 3
    have y0_5c4 := y0_5.cell 4
    have y0_5c5 := y0_5.cell 5
    simp only [List.getElem?_toArray, List.getElem?_cons_zero, List.getElem?_cons_succ] at y0_5c0 y0_5c1 y0_5c2 y0_5c3 y0_5c4 y0_5c5
    have y0_5l := y0_5.lt
    have y1_5c0 := y1_5.cell 0
    have y1_5c1 := y1_5.cell 1
    have y1_5c2 := y1_5.cell 2
    have y1_5c3 := y1_5.cell 3
    have y1_5c4 := y1_5.cell 4
    have y1_5c5 := y1_5.cell 5
    simp only [List.getElem?_toArray, List.getElem?_cons_zero, List.getElem?_cons_succ] at y1_5c0 y1_5c1 y1_5c2 y1_5c3 y1_5c4 y1_5c5
    have y1_5l := y1_5.lt
    have zz_5c0 := zz_5.cell 0
    have zz_5c1 := zz_5.cell 1
    have zz_5c2 := zz_5.cell 2
    have zz_5c3 := zz_5.cell 3
    have zz_5c4 := zz_5.cell 4
    have zz_5c5 := zz_5.cell 5
    simp only [List.getElem?_toArray, List.getElem?_cons_zero, List.getElem?_cons_succ] at zz_5c0 zz_5c1 zz_5c2 zz_5c3 zz_5c4 zz_5c5
    have zz_5l := zz_5.lt
    have HAV := Lib.hid (HA.out.below B5b)
    have C1 := Lib.hid (H3.out p1 p2 p3 p4 p5 p6)
    have C2 := Lib.hid (H4.out p1 p2 p3 p4 p5 p6)
    have C3 := Lib.hid (H3.out ln ld ln ld la ha)
    have C4 := Lib.hid (H4.out ln ld ln ld la ha)
    generalize coErr ks err lo hi ⟨p1, p2, p3, p4, p5, p6⟩ = e1 at *
    generalize coErr ks err lo hi ⟨ln, ld, ln, ld, la, ha⟩ = e2 at *
    obtain ⟨xc, xf⟩ := xcell (W := V)
    refine wp_region_quiet_tail 33 (by kernel_rfl) (by kernel_rfl) ?_
    simp only [List.take_succ_cons, List.take_zero, List.drop_succ_cons, List.drop_zero]
    repeat (first | go_big_quiet_step (first | (go_at_call 25; with_reducible refine calls_ext (C1.out _ ?_); exact HAV.out.below (Ext.below _)) | (go_at_call 26; with_reducible refine calls_ext (C2.out _ ?_); exact HAV.out.below (Ext.below _)) | (go_at_call 25; with_reducible refine calls_ext (C3.out _ ?_); exact HAV.out.below (Ext.below _)) | (go_at_call 26; with_reducible refine calls_ext (C4.out _ ?_); exact HAV.out.below (Ext.below _))) | quiet_step (first | (go_at_call 25; with_reducible refine calls_ext (C1.out _ ?_); exact HAV.out.below (Ext.below _)) | (go_at_call 26; with_reducible refine calls_ext (C2.out _ ?_); exact HAV.out.below (Ext.below _)) | (go_at_call 25; with_reducible refine calls_ext (C3.out _ ?_); exact HAV.out.below (Ext.below _)) | (go_at_call 26; with_reducible refine calls_ext (C4.out _ ?_); exact HAV.out.below (Ext.below _))))
    refine wpQuiet_nil ?_
    intro wz hbz
    go_wp2
    go_ret
    exact ⟨rfl, B5b.trans (hbz.mono B5b.size)⟩

section
variable {H : Type} {enc : TypeId × Value → H} {w : World} {base : Nat} {spare : Nat → Bool} {held : Bool}
set_option maxRecDepth 100000 in
theorem open_pk {r : Reach} {b0 : Nat} {v : Value} {d : DataW H} {p : List MemPlace} (hv : Value.okWide Try.prog w r b0 40 v) (h : DataW.Trod enc Try.prog w base spare held 40 v d p) :
    ∃ pk : Pk, v = pk.v ∧ ∃ e, d = .agg e := by
  have hone : Try.prog.cellsOf 3 = 1 := by kernel_rfl
  have htwo : Try.prog.cellsOf 30 = 2 := by kernel_rfl
  obtain ⟨cs, rfl, hsz⟩ := okWide_struct Try.underlying40 hv
  rw [show Try.prog.cellsOf 40 = 6 by kernel_rfl] at hsz
  obtain ⟨l⟩ := cs
  match l, hsz with
  | [a, b, c, d', e, f], _ =>
    obtain ⟨fuel, hf⟩ := h
    obtain ⟨y0, y1, y2, y3, m, hx, _, h0, h1, h2, h3⟩ := trod_struct4 Try.underlying40 hf
    have two : ∀ (u v : Value) (y : DataW H × List MemPlace), DataW.trod enc Try.prog w base spare held m 30 [u, v] = some y → ∃ x z : Int, u = .int .i64 x ∧ v = .int .i64 z := by
      intro u v y hy
      obtain ⟨z0, z1, m', _, _, k0, k1⟩ := trod_struct2 Try.underlying30 hy
      obtain ⟨x, ex, _⟩ := DataW.trod_int (cs := [u]) Try.underlying3 (by simpa [hone] using k0)
      obtain ⟨z, ez, _⟩ := DataW.trod_int (cs := [v]) Try.underlying3 (by simpa [hone] using k1)
      simp only [List.cons.injEq, and_true] at ex ez
      exact ⟨x, z, ex, ez⟩
    obtain ⟨p1, p2, rfl, rfl⟩ := two a b y0 (by simpa [Value.cells, htwo] using h0)
    obtain ⟨p3, p4, rfl, rfl⟩ := two c d' y1 (by simpa [Value.cells, htwo] using h1)
    obtain ⟨p5, e5, _⟩ := DataW.trod_int (cs := [e]) Try.underlying3 (by simpa [Value.cells, hone] using h2)
    obtain ⟨p6, e6, _⟩ := DataW.trod_int (cs := [f]) Try.underlying3 (by simpa [Value.cells, hone] using h3)
    simp only [List.cons.injEq, and_true] at e5 e6
    subst e5 e6
    simp only [Prod.mk.injEq] at hx
    exact ⟨⟨p1, p2, p3, p4, p5, p6⟩, rfl, _, hx.1⟩
end
set_option maxRecDepth 100000 in
theorem curveOvers_lifted (os : Os) (started : os.Started) (H : Type) (enc : TypeId × Value → H) :
    ReturnsInHanded Rows.curveOversRow.assume Try.checked os 4 .any (Rows.curveOversSpec.pre6 enc Try.prog Try.f4 Rows.curveOversRow.domain false) (Rows.curveOversSpec.post enc Try.prog Try.f4 false Rows.curveOversRow.fresh Rows.curveOversRow.handsOn Rows.curveOversRow.again) := by
  refine returnsInHanded_of_change (C := Try.checked) (by kernel_rfl) started (by kernel_rfl) Try.func4
    (ChangeSpec.witness6 (enc := enc) (C := Try.checked) false ⟨#[], #[vCv none 0 0 0, vSpan 0 0, vPeak 0 0 0 0 0 0, .int .u8 0], []⟩ 8 (by kernel_rfl) (by kernel_rfl) (by kernel_rfl) (by kernel_rfl)) ?_
  intro W base args ds gs before hval0 hW hcnd _
  have hval : ∀ (j : Nat) t v, Try.f4.params[j]? = some t → args[j]? = some v → Value.okWide Try.prog W .any base t v := hval0
  have hW' := hW
  obtain ⟨p, q, hA0, hV, rfl, hfz, hnd⟩ := hW
  obtain ⟨rfl, rfl⟩ := trodVars_none hV
  have hA : DataW.TrodAll enc Try.prog W 0 (fun _ => true) true [24, 26, 40, 5] args.toList ds p := hA0
  obtain ⟨v0, v1, v2, v3, d0, d1, d2, d3, q0, q1, q2, q3, rfl, rfl, rfl, h0, h1, h2, h3⟩ := trodAll_four hA
  obtain ⟨A, n, cap, err, ks, rfl, hC, hm, _, _, rfl⟩ := open_cv (hval 0 24 v0 rfl rfl) h0
  obtain ⟨lo, hi, rfl, hlo, hhi, _, rfl⟩ := open_sp (hval 1 26 v1 rfl rfl) h1
  obtain ⟨pk, rfl, _, rfl⟩ := open_pk (hval 2 40 v2 rfl rfl) h2
  obtain ⟨what, rfl, rfl, rfl, wu⟩ := open_int Try.underlying5 (hval 3 5 v3 rfl rfl) h3
  have hwu : 0 ≤ what ∧ what ≤ 255 := by simp [Lit.wf, IntKind.min, IntKind.max, IntKind.signed, IntKind.bits] at wu; omega
  refine (curveOvers_walk A n cap err ks lo hi pk what W hC hm hwu.1 hwu.2).mono fun e W' ⟨he, hb⟩ => ⟨_, he, law_post laid_out (by kernel_rfl) rfl Try.underlying4 rfl hW' rfl rfl rfl hb⟩

theorem curveOvers : Rows.CurveOversSaid :=
  OpenClaim.holds_of_wide 4 Try.f4 rfl rfl rfl rfl rfl rfl rfl ⟨rfl, rfl, rfl, rfl, rfl⟩ rfl rfl rfl rfl rfl (by kernel_rfl) Try.func4 (by kernel_rfl)
    (of_decide_eq_true (by kernel_rfl)) (by unfold Func.isWrapper; first | (rw [if_pos (by decide +kernel)]; kernel_rfl) | (rw [if_neg (by decide +kernel)]; exact ⟨rfl, rfl⟩))
    (fun os started H enc _ => curveOvers_lifted os started H enc)
#print axioms curveOvers

end Go.Proofs.Ytipablcbkoedbaa
