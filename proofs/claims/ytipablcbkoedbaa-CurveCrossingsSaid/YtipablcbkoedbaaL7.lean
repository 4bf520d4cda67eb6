/- CurveCrossings is proved: for every two curves: at each integer of both domains they are equal only within a span of Cross; between two integers that lie in no span together the difference does not change its sign; each span has a number at which they are equal. No condition. -/
import Derived.WalkKit
import Derived.WalkLawsBesides
import Derived.Deep.QuietTactic
import Derived.BigQuiet
import Derived.RegionTactic
import Derived.OwnWalk
import Derived.Lib.Hide
import Derived.Outline
import Derived.WalkSmall
import Derived.Lib.SmallJoins
import Derived.Test.YtipablcbkoedbaaProg
import Derived.Test.YtipablcbkoedbaaN2
import Derived.Test.YtipablcbkoedbaaN3
import Derived.Test.YtipablcbkoedbaaF3
import Derived.Test.YtipablcbkoedbaaRow2
namespace Go.Proofs.Ytipablcbkoedbaa
open Go.RowKit Go.WideShapes Go.ChangeShapes Go.Joins

theorem Fs_of_row {W : World} {base g c e : Nat} {zs : List (Int × Int)} (h : W.ownsRow base e 2 (.slice (some ⟨g, 0, none⟩) zs.length c) zs.length (zs.flatMap encF)) : Fs W g 0 zs := by
  have hf := flat_at 2 encF (fun _ => rfl) zs
  refine ⟨fun j hj => ?_, fun j hj => ?_, ?_⟩
  · rw [Nat.zero_add, h.cellAt (j * 2) (by omega)]
    have := hf j 0 (0, 0) hj (by omega)
    simpa [encF] using this
  · rw [Nat.zero_add, h.cellAt (j * 2 + 1) (by omega)]
    have := hf j 1 (0, 0) hj (by omega)
    simpa [encF] using this
  · have := h.lt g rfl
    omega
/-- A row of spans, whether there are some or not. -/
theorem row_open {W : World} {base e : Nat} {zs : List (Int × Int)} {v : Value} (h : W.ownsRow base e 2 v zs.length (zs.flatMap encF)) :
    ∃ A c, v = .slice A zs.length c ∧ (0 < zs.length → ∃ g, A = some ⟨g, 0, none⟩ ∧ Fs W g 0 zs) := by
  rcases h.2 with ⟨rfl, h0⟩ | ⟨g, cap, cur, rfl, _⟩
  · exact ⟨none, 0, by rw [h0], fun k => absurd h0 (by omega)⟩
  · exact ⟨_, _, rfl, fun _ => ⟨g, rfl, Fs_of_row h⟩⟩
theorem fld_num (a b : Int) (w : World) : (Instr.field 30 (vFrac a b) 0).run Try.prog w = .ok (.int .i64 a) w := by kernel_rfl
theorem any_take_succ {α : Type} (p : α → Bool) (l : List α) (j : Nat) (d : α) (h : j < l.length) : (l.take (j + 1)).any p = ((l.take j).any p || p (l.getD j d)) := by
  rw [List.take_succ_eq_append_getElem h, List.any_append]
  simp [List.getD_eq_getElem?_getD, h]
theorem tog_aln (l : List (Int × Int)) (x : Int) (h : tog l x = true) : aln l x = true := by
  obtain ⟨z, hz, a, b⟩ := (tog_iff l x).1 h
  exact (aln_iff l x).2 ⟨z, hz, a, by omega⟩
theorem sgn3 (z : Int) : (z < 0 ∧ ¬ 0 < z ∧ z ≤ 0 ∧ ¬ 0 ≤ z ∧ (z == 0) = false) ∨ z = 0 ∨ (¬ z < 0 ∧ 0 < z ∧ ¬ z ≤ 0 ∧ 0 ≤ z ∧ (z == 0) = false) := by
  rcases Int.lt_trichotomy z 0 with h | h | h
  · exact .inl ⟨h, by omega, by omega, by omega, by simp; omega⟩
  · exact .inr (.inl h)
  · exact .inr (.inr ⟨by omega, h, by omega, by omega, by simp; omega⟩)

set_option maxRecDepth 100000 in
set_option maxHeartbeats 6400000 in
theorem curveCrossings_walk (A A' : Option Addr) (n cap n' cap' : Nat) (err err' : Int) (ks ks' : List (Int × Int)) (w : World) (h : CAt w A n ks) (hm : n ≤ 9223372036854775807) (h' : CAt w A' n' ks') (hm' : n' ≤ 9223372036854775807) :
    Calls Try.prog 8 #[vCv A n cap err, vCv A' n' cap' err'] w fun e w' => e = .returned (.bool true) ∧ Below w.heap.size w w' := by
  have HH := Lib.hid head_any
  have HA := Lib.hid h
  have HA' := Lib.hid h'
  by_cases hn : n ≤ 60
  case neg =>
    have HF := Lib.hid (fun W => calls_val (few_any A n cap err W hm) (v' := .bool false) (by rw [decide_eq_false hn]))
    clear h h'
    generalize hW : (w.alloc (.cells #[.slice A n cap, .int .i64 err] 24)).alloc (.cells #[.slice A' n' cap', .int .i64 err'] 24) = W
    have hbw : Below w.heap.size w W := by rw [← hW]; exact (((Below.refl w.heap.size w).alloc (Nat.le_refl _) _).alloc (by simp) _)
    have x0_0 : Blk W w.heap.size 24 #[.slice A n cap, .int .i64 err] := by rw [← hW]; exact ((Blk.at_new _ _ rfl).alloc _)
    have x1_0 : Blk W (w.heap.size + 1) 24 #[.slice A' n' cap', .int .i64 err'] := by rw [← hW]; exact (Blk.at_new _ _ (by simp))
    have HWE := Lib.hid hW
    clear hW
    go_enter Try.func8, Try.ntmps8
    have B1 := hbw
    go_wp2_with fail
    rw [HWE.out]
    refine (HH.out _).mono ?_; rintro e w1 ⟨rfl, hb1⟩
    have x0_1 := x0_0.below hb1
    have x1_1 := x1_0.below hb1
    clear x0_0 x1_0
    have x0_1c0 := x0_1.cell 0
    have x0_1c1 := x0_1.cell 1
    simp only [List.getElem?_toArray, List.getElem?_cons_zero, List.getElem?_cons_succ] at x0_1c0 x0_1c1
    have x0_1l := x0_1.lt
    have x1_1c0 := x1_1.cell 0
    have x1_1c1 := x1_1.cell 1
    simp only [List.getElem?_toArray, List.getElem?_cons_zero, List.getElem?_cons_succ] at x1_1c0 x1_1c1
    have x1_1l := x1_1.lt
    have B2 := B1.trans (hb1.mono B1.size)
    go_wp2_with fail
    refine (HF.out _).mono ?_; rintro e w2 ⟨rfl, hb2⟩
    clear x0_1c0 x0_1c1 x0_1l x1_1c0 x1_1c1 x1_1l
    have x0_2 := x0_1.below hb2
    have x1_2 := x1_1.below hb2
    clear x0_1 x1_1
    have x0_2c0 := x0_2.cell 0
    have x0_2c1 := x0_2.cell 1
    simp only [List.getElem?_toArray, List.getElem?_cons_zero, List.getElem?_cons_succ] at x0_2c0 x0_2c1
    have x0_2l := x0_2.lt
    have x1_2c0 := x1_2.cell 0
    have x1_2c1 := x1_2.cell 1
    simp only [List.getElem?_toArray, List.getElem?_cons_zero, List.getElem?_cons_succ] at x1_2c0 x1_2c1
    have x1_2l := x1_2.lt
    go_wp2
    go_ret
    exact ⟨rfl, B2.trans (hb2.mono B2.size)⟩
  by_cases hn' : n' ≤ 60
  case neg =>
    have HF := Lib.hid (fun W => calls_val (few_any A n cap err W hm) (v' := .bool true) (by rw [decide_eq_true hn]))
    have HF' := Lib.hid (fun W => calls_val (few_any A' n' cap' err' W hm') (v' := .bool false) (by rw [decide_eq_false hn']))
    clear h h'
    generalize hW : (w.alloc (.cells #[.slice A n cap, .int .i64 err] 24)).alloc (.cells #[.slice A' n' cap', .int .i64 err'] 24) = W
    have hbw : Below w.heap.size w W := by rw [← hW]; exact (((Below.refl w.heap.size w).alloc (Nat.le_refl _) _).alloc (by simp) _)
    have x0_0 : Blk W w.heap.size 24 #[.slice A n cap, .int .i64 err] := by rw [← hW]; exact ((Blk.at_new _ _ rfl).alloc _)
    have x1_0 : Blk W (w.heap.size + 1) 24 #[.slice A' n' cap', .int .i64 err'] := by rw [← hW]; exact (Blk.at_new _ _ (by simp))
    have HWE := Lib.hid hW
    clear hW
    go_enter Try.func8, Try.ntmps8
    have B1 := hbw
    go_wp2_with fail
    rw [HWE.out]
    refine (HH.out _).mono ?_; rintro e w1 ⟨rfl, hb1⟩
    have x0_1 := x0_0.below hb1
    have x1_1 := x1_0.below hb1
    clear x0_0 x1_0
    have x0_1c0 := x0_1.cell 0
    have x0_1c1 := x0_1.cell 1
    simp only [List.getElem?_toArray, List.getElem?_cons_zero, List.getElem?_cons_succ] at x0_1c0 x0_1c1
    have x0_1l := x0_1.lt
    have x1_1c0 := x1_1.cell 0
    have x1_1c1 := x1_1.cell 1
    simp only [List.getElem?_toArray, List.getElem?_cons_zero, List.getElem?_cons_succ] at x1_1c0 x1_1c1
    have x1_1l := x1_1.lt
    have B2 := B1.trans (hb1.mono B1.size)
    go_wp2_with fail
    refine (HF.out _).mono ?_; rintro e w2 ⟨rfl, hb2⟩
    clear x0_1c0 x0_1c1 x0_1l x1_1c0 x1_1c1 x1_1l
    have x0_2 := x0_1.below hb2
    have x1_2 := x1_1.below hb2
    clear x0_1 x1_1
    have x0_2c0 := x0_2.cell 0
    have x0_2c1 := x0_2.cell 1
    simp only [List.getElem?_toArray, List.getElem?_cons_zero, List.getElem?_cons_succ] at x0_2c0 x0_2c1
    have x0_2l := x0_2.lt
    have x1_2c0 := x1_2.cell 0
    have x1_2c1 := x1_2.cell 1
    simp only [List.getElem?_toArray, List.getElem?_cons_zero, List.getElem?_cons_succ] at x1_2c0 x1_2c1
    have x1_2l := x1_2.lt
    have B3 := B2.trans (hb2.mono B2.size)
    go_wp2_with fail
    refine (HF'.out _).mono ?_; rintro e w3 ⟨rfl, hb3⟩
    clear x0_2c0 x0_2c1 x0_2l x1_2c0 x1_2c1 x1_2l
    have x0_3 := x0_2.below hb3
    have x1_3 := x1_2.below hb3
    clear x0_2 x1_2
    have x0_3c0 := x0_3.cell 0
    have x0_3c1 := x0_3.cell 1
    simp only [List.getElem?_toArray, List.getElem?_cons_zero, List.getElem?_cons_succ] at x0_3c0 x0_3c1
    have x0_3l := x0_3.lt
    have x1_3c0 := x1_3.cell 0
    have x1_3c1 := x1_3.cell 1
    simp only [List.getElem?_toArray, List.getElem?_cons_zero, List.getElem?_cons_succ] at x1_3c0 x1_3c1
    have x1_3l := x1_3.lt
    go_wp2
    go_ret
    exact ⟨rfl, B3.trans (hb3.mono B3.size)⟩
  have HF := Lib.hid (fun W => calls_val (few_any A n cap err W hm) (v' := .bool true) (by rw [decide_eq_true hn]))
  have HF' := Lib.hid (fun W => calls_val (few_any A' n' cap' err' W hm') (v' := .bool true) (by rw [decide_eq_true hn']))
  have HC := Lib.hid (fun W (hW : CAt W A n ks) (hW' : CAt W A' n' ks') => Cross_any A A' n cap n' cap' err err' ks ks' W hW hm hW' hm')
  have HD := Lib.hid (fun W (hW : CAt W A n ks) => Domain_any A n cap err ks W hW hm)
  have HD' := Lib.hid (fun W (hW : CAt W A' n' ks') => Domain_any A' n' cap' err' ks' W hW hm')
  unfold CrOut at HC
  by_cases hz : twErr ks ks' err err' = 0
  case neg =>
    have hz1 : (twErr ks ks' err err' != 0) = true := by simpa using hz
    clear h h' hz
    generalize twErr ks ks' err err' = te at *
    generalize dmLo ks err = dl at *
    generalize dmHi ks err = dh at *
    generalize dmLo ks' err' = dl' at *
    generalize dmHi ks' err' = dh' at *
    generalize check ks err = ce at *
    generalize check ks' err' = ce' at *
    generalize hW : (w.alloc (.cells #[.slice A n cap, .int .i64 err] 24)).alloc (.cells #[.slice A' n' cap', .int .i64 err'] 24) = W
    have hbw : Below w.heap.size w W := by rw [← hW]; exact (((Below.refl w.heap.size w).alloc (Nat.le_refl _) _).alloc (by simp) _)
    have x0_0 : Blk W w.heap.size 24 #[.slice A n cap, .int .i64 err] := by rw [← hW]; exact ((Blk.at_new _ _ rfl).alloc _)
    have x1_0 : Blk W (w.heap.size + 1) 24 #[.slice A' n' cap', .int .i64 err'] := by rw [← hW]; exact (Blk.at_new _ _ (by simp))
    have HWE := Lib.hid hW
    clear hW
    go_enter Try.func8, Try.ntmps8
    have B1 := hbw
    go_wp2_with fail
    rw [HWE.out]
    refine (HH.out _).mono ?_; rintro e w1 ⟨rfl, hb1⟩
    have x0_1 := x0_0.below hb1
    have x1_1 := x1_0.below hb1
    clear x0_0 x1_0
    have x0_1c0 := x0_1.cell 0
    have x0_1c1 := x0_1.cell 1
    simp only [List.getElem?_toArray, List.getElem?_cons_zero, List.getElem?_cons_succ] at x0_1c0 x0_1c1
    have x0_1l := x0_1.lt
    have x1_1c0 := x1_1.cell 0
    have x1_1c1 := x1_1.cell 1
    simp only [List.getElem?_toArray, List.getElem?_cons_zero, List.getElem?_cons_succ] at x1_1c0 x1_1c1
    have x1_1l := x1_1.lt
    have B2 := B1.trans (hb1.mono B1.size)
    go_wp2_with fail
    refine (HF.out _).mono ?_; rintro e w2 ⟨rfl, hb2⟩
    clear x0_1c0 x0_1c1 x0_1l x1_1c0 x1_1c1 x1_1l
    have x0_2 := x0_1.below hb2
    have x1_2 := x1_1.below hb2
    clear x0_1 x1_1
    have x0_2c0 := x0_2.cell 0
    have x0_2c1 := x0_2.cell 1
    simp only [List.getElem?_toArray, List.getElem?_cons_zero, List.getElem?_cons_succ] at x0_2c0 x0_2c1
    have x0_2l := x0_2.lt
    have x1_2c0 := x1_2.cell 0
    have x1_2c1 := x1_2.cell 1
    simp only [List.getElem?_toArray, List.getElem?_cons_zero, List.getElem?_cons_succ] at x1_2c0 x1_2c1
    have x1_2l := x1_2.lt
    have B3 := B2.trans (hb2.mono B2.size)
    go_wp2_with fail
    refine (HF'.out _).mono ?_; rintro e w3 ⟨rfl, hb3⟩
    clear x0_2c0 x0_2c1 x0_2l x1_2c0 x1_2c1 x1_2l
    have x0_3 := x0_2.below hb3
    have x1_3 := x1_2.below hb3
    clear x0_2 x1_2
    have x0_3c0 := x0_3.cell 0
    have x0_3c1 := x0_3.cell 1
    simp only [List.getElem?_toArray, List.getElem?_cons_zero, List.getElem?_cons_succ] at x0_3c0 x0_3c1
    have x0_3l := x0_3.lt
    have x1_3c0 := x1_3.cell 0
    have x1_3c1 := x1_3.cell 1
    simp only [List.getElem?_toArray, List.getElem?_cons_zero, List.getElem?_cons_succ] at x1_3c0 x1_3c1
    have x1_3l := x1_3.lt
    have B4 := B3.trans (hb3.mono B3.size)
    go_wp2_with fail
    refine (HC.out _ (HA.out.below B4) (HA'.out.below B4)).mono ?_; rintro e w4 ⟨v, rfl, hown, hb4⟩
    clear x0_3c0 x0_3c1 x0_3l x1_3c0 x1_3c1 x1_3l
    have x0_4 := x0_3.below hb4
    have x1_4 := x1_3.below hb4
    clear x0_3 x1_3
    have x0_4c0 := x0_4.cell 0
    have x0_4c1 := x0_4.cell 1
    simp only [List.getElem?_toArray, List.getElem?_cons_zero, List.getElem?_cons_succ] at x0_4c0 x0_4c1
    have x0_4l := x0_4.lt
    have x1_4c0 := x1_4.cell 0
    have x1_4c1 := x1_4.cell 1
    simp only [List.getElem?_toArray, List.getElem?_cons_zero, List.getElem?_cons_succ] at x1_4c0 x1_4c1
    have x1_4l := x1_4.lt
    have rw_4 := hown
    have B5 := B4.trans (hb4.mono B4.size)
    go_wp2_with fail
    refine (HD.out _ (HA.out.below B5)).mono ?_; rintro e w5 ⟨rfl, hb5⟩
    clear x0_4c0 x0_4c1 x0_4l x1_4c0 x1_4c1 x1_4l
    have x0_5 := x0_4.below hb5
    have x1_5 := x1_4.below hb5
    clear x0_4 x1_4
    have rw_5 := owns_below rw_4 hb5
    have x0_5c0 := x0_5.cell 0
    have x0_5c1 := x0_5.cell 1
    simp only [List.getElem?_toArray, List.getElem?_cons_zero, List.getElem?_cons_succ] at x0_5c0 x0_5c1
    have x0_5l := x0_5.lt
    have x1_5c0 := x1_5.cell 0
    have x1_5c1 := x1_5.cell 1
    simp only [List.getElem?_toArray, List.getElem?_cons_zero, List.getElem?_cons_succ] at x1_5c0 x1_5c1
    have x1_5l := x1_5.lt
    have B6 := B5.trans (hb5.mono B5.size)
    have B6a := B6.alloc B6.size (.cells #[.int .i64 dl, .int .i64 dh] 26)
    go_wp2_with fail
    refine (HD'.out _ (HA'.out.below B6a)).mono ?_; rintro e w6 ⟨rfl, hb6⟩
    clear x0_5c0 x0_5c1 x0_5l x1_5c0 x1_5c1 x1_5l
    have x0_6 := (x0_5.alloc (.cells #[.int .i64 dl, .int .i64 dh] 26)).below hb6
    have x1_6 := (x1_5.alloc (.cells #[.int .i64 dl, .int .i64 dh] 26)).below hb6
    have sa_6 := (Blk.new w5 26 #[.int .i64 dl, .int .i64 dh]).below hb6
    clear x0_5 x1_5
    have rw_6 := owns_below (rw_5.alloc (.cells #[.int .i64 dl, .int .i64 dh] 26)) hb6
    have x0_6c0 := x0_6.cell 0
    have x0_6c1 := x0_6.cell 1
    simp only [List.getElem?_toArray, List.getElem?_cons_zero, List.getElem?_cons_succ] at x0_6c0 x0_6c1
    have x0_6l := x0_6.lt
    have x1_6c0 := x1_6.cell 0
    have x1_6c1 := x1_6.cell 1
    simp only [List.getElem?_toArray, List.getElem?_cons_zero, List.getElem?_cons_succ] at x1_6c0 x1_6c1
    have x1_6l := x1_6.lt
    have sa_6c0 := sa_6.cell 0
    have sa_6c1 := sa_6.cell 1
    simp only [List.getElem?_toArray, List.getElem?_cons_zero, List.getElem?_cons_succ] at sa_6c0 sa_6c1
    have sa_6l := sa_6.lt
    have BZ := B6a.trans (hb6.mono B6a.size)
    go_wp2
    go_ret
    exact ⟨rfl, BZ.alloc BZ.size _⟩
  have e1 : check ks err = 0 := by unfold twErr at hz; split at hz <;> first | assumption | contradiction
  have e2 : check ks' err' = 0 := by unfold twErr at hz; rw [if_pos e1] at hz; exact hz
  obtain ⟨q1, q2, r1, r2, r3, r4, r5, r6, r7, r8⟩ := tw_lohi hz
  obtain ⟨P1, P2⟩ := cross_plain hz
  have hin := fun x (a : twLo ks ks' ≤ x) (b : x ≤ twHi ks ks') => tw_in hz a b
  have HAp := Lib.hid (fun W (hW : CAt W A n ks) (hW' : CAt W A' n' ks') x (a : twLo ks ks' ≤ x) (b : x ≤ twHi ks ks') => apart_any A A' n cap n' cap' err err' ks ks' x W hW hm hW' hm' (hin x a b).1 (hin x a b).2.1)
  have d1 : dmLo ks err = domLo ks := by unfold dmLo; rw [if_pos e1]
  have d2 : dmHi ks err = domHi ks := by unfold dmHi; rw [if_pos e1]
  have d3 : dmLo ks' err' = domLo ks' := by unfold dmLo; rw [if_pos e2]
  have d4 : dmHi ks' err' = domHi ks' := by unfold dmHi; rw [if_pos e2]
  rw [d1, d2, e1] at HD
  rw [d3, d4, e2] at HD'
  rw [hz] at HC
  rw [q1] at P1 P2 HAp
  rw [q2] at P1 P2 HAp
  have hll : (crV ks ks' err err').length ≤ 4000 := by unfold crV; rw [if_pos hz]; have := crL_len (twLo ks ks') (twO ks ks') (twHi ks ks' + 1 - twLo ks ks').toNat; omega
  have HP1 := Lib.hid P1
  have HP2 := Lib.hid P2
  clear d1 d2 d3 d4 e1 e2 hin P1 P2 hz q1 q2 h h'
  generalize hL : crV ks ks' err err' = L at *
  clear hL
  generalize dfN ks ks' = D at *
  generalize dfD ks ks' = E at *
  generalize domLo ks = dl at *
  generalize domHi ks = dh at *
  generalize domLo ks' = dl' at *
  generalize domHi ks' = dh' at *
  by_cases h4 : min dh dh' - max dl dl' > 400
  · have H4 := h4
    generalize hW : (w.alloc (.cells #[.slice A n cap, .int .i64 err] 24)).alloc (.cells #[.slice A' n' cap', .int .i64 err'] 24) = W
    have hbw : Below w.heap.size w W := by rw [← hW]; exact (((Below.refl w.heap.size w).alloc (Nat.le_refl _) _).alloc (by simp) _)
    have x0_0 : Blk W w.heap.size 24 #[.slice A n cap, .int .i64 err] := by rw [← hW]; exact ((Blk.at_new _ _ rfl).alloc _)
    have x1_0 : Blk W (w.heap.size + 1) 24 #[.slice A' n' cap', .int .i64 err'] := by rw [← hW]; exact (Blk.at_new _ _ (by simp))
    have HWE := Lib.hid hW
    clear hW
    go_enter Try.func8, Try.ntmps8
    have B1 := hbw
    go_wp2_with fail
    rw [HWE.out]
    refine (HH.out _).mono ?_; rintro e w1 ⟨rfl, hb1⟩
    have x0_1 := x0_0.below hb1
    have x1_1 := x1_0.below hb1
    clear x0_0 x1_0
    have x0_1c0 := x0_1.cell 0
    have x0_1c1 := x0_1.cell 1
    simp only [List.getElem?_toArray, List.getElem?_cons_zero, List.getElem?_cons_succ] at x0_1c0 x0_1c1
    have x0_1l := x0_1.lt
    have x1_1c0 := x1_1.cell 0
    have x1_1c1 := x1_1.cell 1
    simp only [List.getElem?_toArray, List.getElem?_cons_zero, List.getElem?_cons_succ] at x1_1c0 x1_1c1
    have x1_1l := x1_1.lt
    have B2 := B1.trans (hb1.mono B1.size)
    go_wp2_with fail
    refine (HF.out _).mono ?_; rintro e w2 ⟨rfl, hb2⟩
    clear x0_1c0 x0_1c1 x0_1l x1_1c0 x1_1c1 x1_1l
    have x0_2 := x0_1.below hb2
    have x1_2 := x1_1.below hb2
    clear x0_1 x1_1
    have x0_2c0 := x0_2.cell 0
    have x0_2c1 := x0_2.cell 1
    simp only [List.getElem?_toArray, List.getElem?_cons_zero, List.getElem?_cons_succ] at x0_2c0 x0_2c1
    have x0_2l := x0_2.lt
    have x1_2c0 := x1_2.cell 0
    have x1_2c1 := x1_2.cell 1
    simp only [List.getElem?_toArray, List.getElem?_cons_zero, List.getElem?_cons_succ] at x1_2c0 x1_2c1
    have x1_2l := x1_2.lt
    have B3 := B2.trans (hb2.mono B2.size)
    go_wp2_with fail
    refine (HF'.out _).mono ?_; rintro e w3 ⟨rfl, hb3⟩
    clear x0_2c0 x0_2c1 x0_2l x1_2c0 x1_2c1 x1_2l
    have x0_3 := x0_2.below hb3
    have x1_3 := x1_2.below hb3
    clear x0_2 x1_2
    have x0_3c0 := x0_3.cell 0
    have x0_3c1 := x0_3.cell 1
    simp only [List.getElem?_toArray, List.getElem?_cons_zero, List.getElem?_cons_succ] at x0_3c0 x0_3c1
    have x0_3l := x0_3.lt
    have x1_3c0 := x1_3.cell 0
    have x1_3c1 := x1_3.cell 1
    simp only [List.getElem?_toArray, List.getElem?_cons_zero, List.getElem?_cons_succ] at x1_3c0 x1_3c1
    have x1_3l := x1_3.lt
    have B4 := B3.trans (hb3.mono B3.size)
    go_wp2_with fail
    refine (HC.out _ (HA.out.below B4) (HA'.out.below B4)).mono ?_; rintro e w4 ⟨v, rfl, hown, hb4⟩
    clear x0_3c0 x0_3c1 x0_3l x1_3c0 x1_3c1 x1_3l
    have x0_4 := x0_3.below hb4
    have x1_4 := x1_3.below hb4
    clear x0_3 x1_3
    have x0_4c0 := x0_4.cell 0
    have x0_4c1 := x0_4.cell 1
    simp only [List.getElem?_toArray, List.getElem?_cons_zero, List.getElem?_cons_succ] at x0_4c0 x0_4c1
    have x0_4l := x0_4.lt
    have x1_4c0 := x1_4.cell 0
    have x1_4c1 := x1_4.cell 1
    simp only [List.getElem?_toArray, List.getElem?_cons_zero, List.getElem?_cons_succ] at x1_4c0 x1_4c1
    have x1_4l := x1_4.lt
    have rw_4 := hown
    have B5 := B4.trans (hb4.mono B4.size)
    go_wp2_with fail
    refine (HD.out _ (HA.out.below B5)).mono ?_; rintro e w5 ⟨rfl, hb5⟩
    clear x0_4c0 x0_4c1 x0_4l x1_4c0 x1_4c1 x1_4l
    have x0_5 := x0_4.below hb5
    have x1_5 := x1_4.below hb5
    clear x0_4 x1_4
    have rw_5 := owns_below rw_4 hb5
    have x0_5c0 := x0_5.cell 0
    have x0_5c1 := x0_5.cell 1
    simp only [List.getElem?_toArray, List.getElem?_cons_zero, List.getElem?_cons_succ] at x0_5c0 x0_5c1
    have x0_5l := x0_5.lt
    have x1_5c0 := x1_5.cell 0
    have x1_5c1 := x1_5.cell 1
    simp only [List.getElem?_toArray, List.getElem?_cons_zero, List.getElem?_cons_succ] at x1_5c0 x1_5c1
    have x1_5l := x1_5.lt
    have B6 := B5.trans (hb5.mono B5.size)
    have B6a := B6.alloc B6.size (.cells #[.int .i64 dl, .int .i64 dh] 26)
    go_wp2_with fail
    refine (HD'.out _ (HA'.out.below B6a)).mono ?_; rintro e w6 ⟨rfl, hb6⟩
    clear x0_5c0 x0_5c1 x0_5l x1_5c0 x1_5c1 x1_5l
    have x0_6 := (x0_5.alloc (.cells #[.int .i64 dl, .int .i64 dh] 26)).below hb6
    have x1_6 := (x1_5.alloc (.cells #[.int .i64 dl, .int .i64 dh] 26)).below hb6
    have sa_6 := (Blk.new w5 26 #[.int .i64 dl, .int .i64 dh]).below hb6
    clear x0_5 x1_5
    have rw_6 := owns_below (rw_5.alloc (.cells #[.int .i64 dl, .int .i64 dh] 26)) hb6
    have x0_6c0 := x0_6.cell 0
    have x0_6c1 := x0_6.cell 1
    simp only [List.getElem?_toArray, List.getElem?_cons_zero, List.getElem?_cons_succ] at x0_6c0 x0_6c1
    have x0_6l := x0_6.lt
    have x1_6c0 := x1_6.cell 0
    have x1_6c1 := x1_6.cell 1
    simp only [List.getElem?_toArray, List.getElem?_cons_zero, List.getElem?_cons_succ] at x1_6c0 x1_6c1
    have x1_6l := x1_6.lt
    have sa_6c0 := sa_6.cell 0
    have sa_6c1 := sa_6.cell 1
    simp only [List.getElem?_toArray, List.getElem?_cons_zero, List.getElem?_cons_succ] at sa_6c0 sa_6c1
    have sa_6l := sa_6.lt
    have B7 := B6a.trans (hb6.mono B6a.size)
    clear x0_6c0 x0_6c1 x0_6l x1_6c0 x1_6c1 x1_6l sa_6c0 sa_6c1 sa_6l
    have B7a := B7.alloc B7.size (.cells #[.int .i64 dl', .int .i64 dh'] 26)
    have x0_7 := (x0_6.alloc (.cells #[.int .i64 dl', .int .i64 dh'] 26))
    have x1_7 := (x1_6.alloc (.cells #[.int .i64 dl', .int .i64 dh'] 26))
    have sa_7 := (sa_6.alloc (.cells #[.int .i64 dl', .int .i64 dh'] 26))
    have rw_7 := (rw_6.alloc (.cells #[.int .i64 dl', .int .i64 dh'] 26))
    have sb_7 := Blk.new w6 26 #[.int .i64 dl', .int .i64 dh']
    have x0_7c0 := x0_7.cell 0
    have x0_7c1 := x0_7.cell 1
    simp only [List.getElem?_toArray, List.getElem?_cons_zero, List.getElem?_cons_succ] at x0_7c0 x0_7c1
    have x0_7l := x0_7.lt
    have x1_7c0 := x1_7.cell 0
    have x1_7c1 := x1_7.cell 1
    simp only [List.getElem?_toArray, List.getElem?_cons_zero, List.getElem?_cons_succ] at x1_7c0 x1_7c1
    have x1_7l := x1_7.lt
    have sa_7c0 := sa_7.cell 0
    have sa_7c1 := sa_7.cell 1
    simp only [List.getElem?_toArray, List.getElem?_cons_zero, List.getElem?_cons_succ] at sa_7c0 sa_7c1
    have sa_7l := sa_7.lt
    have sb_7c0 := sb_7.cell 0
    have sb_7c1 := sb_7.cell 1
    simp only [List.getElem?_toArray, List.getElem?_cons_zero, List.getElem?_cons_succ] at sb_7c0 sb_7c1
    have sb_7l := sb_7.lt
    go_wp2
    go_ret
    exact ⟨rfl, B7a⟩
  generalize hW : (w.alloc (.cells #[.slice A n cap, .int .i64 err] 24)).alloc (.cells #[.slice A' n' cap', .int .i64 err'] 24) = W
  have hbw : Below w.heap.size w W := by rw [← hW]; exact (((Below.refl w.heap.size w).alloc (Nat.le_refl _) _).alloc (by simp) _)
  have x0_0 : Blk W w.heap.size 24 #[.slice A n cap, .int .i64 err] := by rw [← hW]; exact ((Blk.at_new _ _ rfl).alloc _)
  have x1_0 : Blk W (w.heap.size + 1) 24 #[.slice A' n' cap', .int .i64 err'] := by rw [← hW]; exact (Blk.at_new _ _ (by simp))
  have HWE := Lib.hid hW
  clear hW
  go_enter Try.func8, Try.ntmps8
  have B1 := hbw
  go_wp2_with fail
  rw [HWE.out]
  refine (HH.out _).mono ?_; rintro e w1 ⟨rfl, hb1⟩
  have x0_1 := x0_0.below hb1
  have x1_1 := x1_0.below hb1
  clear x0_0 x1_0
  have x0_1c0 := x0_1.cell 0
  have x0_1c1 := x0_1.cell 1
  simp only [List.getElem?_toArray, List.getElem?_cons_zero, List.getElem?_cons_succ] at x0_1c0 x0_1c1
  have x0_1l := x0_1.lt
  have x1_1c0 := x1_1.cell 0
  have x1_1c1 := x1_1.cell 1
  simp only [List.getElem?_toArray, List.getElem?_cons_zero, List.getElem?_cons_succ] at x1_1c0 x1_1c1
  have x1_1l := x1_1.lt
  have B2 := B1.trans (hb1.mono B1.size)
  go_wp2_with fail
  refine (HF.out _).mono ?_; rintro e w2 ⟨rfl, hb2⟩
  clear x0_1c0 x0_1c1 x0_1l x1_1c0 x1_1c1 x1_1l
  have x0_2 := x0_1.below hb2
  have x1_2 := x1_1.below hb2
  clear x0_1 x1_1
  have x0_2c0 := x0_2.cell 0
  have x0_2c1 := x0_2.cell 1
  simp only [List.getElem?_toArray, List.getElem?_cons_zero, List.getElem?_cons_succ] at x0_2c0 x0_2c1
  have x0_2l := x0_2.lt
  have x1_2c0 := x1_2.cell 0
  have x1_2c1 := x1_2.cell 1
  simp only [List.getElem?_toArray, List.getElem?_cons_zero, List.getElem?_cons_succ] at x1_2c0 x1_2c1
  have x1_2l := x1_2.lt
  have B3 := B2.trans (hb2.mono B2.size)
  go_wp2_with fail
  refine (HF'.out _).mono ?_; rintro e w3 ⟨rfl, hb3⟩
  clear x0_2c0 x0_2c1 x0_2l x1_2c0 x1_2c1 x1_2l
  have x0_3 := x0_2.below hb3
  have x1_3 := x1_2.below hb3
  clear x0_2 x1_2
  have x0_3c0 := x0_3.cell 0
  have x0_3c1 := x0_3.cell 1
  simp only [List.getElem?_toArray, List.getElem?_cons_zero, List.getElem?_cons_succ] at x0_3c0 x0_3c1
  have x0_3l := x0_3.lt
  have x1_3c0 := x1_3.cell 0
  have x1_3c1 := x1_3.cell 1
  simp only [List.getElem?_toArray, List.getElem?_cons_zero, List.getElem?_cons_succ] at x1_3c0 x1_3c1
  have x1_3l := x1_3.lt
  have B4 := B3.trans (hb3.mono B3.size)
  go_wp2_with fail
  refine (HC.out _ (HA.out.below B4) (HA'.out.below B4)).mono ?_; rintro e w4 ⟨v, rfl, hown, hb4⟩
  clear x0_3c0 x0_3c1 x0_3l x1_3c0 x1_3c1 x1_3l
  have x0_4 := x0_3.below hb4
  have x1_4 := x1_3.below hb4
  clear x0_3 x1_3
  have x0_4c0 := x0_4.cell 0
  have x0_4c1 := x0_4.cell 1
  simp only [List.getElem?_toArray, List.getElem?_cons_zero, List.getElem?_cons_succ] at x0_4c0 x0_4c1
  have x0_4l := x0_4.lt
  have x1_4c0 := x1_4.cell 0
  have x1_4c1 := x1_4.cell 1
  simp only [List.getElem?_toArray, List.getElem?_cons_zero, List.getElem?_cons_succ] at x1_4c0 x1_4c1
  have x1_4l := x1_4.lt
  have rw_4 := hown
  have B5 := B4.trans (hb4.mono B4.size)
  go_wp2_with fail
  refine (HD.out _ (HA.out.below B5)).mono ?_; rintro e w5 ⟨rfl, hb5⟩
  clear x0_4c0 x0_4c1 x0_4l x1_4c0 x1_4c1 x1_4l
  have x0_5 := x0_4.below hb5
  have x1_5 := x1_4.below hb5
  clear x0_4 x1_4
  have rw_5 := owns_below rw_4 hb5
  have x0_5c0 := x0_5.cell 0
  have x0_5c1 := x0_5.cell 1
  simp only [List.getElem?_toArray, List.getElem?_cons_zero, List.getElem?_cons_succ] at x0_5c0 x0_5c1
  have x0_5l := x0_5.lt
  have x1_5c0 := x1_5.cell 0
  have x1_5c1 := x1_5.cell 1
  simp only [List.getElem?_toArray, List.getElem?_cons_zero, List.getElem?_cons_succ] at x1_5c0 x1_5c1
  have x1_5l := x1_5.lt
  have B6 := B5.trans (hb5.mono B5.size)
  have B6a := B6.alloc B6.size (.cells #[.int .i64 dl, .int .i64 dh] 26)
  go_wp2_with fail
  refine (HD'.out _ (HA'.out.below B6a)).mono ?_; rintro e w6 ⟨rfl, hb6⟩
  clear x0_5c0 x0_5c1 x0_5l x1_5c0 x1_5c1 x1_5l
  have x0_6 := (x0_5.alloc (.cells #[.int .i64 dl, .int .i64 dh] 26)).below hb6
  have x1_6 := (x1_5.alloc (.cells #[.int .i64 dl, .int .i64 dh] 26)).below hb6
  have sa_6 := (Blk.new w5 26 #[.int .i64 dl, .int .i64 dh]).below hb6
  clear x0_5 x1_5
  have rw_6 := owns_below (rw_5.alloc (.cells #[.int .i64 dl, .int .i64 dh] 26)) hb6
  have x0_6c0 := x0_6.cell 0
  have x0_6c1 := x0_6.cell 1
  simp only [List.getElem?_toArray, List.getElem?_cons_zero, List.getElem?_cons_succ] at x0_6c0 x0_6c1
  have x0_6l := x0_6.lt
  have x1_6c0 := x1_6.cell 0
  have x1_6c1 := x1_6.cell 1
  simp only [List.getElem?_toArray, List.getElem?_cons_zero, List.getElem?_cons_succ] at x1_6c0 x1_6c1
  have x1_6l := x1_6.lt
  have sa_6c0 := sa_6.cell 0
  have sa_6c1 := sa_6.cell 1
  simp only [List.getElem?_toArray, List.getElem?_cons_zero, List.getElem?_cons_succ] at sa_6c0 sa_6c1
  have sa_6l := sa_6.lt
  have B7 := B6a.trans (hb6.mono B6a.size)
  clear x0_6c0 x0_6c1 x0_6l x1_6c0 x1_6c1 x1_6l sa_6c0 sa_6c1 sa_6l
  have B7a := B7.alloc B7.size (.cells #[.int .i64 dl', .int .i64 dh'] 26)
  have x0_7 := (x0_6.alloc (.cells #[.int .i64 dl', .int .i64 dh'] 26))
  have x1_7 := (x1_6.alloc (.cells #[.int .i64 dl', .int .i64 dh'] 26))
  have sa_7 := (sa_6.alloc (.cells #[.int .i64 dl', .int .i64 dh'] 26))
  have rw_7 := (rw_6.alloc (.cells #[.int .i64 dl', .int .i64 dh'] 26))
  have sb_7 := Blk.new w6 26 #[.int .i64 dl', .int .i64 dh']
  have x0_7c0 := x0_7.cell 0
  have x0_7c1 := x0_7.cell 1
  simp only [List.getElem?_toArray, List.getElem?_cons_zero, List.getElem?_cons_succ] at x0_7c0 x0_7c1
  have x0_7l := x0_7.lt
  have x1_7c0 := x1_7.cell 0
  have x1_7c1 := x1_7.cell 1
  simp only [List.getElem?_toArray, List.getElem?_cons_zero, List.getElem?_cons_succ] at x1_7c0 x1_7c1
  have x1_7l := x1_7.lt
  have sa_7c0 := sa_7.cell 0
  have sa_7c1 := sa_7.cell 1
  simp only [List.getElem?_toArray, List.getElem?_cons_zero, List.getElem?_cons_succ] at sa_7c0 sa_7c1
  have sa_7l := sa_7.lt
  have sb_7c0 := sb_7.cell 0
  have sb_7c1 := sb_7.cell 1
  simp only [List.getElem?_toArray, List.getElem?_cons_zero, List.getElem?_cons_succ] at sb_7c0 sb_7c1
  have sb_7l := sb_7.lt
  go_wp2_with fail
  clear x0_7c0 x0_7c1 x0_7l x1_7c0 x1_7c1 x1_7l sa_7c0 sa_7c1 sa_7l sb_7c0 sb_7c1 sb_7l
  have X0 := x0_7
  have X1 := x1_7
  have BV := B7a
  have RW := rw_7
  have hlo1 : 0 ≤ max dl dl' := by omega
  have hlo2 : max dl dl' ≤ 2000 := by omega
  have hhi1 : 0 ≤ min dh dh' := by omega
  have hhi2 : min dh dh' ≤ 2000 := by omega
  clear h4
  generalize max dl dl' = lo at *
  generalize min dh dh' = hi at *
  generalize (w6.alloc (.cells #[.int .i64 dl', .int .i64 dh'] 26)) = V at *
  obtain ⟨AL, cl, rfl, hAL⟩ := row_open RW
  have HAL := Lib.hid hAL
  have HX0 := Lib.hid X0
  have HX1 := Lib.hid X1
  have HBV := Lib.hid BV
  clear hAL X0 X1 BV RW
  go_loopw [14] (fun i wr => ∃ X : Int, i = .int .i64 X ∧ lo ≤ X ∧ X ≤ 2001 ∧ Below V.heap.size V wr) (fun i _ => (hi - intOf i).toNat)
  case atStart => exact ⟨lo, rfl, Int.le_refl _, by omega, Below.refl _ _⟩
  case round =>
    obtain ⟨X, rfl, hx1, hx2, hb⟩ := hrel
    by_cases hx : X < hi
    · have x0 := HX0.out.below hb
      have x1 := HX1.out.below hb
      have c0 := x0.cell 0
      have c1 := x0.cell 1
      simp only [List.getElem?_toArray, List.getElem?_cons_zero, List.getElem?_cons_succ] at c0 c1
      have d0 := x1.cell 0
      have d1 := x1.cell 1
      simp only [List.getElem?_toArray, List.getElem?_cons_zero, List.getElem?_cons_succ] at d0 d1
      have xl := x0.lt
      have yl := x1.lt
      have hbw2 := HBV.out.trans (hb.mono HBV.out.size)
      obtain ⟨f1, f2, f3⟩ := HP1.out X hx1 hx
      have F1 := Lib.hid f1
      have F2 := Lib.hid f2
      have F3 := Lib.hid f3
      have HA1 := Lib.hid (fun W (hW : CAt W A n ks) (hW' : CAt W A' n' ks') => HAp.out W hW hW' X hx1 (by omega))
      have HA2 := Lib.hid (fun W (hW : CAt W A n ks) (hW' : CAt W A' n' ks') => HAp.out W hW hW' (X + 1) (by omega) (by omega))
      clear f1 f2 f3
      generalize D X = p at *
      generalize E X = p2 at *
      generalize D (X + 1) = q at *
      generalize E (X + 1) = q2 at *
      have hfd := fld_num
      go_wp2_with fail
      refine (HA1.out _ (HA.out.below hbw2) (HA'.out.below hbw2)).mono ?_; rintro e w8 ⟨rfl, hb8⟩
      have hbw3 := hbw2.trans (hb8.mono hbw2.size)
      have x0' := x0.below hb8
      have x1' := x1.below hb8
      have hb' := hb.trans (hb8.mono hb.size)
      clear c0 c1 d0 d1 xl yl x0 x1
      have c0 := x0'.cell 0
      have c1 := x0'.cell 1
      simp only [List.getElem?_toArray, List.getElem?_cons_zero, List.getElem?_cons_succ] at c0 c1
      have d0 := x1'.cell 0
      have d1 := x1'.cell 1
      simp only [List.getElem?_toArray, List.getElem?_cons_zero, List.getElem?_cons_succ] at d0 d1
      have xl := x0'.lt
      have yl := x1'.lt
      go_wp2_with fail
      refine (HA2.out _ (HA.out.below hbw3) (HA'.out.below hbw3)).mono ?_; rintro e w9 ⟨rfl, hb9⟩
      have hb'' := hb'.trans (hb9.mono hb'.size)
      clear c0 c1 d0 d1 xl yl x0' x1' hb hb8 hb9 hb' hbw2 hbw3
      go_wp2_with fail
      clear hfd
      go_loopw [17, 18, 19] (fun t a i wr2 => ∃ j : Nat, j ≤ L.length ∧ i = .int .i64 j ∧ t = .bool (tog (L.take j) X) ∧ a = .bool (aln (L.take j) X) ∧ Below V.heap.size V wr2) (fun _ _ i _ => L.length - (intOf i).toNat)
      case atStart => exact ⟨0, Nat.zero_le _, rfl, rfl, rfl, hb''⟩
      case round =>
        clear hb''
        obtain ⟨j, hj, rfl, rfl, rfl, hb⟩ := hrel
        by_cases hjl : j < L.length
        · obtain ⟨g, rfl, hF0⟩ := HAL.out (by omega)
          have hF := hF0.below hF0.lt hb
          have z0 := hF.n j hjl
          have z1 := hF.d j hjl
          have zl := hF.lt
          simp only [Nat.zero_add] at z0 z1
          have HT := Lib.hid (show tog (L.take (j + 1)) X = (tog (L.take j) X || decide ((L.getD j (0, 0)).1 ≤ X ∧ X < (L.getD j (0, 0)).2)) from any_take_succ _ L j (0, 0) hjl)
          have HU := Lib.hid (show aln (L.take (j + 1)) X = (aln (L.take j) X || decide ((L.getD j (0, 0)).1 ≤ X ∧ X ≤ (L.getD j (0, 0)).2)) from any_take_succ _ L j (0, 0) hjl)
          have HTA := Lib.hid (tog_aln (L.take j) X)
          clear hF hF0
          generalize (L.getD j (0, 0)).1 = s1 at *
          generalize (L.getD j (0, 0)).2 = s2 at *
          generalize tog (L.take j) X = t at *
          generalize aln (L.take j) X = a at *
          have hta : t = true → a = true := HTA.out
          cases t with
          | true =>
            obtain rfl := hta rfl
            go_wp2
            go_roundw
            case rel => exact ⟨j + 1, by omega, by go_num, by rw [HT.out]; rfl, by rw [HU.out]; rfl, hb⟩
            case measure => simp [intOf]; omega
          | false =>
            clear hta
            by_cases hs : s1 ≤ X
            · cases a
              all_goals
                go_wp2
                go_roundw
                case rel => exact ⟨j + 1, by omega, by go_num, by rw [HT.out]; simp [hs], by rw [HU.out]; simp [hs], hb⟩
                case measure => simp [intOf]; omega
            · cases a
              all_goals
                go_wp2
                go_roundw
                case rel => exact ⟨j + 1, by omega, by go_num, by rw [HT.out]; simp [hs], by rw [HU.out]; simp [hs], hb⟩
                case measure => simp [intOf]; omega
        · have hjj : j = L.length := by omega
          have ht : tog (L.take j) X = tog L X := by rw [hjj, List.take_length]
          have ha : aln (L.take j) X = aln L X := by rw [hjj, List.take_length]
          rw [ht, ha]
          clear ht ha hjj
          generalize tog L X = t at *
          generalize aln L X = a at *
          have k1 := F1.out
          have k2 := F2.out
          have k3 := F3.out
          clear F1 F2 F3
          cases t with
          | true =>
            have k4 := k3 rfl
            clear k2 k3
            rcases sgn3 p with ⟨g1, g2, g3, g4, g5⟩ | rfl | ⟨g1, g2, g3, g4, g5⟩
            · have h3 : 0 ≤ q := by omega
              clear k1 k4
              go_wp2
              go_roundw
              case rel => exact ⟨X + 1, by go_num, by omega, by omega, hb⟩
              case measure => simp [intOf]; omega
            · obtain rfl := k1 rfl
              clear k1 k4
              by_cases h3 : 0 ≤ q
              · go_wp2
                go_roundw
                case rel => exact ⟨X + 1, by go_num, by omega, by omega, hb⟩
                case measure => simp [intOf]; omega
              · have h4 : q ≤ 0 := by omega
                go_wp2
                go_roundw
                case rel => exact ⟨X + 1, by go_num, by omega, by omega, hb⟩
                case measure => simp [intOf]; omega
            · have h3 : q ≤ 0 := by omega
              clear k1 k4
              go_wp2
              go_roundw
              case rel => exact ⟨X + 1, by go_num, by omega, by omega, hb⟩
              case measure => simp [intOf]; omega
          | false =>
            have k4 := k2 rfl
            clear k2 k3
            rcases sgn3 p with ⟨g1, g2, g3, g4, g5⟩ | rfl | ⟨g1, g2, g3, g4, g5⟩
            · have h3 : ¬ 0 < q := fun c => k4.1 ⟨g1, c⟩
              clear k1 k4
              go_wp2
              go_roundw
              case rel => exact ⟨X + 1, by go_num, by omega, by omega, hb⟩
              case measure => simp [intOf]; omega
            · obtain rfl := k1 rfl
              clear k1 k4
              go_wp2
              go_roundw
              case rel => exact ⟨X + 1, by go_num, by omega, by omega, hb⟩
              case measure => simp [intOf]; omega
            · have h3 : ¬ q < 0 := fun c => k4.2 ⟨g2, c⟩
              clear k1 k4
              go_wp2
              go_roundw
              case rel => exact ⟨X + 1, by go_num, by omega, by omega, hb⟩
              case measure => simp [intOf]; omega
    · clear HP1
      go_wp2_with fail
      go_loopw [20] (fun i wr2 => ∃ j : Nat, j ≤ L.length ∧ i = .int .i64 j ∧ Below V.heap.size V wr2) (fun i _ => L.length - (intOf i).toNat)
      case atStart => exact ⟨0, Nat.zero_le _, rfl, hb⟩
      case round =>
        clear hb
        obtain ⟨j, hj, rfl, hb⟩ := hrel
        by_cases hjl : j < L.length
        · obtain ⟨g, rfl, hF0⟩ := HAL.out (by omega)
          have hmem : L.getD j (0, 0) ∈ L := by
            have e : L.getD j (0, 0) = L[j] := by simp [List.getD_eq_getElem?_getD, hjl]
            rw [e]; exact List.getElem_mem hjl
          obtain ⟨u1, u2, u3, u4, u5, u6⟩ := HP2.out _ hmem
          have hF := hF0.below hF0.lt hb
          have HZ0 := Lib.hid (hF.n j hjl)
          have HZ1 := Lib.hid (hF.d j hjl)
          have HZl := Lib.hid hF.lt
          have hbw2 := HBV.out.trans (hb.mono HBV.out.size)
          have HA1 := Lib.hid (fun W (hW : CAt W A n ks) (hW' : CAt W A' n' ks') => HAp.out W hW hW' _ u1 u2)
          have HA2 := Lib.hid (fun W (hW : CAt W A n ks) (hW' : CAt W A' n' ks') => HAp.out W hW hW' _ u3 u4)
          have K5 := Lib.hid u5
          have K6 := Lib.hid u6
          have HR := Lib.hid (HA.out.below hbw2)
          have HR' := Lib.hid (HA'.out.below hbw2)
          have x0 := HX0.out.below hb
          have x1 := HX1.out.below hb
          have hF1 := hF
          have hll1 : L.length ≤ 4000 := hll
          clear hF hF0 u5 u6 hmem hx1 hx2 hx HAL
          generalize D (L.getD j (0, 0)).1 = p at *
          generalize E (L.getD j (0, 0)).1 = p2 at *
          generalize D (L.getD j (0, 0)).2 = q at *
          generalize E (L.getD j (0, 0)).2 = q2 at *
          generalize hs1 : (L.getD j (0, 0)).1 = s1 at *
          generalize hs2 : (L.getD j (0, 0)).2 = s2 at *
          have HS1 := Lib.hid hs1
          have HS2 := Lib.hid hs2
          clear hs1 hs2
          have c0 := x0.cell 0
          have c1 := x0.cell 1
          simp only [List.getElem?_toArray, List.getElem?_cons_zero, List.getElem?_cons_succ] at c0 c1
          have d0 := x1.cell 0
          have d1 := x1.cell 1
          simp only [List.getElem?_toArray, List.getElem?_cons_zero, List.getElem?_cons_succ] at d0 d1
          have xl := x0.lt
          have yl := x1.lt
          have z0 := HZ0.out
          have z1 := HZ1.out
          have zl := HZl.out
          simp only [Nat.zero_add] at z0 z1
          have hfd := fld_num
          obtain ⟨xc, xf⟩ := xcell (W := wr)
          go_wp2_with fail
          refine wp_region_quiet_tail 9 (by kernel_rfl) (by kernel_rfl) ?_
          simp only [List.take_succ_cons, List.take_zero, List.drop_succ_cons, List.drop_zero]
          repeat (first | go_big_quiet_step (first | (go_at_call 45; with_reducible refine calls_ext (HA1.out _ ?_ ?_); exact HR.out.below (Ext.below _); exact HR'.out.below (Ext.below _))) | quiet_step (first | (go_at_call 45; with_reducible refine calls_ext (HA1.out _ ?_ ?_); exact HR.out.below (Ext.below _); exact HR'.out.below (Ext.below _))))
          refine wpQuiet_nil ?_
          intro w8 hb8
          clear c0 c1 d0 d1 xl yl z0 z1 zl xc xf
          have hb' := hb.trans (hb8.mono hb.size)
          have hb8' := hb8
          have x0' := x0.below hb8
          have x1' := x1.below hb8
          have hG := hF1.below hF1.lt hb8
          have z0 := hG.n j hjl
          have z1 := hG.d j hjl
          have zl := hG.lt
          rw [HS1.out] at z0
          rw [HS2.out] at z1
          have HR8 := Lib.hid (HR.out.below hb8)
          have HR8' := Lib.hid (HR'.out.below hb8)
          simp only [Nat.zero_add] at z0 z1
          clear hG x0 x1 hb8 hb
          have c0 := x0'.cell 0
          have c1 := x0'.cell 1
          simp only [List.getElem?_toArray, List.getElem?_cons_zero, List.getElem?_cons_succ] at c0 c1
          have d0 := x1'.cell 0
          have d1 := x1'.cell 1
          simp only [List.getElem?_toArray, List.getElem?_cons_zero, List.getElem?_cons_succ] at d0 d1
          have xl := x0'.lt
          have yl := x1'.lt
          obtain ⟨xc, xf⟩ := xcell (W := w8)
          go_wp2_with fail
          refine wp_region_quiet_tail 9 (by kernel_rfl) (by kernel_rfl) ?_
          simp only [List.take_succ_cons, List.take_zero, List.drop_succ_cons, List.drop_zero]
          repeat (first | go_big_quiet_step (first | (go_at_call 45; with_reducible refine calls_ext (HA2.out _ ?_ ?_); exact HR8.out.below (Ext.below _); exact HR8'.out.below (Ext.below _))) | quiet_step (first | (go_at_call 45; with_reducible refine calls_ext (HA2.out _ ?_ ?_); exact HR8.out.below (Ext.below _); exact HR8'.out.below (Ext.below _))))
          refine wpQuiet_nil ?_
          intro w9 hb9
          clear c0 c1 d0 d1 xl yl z0 z1 zl xc xf hfd
          have hb'' := hb'.trans (hb9.mono hb'.size)
          have hG := (hF1.below hF1.lt (hb8'.trans (hb9.mono hb8'.size)))
          have z0 := hG.n j hjl
          have z1 := hG.d j hjl
          have zl := hG.lt
          rw [HS1.out] at z0
          rw [HS2.out] at z1
          simp only [Nat.zero_add] at z0 z1
          clear hG x0' x1' hb9 hb' hF1 hb8'
          have k5 := K5.out
          have k6 := K6.out
          have n1 : ¬ s1 < lo := by omega
          have n2 : ¬ hi < s2 := by omega
          clear K5 K6
          rcases sgn3 p with ⟨g1, g2, g3, g4, g5⟩ | rfl | ⟨g1, g2, g3, g4, g5⟩
          · have h3 : ¬ q < 0 := fun c => k5 ⟨g1, c⟩
            clear k5 k6
            by_cases h1 : q = 0
            · subst h1
              go_wp2
              go_roundw
              case rel => exact ⟨j + 1, by omega, by go_num, hb''⟩
              case measure => simp [intOf]; omega
            · have h4 : ¬ q ≤ 0 := by omega
              go_wp2
              go_roundw
              case rel => exact ⟨j + 1, by omega, by go_num, hb''⟩
              case measure => simp [intOf]; omega
          · clear k5 k6
            go_wp2
            go_roundw
            case rel => exact ⟨j + 1, by omega, by go_num, hb''⟩
            case measure => simp [intOf]; omega
          · have h3 : ¬ 0 < q := fun c => k6 ⟨g2, c⟩
            clear k5 k6
            by_cases h1 : q = 0
            · subst h1
              go_wp2
              go_roundw
              case rel => exact ⟨j + 1, by omega, by go_num, hb''⟩
              case measure => simp [intOf]; omega
            · have h4 : ¬ 0 ≤ q := by omega
              go_wp2
              go_roundw
              case rel => exact ⟨j + 1, by omega, by go_num, hb''⟩
              case measure => simp [intOf]; omega
        · have hbw2 := HBV.out.trans (hb.mono HBV.out.size)
          go_wp2
          go_ret
          exact ⟨rfl, hbw2⟩

set_option maxRecDepth 100000 in
theorem curveCrossings_lifted (os : Os) (started : os.Started) (H : Type) (enc : TypeId × Value → H) :
    ReturnsInHanded Rows.curveCrossingsRow.assume Try.checked os 8 .any (Rows.curveCrossingsSpec.pre6 enc Try.prog Try.f8 Rows.curveCrossingsRow.domain false) (Rows.curveCrossingsSpec.post enc Try.prog Try.f8 false Rows.curveCrossingsRow.fresh Rows.curveCrossingsRow.handsOn Rows.curveCrossingsRow.again) := by
  refine returnsInHanded_of_change (C := Try.checked) (by kernel_rfl) started (by kernel_rfl) Try.func8
    (ChangeSpec.witness6 (enc := enc) (C := Try.checked) false ⟨#[], #[vCv none 0 0 0, vCv none 0 0 0], []⟩ 8 (by kernel_rfl) (by kernel_rfl) (by kernel_rfl) (by kernel_rfl)) ?_
  intro W base args ds gs before hval0 hW hcnd _
  have hval : ∀ (j : Nat) t v, Try.f8.params[j]? = some t → args[j]? = some v → Value.okWide Try.prog W .any base t v := hval0
  have hW' := hW
  obtain ⟨p, q, hA0, hV, rfl, hfz, hnd⟩ := hW
  obtain ⟨rfl, rfl⟩ := trodVars_none hV
  have hA : DataW.TrodAll enc Try.prog W 0 (fun _ => true) true [24, 24] args.toList ds p := hA0
  obtain ⟨v0, v1, d0, d1, p0, p1, rfl, rfl, rfl, h0, h1⟩ := trodAll_two hA
  obtain ⟨A, n, cap, err, ks, rfl, hC, hm, _, _, rfl⟩ := open_cv (hval 0 24 v0 rfl rfl) h0
  obtain ⟨A', n', cap', err', ks', rfl, hC', hm', _, _, rfl⟩ := open_cv (hval 1 24 v1 rfl rfl) h1
  refine (curveCrossings_walk A A' n cap n' cap' err err' ks ks' W hC hm hC' hm').mono fun e W' ⟨he, hb⟩ => ⟨_, he, law_post laid_out (by kernel_rfl) rfl Try.underlying4 rfl hW' rfl rfl rfl hb⟩

theorem curveCrossings : Rows.CurveCrossingsSaid :=
  OpenClaim.holds_of_wide 8 Try.f8 rfl rfl rfl rfl rfl rfl rfl ⟨rfl, rfl, rfl, rfl, rfl⟩ rfl rfl rfl rfl rfl (by kernel_rfl) Try.func8 (by kernel_rfl)
    (of_decide_eq_true (by kernel_rfl)) (by unfold Func.isWrapper; first | (rw [if_pos (by decide +kernel)]; kernel_rfl) | (rw [if_neg (by decide +kernel)]; exact ⟨rfl, rfl⟩))
    (fun os started H enc _ => curveCrossings_lifted os started H enc)
#print axioms curveCrossings

end Go.Proofs.Ytipablcbkoedbaa
