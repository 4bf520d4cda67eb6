/- one, other, few, head: the examples that every statement plays first. -/
import Derived.RangeFuncNested
import Derived.Shelf.Abstract
import Derived.RangeFuncBound
import Derived.RangeFuncCalls
import Derived.RangeFuncLeaves
import Derived.WalkKit
import Derived.OwnWalkIn
import Derived.OwnWalk
import Derived.TacticsInMore
import Derived.LoopNIn
import Derived.LoopIn
import Derived.WalkLawsBesides
import Derived.Deep.QuietTactic
import Derived.BigQuiet
import Derived.RegionTactic
import Derived.Lib.Hide
import Derived.Outline
import Derived.WalkSmall
import Derived.Test.YtipablcbkoedbaaProg
import Derived.KernelRfl
import Derived.Lib.SmallJoins
import Derived.Test.YtipablcbkoedbaaF2
import Derived.Test.YtipablcbkoedbaaD4
import Derived.Test.YtipablcbkoedbaaC9
import Derived.Test.YtipablcbkoedbaaC7
import Derived.Test.YtipablcbkoedbaaB5
import Derived.Test.YtipablcbkoedbaaD3
namespace Go.Proofs.Ytipablcbkoedbaa
open Go.RowKit

def k1 : List (Int × Int) := [(0, 0), (10, 5), (20, 25)]
def k2 : List (Int × Int) := [(0, 10), (20, 10)]
theorem hd_value : valErr k1 2 5 = 0 ∧ vN k1 2 5 = 5 ∧ vD k1 2 5 = 2 := ⟨by kernel_rfl, by kernel_rfl, by kernel_rfl⟩
theorem hd_inv : ivErr k1 2 11 = 0 ∧ ivN k1 2 11 = 13 ∧ ivD k1 2 11 = 1 := ⟨by kernel_rfl, by kernel_rfl, by kernel_rfl⟩
theorem hd_reach : rcErr k1 2 4 6 = 0 ∧ rcV k1 2 4 6 = ((4, 1), (23, 2)) := ⟨by kernel_rfl, by kernel_rfl⟩
theorem hd_cross : twErr k1 k2 2 1 = 0 ∧ crV k1 k2 2 1 = [(12, 13)] := ⟨by kernel_rfl, by kernel_rfl⟩
theorem hd_xs : ovXs k1 5 15 = [5, 10, 15] := by
  have : ([5, 15, 10] : List Int).mergeSort (fun x y => decide (x ≤ y)) = [5, 10, 15] := by
    simp [List.mergeSort, List.MergeSort.Internal.splitInTwo]
  show Lib.compact (List.mergeSort [5, 15, 10] _) = _
  rw [this]
  kernel_rfl
theorem hd_ys : apXs k1 k2 0 20 = [0, 10, 20] := by
  have : ([0, 20, 0, 10, 20, 0, 20] : List Int).mergeSort (fun x y => decide (x ≤ y)) = [0, 0, 0, 10, 20, 20, 20] := by
    simp [List.mergeSort, List.MergeSort.Internal.splitInTwo]
  show Lib.compact (List.mergeSort [0, 20, 0, 10, 20, 0, 20] _) = _
  rw [this]
  kernel_rfl
theorem hd_over : ovErr k1 2 5 15 = 0 ∧ ovPk k1 2 5 15 = ⟨5, 2, 15, 1, 5, 15⟩ := ⟨by kernel_rfl, by unfold ovPk; rw [hd_xs]; kernel_rfl⟩
theorem hd_apart : apErr k1 k2 2 1 0 20 = 0 ∧ apPk k1 k2 2 1 0 20 = ⟨-10, 1, 15, 1, 0, 20⟩ := ⟨by kernel_rfl, by unfold apPk; rw [hd_ys]; kernel_rfl⟩
theorem hd_both (A A' : Option Addr) : boErr [⟨A, 3, 3, 2, k1⟩, ⟨A', 2, 2, 1, k2⟩] 13 = 0 ∧ boV [⟨A, 3, 3, 2, k1⟩, ⟨A', 2, 2, 1, k2⟩] 13 = ((9, 1), (11, 1)) := ⟨by kernel_rfl, by kernel_rfl⟩

theorem kn_of_blk {W : World} {g : Nat} {t : TypeId} {ks : List (Int × Int)} (h : Blk W g t (ks.flatMap encF).toArray) : Kn W g 0 ks := by
  have hf := flat_at 2 encF (fun _ => rfl) ks
  refine ⟨h.lt, fun i hi => ?_, fun i hi => ?_⟩
  · rw [h.cell, List.getElem?_toArray, Nat.zero_add]
    have := hf i 0 (0, 0) hi (by omega)
    simpa [encF, kx] using this
  · rw [h.cell, List.getElem?_toArray, Nat.zero_add]
    have := hf i 1 (0, 0) hi (by omega)
    simpa [encF, ky] using this
theorem one_any (w : World) : Calls Try.prog 72 #[] w fun e w' => ∃ g, e = .returned (vCv (some ⟨g, 0, none⟩) 3 3 2) ∧ CAt w' (some ⟨g, 0, none⟩) 3 k1 ∧ Below w.heap.size w w' := by
  go_enter Try.func72, Try.ntmps72
  go_wp2
  refine bodyPost_ret (v := vCv (some ⟨w.heap.size + 1, 0, none⟩) 3 3 2) (by simp [results, Try.results72, go_sem]) rfl ⟨w.heap.size + 1, rfl, ⟨rfl, fun _ => ⟨_, _, rfl, kn_of_blk (Blk.at_new _ _ (by simp))⟩⟩, ((Below.refl _ _).alloc (Nat.le_refl _) _).alloc (by simp) _⟩
theorem other_any (w : World) : Calls Try.prog 73 #[] w fun e w' => ∃ g, e = .returned (vCv (some ⟨g, 0, none⟩) 2 2 1) ∧ CAt w' (some ⟨g, 0, none⟩) 2 k2 ∧ Below w.heap.size w w' := by
  go_enter Try.func73, Try.ntmps73
  go_wp2
  refine bodyPost_ret (v := vCv (some ⟨w.heap.size + 1, 0, none⟩) 2 2 1) (by simp [results, Try.results73, go_sem]) rfl ⟨w.heap.size + 1, rfl, ⟨rfl, fun _ => ⟨_, _, rfl, kn_of_blk (Blk.at_new _ _ (by simp))⟩⟩, ((Below.refl _ _).alloc (Nat.le_refl _) _).alloc (by simp) _⟩
theorem few_any (A : Option Addr) (n cap : Nat) (err : Int) (w : World) (hm : n ≤ 9223372036854775807) : Calls Try.prog 18 #[vCv A n cap err] w fun e w' => e = .returned (.bool (decide (n ≤ 60))) ∧ Below w.heap.size w w' := by
  go_enter Try.func18, Try.ntmps18
  go_wp2
  go_ret
  exact ⟨ret_bool (by simp; omega), (Below.refl _ _).alloc (Nat.le_refl _) _⟩

/-- The value of a contract, when what it computes is known. -/
theorem calls_val {f : Nat} {args : Array Value} {w : World} {v v' : Value} (h : Calls Try.prog f args w fun e w' => e = .returned v ∧ Below w.heap.size w w') (hv : v = v') : Calls Try.prog f args w fun e w' => e = .returned v' ∧ Below w.heap.size w w' := hv ▸ h

set_option maxRecDepth 100000 in
set_option maxHeartbeats 3200000 in
theorem head_any (w : World) : Calls Try.prog 17 #[] w fun e w' => e = .returned (.bool true) ∧ Below w.heap.size w w' := by
  have H0 := Lib.hid one_any
  have H1 := Lib.hid other_any
  have H2 := Lib.hid (fun A W (h : CAt W A 3 k1) => calls_val (Value_any A 3 3 2 k1 5 W h (by omega)) (v' := .tuple #[vFrac 5 2, .int .i64 0]) (by rw [hd_value.1, hd_value.2.1, hd_value.2.2]))
  have H3 := Lib.hid (fun A W (h : CAt W A 3 k1) => calls_val (Over_any A 3 3 2 k1 5 15 W h (by omega)) (v' := .tuple #[vPeak 5 2 15 1 5 15, .int .i64 0]) (by rw [hd_over.1, hd_over.2]; rfl))
  have H4 := Lib.hid (fun A W (h : CAt W A 3 k1) => calls_val (Inverse_any A 3 3 2 k1 11 W h (by omega)) (v' := .tuple #[vFrac 13 1, .int .i64 0]) (by rw [hd_inv.1, hd_inv.2.1, hd_inv.2.2]))
  have H5 := Lib.hid (fun A W (h : CAt W A 3 k1) => calls_val (Reach_any A 3 3 2 k1 4 6 W h (by omega) (by omega) (by omega)) (v' := .tuple #[vRange 4 1 23 2, .int .i64 0]) (by rw [hd_reach.1, hd_reach.2]))
  have H6 := Lib.hid (fun A A' W (h : CAt W A 3 k1) (h' : CAt W A' 2 k2) => (hd_cross.1 ▸ hd_cross.2 ▸ Cross_any A A' 3 3 2 2 2 1 k1 k2 W h (by omega) h' (by omega) : Calls Try.prog 44 #[vCv A 3 3 2, vCv A' 2 2 1] W (CrOut W [(12, 13)] 0)))
  have H7 := Lib.hid (fun A A' W (h : CAt W A 3 k1) (h' : CAt W A' 2 k2) => calls_val (Apart_any A A' 3 3 2 2 2 1 k1 k2 0 20 W h (by omega) h' (by omega)) (v' := .tuple #[vPeak (-10) 1 15 1 0 20, .int .i64 0]) (by rw [hd_apart.1, hd_apart.2]; rfl))
  have H8 := Lib.hid (fun A A' B W (h : LAt W B 2 [⟨A, 3, 3, 2, k1⟩, ⟨A', 2, 2, 1, k2⟩]) => calls_val (Both_any B 2 2 [⟨A, 3, 3, 2, k1⟩, ⟨A', 2, 2, 1, k2⟩] 13 W h (by omega)) (v' := .tuple #[vRange' 9 1 11 1, .int .i64 0]) (by rw [(hd_both A A').1, (hd_both A A').2]))
  go_enter Try.func17, Try.ntmps17
  go_wp2_with fail
  refine (H0.out w).mono ?_; rintro e w1 ⟨g1, rfl, hk1, hb1⟩
  have B1 : Below w.heap.size w w1 := hb1
  have P1 : Below w1.heap.size w1 w1 := (Below.refl _ _)
  have B1a := B1.alloc B1.size (.cells #[.slice (some ⟨g1, 0, none⟩) 3 3, .int .i64 2] 24)
  have P1a := P1.alloc P1.size (.cells #[.slice (some ⟨g1, 0, none⟩) 3 3, .int .i64 2] 24)
  go_wp2_with fail
  refine (H1.out _).mono ?_; rintro e w2 ⟨g2, rfl, hk2, hb2⟩
  have a1_2 := (Blk.new w1 24 #[.slice (some ⟨g1, 0, none⟩) 3 3, .int .i64 2]).below hb2
  have a1_2c0 := a1_2.cell 0
  have a1_2c1 := a1_2.cell 1
  simp only [List.getElem?_toArray, List.getElem?_cons_zero, List.getElem?_cons_succ] at a1_2c0 a1_2c1
  have a1_2l := a1_2.lt
  have B2 : Below w.heap.size w w2 := B1a.trans (hb2.mono B1a.size)
  have P2 : Below w1.heap.size w1 w2 := P1a.trans (hb2.mono P1a.size)
  have Q2 : Below w2.heap.size w2 w2 := (Below.refl _ _)
  have B2a := B2.alloc B2.size (.cells #[.slice (some ⟨g2, 0, none⟩) 2 2, .int .i64 1] 24)
  have P2a := P2.alloc P2.size (.cells #[.slice (some ⟨g2, 0, none⟩) 2 2, .int .i64 1] 24)
  have Q2a := Q2.alloc Q2.size (.cells #[.slice (some ⟨g2, 0, none⟩) 2 2, .int .i64 1] 24)
  go_wp2_with fail
  refine (H2.out _ _ (hk1.below P2a)).mono ?_; rintro e w3 ⟨rfl, hb3⟩
  have a1_3 := (a1_2.alloc (.cells #[.slice (some ⟨g2, 0, none⟩) 2 2, .int .i64 1] 24)).below hb3
  have a2_3 := (Blk.new w2 24 #[.slice (some ⟨g2, 0, none⟩) 2 2, .int .i64 1]).below hb3
  clear a1_2 a1_2c0 a1_2c1 a1_2l
  have a1_3c0 := a1_3.cell 0
  have a1_3c1 := a1_3.cell 1
  simp only [List.getElem?_toArray, List.getElem?_cons_zero, List.getElem?_cons_succ] at a1_3c0 a1_3c1
  have a1_3l := a1_3.lt
  have a2_3c0 := a2_3.cell 0
  have a2_3c1 := a2_3.cell 1
  simp only [List.getElem?_toArray, List.getElem?_cons_zero, List.getElem?_cons_succ] at a2_3c0 a2_3c1
  have a2_3l := a2_3.lt
  have B3 : Below w.heap.size w w3 := B2a.trans (hb3.mono B2a.size)
  have P3 : Below w1.heap.size w1 w3 := P2a.trans (hb3.mono P2a.size)
  have Q3 : Below w2.heap.size w2 w3 := Q2a.trans (hb3.mono Q2a.size)
  have B3a := B3.alloc B3.size (.cells #[.int .i64 5, .int .i64 2] 30)
  have P3a := P3.alloc P3.size (.cells #[.int .i64 5, .int .i64 2] 30)
  have Q3a := Q3.alloc Q3.size (.cells #[.int .i64 5, .int .i64 2] 30)
  go_wp2_with fail
  refine (H3.out _ _ (hk1.below P3a)).mono ?_; rintro e w4 ⟨rfl, hb4⟩
  have a1_4 := (a1_3.alloc (.cells #[.int .i64 5, .int .i64 2] 30)).below hb4
  have a2_4 := (a2_3.alloc (.cells #[.int .i64 5, .int .i64 2] 30)).below hb4
  have a3_4 := (Blk.new w3 30 #[.int .i64 5, .int .i64 2]).below hb4
  clear a1_3 a1_3c0 a1_3c1 a1_3l a2_3 a2_3c0 a2_3c1 a2_3l
  have a1_4c0 := a1_4.cell 0
  have a1_4c1 := a1_4.cell 1
  simp only [List.getElem?_toArray, List.getElem?_cons_zero, List.getElem?_cons_succ] at a1_4c0 a1_4c1
  have a1_4l := a1_4.lt
  have a2_4c0 := a2_4.cell 0
  have a2_4c1 := a2_4.cell 1
  simp only [List.getElem?_toArray, List.getElem?_cons_zero, List.getElem?_cons_succ] at a2_4c0 a2_4c1
  have a2_4l := a2_4.lt
  have a3_4c0 := a3_4.cell 0
  have a3_4c1 := a3_4.cell 1
  simp only [List.getElem?_toArray, List.getElem?_cons_zero, List.getElem?_cons_succ] at a3_4c0 a3_4c1
  have a3_4l := a3_4.lt
  have B4 : Below w.heap.size w w4 := B3a.trans (hb4.mono B3a.size)
  have P4 : Below w1.heap.size w1 w4 := P3a.trans (hb4.mono P3a.size)
  have Q4 : Below w2.heap.size w2 w4 := Q3a.trans (hb4.mono Q3a.size)
  have B4a := B4.alloc B4.size (.cells #[.int .i64 5, .int .i64 2, .int .i64 15, .int .i64 1, .int .i64 5, .int .i64 15] 40)
  have P4a := P4.alloc P4.size (.cells #[.int .i64 5, .int .i64 2, .int .i64 15, .int .i64 1, .int .i64 5, .int .i64 15] 40)
  have Q4a := Q4.alloc Q4.size (.cells #[.int .i64 5, .int .i64 2, .int .i64 15, .int .i64 1, .int .i64 5, .int .i64 15] 40)
  go_wp2_with fail
  refine (H4.out _ _ (hk1.below P4a)).mono ?_; rintro e w5 ⟨rfl, hb5⟩
  have a1_5 := (a1_4.alloc (.cells #[.int .i64 5, .int .i64 2, .int .i64 15, .int .i64 1, .int .i64 5, .int .i64 15] 40)).below hb5
  have a2_5 := (a2_4.alloc (.cells #[.int .i64 5, .int .i64 2, .int .i64 15, .int .i64 1, .int .i64 5, .int .i64 15] 40)).below hb5
  have a3_5 := (a3_4.alloc (.cells #[.int .i64 5, .int .i64 2, .int .i64 15, .int .i64 1, .int .i64 5, .int .i64 15] 40)).below hb5
  have a5_5 := (Blk.new w4 40 #[.int .i64 5, .int .i64 2, .int .i64 15, .int .i64 1, .int .i64 5, .int .i64 15]).below hb5
  clear a1_4 a1_4c0 a1_4c1 a1_4l a2_4 a2_4c0 a2_4c1 a2_4l a3_4 a3_4c0 a3_4c1 a3_4l
  have a1_5c0 := a1_5.cell 0
  have a1_5c1 := a1_5.cell 1
  simp only [List.getElem?_toArray, List.getElem?_cons_zero, List.getElem?_cons_succ] at a1_5c0 a1_5c1
  have a1_5l := a1_5.lt
  have a2_5c0 := a2_5.cell 0
  have a2_5c1 := a2_5.cell 1
  simp only [List.getElem?_toArray, List.getElem?_cons_zero, List.getElem?_cons_succ] at a2_5c0 a2_5c1
  have a2_5l := a2_5.lt
  have a3_5c0 := a3_5.cell 0
  have a3_5c1 := a3_5.cell 1
  simp only [List.getElem?_toArray, List.getElem?_cons_zero, List.getElem?_cons_succ] at a3_5c0 a3_5c1
  have a3_5l := a3_5.lt
  have a5_5c0 := a5_5.cell 0
  have a5_5c1 := a5_5.cell 1
  have a5_5c2 := a5_5.cell 2
  have a5_5c3 := a5_5.cell 3
  have a5_5c4 := a5_5.cell 4
  have a5_5c5 := a5_5.cell 5
  simp only [List.getElem?_toArray, List.getElem?_cons_zero, List.getElem?_cons_succ] at a5_5c0 a5_5c1 a5_5c2 a5_5c3 a5_5c4 a5_5c5
  have a5_5l := a5_5.lt
  have B5 : Below w.heap.size w w5 := B4a.trans (hb5.mono B4a.size)
  have P5 : Below w1.heap.size w1 w5 := P4a.trans (hb5.mono P4a.size)
  have Q5 : Below w2.heap.size w2 w5 := Q4a.trans (hb5.mono Q4a.size)
  have B5a := B5.alloc B5.size (.cells #[.int .i64 13, .int .i64 1] 30)
  have P5a := P5.alloc P5.size (.cells #[.int .i64 13, .int .i64 1] 30)
  have Q5a := Q5.alloc Q5.size (.cells #[.int .i64 13, .int .i64 1] 30)
  go_wp2_with fail
  refine (H5.out _ _ (hk1.below P5a)).mono ?_; rintro e w6 ⟨rfl, hb6⟩
  have a1_6 := (a1_5.alloc (.cells #[.int .i64 13, .int .i64 1] 30)).below hb6
  have a2_6 := (a2_5.alloc (.cells #[.int .i64 13, .int .i64 1] 30)).below hb6
  have a3_6 := (a3_5.alloc (.cells #[.int .i64 13, .int .i64 1] 30)).below hb6
  have a5_6 := (a5_5.alloc (.cells #[.int .i64 13, .int .i64 1] 30)).below hb6
  have a7_6 := (Blk.new w5 30 #[.int .i64 13, .int .i64 1]).below hb6
  clear a1_5 a1_5c0 a1_5c1 a1_5l a2_5 a2_5c0 a2_5c1 a2_5l a3_5 a3_5c0 a3_5c1 a3_5l a5_5 a5_5c0 a5_5c1 a5_5c2 a5_5c3 a5_5c4 a5_5c5 a5_5l
  have a1_6c0 := a1_6.cell 0
  have a1_6c1 := a1_6.cell 1
  simp only [List.getElem?_toArray, List.getElem?_cons_zero, List.getElem?_cons_succ] at a1_6c0 a1_6c1
  have a1_6l := a1_6.lt
  have a2_6c0 := a2_6.cell 0
  have a2_6c1 := a2_6.cell 1
  simp only [List.getElem?_toArray, List.getElem?_cons_zero, List.getElem?_cons_succ] at a2_6c0 a2_6c1
  have a2_6l := a2_6.lt
  have a3_6c0 := a3_6.cell 0
  have a3_6c1 := a3_6.cell 1
  simp only [List.getElem?_toArray, List.getElem?_cons_zero, List.getElem?_cons_succ] at a3_6c0 a3_6c1
  have a3_6l := a3_6.lt
  have a5_6c0 := a5_6.cell 0
  have a5_6c1 := a5_6.cell 1
  have a5_6c2 := a5_6.cell 2
  have a5_6c3 := a5_6.cell 3
  have a5_6c4 := a5_6.cell 4
  have a5_6c5 := a5_6.cell 5
  simp only [List.getElem?_toArray, List.getElem?_cons_zero, List.getElem?_cons_succ] at a5_6c0 a5_6c1 a5_6c2 a5_6c3 a5_6c4 a5_6c5
  have a5_6l := a5_6.lt
  have a7_6c0 := a7_6.cell 0
  have a7_6c1 := a7_6.cell 1
  simp only [List.getElem?_toArray, List.getElem?_cons_zero, List.getElem?_cons_succ] at a7_6c0 a7_6c1
  have a7_6l := a7_6.lt
  have B6 : Below w.heap.size w w6 := B5a.trans (hb6.mono B5a.size)
  have P6 : Below w1.heap.size w1 w6 := P5a.trans (hb6.mono P5a.size)
  have Q6 : Below w2.heap.size w2 w6 := Q5a.trans (hb6.mono Q5a.size)
  have B6a := B6.alloc B6.size (.cells #[.int .i64 4, .int .i64 1, .int .i64 23, .int .i64 2] 35)
  have P6a := P6.alloc P6.size (.cells #[.int .i64 4, .int .i64 1, .int .i64 23, .int .i64 2] 35)
  have Q6a := Q6.alloc Q6.size (.cells #[.int .i64 4, .int .i64 1, .int .i64 23, .int .i64 2] 35)
  go_wp2_with fail
  refine (H6.out _ _ _ (hk1.below P6a) (hk2.below Q6a)).mono ?_; rintro e w7 ⟨v, rfl, hown, hb7⟩
  have a1_7 := (a1_6.alloc (.cells #[.int .i64 4, .int .i64 1, .int .i64 23, .int .i64 2] 35)).below hb7
  have a2_7 := (a2_6.alloc (.cells #[.int .i64 4, .int .i64 1, .int .i64 23, .int .i64 2] 35)).below hb7
  have a3_7 := (a3_6.alloc (.cells #[.int .i64 4, .int .i64 1, .int .i64 23, .int .i64 2] 35)).below hb7
  have a5_7 := (a5_6.alloc (.cells #[.int .i64 4, .int .i64 1, .int .i64 23, .int .i64 2] 35)).below hb7
  have a7_7 := (a7_6.alloc (.cells #[.int .i64 4, .int .i64 1, .int .i64 23, .int .i64 2] 35)).below hb7
  have a9_7 := (Blk.new w6 35 #[.int .i64 4, .int .i64 1, .int .i64 23, .int .i64 2]).below hb7
  obtain ⟨g3, c3, rfl⟩ := Joins.ownsRow_form hown (by decide)
  have hown7 := hown
  clear hown
  clear a1_6 a1_6c0 a1_6c1 a1_6l a2_6 a2_6c0 a2_6c1 a2_6l a3_6 a3_6c0 a3_6c1 a3_6l a5_6 a5_6c0 a5_6c1 a5_6c2 a5_6c3 a5_6c4 a5_6c5 a5_6l a7_6 a7_6c0 a7_6c1 a7_6l
  have a1_7c0 := a1_7.cell 0
  have a1_7c1 := a1_7.cell 1
  simp only [List.getElem?_toArray, List.getElem?_cons_zero, List.getElem?_cons_succ] at a1_7c0 a1_7c1
  have a1_7l := a1_7.lt
  have a2_7c0 := a2_7.cell 0
  have a2_7c1 := a2_7.cell 1
  simp only [List.getElem?_toArray, List.getElem?_cons_zero, List.getElem?_cons_succ] at a2_7c0 a2_7c1
  have a2_7l := a2_7.lt
  have a3_7c0 := a3_7.cell 0
  have a3_7c1 := a3_7.cell 1
  simp only [List.getElem?_toArray, List.getElem?_cons_zero, List.getElem?_cons_succ] at a3_7c0 a3_7c1
  have a3_7l := a3_7.lt
  have a5_7c0 := a5_7.cell 0
  have a5_7c1 := a5_7.cell 1
  have a5_7c2 := a5_7.cell 2
  have a5_7c3 := a5_7.cell 3
  have a5_7c4 := a5_7.cell 4
  have a5_7c5 := a5_7.cell 5
  simp only [List.getElem?_toArray, List.getElem?_cons_zero, List.getElem?_cons_succ] at a5_7c0 a5_7c1 a5_7c2 a5_7c3 a5_7c4 a5_7c5
  have a5_7l := a5_7.lt
  have a7_7c0 := a7_7.cell 0
  have a7_7c1 := a7_7.cell 1
  simp only [List.getElem?_toArray, List.getElem?_cons_zero, List.getElem?_cons_succ] at a7_7c0 a7_7c1
  have a7_7l := a7_7.lt
  have a9_7c0 := a9_7.cell 0
  have a9_7c1 := a9_7.cell 1
  have a9_7c2 := a9_7.cell 2
  have a9_7c3 := a9_7.cell 3
  simp only [List.getElem?_toArray, List.getElem?_cons_zero, List.getElem?_cons_succ] at a9_7c0 a9_7c1 a9_7c2 a9_7c3
  have a9_7l := a9_7.lt
  have r7c0 := hown7.cellAt 0 (by decide)
  have r7c1 := hown7.cellAt 1 (by decide)
  rw [show ([(12, 13)] : List (Int × Int)).flatMap encF = [.int .i64 12, .int .i64 13] from rfl] at r7c0 r7c1
  simp only [List.getElem?_cons_zero, List.getElem?_cons_succ] at r7c0 r7c1
  have r7l := (own_lt (g := g3) hown7 rfl).2
  have B7 : Below w.heap.size w w7 := B6a.trans (hb7.mono B6a.size)
  have P7 : Below w1.heap.size w1 w7 := P6a.trans (hb7.mono P6a.size)
  have Q7 : Below w2.heap.size w2 w7 := Q6a.trans (hb7.mono Q6a.size)
  go_wp2_with fail
  refine (H7.out _ _ _ (hk1.below P7) (hk2.below Q7)).mono ?_; rintro e w8 ⟨rfl, hb8⟩
  have a1_8 := a1_7.below hb8
  have a2_8 := a2_7.below hb8
  have a3_8 := a3_7.below hb8
  have a5_8 := a5_7.below hb8
  have a7_8 := a7_7.below hb8
  have a9_8 := a9_7.below hb8
  have hown8 := owns_below hown7 hb8
  clear a1_7 a1_7c0 a1_7c1 a1_7l a2_7 a2_7c0 a2_7c1 a2_7l a3_7 a3_7c0 a3_7c1 a3_7l a5_7 a5_7c0 a5_7c1 a5_7c2 a5_7c3 a5_7c4 a5_7c5 a5_7l a7_7 a7_7c0 a7_7c1 a7_7l a9_7 a9_7c0 a9_7c1 a9_7c2 a9_7c3 a9_7l
  clear hown7 r7c0 r7c1 r7l
  have a1_8c0 := a1_8.cell 0
  have a1_8c1 := a1_8.cell 1
  simp only [List.getElem?_toArray, List.getElem?_cons_zero, List.getElem?_cons_succ] at a1_8c0 a1_8c1
  have a1_8l := a1_8.lt
  have a2_8c0 := a2_8.cell 0
  have a2_8c1 := a2_8.cell 1
  simp only [List.getElem?_toArray, List.getElem?_cons_zero, List.getElem?_cons_succ] at a2_8c0 a2_8c1
  have a2_8l := a2_8.lt
  have a3_8c0 := a3_8.cell 0
  have a3_8c1 := a3_8.cell 1
  simp only [List.getElem?_toArray, List.getElem?_cons_zero, List.getElem?_cons_succ] at a3_8c0 a3_8c1
  have a3_8l := a3_8.lt
  have a5_8c0 := a5_8.cell 0
  have a5_8c1 := a5_8.cell 1
  have a5_8c2 := a5_8.cell 2
  have a5_8c3 := a5_8.cell 3
  have a5_8c4 := a5_8.cell 4
  have a5_8c5 := a5_8.cell 5
  simp only [List.getElem?_toArray, List.getElem?_cons_zero, List.getElem?_cons_succ] at a5_8c0 a5_8c1 a5_8c2 a5_8c3 a5_8c4 a5_8c5
  have a5_8l := a5_8.lt
  have a7_8c0 := a7_8.cell 0
  have a7_8c1 := a7_8.cell 1
  simp only [List.getElem?_toArray, List.getElem?_cons_zero, List.getElem?_cons_succ] at a7_8c0 a7_8c1
  have a7_8l := a7_8.lt
  have a9_8c0 := a9_8.cell 0
  have a9_8c1 := a9_8.cell 1
  have a9_8c2 := a9_8.cell 2
  have a9_8c3 := a9_8.cell 3
  simp only [List.getElem?_toArray, List.getElem?_cons_zero, List.getElem?_cons_succ] at a9_8c0 a9_8c1 a9_8c2 a9_8c3
  have a9_8l := a9_8.lt
  have r8c0 := hown8.cellAt 0 (by decide)
  have r8c1 := hown8.cellAt 1 (by decide)
  rw [show ([(12, 13)] : List (Int × Int)).flatMap encF = [.int .i64 12, .int .i64 13] from rfl] at r8c0 r8c1
  simp only [List.getElem?_cons_zero, List.getElem?_cons_succ] at r8c0 r8c1
  have r8l := (own_lt (g := g3) hown8 rfl).2
  have B8 : Below w.heap.size w w8 := B7.trans (hb8.mono B7.size)
  have P8 : Below w1.heap.size w1 w8 := P7.trans (hb8.mono P7.size)
  have Q8 : Below w2.heap.size w2 w8 := Q7.trans (hb8.mono Q7.size)
  have B8a := B8.alloc B8.size (.cells #[.int .i64 (-10), .int .i64 1, .int .i64 15, .int .i64 1, .int .i64 0, .int .i64 20] 40)
  have P8a := P8.alloc P8.size (.cells #[.int .i64 (-10), .int .i64 1, .int .i64 15, .int .i64 1, .int .i64 0, .int .i64 20] 40)
  have Q8a := Q8.alloc Q8.size (.cells #[.int .i64 (-10), .int .i64 1, .int .i64 15, .int .i64 1, .int .i64 0, .int .i64 20] 40)
  have B8aa := B8a.alloc B8a.size (.cells #[.slice (some ⟨g1, 0, none⟩) 3 3, .int .i64 2, .slice (some ⟨g2, 0, none⟩) 2 2, .int .i64 1] 24)
  have P8aa := P8a.alloc P8a.size (.cells #[.slice (some ⟨g1, 0, none⟩) 3 3, .int .i64 2, .slice (some ⟨g2, 0, none⟩) 2 2, .int .i64 1] 24)
  have Q8aa := Q8a.alloc Q8a.size (.cells #[.slice (some ⟨g1, 0, none⟩) 3 3, .int .i64 2, .slice (some ⟨g2, 0, none⟩) 2 2, .int .i64 1] 24)
  go_wp2_with fail
  refine (H8.out _ _ _ _ (lat_two (Blk.at_new _ _ (by simp)) (hk1.below P8aa) (by omega) (hk2.below Q8aa) (by omega))).mono ?_; rintro e w9 ⟨rfl, hb9⟩
  have a1_9 := ((a1_8.alloc (.cells #[.int .i64 (-10), .int .i64 1, .int .i64 15, .int .i64 1, .int .i64 0, .int .i64 20] 40)).alloc (.cells #[.slice (some ⟨g1, 0, none⟩) 3 3, .int .i64 2, .slice (some ⟨g2, 0, none⟩) 2 2, .int .i64 1] 24)).below hb9
  have a2_9 := ((a2_8.alloc (.cells #[.int .i64 (-10), .int .i64 1, .int .i64 15, .int .i64 1, .int .i64 0, .int .i64 20] 40)).alloc (.cells #[.slice (some ⟨g1, 0, none⟩) 3 3, .int .i64 2, .slice (some ⟨g2, 0, none⟩) 2 2, .int .i64 1] 24)).below hb9
  have a3_9 := ((a3_8.alloc (.cells #[.int .i64 (-10), .int .i64 1, .int .i64 15, .int .i64 1, .int .i64 0, .int .i64 20] 40)).alloc (.cells #[.slice (some ⟨g1, 0, none⟩) 3 3, .int .i64 2, .slice (some ⟨g2, 0, none⟩) 2 2, .int .i64 1] 24)).below hb9
  have a5_9 := ((a5_8.alloc (.cells #[.int .i64 (-10), .int .i64 1, .int .i64 15, .int .i64 1, .int .i64 0, .int .i64 20] 40)).alloc (.cells #[.slice (some ⟨g1, 0, none⟩) 3 3, .int .i64 2, .slice (some ⟨g2, 0, none⟩) 2 2, .int .i64 1] 24)).below hb9
  have a7_9 := ((a7_8.alloc (.cells #[.int .i64 (-10), .int .i64 1, .int .i64 15, .int .i64 1, .int .i64 0, .int .i64 20] 40)).alloc (.cells #[.slice (some ⟨g1, 0, none⟩) 3 3, .int .i64 2, .slice (some ⟨g2, 0, none⟩) 2 2, .int .i64 1] 24)).below hb9
  have a9_9 := ((a9_8.alloc (.cells #[.int .i64 (-10), .int .i64 1, .int .i64 15, .int .i64 1, .int .i64 0, .int .i64 20] 40)).alloc (.cells #[.slice (some ⟨g1, 0, none⟩) 3 3, .int .i64 2, .slice (some ⟨g2, 0, none⟩) 2 2, .int .i64 1] 24)).below hb9
  have a13_9 := ((Blk.new w8 40 #[.int .i64 (-10), .int .i64 1, .int .i64 15, .int .i64 1, .int .i64 0, .int .i64 20]).alloc (.cells #[.slice (some ⟨g1, 0, none⟩) 3 3, .int .i64 2, .slice (some ⟨g2, 0, none⟩) 2 2, .int .i64 1] 24)).below hb9
  have hown9 := owns_below ((hown8.alloc (.cells #[.int .i64 (-10), .int .i64 1, .int .i64 15, .int .i64 1, .int .i64 0, .int .i64 20] 40)).alloc (.cells #[.slice (some ⟨g1, 0, none⟩) 3 3, .int .i64 2, .slice (some ⟨g2, 0, none⟩) 2 2, .int .i64 1] 24)) hb9
  clear a1_8 a1_8c0 a1_8c1 a1_8l a2_8 a2_8c0 a2_8c1 a2_8l a3_8 a3_8c0 a3_8c1 a3_8l a5_8 a5_8c0 a5_8c1 a5_8c2 a5_8c3 a5_8c4 a5_8c5 a5_8l a7_8 a7_8c0 a7_8c1 a7_8l a9_8 a9_8c0 a9_8c1 a9_8c2 a9_8c3 a9_8l
  clear hown8 r8c0 r8c1 r8l
  have a1_9c0 := a1_9.cell 0
  have a1_9c1 := a1_9.cell 1
  simp only [List.getElem?_toArray, List.getElem?_cons_zero, List.getElem?_cons_succ] at a1_9c0 a1_9c1
  have a1_9l := a1_9.lt
  have a2_9c0 := a2_9.cell 0
  have a2_9c1 := a2_9.cell 1
  simp only [List.getElem?_toArray, List.getElem?_cons_zero, List.getElem?_cons_succ] at a2_9c0 a2_9c1
  have a2_9l := a2_9.lt
  have a3_9c0 := a3_9.cell 0
  have a3_9c1 := a3_9.cell 1
  simp only [List.getElem?_toArray, List.getElem?_cons_zero, List.getElem?_cons_succ] at a3_9c0 a3_9c1
  have a3_9l := a3_9.lt
  have a5_9c0 := a5_9.cell 0
  have a5_9c1 := a5_9.cell 1
  have a5_9c2 := a5_9.cell 2
  have a5_9c3 := a5_9.cell 3
  have a5_9c4 := a5_9.cell 4
  have a5_9c5 := a5_9.cell 5
  simp only [List.getElem?_toArray, List.getElem?_cons_zero, List.getElem?_cons_succ] at a5_9c0 a5_9c1 a5_9c2 a5_9c3 a5_9c4 a5_9c5
  have a5_9l := a5_9.lt
  have a7_9c0 := a7_9.cell 0
  have a7_9c1 := a7_9.cell 1
  simp only [List.getElem?_toArray, List.getElem?_cons_zero, List.getElem?_cons_succ] at a7_9c0 a7_9c1
  have a7_9l := a7_9.lt
  have a9_9c0 := a9_9.cell 0
  have a9_9c1 := a9_9.cell 1
  have a9_9c2 := a9_9.cell 2
  have a9_9c3 := a9_9.cell 3
  simp only [List.getElem?_toArray, List.getElem?_cons_zero, List.getElem?_cons_succ] at a9_9c0 a9_9c1 a9_9c2 a9_9c3
  have a9_9l := a9_9.lt
  have a13_9c0 := a13_9.cell 0
  have a13_9c1 := a13_9.cell 1
  have a13_9c2 := a13_9.cell 2
  have a13_9c3 := a13_9.cell 3
  have a13_9c4 := a13_9.cell 4
  have a13_9c5 := a13_9.cell 5
  simp only [List.getElem?_toArray, List.getElem?_cons_zero, List.getElem?_cons_succ] at a13_9c0 a13_9c1 a13_9c2 a13_9c3 a13_9c4 a13_9c5
  have a13_9l := a13_9.lt
  have r9c0 := hown9.cellAt 0 (by decide)
  have r9c1 := hown9.cellAt 1 (by decide)
  rw [show ([(12, 13)] : List (Int × Int)).flatMap encF = [.int .i64 12, .int .i64 13] from rfl] at r9c0 r9c1
  simp only [List.getElem?_cons_zero, List.getElem?_cons_succ] at r9c0 r9c1
  have r9l := (own_lt (g := g3) hown9 rfl).2
  have B9 : Below w.heap.size w w9 := B8aa.trans (hb9.mono B8aa.size)
  go_wp2
  go_ret
  exact ⟨rfl, B9.alloc B9.size _⟩
end Go.Proofs.Ytipablcbkoedbaa
