/- Two rows of pairs of numbers compared: SameKnots, SameSpans, slices.Equal, SameCurve. -/
import Derived.WalkKit
import Derived.WalkLawsBesides
import Derived.Deep.QuietTactic
import Derived.BigQuiet
import Derived.RegionTactic
import Derived.Lib.Hide
import Derived.Outline
import Derived.WalkSmall
import Derived.Test.YtipablcbkoedbaaProg
import Derived.Test.YtipablcbkoedbaaReg
import Derived.Test.YtipablcbkoedbaaB2
namespace Go.Proofs.Ytipablcbkoedbaa
open Go.RowKit

theorem pairs_ext {ks ks' : List (Int × Int)} (hl : ks.length = ks'.length) (h : ∀ j, j < ks.length → kx ks j = kx ks' j ∧ ky ks j = ky ks' j) : ks = ks' := by
  apply List.ext_getElem hl
  intro i h1 h2
  have := h i h1
  unfold kx ky at this
  simp only [List.getD_eq_getElem?_getD, List.getElem?_eq_getElem h1, List.getElem?_eq_getElem h2, Option.getD_some] at this
  exact Prod.ext this.1 this.2


set_option maxHeartbeats 1600000 in
theorem SameKnots_any (A A' : Option Addr) (n cap n' cap' : Nat) (ks ks' : List (Int × Int)) (w : World) (h : CAt w A n ks) (hm : n ≤ 9223372036854775807) (h' : CAt w A' n' ks') (hm' : n' ≤ 9223372036854775807) :
    Calls Try.prog 116 #[.slice A n cap, .slice A' n' cap'] w fun e w' => e = .returned (.bool (decide (ks = ks'))) ∧ Below w.heap.size w w' := by
  have hl := h.len
  have hl' := h'.len
  by_cases hn : n = n'
  case neg =>
    have HD := Lib.hid (show decide (ks = ks') = false from decide_eq_false fun e => hn (by rw [← hl, ← hl', e]))
    have hn1 : ((n : Int) != (n' : Int)) = true := by simp; omega
    have hn2 : ((n : Int) == (n' : Int)) = false := by simp; omega
    clear h h' hl hl' hn
    go_enter Try.func116, Try.ntmps116
    go_wp2
    go_ret
    exact ⟨by rw [HD.out]; rfl, Below.refl _ _⟩
  subst hn
  have HA := Lib.hid h
  have HA' := Lib.hid h'
  have HL := Lib.hid hl
  have HL' := Lib.hid hl'
  clear h h' hl hl'
  go_enter Try.func116, Try.ntmps116
  go_wp2_with fail
  go_loopw [5] (fun i wr => ∃ k : Nat, k ≤ n ∧ i = .int .i64 k ∧ (∀ j, j < k → kx ks j = kx ks' j ∧ ky ks j = ky ks' j) ∧ Below w.heap.size w wr) (fun i _ => n - (intOf i).toNat)
  case atStart => exact ⟨0, Nat.zero_le _, rfl, fun j hj => absurd hj (by omega), Below.refl _ _⟩
  case round =>
    obtain ⟨k, hk, rfl, hall, hb⟩ := hrel
    have HALL := Lib.hid hall
    clear hall
    by_cases hkn : k < n
    case neg =>
      have hkk : k = n := by omega
      have HD := Lib.hid (show decide (ks = ks') = true from decide_eq_true (pairs_ext (by rw [HL.out, HL'.out]) fun j hj => HALL.out j (by have := HL.out; omega)))
      subst hkk
      go_wp2
      go_ret
      exact ⟨by rw [HD.out]; rfl, hb⟩
    obtain ⟨b, off, hAe, hkn1⟩ := (HA.out.below hb).at_ (by omega)
    obtain ⟨b', off', hAe', hkn2⟩ := (HA'.out.below hb).at_ (by omega)
    subst hAe hAe'
    have x1 := hkn1.x k (by rw [HL.out]; exact hkn)
    have y1 := hkn1.y k (by rw [HL.out]; exact hkn)
    have x2 := hkn2.x k (by rw [HL'.out]; exact hkn)
    have y2 := hkn2.y k (by rw [HL'.out]; exact hkn)
    have lt1 := hkn1.lt
    have lt2 := hkn2.lt
    have HNe := Lib.hid (fun (c : ¬ (kx ks k = kx ks' k ∧ ky ks k = ky ks' k)) => (show decide (ks = ks') = false from decide_eq_false fun e => c (by rw [e]; exact ⟨rfl, rfl⟩)))
    have hnx : ∀ a b c d : Int, kx ks k = a → ky ks k = b → kx ks' k = c → ky ks' k = d → a = c → b = d → ∀ j, j < k + 1 → kx ks j = kx ks' j ∧ ky ks j = ky ks' j := fun a b c d e1 e2 e3 e4 f1 f2 j hj => if e : j = k then by subst e; exact ⟨e1.trans (f1.trans e3.symm), e2.trans (f2.trans e4.symm)⟩ else HALL.out j (by omega)
    have HNx := Lib.hid (hnx _ _ _ _ rfl rfl rfl rfl)
    clear hnx hkn1 hkn2
    generalize kx ks k = a at *
    generalize ky ks k = c at *
    generalize kx ks' k = a' at *
    generalize ky ks' k = c' at *
    go_wp2_with fail
    obtain ⟨xc, xf⟩ := xcell (W := wr)
    by_cases e1 : a = a'
    · subst e1
      by_cases e2 : c = c'
      · subst e2
        refine wp_region_quiet_tail 9 (by kernel_rfl) (by kernel_rfl) ?_
        simp only [List.take_succ_cons, List.take_zero, List.drop_succ_cons, List.drop_zero]
        repeat (first | go_big_quiet_step (fail) | quiet_step (fail))
        refine wpQuiet_nil ?_
        intro w4 hb4
        clear xc xf
        have hb5 := hb.trans (hb4.mono hb.size)
        go_wp2
        go_roundw
        case rel => exact ⟨k + 1, by omega, by go_num, HNx.out rfl rfl, hb5⟩
        case measure => simp [intOf]; omega
      · have e3 : (c == c') = false := by simpa using e2
        have HD := Lib.hid (HNe.out fun z => e2 z.2)
        refine wp_region_quiet_tail 9 (by kernel_rfl) (by kernel_rfl) ?_
        simp only [List.take_succ_cons, List.take_zero, List.drop_succ_cons, List.drop_zero]
        repeat (first | go_big_quiet_step (fail) | quiet_step (fail))
        refine wpQuiet_nil ?_
        intro w4 hb4
        clear xc xf
        have hb5 := hb.trans (hb4.mono hb.size)
        go_wp2
        go_ret
        exact ⟨by rw [HD.out]; rfl, hb5⟩
    · have e3 : (a == a') = false := by simpa using e1
      have HD := Lib.hid (HNe.out fun z => e1 z.1)
      refine wp_region_quiet_tail 9 (by kernel_rfl) (by kernel_rfl) ?_
      simp only [List.take_succ_cons, List.take_zero, List.drop_succ_cons, List.drop_zero]
      repeat (first | go_big_quiet_step (fail) | quiet_step (fail))
      refine wpQuiet_nil ?_
      intro w4 hb4
      clear xc xf
      have hb5 := hb.trans (hb4.mono hb.size)
      go_wp2
      go_ret
      exact ⟨by rw [HD.out]; rfl, hb5⟩

set_option maxHeartbeats 1600000 in
theorem SameSpans_any (A A' : Option Addr) (n cap n' cap' : Nat) (ks ks' : List (Int × Int)) (w : World) (h : CAt w A n ks) (hm : n ≤ 9223372036854775807) (h' : CAt w A' n' ks') (hm' : n' ≤ 9223372036854775807) :
    Calls Try.prog 63 #[.slice A n cap, .slice A' n' cap'] w fun e w' => e = .returned (.bool (decide (ks = ks'))) ∧ Below w.heap.size w w' := by
  have hl := h.len
  have hl' := h'.len
  by_cases hn : n = n'
  case neg =>
    have HD := Lib.hid (show decide (ks = ks') = false from decide_eq_false fun e => hn (by rw [← hl, ← hl', e]))
    have hn1 : ((n : Int) != (n' : Int)) = true := by simp; omega
    have hn2 : ((n : Int) == (n' : Int)) = false := by simp; omega
    clear h h' hl hl' hn
    go_enter Try.func63, Try.ntmps63
    go_wp2
    go_ret
    exact ⟨by rw [HD.out]; rfl, Below.refl _ _⟩
  subst hn
  have HA := Lib.hid h
  have HA' := Lib.hid h'
  have HL := Lib.hid hl
  have HL' := Lib.hid hl'
  clear h h' hl hl'
  go_enter Try.func63, Try.ntmps63
  go_wp2_with fail
  go_loopw [5] (fun i wr => ∃ k : Nat, k ≤ n ∧ i = .int .i64 k ∧ (∀ j, j < k → kx ks j = kx ks' j ∧ ky ks j = ky ks' j) ∧ Below w.heap.size w wr) (fun i _ => n - (intOf i).toNat)
  case atStart => exact ⟨0, Nat.zero_le _, rfl, fun j hj => absurd hj (by omega), Below.refl _ _⟩
  case round =>
    obtain ⟨k, hk, rfl, hall, hb⟩ := hrel
    have HALL := Lib.hid hall
    clear hall
    by_cases hkn : k < n
    case neg =>
      have hkk : k = n := by omega
      have HD := Lib.hid (show decide (ks = ks') = true from decide_eq_true (pairs_ext (by rw [HL.out, HL'.out]) fun j hj => HALL.out j (by have := HL.out; omega)))
      subst hkk
      go_wp2
      go_ret
      exact ⟨by rw [HD.out]; rfl, hb⟩
    obtain ⟨b, off, hAe, hkn1⟩ := (HA.out.below hb).at_ (by omega)
    obtain ⟨b', off', hAe', hkn2⟩ := (HA'.out.below hb).at_ (by omega)
    subst hAe hAe'
    have x1 := hkn1.x k (by rw [HL.out]; exact hkn)
    have y1 := hkn1.y k (by rw [HL.out]; exact hkn)
    have x2 := hkn2.x k (by rw [HL'.out]; exact hkn)
    have y2 := hkn2.y k (by rw [HL'.out]; exact hkn)
    have lt1 := hkn1.lt
    have lt2 := hkn2.lt
    have HNe := Lib.hid (fun (c : ¬ (kx ks k = kx ks' k ∧ ky ks k = ky ks' k)) => (show decide (ks = ks') = false from decide_eq_false fun e => c (by rw [e]; exact ⟨rfl, rfl⟩)))
    have hnx : ∀ a b c d : Int, kx ks k = a → ky ks k = b → kx ks' k = c → ky ks' k = d → a = c → b = d → ∀ j, j < k + 1 → kx ks j = kx ks' j ∧ ky ks j = ky ks' j := fun a b c d e1 e2 e3 e4 f1 f2 j hj => if e : j = k then by subst e; exact ⟨e1.trans (f1.trans e3.symm), e2.trans (f2.trans e4.symm)⟩ else HALL.out j (by omega)
    have HNx := Lib.hid (hnx _ _ _ _ rfl rfl rfl rfl)
    clear hnx hkn1 hkn2
    generalize kx ks k = a at *
    generalize ky ks k = c at *
    generalize kx ks' k = a' at *
    generalize ky ks' k = c' at *
    go_wp2_with fail
    obtain ⟨xc, xf⟩ := xcell (W := wr)
    by_cases e1 : a = a'
    · subst e1
      by_cases e2 : c = c'
      · subst e2
        refine wp_region_quiet_tail 9 (by kernel_rfl) (by kernel_rfl) ?_
        simp only [List.take_succ_cons, List.take_zero, List.drop_succ_cons, List.drop_zero]
        repeat (first | go_big_quiet_step (fail) | quiet_step (fail))
        refine wpQuiet_nil ?_
        intro w4 hb4
        clear xc xf
        have hb5 := hb.trans (hb4.mono hb.size)
        go_wp2
        go_roundw
        case rel => exact ⟨k + 1, by omega, by go_num, HNx.out rfl rfl, hb5⟩
        case measure => simp [intOf]; omega
      · have e3 : (c == c') = false := by simpa using e2
        have HD := Lib.hid (HNe.out fun z => e2 z.2)
        refine wp_region_quiet_tail 9 (by kernel_rfl) (by kernel_rfl) ?_
        simp only [List.take_succ_cons, List.take_zero, List.drop_succ_cons, List.drop_zero]
        repeat (first | go_big_quiet_step (fail) | quiet_step (fail))
        refine wpQuiet_nil ?_
        intro w4 hb4
        clear xc xf
        have hb5 := hb.trans (hb4.mono hb.size)
        go_wp2
        go_ret
        exact ⟨by rw [HD.out]; rfl, hb5⟩
    · have e3 : (a == a') = false := by simpa using e1
      have HD := Lib.hid (HNe.out fun z => e1 z.1)
      refine wp_region_quiet_tail 9 (by kernel_rfl) (by kernel_rfl) ?_
      simp only [List.take_succ_cons, List.take_zero, List.drop_succ_cons, List.drop_zero]
      repeat (first | go_big_quiet_step (fail) | quiet_step (fail))
      refine wpQuiet_nil ?_
      intro w4 hb4
      clear xc xf
      have hb5 := hb.trans (hb4.mono hb.size)
      go_wp2
      go_ret
      exact ⟨by rw [HD.out]; rfl, hb5⟩

set_option maxHeartbeats 1600000 in
theorem EqualKnots_any (A A' : Option Addr) (n cap n' cap' : Nat) (ks ks' : List (Int × Int)) (w : World) (h : CAt w A n ks) (hm : n ≤ 9223372036854775807) (h' : CAt w A' n' ks') (hm' : n' ≤ 9223372036854775807) :
    Calls Try.prog 122 #[.slice A n cap, .slice A' n' cap'] w fun e w' => e = .returned (.bool (decide (ks = ks'))) ∧ Below w.heap.size w w' := by
  have hl := h.len
  have hl' := h'.len
  by_cases hn : n = n'
  case neg =>
    have HD := Lib.hid (show decide (ks = ks') = false from decide_eq_false fun e => hn (by rw [← hl, ← hl', e]))
    have hn1 : ((n : Int) != (n' : Int)) = true := by simp; omega
    have hn2 : ((n : Int) == (n' : Int)) = false := by simp; omega
    clear h h' hl hl' hn
    go_enter Try.func122, Try.ntmps122
    go_wp2
    go_ret
    exact ⟨by rw [HD.out]; rfl, Below.refl _ _⟩
  subst hn
  have HA := Lib.hid h
  have HA' := Lib.hid h'
  have HL := Lib.hid hl
  have HL' := Lib.hid hl'
  clear h h' hl hl'
  go_enter Try.func122, Try.ntmps122
  go_wp2_with fail
  go_loopw [13, 5] (fun i _ wr => ∃ k : Nat, k ≤ n ∧ i = .int .i64 k ∧ (∀ j, j < k → kx ks j = kx ks' j ∧ ky ks j = ky ks' j) ∧ Below w.heap.size w wr) (fun i _ _ => n - (intOf i).toNat)
  case atStart => exact ⟨0, Nat.zero_le _, rfl, fun j hj => absurd hj (by omega), Below.refl _ _⟩
  case round =>
    obtain ⟨k, hk, rfl, hall, hb⟩ := hrel
    have HALL := Lib.hid hall
    clear hall
    by_cases hkn : k < n
    case neg =>
      have hkk : k = n := by omega
      have HD := Lib.hid (show decide (ks = ks') = true from decide_eq_true (pairs_ext (by rw [HL.out, HL'.out]) fun j hj => HALL.out j (by have := HL.out; omega)))
      subst hkk
      go_wp2
      go_ret
      exact ⟨by rw [HD.out]; rfl, hb⟩
    obtain ⟨b, off, hAe, hkn1⟩ := (HA.out.below hb).at_ (by omega)
    obtain ⟨b', off', hAe', hkn2⟩ := (HA'.out.below hb).at_ (by omega)
    subst hAe hAe'
    have x1 := hkn1.x k (by rw [HL.out]; exact hkn)
    have y1 := hkn1.y k (by rw [HL.out]; exact hkn)
    have x2 := hkn2.x k (by rw [HL'.out]; exact hkn)
    have y2 := hkn2.y k (by rw [HL'.out]; exact hkn)
    have lt1 := hkn1.lt
    have lt2 := hkn2.lt
    have HNe := Lib.hid (fun (c : ¬ (kx ks k = kx ks' k ∧ ky ks k = ky ks' k)) => (show decide (ks = ks') = false from decide_eq_false fun e => c (by rw [e]; exact ⟨rfl, rfl⟩)))
    have hnx : ∀ a b c d : Int, kx ks k = a → ky ks k = b → kx ks' k = c → ky ks' k = d → a = c → b = d → ∀ j, j < k + 1 → kx ks j = kx ks' j ∧ ky ks j = ky ks' j := fun a b c d e1 e2 e3 e4 f1 f2 j hj => if e : j = k then by subst e; exact ⟨e1.trans (f1.trans e3.symm), e2.trans (f2.trans e4.symm)⟩ else HALL.out j (by omega)
    have HNx := Lib.hid (hnx _ _ _ _ rfl rfl rfl rfl)
    clear hnx hkn1 hkn2
    generalize kx ks k = a at *
    generalize ky ks k = c at *
    generalize kx ks' k = a' at *
    generalize ky ks' k = c' at *
    go_wp2_with fail
    obtain ⟨xc, xf⟩ := xcell (W := wr)
    by_cases e1 : a = a'
    · subst e1
      by_cases e2 : c = c'
      · subst e2
        refine wp_region_quiet_tail 9 (by kernel_rfl) (by kernel_rfl) ?_
        simp only [List.take_succ_cons, List.take_zero, List.drop_succ_cons, List.drop_zero]
        repeat (first | go_big_quiet_step (fail) | quiet_step (fail))
        refine wpQuiet_nil ?_
        intro w4 hb4
        clear xc xf
        have hb5 := hb.trans (hb4.mono hb.size)
        go_wp2
        go_roundw
        case rel => exact ⟨k + 1, by omega, by go_num, HNx.out rfl rfl, hb5⟩
        case measure => simp [intOf]; omega
      · have e3 : (c == c') = false := by simpa using e2
        have HD := Lib.hid (HNe.out fun z => e2 z.2)
        refine wp_region_quiet_tail 9 (by kernel_rfl) (by kernel_rfl) ?_
        simp only [List.take_succ_cons, List.take_zero, List.drop_succ_cons, List.drop_zero]
        repeat (first | go_big_quiet_step (fail) | quiet_step (fail))
        refine wpQuiet_nil ?_
        intro w4 hb4
        clear xc xf
        have hb5 := hb.trans (hb4.mono hb.size)
        go_wp2
        go_ret
        exact ⟨by rw [HD.out]; rfl, hb5⟩
    · have e3 : (a == a') = false := by simpa using e1
      have HD := Lib.hid (HNe.out fun z => e1 z.1)
      refine wp_region_quiet_tail 9 (by kernel_rfl) (by kernel_rfl) ?_
      simp only [List.take_succ_cons, List.take_zero, List.drop_succ_cons, List.drop_zero]
      repeat (first | go_big_quiet_step (fail) | quiet_step (fail))
      refine wpQuiet_nil ?_
      intro w4 hb4
      clear xc xf
      have hb5 := hb.trans (hb4.mono hb.size)
      go_wp2
      go_ret
      exact ⟨by rw [HD.out]; rfl, hb5⟩

/-- The value of a contract, when what it computes is known. -/
theorem calls_val2 {f : Nat} {args : Array Value} {w : World} {v v' : Value} (h : Calls Try.prog f args w fun e w' => e = .returned v ∧ Below w.heap.size w w') (hv : v = v') : Calls Try.prog f args w fun e w' => e = .returned v' ∧ Below w.heap.size w w' := hv ▸ h
theorem SameCurve_same (A A' : Option Addr) (n cap n' cap' : Nat) (err : Int) (ks : List (Int × Int)) (w : World) (h : CAt w A n ks) (hm : n ≤ 9223372036854775807) (h' : CAt w A' n' ks) (hm' : n' ≤ 9223372036854775807) :
    Calls Try.prog 56 #[vCv A n cap err, vCv A' n' cap' err] w fun e w' => e = .returned (.bool true) ∧ Below w.heap.size w w' := by
  have HS := Lib.hid (fun W (hW : CAt W A n ks) (hW' : CAt W A' n' ks) => calls_val2 (SameKnots_any A A' n cap n' cap' ks ks W hW hm hW' hm') (v' := .bool true) (by simp))
  have HA := Lib.hid h
  have HA' := Lib.hid h'
  clear h h'
  generalize hW : (w.alloc (.cells #[.slice A n cap, .int .i64 err] 24)).alloc (.cells #[.slice A' n' cap', .int .i64 err] 24) = W
  have B0 : Below w.heap.size w W := by rw [← hW]; exact (((Below.refl w.heap.size w).alloc (Nat.le_refl _) _).alloc (by simp) _)
  have x0_0 : Blk W w.heap.size 24 #[.slice A n cap, .int .i64 err] := by rw [← hW]; exact ((Blk.at_new _ _ rfl).alloc _)
  have x1_0 : Blk W (w.heap.size + 1) 24 #[.slice A' n' cap', .int .i64 err] := by rw [← hW]; exact (Blk.at_new _ _ (by simp))
  have HWE := Lib.hid hW
  clear hW
  go_enter Try.func56, Try.ntmps56
  have B1 := B0
  go_wp2_with fail
  rw [HWE.out]
  refine (HS.out _ (HA.out.below B1) (HA'.out.below B1)).mono ?_; rintro e w1 ⟨rfl, hb1⟩
  have x0_1 := x0_0.below hb1
  have x1_1 := x1_0.below hb1
  clear x0_0 x1_0
  have x0_1c0 := x0_1.cell 0
  have x0_1c1 := x0_1.cell 1
  simp only [List.getElem?_toArray, List.getElem?_cons_zero, List.getElem?_cons_succ] at x0_1c0 x0_1c1
  have x0_1l := x0_1.lt
  have x1_1c0 := x1_1.cell 0
  have x1_1c1 := x1_1.cell 1
  simp only [List.getElem?_toArray, List.getElem?_cons_zero, List.getElem?_cons_succ] at x1_1c0 x1_1c1
  have x1_1l := x1_1.lt
  go_wp2
  go_ret
  exact ⟨by simp, B1.trans (hb1.mono B1.size)⟩
end Go.Proofs.Ytipablcbkoedbaa
