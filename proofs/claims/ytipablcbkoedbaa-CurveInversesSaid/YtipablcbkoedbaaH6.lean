/- The reference: Inverse, Reach. -/
import Derived.RangeFuncNested
import Derived.Shelf.Abstract
import Derived.RangeFuncBound
import Derived.RangeFuncCalls
import Derived.RangeFuncLeaves
import Derived.WalkKit
import Derived.OwnWalkIn
import Derived.TacticsInMore
import Derived.LoopNIn
import Derived.LoopIn
import Derived.WalkLawsBesides
import Derived.Deep.QuietTactic
import Derived.BigQuiet
import Derived.RegionTactic
import Derived.Lib.Hide
import Derived.Outline
import Derived.WalkSmall
import Derived.Test.YtipablcbkoedbaaProg
import Derived.Test.YtipablcbkoedbaaH5
namespace Go.Proofs.Ytipablcbkoedbaa
open Go.RowKit

set_option maxHeartbeats 800000 in
theorem RInverse_any (A : Option Addr) (n cap : Nat) (err : Int) (ks : List (Int × Int)) (y : Int) (w : World) (h : CAt w A n ks) (hm : n ≤ 9223372036854775807) :
    Calls Try.prog 20 #[vCv A n cap err, .int .i64 y] w fun e w' => e = .returned (.tuple #[vFrac (ivN ks err y) (ivD ks err y), .int .i64 (ivErr ks err y)]) ∧ Below w.heap.size w w' := by
  have hC := fun W (hW : CAt W A n ks) => RCheck_any A n cap err ks W hW hm
  have HC := Lib.hid hC
  clear hC
  generalize hW : (w.alloc (.cells #[.slice A n cap, .int .i64 err] 24)).alloc (.cells #[.int .i64 0, .int .i64 0] 30) = W
  have hbw : Below w.heap.size w W := by rw [← hW]; exact ((Below.refl _ _).alloc (Nat.le_refl _) _).alloc (by simp) _
  have hcb : Blk W w.heap.size 24 #[.slice A n cap, .int .i64 err] := by rw [← hW]; exact (Blk.at_new _ _ rfl).alloc _
  have hrb : Blk W (w.heap.size + 1) 30 #[.int .i64 0, .int .i64 0] := by rw [← hW]; exact Blk.at_new _ _ (by simp)
  have HWE := Lib.hid hW
  clear hW
  by_cases hz : check ks err = 0
  case neg =>
    have hz1 : (check ks err != 0) = true := by simpa using hz
    have he : ivErr ks err y = check ks err := by unfold ivErr; rw [if_pos hz]
    have hn0 : ivN ks err y = 0 := by unfold ivN; rw [he, if_neg hz]
    have hd0 : ivD ks err y = 0 := by unfold ivD; rw [he, if_neg hz]
    have HE := Lib.hid he
    have HN := Lib.hid hn0
    have HD := Lib.hid hd0
    have HA := Lib.hid (h.below hbw)
    clear he hn0 hd0 hz h
    go_enter Try.func20, Try.ntmps20
    go_wp2_with fail
    rw [HWE.out]
    refine (HC.out _ HA.out).mono ?_; rintro e w1 ⟨rfl, hb1⟩
    have hr1 := hrb.below hb1
    have hc0 := hr1.cell 0
    have hc1 := hr1.cell 1
    have hf0 := hr1.frozen 0
    have hf1 := hr1.frozen 1
    simp only [List.getElem?_toArray, List.getElem?_cons_zero, List.getElem?_cons_succ] at hc0 hc1
    have hb2 := hbw.trans (hb1.mono hbw.size)
    go_wp2
    exact bodyPost_ret (v := .tuple #[vFrac 0 0, .int .i64 (check ks err)]) (by simp [results, Try.results20, go_sem, hc0, hc1]) rfl ⟨by rw [HE.out, HN.out, HD.out], (hb2.setCell (p := ⟨w.heap.size + 1, 0, none⟩) (by simp) _).setCell (p := ⟨w.heap.size + 1, 1, none⟩) (by simp) _⟩
  have hz1 : (check ks err != 0) = false := by simp [hz]
  obtain ⟨hv, hE1, hE2⟩ := check_zero hz
  have hpos := hv.pos
  have hvle := hv.le
  have hlen := h.len
  obtain ⟨b, off, hAe, hkn⟩ := h.at_ (by omega)
  subst hAe
  subst hlen
  have hR := fun W (hW : Kn W b off ks) => way_any b off cap err ks W hW hv
  have HR := Lib.hid hR
  have HA := Lib.hid (h.below hbw)
  have HK := Lib.hid (hkn.below hbw)
  have HV := Lib.hid hv
  have HZ := Lib.hid hz
  clear hR h hkn hv hz
  by_cases hr : risingI ks = 0
  · have he : ivErr ks err y = 4 := by unfold ivErr; rw [if_neg (by simp [HZ.out]), if_pos hr]
    have hn0 : ivN ks err y = 0 := by unfold ivN; rw [he, if_neg (by omega)]
    have hd0 : ivD ks err y = 0 := by unfold ivD; rw [he, if_neg (by omega)]
    have HE := Lib.hid he
    have HN := Lib.hid hn0
    have HD := Lib.hid hd0
    have hr1 : (risingI ks == 0) = true := by simpa using hr
    clear he hn0 hd0
    go_enter Try.func20, Try.ntmps20
    go_wp2_with fail
    rw [HWE.out]
    refine (HC.out _ HA.out).mono ?_; rintro e w1 ⟨rfl, hb1⟩
    have hc1 := hcb.below hb1
    have hk0 := hc1.cell 0
    have hk1 := hc1.cell 1
    simp only [List.getElem?_toArray, List.getElem?_cons_zero, List.getElem?_cons_succ] at hk0 hk1
    go_wp2_with (go_at_call 76; refine (HR.out _ (HK.out.below hb1)).mono ?_; rintro e w2 ⟨rfl, hb2⟩; have hb3 := hb1.trans (hb2.mono hb1.size); have hr2 := hrb.below hb3; have g0 := hr2.cell 0; have g1 := hr2.cell 1; have f0 := hr2.frozen 0; have f1 := hr2.frozen 1; have hrl := hr2.lt; simp only [List.getElem?_toArray, List.getElem?_cons_zero, List.getElem?_cons_succ] at g0 g1)
    have hb4 := hbw.trans (hb3.mono hbw.size)
    exact bodyPost_ret (v := .tuple #[vFrac 0 0, .int .i64 4]) (by simp [results, Try.results20, go_sem, g0, g1]) rfl ⟨by rw [HE.out, HN.out, HD.out], (hb4.setCell (p := ⟨w.heap.size + 1, 0, none⟩) (by simp) _).setCell (p := ⟨w.heap.size + 1, 1, none⟩) (by simp) _⟩
  · have hWh := fun W (hW : Kn W b off ks) => Rwhere_any b off cap err ks y W hW HV.out
    have HWh := Lib.hid hWh
    have hr1 : (risingI ks == 0) = false := by simpa using hr
    have he : ivErr ks err y = if (whF ks y).isSome = true then 0 else 3 := by unfold ivErr; rw [if_neg (by simp [HZ.out]), if_neg hr]
    have HE := Lib.hid he
    have HN := Lib.hid (show ivN ks err y = if ivErr ks err y = 0 then whN ks y else 0 from rfl)
    have HD := Lib.hid (show ivD ks err y = if ivErr ks err y = 0 then whD ks y else 0 from rfl)
    clear he hWh hr
    generalize (whF ks y).isSome = is at *
    generalize whN ks y = qn at *
    generalize whD ks y = qd at *
    cases is with
    | true =>
      go_enter Try.func20, Try.ntmps20
      go_wp2_with fail
      rw [HWE.out]
      refine (HC.out _ HA.out).mono ?_; rintro e w1 ⟨rfl, hb1⟩
      have hc1 := hcb.below hb1
      have hk0 := hc1.cell 0
      have hk1 := hc1.cell 1
      simp only [List.getElem?_toArray, List.getElem?_cons_zero, List.getElem?_cons_succ] at hk0 hk1
      go_wp2_with (go_at_call 76; refine (HR.out _ (HK.out.below hb1)).mono ?_; rintro e w2 ⟨rfl, hb2⟩; have hb3 := hb1.trans (hb2.mono hb1.size); have hc2 := hcb.below hb3; have g0 := hc2.cell 0; have g1 := hc2.cell 1; simp only [List.getElem?_toArray, List.getElem?_cons_zero, List.getElem?_cons_succ] at g0 g1)
      refine (HWh.out _ (HK.out.below hb3)).mono ?_; rintro e w3 ⟨rfl, hb4⟩
      have hb5 := hb3.trans (hb4.mono hb3.size)
      have hr5 := hrb.below hb5
      have c0 := hr5.cell 0
      have c1 := hr5.cell 1
      have f0 := hr5.frozen 0
      have f1 := hr5.frozen 1
      have hrl := hr5.lt
      simp only [List.getElem?_toArray, List.getElem?_cons_zero, List.getElem?_cons_succ] at c0 c1
      have hb6 := hbw.trans (hb5.mono hbw.size)
      go_wp2
      have hF := ((hr5.set_ 0 (.int .i64 qn)).set_ 1 (.int .i64 qd)).alloc (.cells #[.int .i64 qn, .int .i64 qd] 30)
      have k0 := hF.cell 0
      have k1 := hF.cell 1
      simp only [List.setIfInBounds_toArray, List.set_cons_zero, List.set_cons_succ, List.getElem?_toArray, List.getElem?_cons_zero, List.getElem?_cons_succ] at k0 k1
      exact bodyPost_ret (v := .tuple #[vFrac qn qd, .int .i64 0]) (by simp [results, Try.results20, go_sem, k0, k1]) rfl ⟨by rw [HN.out, HD.out, HE.out]; rfl, ((hb6.setCell (p := ⟨w.heap.size + 1, 0, none⟩) (by simp) _).setCell (p := ⟨w.heap.size + 1, 1, none⟩) (by simp) _).alloc (by simp [World.setCell]; have := hb6.size; omega) _⟩
    | false =>
      go_enter Try.func20, Try.ntmps20
      go_wp2_with fail
      rw [HWE.out]
      refine (HC.out _ HA.out).mono ?_; rintro e w1 ⟨rfl, hb1⟩
      have hc1 := hcb.below hb1
      have hk0 := hc1.cell 0
      have hk1 := hc1.cell 1
      simp only [List.getElem?_toArray, List.getElem?_cons_zero, List.getElem?_cons_succ] at hk0 hk1
      go_wp2_with (go_at_call 76; refine (HR.out _ (HK.out.below hb1)).mono ?_; rintro e w2 ⟨rfl, hb2⟩; have hb3 := hb1.trans (hb2.mono hb1.size); have hc2 := hcb.below hb3; have g0 := hc2.cell 0; have g1 := hc2.cell 1; simp only [List.getElem?_toArray, List.getElem?_cons_zero, List.getElem?_cons_succ] at g0 g1)
      refine (HWh.out _ (HK.out.below hb3)).mono ?_; rintro e w3 ⟨rfl, hb4⟩
      have hb5 := hb3.trans (hb4.mono hb3.size)
      have hr5 := hrb.below hb5
      have c0 := hr5.cell 0
      have c1 := hr5.cell 1
      have f0 := hr5.frozen 0
      have f1 := hr5.frozen 1
      have hrl := hr5.lt
      simp only [List.getElem?_toArray, List.getElem?_cons_zero, List.getElem?_cons_succ] at c0 c1
      have hb6 := hbw.trans (hb5.mono hbw.size)
      go_wp2
      have hF := ((hr5.set_ 0 (.int .i64 0)).set_ 1 (.int .i64 0)).alloc (.cells #[.int .i64 qn, .int .i64 qd] 30)
      have k0 := hF.cell 0
      have k1 := hF.cell 1
      simp only [List.setIfInBounds_toArray, List.set_cons_zero, List.set_cons_succ, List.getElem?_toArray, List.getElem?_cons_zero, List.getElem?_cons_succ] at k0 k1
      exact bodyPost_ret (v := .tuple #[vFrac 0 0, .int .i64 3]) (by simp [results, Try.results20, go_sem, k0, k1]) rfl ⟨by rw [HN.out, HD.out, HE.out]; rfl, ((hb6.setCell (p := ⟨w.heap.size + 1, 0, none⟩) (by simp) _).setCell (p := ⟨w.heap.size + 1, 1, none⟩) (by simp) _).alloc (by simp [World.setCell]; have := hb6.size; omega) _⟩

set_option maxRecDepth 100000 in
set_option maxHeartbeats 1600000 in
theorem RReach_check (A : Option Addr) (n cap : Nat) (err : Int) (ks : List (Int × Int)) (lo hi : Int) (w : World) (h : CAt w A n ks) (hm : n ≤ 9223372036854775807) (_ : -9223372036854775808 ≤ lo ∧ lo ≤ 9223372036854775807) (_ : -9223372036854775808 ≤ hi ∧ hi ≤ 9223372036854775807) (hz : check ks err ≠ 0) :
    Calls Try.prog 22 #[vCv A n cap err, vSpan lo hi] w fun e w' => e = .returned (.tuple #[vRc (rcV ks err lo hi), .int .i64 (rcErr ks err lo hi)]) ∧ Below w.heap.size w w' := by
  have hC := fun W (hW : CAt W A n ks) => RCheck_any A n cap err ks W hW hm
  have HC := Lib.hid hC
  clear hC
  generalize hW : ((w.alloc (.cells #[.slice A n cap, .int .i64 err] 24)).alloc (.cells #[.int .i64 lo, .int .i64 hi] 26)).alloc (.cells #[.int .i64 0, .int .i64 0, .int .i64 0, .int .i64 0] 35) = W
  have hbw : Below w.heap.size w W := by rw [← hW]; exact (((Below.refl _ _).alloc (Nat.le_refl _) _).alloc (by simp) _).alloc (by simp; omega) _
  have hcb : Blk W w.heap.size 24 #[.slice A n cap, .int .i64 err] := by rw [← hW]; exact ((Blk.at_new _ _ rfl).alloc _).alloc _
  have hsb : Blk W (w.heap.size + 1) 26 #[.int .i64 lo, .int .i64 hi] := by rw [← hW]; exact (Blk.at_new _ _ (by simp)).alloc _
  have hrb : Blk W (w.heap.size + 2) 35 #[.int .i64 0, .int .i64 0, .int .i64 0, .int .i64 0] := by rw [← hW]; exact Blk.at_new _ _ (by simp)
  have HWE := Lib.hid hW
  clear hW

  have hz1 : (check ks err != 0) = true := by simpa using hz
  have he : rcErr ks err lo hi = check ks err := by unfold rcErr; rw [if_pos hz]
  have HE := Lib.hid he
  have HV := Lib.hid (rc_zero he hz)
  have HA := Lib.hid (h.below hbw)
  clear he hz h
  go_enter Try.func22, Try.ntmps22
  go_wp2_with fail
  rw [HWE.out]
  refine (HC.out _ HA.out).mono ?_; rintro e w1 ⟨rfl, hb1⟩
  have hr1 := hrb.below hb1
  have rc0 := hr1.cell 0
  have rc1 := hr1.cell 1
  have rc2 := hr1.cell 2
  have rc3 := hr1.cell 3
  simp only [List.getElem?_toArray, List.getElem?_cons_zero, List.getElem?_cons_succ] at rc0 rc1 rc2 rc3
  have rf0 := hr1.frozen 0
  have rf1 := hr1.frozen 1
  have rf2 := hr1.frozen 2
  have rf3 := hr1.frozen 3
  have rl := hr1.lt
  have hb2 := hbw.trans (hb1.mono hbw.size)
  go_wp2
  exact bodyPost_ret (v := .tuple #[vRange 0 0 0 0, .int .i64 (check ks err)]) (by simp [results, Try.results22, go_sem, rc0, rc1, rc2, rc3]) rfl ⟨by rw [HE.out, HV.out], ((((hb2.setCell (p := ⟨w.heap.size + 2, 0, none⟩) (by simp) _).setCell (p := ⟨w.heap.size + 2, 1, none⟩) (by simp) _).setCell (p := ⟨w.heap.size + 2, 2, none⟩) (by simp) _).setCell (p := ⟨w.heap.size + 2, 3, none⟩) (by simp) _)⟩
set_option maxRecDepth 100000 in
set_option maxHeartbeats 1600000 in
theorem RReach_arg1 (A : Option Addr) (n cap : Nat) (err : Int) (ks : List (Int × Int)) (lo hi : Int) (w : World) (h : CAt w A n ks) (hm : n ≤ 9223372036854775807) (_ : -9223372036854775808 ≤ lo ∧ lo ≤ 9223372036854775807) (_ : -9223372036854775808 ≤ hi ∧ hi ≤ 9223372036854775807) (hz : check ks err = 0) (h1 : hi < lo) :
    Calls Try.prog 22 #[vCv A n cap err, vSpan lo hi] w fun e w' => e = .returned (.tuple #[vRc (rcV ks err lo hi), .int .i64 (rcErr ks err lo hi)]) ∧ Below w.heap.size w w' := by
  have hC := fun W (hW : CAt W A n ks) => RCheck_any A n cap err ks W hW hm
  have HC := Lib.hid hC
  clear hC
  generalize hW : ((w.alloc (.cells #[.slice A n cap, .int .i64 err] 24)).alloc (.cells #[.int .i64 lo, .int .i64 hi] 26)).alloc (.cells #[.int .i64 0, .int .i64 0, .int .i64 0, .int .i64 0] 35) = W
  have hbw : Below w.heap.size w W := by rw [← hW]; exact (((Below.refl _ _).alloc (Nat.le_refl _) _).alloc (by simp) _).alloc (by simp; omega) _
  have hcb : Blk W w.heap.size 24 #[.slice A n cap, .int .i64 err] := by rw [← hW]; exact ((Blk.at_new _ _ rfl).alloc _).alloc _
  have hsb : Blk W (w.heap.size + 1) 26 #[.int .i64 lo, .int .i64 hi] := by rw [← hW]; exact (Blk.at_new _ _ (by simp)).alloc _
  have hrb : Blk W (w.heap.size + 2) 35 #[.int .i64 0, .int .i64 0, .int .i64 0, .int .i64 0] := by rw [← hW]; exact Blk.at_new _ _ (by simp)
  have HWE := Lib.hid hW
  clear hW

  have hz1 : (check ks err != 0) = false := by simp [hz]
  have he : rcErr ks err lo hi = 1 := by unfold rcErr; rw [if_neg (by simp [hz]), if_pos (by omega)]
  have HE := Lib.hid he
  have HV := Lib.hid (rc_zero he (by omega))
  have HA := Lib.hid (h.below hbw)
  clear he h
  rw [hz] at HC
  clear hz
  go_enter Try.func22, Try.ntmps22
  go_wp2_with fail
  rw [HWE.out]
  refine (HC.out _ HA.out).mono ?_; rintro e w1 ⟨rfl, hb1⟩
  have hr1 := hrb.below hb1
  have hs1 := hsb.below hb1
  have rc0 := hr1.cell 0
  have rc1 := hr1.cell 1
  have rc2 := hr1.cell 2
  have rc3 := hr1.cell 3
  simp only [List.getElem?_toArray, List.getElem?_cons_zero, List.getElem?_cons_succ] at rc0 rc1 rc2 rc3
  have rf0 := hr1.frozen 0
  have rf1 := hr1.frozen 1
  have rf2 := hr1.frozen 2
  have rf3 := hr1.frozen 3
  have rl := hr1.lt
  have sc0 := hs1.cell 0
  have sc1 := hs1.cell 1
  simp only [List.getElem?_toArray, List.getElem?_cons_zero, List.getElem?_cons_succ] at sc0 sc1
  have hb2 := hbw.trans (hb1.mono hbw.size)
  go_wp2
  exact bodyPost_ret (v := .tuple #[vRange 0 0 0 0, .int .i64 1]) (by simp [results, Try.results22, go_sem, rc0, rc1, rc2, rc3]) rfl ⟨by rw [HE.out, HV.out], ((((hb2.setCell (p := ⟨w.heap.size + 2, 0, none⟩) (by simp) _).setCell (p := ⟨w.heap.size + 2, 1, none⟩) (by simp) _).setCell (p := ⟨w.heap.size + 2, 2, none⟩) (by simp) _).setCell (p := ⟨w.heap.size + 2, 3, none⟩) (by simp) _)⟩
set_option maxRecDepth 100000 in
set_option maxHeartbeats 1600000 in
theorem RReach_arg2 (A : Option Addr) (n cap : Nat) (err : Int) (ks : List (Int × Int)) (lo hi : Int) (w : World) (h : CAt w A n ks) (hm : n ≤ 9223372036854775807) (hlo : -9223372036854775808 ≤ lo ∧ lo ≤ 9223372036854775807) (_ : -9223372036854775808 ≤ hi ∧ hi ≤ 9223372036854775807) (hz : check ks err = 0) (h1 : ¬ hi < lo) (h2 : lo < -131072) :
    Calls Try.prog 22 #[vCv A n cap err, vSpan lo hi] w fun e w' => e = .returned (.tuple #[vRc (rcV ks err lo hi), .int .i64 (rcErr ks err lo hi)]) ∧ Below w.heap.size w w' := by
  have hC := fun W (hW : CAt W A n ks) => RCheck_any A n cap err ks W hW hm
  have HC := Lib.hid hC
  clear hC
  generalize hW : ((w.alloc (.cells #[.slice A n cap, .int .i64 err] 24)).alloc (.cells #[.int .i64 lo, .int .i64 hi] 26)).alloc (.cells #[.int .i64 0, .int .i64 0, .int .i64 0, .int .i64 0] 35) = W
  have hbw : Below w.heap.size w W := by rw [← hW]; exact (((Below.refl _ _).alloc (Nat.le_refl _) _).alloc (by simp) _).alloc (by simp; omega) _
  have hcb : Blk W w.heap.size 24 #[.slice A n cap, .int .i64 err] := by rw [← hW]; exact ((Blk.at_new _ _ rfl).alloc _).alloc _
  have hsb : Blk W (w.heap.size + 1) 26 #[.int .i64 lo, .int .i64 hi] := by rw [← hW]; exact (Blk.at_new _ _ (by simp)).alloc _
  have hrb : Blk W (w.heap.size + 2) 35 #[.int .i64 0, .int .i64 0, .int .i64 0, .int .i64 0] := by rw [← hW]; exact Blk.at_new _ _ (by simp)
  have HWE := Lib.hid hW
  clear hW

  have hz1 : (check ks err != 0) = false := by simp [hz]
  have he : rcErr ks err lo hi = 1 := by unfold rcErr; rw [if_neg (by simp [hz]), if_pos (by omega)]
  have HE := Lib.hid he
  have HV := Lib.hid (rc_zero he (by omega))
  have HA := Lib.hid (h.below hbw)
  clear he h
  rw [hz] at HC
  clear hz
  go_enter Try.func22, Try.ntmps22
  go_wp2_with fail
  rw [HWE.out]
  refine (HC.out _ HA.out).mono ?_; rintro e w1 ⟨rfl, hb1⟩
  have hr1 := hrb.below hb1
  have hs1 := hsb.below hb1
  have rc0 := hr1.cell 0
  have rc1 := hr1.cell 1
  have rc2 := hr1.cell 2
  have rc3 := hr1.cell 3
  simp only [List.getElem?_toArray, List.getElem?_cons_zero, List.getElem?_cons_succ] at rc0 rc1 rc2 rc3
  have rf0 := hr1.frozen 0
  have rf1 := hr1.frozen 1
  have rf2 := hr1.frozen 2
  have rf3 := hr1.frozen 3
  have rl := hr1.lt
  have sc0 := hs1.cell 0
  have sc1 := hs1.cell 1
  simp only [List.getElem?_toArray, List.getElem?_cons_zero, List.getElem?_cons_succ] at sc0 sc1
  have hb2 := hbw.trans (hb1.mono hbw.size)
  go_wp2
  exact bodyPost_ret (v := .tuple #[vRange 0 0 0 0, .int .i64 1]) (by simp [results, Try.results22, go_sem, rc0, rc1, rc2, rc3]) rfl ⟨by rw [HE.out, HV.out], ((((hb2.setCell (p := ⟨w.heap.size + 2, 0, none⟩) (by simp) _).setCell (p := ⟨w.heap.size + 2, 1, none⟩) (by simp) _).setCell (p := ⟨w.heap.size + 2, 2, none⟩) (by simp) _).setCell (p := ⟨w.heap.size + 2, 3, none⟩) (by simp) _)⟩
set_option maxRecDepth 100000 in
set_option maxHeartbeats 1600000 in
theorem RReach_arg3 (A : Option Addr) (n cap : Nat) (err : Int) (ks : List (Int × Int)) (lo hi : Int) (w : World) (h : CAt w A n ks) (hm : n ≤ 9223372036854775807) (_ : -9223372036854775808 ≤ lo ∧ lo ≤ 9223372036854775807) (hhi : -9223372036854775808 ≤ hi ∧ hi ≤ 9223372036854775807) (hz : check ks err = 0) (h1 : ¬ hi < lo) (h2 : ¬ lo < -131072) (h3 : 131072 < hi) :
    Calls Try.prog 22 #[vCv A n cap err, vSpan lo hi] w fun e w' => e = .returned (.tuple #[vRc (rcV ks err lo hi), .int .i64 (rcErr ks err lo hi)]) ∧ Below w.heap.size w w' := by
  have hC := fun W (hW : CAt W A n ks) => RCheck_any A n cap err ks W hW hm
  have HC := Lib.hid hC
  clear hC
  generalize hW : ((w.alloc (.cells #[.slice A n cap, .int .i64 err] 24)).alloc (.cells #[.int .i64 lo, .int .i64 hi] 26)).alloc (.cells #[.int .i64 0, .int .i64 0, .int .i64 0, .int .i64 0] 35) = W
  have hbw : Below w.heap.size w W := by rw [← hW]; exact (((Below.refl _ _).alloc (Nat.le_refl _) _).alloc (by simp) _).alloc (by simp; omega) _
  have hcb : Blk W w.heap.size 24 #[.slice A n cap, .int .i64 err] := by rw [← hW]; exact ((Blk.at_new _ _ rfl).alloc _).alloc _
  have hsb : Blk W (w.heap.size + 1) 26 #[.int .i64 lo, .int .i64 hi] := by rw [← hW]; exact (Blk.at_new _ _ (by simp)).alloc _
  have hrb : Blk W (w.heap.size + 2) 35 #[.int .i64 0, .int .i64 0, .int .i64 0, .int .i64 0] := by rw [← hW]; exact Blk.at_new _ _ (by simp)
  have HWE := Lib.hid hW
  clear hW

  have hz1 : (check ks err != 0) = false := by simp [hz]
  have he : rcErr ks err lo hi = 1 := by unfold rcErr; rw [if_neg (by simp [hz]), if_pos (by omega)]
  have HE := Lib.hid he
  have HV := Lib.hid (rc_zero he (by omega))
  have HA := Lib.hid (h.below hbw)
  clear he h
  rw [hz] at HC
  clear hz
  go_enter Try.func22, Try.ntmps22
  go_wp2_with fail
  rw [HWE.out]
  refine (HC.out _ HA.out).mono ?_; rintro e w1 ⟨rfl, hb1⟩
  have hr1 := hrb.below hb1
  have hs1 := hsb.below hb1
  have rc0 := hr1.cell 0
  have rc1 := hr1.cell 1
  have rc2 := hr1.cell 2
  have rc3 := hr1.cell 3
  simp only [List.getElem?_toArray, List.getElem?_cons_zero, List.getElem?_cons_succ] at rc0 rc1 rc2 rc3
  have rf0 := hr1.frozen 0
  have rf1 := hr1.frozen 1
  have rf2 := hr1.frozen 2
  have rf3 := hr1.frozen 3
  have rl := hr1.lt
  have sc0 := hs1.cell 0
  have sc1 := hs1.cell 1
  simp only [List.getElem?_toArray, List.getElem?_cons_zero, List.getElem?_cons_succ] at sc0 sc1
  have hb2 := hbw.trans (hb1.mono hbw.size)
  go_wp2
  exact bodyPost_ret (v := .tuple #[vRange 0 0 0 0, .int .i64 1]) (by simp [results, Try.results22, go_sem, rc0, rc1, rc2, rc3]) rfl ⟨by rw [HE.out, HV.out], ((((hb2.setCell (p := ⟨w.heap.size + 2, 0, none⟩) (by simp) _).setCell (p := ⟨w.heap.size + 2, 1, none⟩) (by simp) _).setCell (p := ⟨w.heap.size + 2, 2, none⟩) (by simp) _).setCell (p := ⟨w.heap.size + 2, 3, none⟩) (by simp) _)⟩
set_option maxRecDepth 100000 in
set_option maxHeartbeats 1600000 in
theorem RReach_state (A : Option Addr) (n cap : Nat) (err : Int) (ks : List (Int × Int)) (lo hi : Int) (w : World) (h : CAt w A n ks) (hm : n ≤ 9223372036854775807) (hlo : -9223372036854775808 ≤ lo ∧ lo ≤ 9223372036854775807) (hhi : -9223372036854775808 ≤ hi ∧ hi ≤ 9223372036854775807) (hz : check ks err = 0) (h1 : ¬ hi < lo) (h2 : ¬ lo < -131072) (h3 : ¬ 131072 < hi) (hr : risingI ks = 0) :
    Calls Try.prog 22 #[vCv A n cap err, vSpan lo hi] w fun e w' => e = .returned (.tuple #[vRc (rcV ks err lo hi), .int .i64 (rcErr ks err lo hi)]) ∧ Below w.heap.size w w' := by
  have hC := fun W (hW : CAt W A n ks) => RCheck_any A n cap err ks W hW hm
  have HC := Lib.hid hC
  clear hC
  generalize hW : ((w.alloc (.cells #[.slice A n cap, .int .i64 err] 24)).alloc (.cells #[.int .i64 lo, .int .i64 hi] 26)).alloc (.cells #[.int .i64 0, .int .i64 0, .int .i64 0, .int .i64 0] 35) = W
  have hbw : Below w.heap.size w W := by rw [← hW]; exact (((Below.refl _ _).alloc (Nat.le_refl _) _).alloc (by simp) _).alloc (by simp; omega) _
  have hcb : Blk W w.heap.size 24 #[.slice A n cap, .int .i64 err] := by rw [← hW]; exact ((Blk.at_new _ _ rfl).alloc _).alloc _
  have hsb : Blk W (w.heap.size + 1) 26 #[.int .i64 lo, .int .i64 hi] := by rw [← hW]; exact (Blk.at_new _ _ (by simp)).alloc _
  have hrb : Blk W (w.heap.size + 2) 35 #[.int .i64 0, .int .i64 0, .int .i64 0, .int .i64 0] := by rw [← hW]; exact Blk.at_new _ _ (by simp)
  have HWE := Lib.hid hW
  clear hW

  have hz1 : (check ks err != 0) = false := by simp [hz]
  obtain ⟨hv, hE1, hE2⟩ := check_zero hz
  have hpos := hv.pos
  have hvle := hv.le
  have hlen := h.len
  obtain ⟨b, off, hAe, hkn⟩ := h.at_ (by omega)
  subst hAe
  subst hlen
  have hR := fun W (hW : Kn W b off ks) => way_any b off cap err ks W hW hv
  have HR := Lib.hid hR
  have HK := Lib.hid (hkn.below hbw)
  have HVa := Lib.hid hv
  clear hR
  have he : rcErr ks err lo hi = 4 := by unfold rcErr; rw [if_neg (by simp [hz]), if_neg (by omega), if_pos hr]
  have HE := Lib.hid he
  have HV := Lib.hid (rc_zero he (by omega))
  have hr1 : (risingI ks == 0) = true := by simpa using hr
  clear he hr
  have HA := Lib.hid (h.below hbw)
  rw [hz] at HC
  clear h hkn hv hz
  go_enter Try.func22, Try.ntmps22
  go_wp2_with fail
  rw [HWE.out]
  refine (HC.out _ HA.out).mono ?_; rintro e w1 ⟨rfl, hb1⟩
  have hs1 := hsb.below hb1
  have hc1 := hcb.below hb1
  have sc0 := hs1.cell 0
  have sc1 := hs1.cell 1
  simp only [List.getElem?_toArray, List.getElem?_cons_zero, List.getElem?_cons_succ] at sc0 sc1
  have cc0 := hc1.cell 0
  have cc1 := hc1.cell 1
  simp only [List.getElem?_toArray, List.getElem?_cons_zero, List.getElem?_cons_succ] at cc0 cc1
  go_wp2_with (go_at_call 76; refine (HR.out _ (HK.out.below hb1)).mono ?_; rintro e w2 ⟨rfl, hb2⟩; have hb3 := hb1.trans (hb2.mono hb1.size); have hr2 := hrb.below hb3; have rc0 := hr2.cell 0; have rc1 := hr2.cell 1; have rc2 := hr2.cell 2; have rc3 := hr2.cell 3; simp only [List.getElem?_toArray, List.getElem?_cons_zero, List.getElem?_cons_succ] at rc0 rc1 rc2 rc3; have rf0 := hr2.frozen 0; have rf1 := hr2.frozen 1; have rf2 := hr2.frozen 2; have rf3 := hr2.frozen 3; have rl := hr2.lt)
  have hb4 := hbw.trans (hb3.mono hbw.size)
  exact bodyPost_ret (v := .tuple #[vRange 0 0 0 0, .int .i64 4]) (by simp [results, Try.results22, go_sem, rc0, rc1, rc2, rc3]) rfl ⟨by rw [HE.out, HV.out], ((((hb4.setCell (p := ⟨w.heap.size + 2, 0, none⟩) (by simp) _).setCell (p := ⟨w.heap.size + 2, 1, none⟩) (by simp) _).setCell (p := ⟨w.heap.size + 2, 2, none⟩) (by simp) _).setCell (p := ⟨w.heap.size + 2, 3, none⟩) (by simp) _)⟩

theorem rise_one {ks : List (Int × Int)} (hv : Valid ks) (hr : risingI ks ≠ 0) : (risingI ks = 1) ∨ (risingI ks = -1 ∧ kx ks 0 ≠ kx ks (ks.length - 1)) := by
  unfold risingI at hr ⊢
  by_cases hu : upTo ks (ks.length - 1) = true
  · rw [if_pos hu]; exact .inl rfl
  rw [if_neg hu] at hr ⊢
  by_cases hd : dnTo ks (ks.length - 1) = true
  · rw [if_pos hd]
    refine .inr ⟨rfl, fun h => hu ?_⟩
    have hp := hv.pos
    by_cases h1 : ks.length = 1
    · rw [h1]; rfl
    · have := hv.up 0 (by omega)
      have := kx_mono hv (ks.length - 1) 1 (by omega) (by omega)
      simp only [Nat.zero_add] at *
      omega
  · rw [if_neg hd] at hr; exact absurd rfl hr

set_option maxRecDepth 100000 in
set_option maxHeartbeats 3200000 in
theorem RReach_rest (A : Option Addr) (n cap : Nat) (err : Int) (ks : List (Int × Int)) (lo hi : Int) (w : World) (h : CAt w A n ks) (hm : n ≤ 9223372036854775807) (hz : check ks err = 0) (h1 : ¬ hi < lo) (h2 : ¬ lo < -131072) (h3 : ¬ 131072 < hi) (hr : risingI ks ≠ 0) :
    Calls Try.prog 22 #[vCv A n cap err, vSpan lo hi] w fun e w' => e = .returned (.tuple #[vRc (rcV ks err lo hi), .int .i64 (rcErr ks err lo hi)]) ∧ Below w.heap.size w w' := by
  have HC := Lib.hid (fun W (hW : CAt W A n ks) => hz ▸ RCheck_any A n cap err ks W hW hm)
  generalize hW : ((w.alloc (.cells #[.slice A n cap, .int .i64 err] 24)).alloc (.cells #[.int .i64 lo, .int .i64 hi] 26)).alloc (.cells #[.int .i64 0, .int .i64 0, .int .i64 0, .int .i64 0] 35) = W
  have hbw : Below w.heap.size w W := by rw [← hW]; exact (((Below.refl _ _).alloc (Nat.le_refl _) _).alloc (by simp) _).alloc (by simp; omega) _
  have hcb : Blk W w.heap.size 24 #[.slice A n cap, .int .i64 err] := by rw [← hW]; exact ((Blk.at_new _ _ rfl).alloc _).alloc _
  have hsb : Blk W (w.heap.size + 1) 26 #[.int .i64 lo, .int .i64 hi] := by rw [← hW]; exact (Blk.at_new _ _ (by simp)).alloc _
  have hrb : Blk W (w.heap.size + 1 + 1) 35 #[.int .i64 0, .int .i64 0, .int .i64 0, .int .i64 0] := by rw [← hW]; exact Blk.at_new _ _ (by simp)
  have HWE := Lib.hid hW
  clear hW
  obtain ⟨hv, hE1, hE2⟩ := check_zero hz
  have hpos := hv.pos
  have hvle := hv.le
  have hlen := h.len
  obtain ⟨b, off, hAe, hkn⟩ := h.at_ (by omega)
  subst hAe
  subst hlen
  have HR := Lib.hid (fun W (hW : Kn W b off ks) => way_any b off cap err ks W hW hv)
  have HDo := Lib.hid (fun W (hW : Kn W b off ks) => Rdomain_any b off ks.length cap err ks W hW rfl hpos (by omega))
  have HWh := Lib.hid (fun y W (hW : Kn W b off ks) => Rwhere_any b off cap err ks y W hW hv)
  have HK := Lib.hid (hkn.below hbw)
  have HKn := Lib.hid hkn
  have HA := Lib.hid (h.below hbw)
  have HRo := Lib.hid (rise_one hv hr)
  have he : rcErr ks err lo hi = if max (lo - err) (min (ky ks 0) (ky ks (ks.length - 1))) > min (hi + err) (max (ky ks 0) (ky ks (ks.length - 1))) then 5 else 0 := by
    unfold rcErr rcLeast rcMost
    rw [if_neg (by simp [hz]), if_neg (by omega), if_neg hr]
    by_cases hc : hi + err < min (ky ks 0) (ky ks (ks.length - 1)) ∨ lo - err > max (ky ks 0) (ky ks (ks.length - 1))
    · rw [if_pos hc, if_pos (by omega)]
    · rw [if_neg hc, if_neg (by omega)]
  have HE := Lib.hid he
  have hr1 : (risingI ks == 0) = false := by simpa using hr
  have HVv := Lib.hid (show rcV ks err lo hi = if rcErr ks err lo hi = 0 then
    if risingI ks < 0 then ((whN ks (min (hi + err) (max (ky ks 0) (ky ks (ks.length - 1)))), whD ks (min (hi + err) (max (ky ks 0) (ky ks (ks.length - 1))))), (whN ks (max (lo - err) (min (ky ks 0) (ky ks (ks.length - 1)))), whD ks (max (lo - err) (min (ky ks 0) (ky ks (ks.length - 1))))))
    else ((whN ks (max (lo - err) (min (ky ks 0) (ky ks (ks.length - 1)))), whD ks (max (lo - err) (min (ky ks 0) (ky ks (ks.length - 1))))), (whN ks (min (hi + err) (max (ky ks 0) (ky ks (ks.length - 1)))), whD ks (min (hi + err) (max (ky ks 0) (ky ks (ks.length - 1))))))
  else ((0, 0), (0, 0)) from rfl)
  obtain ⟨by1, by2⟩ := hv.y0 0 hpos
  obtain ⟨bz1, bz2⟩ := hv.y0 (ks.length - 1) (by omega)
  clear he h hkn hv hz hr
  go_enter Try.func22, Try.ntmps22
  go_wp2_with fail
  rw [HWE.out]
  refine (HC.out _ HA.out).mono ?_; rintro e w1 ⟨rfl, hb1⟩
  have hs1 := hsb.below hb1
  have hc1 := hcb.below hb1
  have cc0 := hc1.cell 0
  have cc1 := hc1.cell 1
  simp only [List.getElem?_toArray, List.getElem?_cons_zero, List.getElem?_cons_succ] at cc0 cc1
  have sc0 := hs1.cell 0
  have sc1 := hs1.cell 1
  simp only [List.getElem?_toArray, List.getElem?_cons_zero, List.getElem?_cons_succ] at sc0 sc1
  go_wp2_with fail
  refine (HR.out _ (HK.out.below hb1)).mono ?_; rintro e w2 ⟨rfl, hb2⟩
  have hb3 := hb1.trans (hb2.mono hb1.size)
  clear hs1 hc1 sc0 sc1 cc0 cc1
  have hc2 := hcb.below hb3
  have cc0 := hc2.cell 0
  have cc1 := hc2.cell 1
  simp only [List.getElem?_toArray, List.getElem?_cons_zero, List.getElem?_cons_succ] at cc0 cc1
  go_wp2_with fail
  refine (HDo.out _ (HK.out.below hb3)).mono ?_; rintro e w3 ⟨rfl, hb4⟩
  have hb5 := hb3.trans (hb4.mono hb3.size)
  clear hc2 cc0 cc1
  have hc3 := hcb.below hb5
  have hs3 := hsb.below hb5
  have hr3 := hrb.below hb5
  have cc0 := hc3.cell 0
  have cc1 := hc3.cell 1
  simp only [List.getElem?_toArray, List.getElem?_cons_zero, List.getElem?_cons_succ] at cc0 cc1
  have sc0 := hs3.cell 0
  have sc1 := hs3.cell 1
  simp only [List.getElem?_toArray, List.getElem?_cons_zero, List.getElem?_cons_succ] at sc0 sc1
  have rc0 := hr3.cell 0
  have rc1 := hr3.cell 1
  have rc2 := hr3.cell 2
  have rc3 := hr3.cell 3
  simp only [List.getElem?_toArray, List.getElem?_cons_zero, List.getElem?_cons_succ] at rc0 rc1 rc2 rc3
  have rf0 := hr3.frozen 0
  have rf1 := hr3.frozen 1
  have rf2 := hr3.frozen 2
  have rf3 := hr3.frozen 3
  have cl := hc3.lt
  have sl := hs3.lt
  have rl := hr3.lt
  have hK3 := HK.out.below hb5
  have ky0 := hK3.y 0 hpos
  have kyl := hK3.y (ks.length - 1) (by omega)
  have hlb := hK3.lt
  have hlenl : ks.length - 1 < ks.length := by omega
  have hke : ((ks.length : Int) - 1) = ((ks.length - 1 : Nat) : Int) := by omega
  simp only [Nat.zero_mul, Nat.add_zero] at ky0
  unfold domLo domHi at *
  generalize ky ks 0 = y0 at *
  generalize ky ks (ks.length - 1) = yl at *
  generalize kx ks 0 = x0 at *
  generalize kx ks (ks.length - 1) = xl at *
  have hb6 := hbw.trans (hb5.mono hbw.size)
  have hb6a := hb6.alloc hb6.size (.cells #[.int .i64 x0, .int .i64 xl] 26)
  have hb5a := hb5.alloc hb5.size (.cells #[.int .i64 x0, .int .i64 xl] 26)
  have HC3 := Lib.hid (hc3.alloc (.cells #[.int .i64 x0, .int .i64 xl] 26))
  have HR3 := Lib.hid (hr3.alloc (.cells #[.int .i64 x0, .int .i64 xl] 26))
  have HD3 := Lib.hid (Blk.new w3 26 #[.int .i64 x0, .int .i64 xl])
  by_cases hA : min (hi + err) (max y0 yl) < max (lo - err) (min y0 yl)
  · have hE5 : rcErr ks err lo hi = 5 := by rw [HE.out, if_pos hA]
    have HE5 := Lib.hid hE5
    have HV5 := Lib.hid (rc_zero hE5 (by omega))
    clear hE5
    go_wp2
    have hF := (blk_set4 hr3 (.int .i64 0) (.int .i64 0) (.int .i64 0) (.int .i64 0)).alloc (.cells #[.int .i64 x0, .int .i64 xl] 26)
    have k0 := hF.cell 0
    have k1 := hF.cell 1
    have k2 := hF.cell 2
    have k3 := hF.cell 3
    simp only [List.getElem?_toArray, List.getElem?_cons_zero, List.getElem?_cons_succ] at k0 k1 k2 k3
    exact bodyPost_ret (v := .tuple #[vRange 0 0 0 0, .int .i64 5]) (by simp [results, Try.results22, go_sem, k0, k1, k2, k3]) rfl ⟨by rw [HE5.out, HV5.out], (below_set4 hb6 (by omega) _ _ _ _).alloc (by simpa using hb6.size) _⟩
  have hE0 : rcErr ks err lo hi = 0 := by rw [HE.out, if_neg hA]
  have HE0 := Lib.hid hE0
  have HV0 := Lib.hid (HVv.out.trans (if_pos hE0))
  have HWA := Lib.hid (HWh.out (max (lo - err) (min y0 yl)))
  have HWB := Lib.hid (HWh.out (min (hi + err) (max y0 yl)))
  clear hE0
  generalize whN ks (max (lo - err) (min y0 yl)) = an at *
  generalize whD ks (max (lo - err) (min y0 yl)) = ad at *
  generalize whN ks (min (hi + err) (max y0 yl)) = bn at *
  generalize whD ks (min (hi + err) (max y0 yl)) = bd at *
  go_wp2_with fail
  refine (HWA.out _ (HK.out.below hb5a)).mono ?_; rintro e w4 ⟨rfl, hb7⟩
  clear hc3 hs3 hr3 cc0 cc1 sc0 sc1 rc0 rc1 rc2 rc3 rf0 rf1 rf2 rf3 cl sl rl ky0 kyl hlb hK3
  have hc4 := HC3.out.below hb7
  have hr4 := HR3.out.below hb7
  have hd4 := HD3.out.below hb7
  have hb8 := hb5a.trans (hb7.mono hb5a.size)
  have hb9 := hb6a.trans (hb7.mono hb6a.size)
  have cc0 := hc4.cell 0
  have cc1 := hc4.cell 1
  simp only [List.getElem?_toArray, List.getElem?_cons_zero, List.getElem?_cons_succ] at cc0 cc1
  have cl := hc4.lt
  have hb8a := hb8.alloc hb8.size (.cells #[.int .i64 an, .int .i64 ad] 30)
  have hb9a := hb9.alloc hb9.size (.cells #[.int .i64 an, .int .i64 ad] 30)
  go_wp2_with fail
  refine (HWB.out _ (HK.out.below hb8a)).mono ?_; rintro e w5 ⟨rfl, hb10⟩
  have hc5 := (hc4.alloc (.cells #[.int .i64 an, .int .i64 ad] 30)).below hb10
  have hr5 := (hr4.alloc (.cells #[.int .i64 an, .int .i64 ad] 30)).below hb10
  have hd5 := (hd4.alloc (.cells #[.int .i64 an, .int .i64 ad] 30)).below hb10
  have ha5 := (Blk.new w4 30 #[.int .i64 an, .int .i64 ad]).below hb10
  have hb11 := hb8a.trans (hb10.mono hb8a.size)
  have hb12 := hb9a.trans (hb10.mono hb9a.size)
  have hb11a := hb11.alloc hb11.size (.cells #[.int .i64 bn, .int .i64 bd] 30)
  have hb12a := hb12.alloc hb12.size (.cells #[.int .i64 bn, .int .i64 bd] 30)
  clear hc4 cc0 cc1 cl
  have cc0 := hc5.cell 0
  have cc1 := hc5.cell 1
  simp only [List.getElem?_toArray, List.getElem?_cons_zero, List.getElem?_cons_succ] at cc0 cc1
  have dc0 := hd5.cell 0
  have dc1 := hd5.cell 1
  simp only [List.getElem?_toArray, List.getElem?_cons_zero, List.getElem?_cons_succ] at dc0 dc1
  have rc0 := hr5.cell 0
  have rc1 := hr5.cell 1
  have rc2 := hr5.cell 2
  have rc3 := hr5.cell 3
  simp only [List.getElem?_toArray, List.getElem?_cons_zero, List.getElem?_cons_succ] at rc0 rc1 rc2 rc3
  have ac0 := ha5.cell 0
  have ac1 := ha5.cell 1
  simp only [List.getElem?_toArray, List.getElem?_cons_zero, List.getElem?_cons_succ] at ac0 ac1
  have rf0 := hr5.frozen 0
  have rf1 := hr5.frozen 1
  have rf2 := hr5.frozen 2
  have rf3 := hr5.frozen 3
  have cl := hc5.lt
  have dl := hd5.lt
  have rl := hr5.lt
  have al := ha5.lt
  have rl1 : w.heap.size + 1 < w5.heap.size := by omega
  have rl2 : w.heap.size + 1 ≠ w5.heap.size := by omega
  have rl3 : w.heap.size + 1 + 1 ≠ w5.heap.size := by omega
  by_cases hx : x0 = xl
  · have hup : ¬ risingI ks < 0 := by rcases HRo.out with h | h
                                      · omega
                                      · exact absurd hx h.2
    have HV1 := Lib.hid (HV0.out.trans (if_neg hup))
    have hxx : (x0 == xl) = true := by simpa using hx
    subst hx
    clear hup
    go_wp2
    have hF := (blk_set4 hr5 (.int .i64 an) (.int .i64 ad) (.int .i64 bn) (.int .i64 bd)).alloc (.cells #[.int .i64 bn, .int .i64 bd] 30)
    have k0 := hF.cell 0
    have k1 := hF.cell 1
    have k2 := hF.cell 2
    have k3 := hF.cell 3
    simp only [List.getElem?_toArray, List.getElem?_cons_zero, List.getElem?_cons_succ] at k0 k1 k2 k3
    have hz0 := hb12.size
    exact bodyPost_ret (v := .tuple #[vRange an ad bn bd, .int .i64 0]) (by simp [results, Try.results22, go_sem, k0, k1, k2, k3]) rfl ⟨by rw [HV1.out, HE0.out], (below_set4 hb12 (by omega) _ _ _ _).alloc (by simpa using hz0) _⟩
  have hxx : (x0 == xl) = false := by simpa using hx
  by_cases hup : risingI ks = 1
  · have HV1 := Lib.hid (HV0.out.trans (if_neg (by omega)))
    have hup1 : (risingI ks == 1) = true := by simpa using hup
    clear hx hup
    go_wp2_with fail
    refine (HR.out _ (HK.out.below hb11a)).mono ?_; rintro e w6 ⟨rfl, hb13⟩
    have hr6 := (hr5.alloc (.cells #[.int .i64 bn, .int .i64 bd] 30)).below hb13
    have ha6 := (ha5.alloc (.cells #[.int .i64 bn, .int .i64 bd] 30)).below hb13
    have hf6 := (Blk.new w5 30 #[.int .i64 bn, .int .i64 bd]).below hb13
    have hb14 := hb12a.trans (hb13.mono hb12a.size)
    clear rc0 rc1 rc2 rc3 rf0 rf1 rf2 rf3 rl ac0 ac1 al cc0 cc1 dc0 dc1
    have rc0 := hr6.cell 0
    have rc1 := hr6.cell 1
    have rc2 := hr6.cell 2
    have rc3 := hr6.cell 3
    simp only [List.getElem?_toArray, List.getElem?_cons_zero, List.getElem?_cons_succ] at rc0 rc1 rc2 rc3
    have ac0 := ha6.cell 0
    have ac1 := ha6.cell 1
    simp only [List.getElem?_toArray, List.getElem?_cons_zero, List.getElem?_cons_succ] at ac0 ac1
    have fc0 := hf6.cell 0
    have fc1 := hf6.cell 1
    simp only [List.getElem?_toArray, List.getElem?_cons_zero, List.getElem?_cons_succ] at fc0 fc1
    have rf0 := hr6.frozen 0
    have rf1 := hr6.frozen 1
    have rf2 := hr6.frozen 2
    have rf3 := hr6.frozen 3
    have rl := hr6.lt
    go_wp2
    have hF := blk_set4 hr6 (.int .i64 an) (.int .i64 ad) (.int .i64 bn) (.int .i64 bd)
    have k0 := hF.cell 0
    have k1 := hF.cell 1
    have k2 := hF.cell 2
    have k3 := hF.cell 3
    simp only [List.getElem?_toArray, List.getElem?_cons_zero, List.getElem?_cons_succ] at k0 k1 k2 k3
    exact bodyPost_ret (v := .tuple #[vRange an ad bn bd, .int .i64 0]) (by simp [results, Try.results22, go_sem, k0, k1, k2, k3]) rfl ⟨by rw [HV1.out, HE0.out], below_set4 hb14 (by omega) _ _ _ _⟩
  · have hneg : risingI ks < 0 := by rcases HRo.out with h | h
                                     · exact absurd h hup
                                     · omega
    have HV1 := Lib.hid (HV0.out.trans (if_pos hneg))
    have hup1 : (risingI ks == 1) = false := by simpa using hup
    clear hx hup hneg
    go_wp2_with fail
    refine (HR.out _ (HK.out.below hb11a)).mono ?_; rintro e w6 ⟨rfl, hb13⟩
    have hr6 := (hr5.alloc (.cells #[.int .i64 bn, .int .i64 bd] 30)).below hb13
    have ha6 := (ha5.alloc (.cells #[.int .i64 bn, .int .i64 bd] 30)).below hb13
    have hf6 := (Blk.new w5 30 #[.int .i64 bn, .int .i64 bd]).below hb13
    have hb14 := hb12a.trans (hb13.mono hb12a.size)
    clear rc0 rc1 rc2 rc3 rf0 rf1 rf2 rf3 rl ac0 ac1 al cc0 cc1 dc0 dc1
    have rc0 := hr6.cell 0
    have rc1 := hr6.cell 1
    have rc2 := hr6.cell 2
    have rc3 := hr6.cell 3
    simp only [List.getElem?_toArray, List.getElem?_cons_zero, List.getElem?_cons_succ] at rc0 rc1 rc2 rc3
    have ac0 := ha6.cell 0
    have ac1 := ha6.cell 1
    simp only [List.getElem?_toArray, List.getElem?_cons_zero, List.getElem?_cons_succ] at ac0 ac1
    have fc0 := hf6.cell 0
    have fc1 := hf6.cell 1
    simp only [List.getElem?_toArray, List.getElem?_cons_zero, List.getElem?_cons_succ] at fc0 fc1
    have rf0 := hr6.frozen 0
    have rf1 := hr6.frozen 1
    have rf2 := hr6.frozen 2
    have rf3 := hr6.frozen 3
    have rl := hr6.lt
    go_wp2
    have hF := blk_set4 hr6 (.int .i64 bn) (.int .i64 bd) (.int .i64 an) (.int .i64 ad)
    have k0 := hF.cell 0
    have k1 := hF.cell 1
    have k2 := hF.cell 2
    have k3 := hF.cell 3
    simp only [List.getElem?_toArray, List.getElem?_cons_zero, List.getElem?_cons_succ] at k0 k1 k2 k3
    exact bodyPost_ret (v := .tuple #[vRange bn bd an ad, .int .i64 0]) (by simp [results, Try.results22, go_sem, k0, k1, k2, k3]) rfl ⟨by rw [HV1.out, HE0.out], below_set4 hb14 (by omega) _ _ _ _⟩

theorem RReach_any (A : Option Addr) (n cap : Nat) (err : Int) (ks : List (Int × Int)) (lo hi : Int) (w : World) (h : CAt w A n ks) (hm : n ≤ 9223372036854775807) (hlo : -9223372036854775808 ≤ lo ∧ lo ≤ 9223372036854775807) (hhi : -9223372036854775808 ≤ hi ∧ hi ≤ 9223372036854775807) :
    Calls Try.prog 22 #[vCv A n cap err, vSpan lo hi] w fun e w' => e = .returned (.tuple #[vRc (rcV ks err lo hi), .int .i64 (rcErr ks err lo hi)]) ∧ Below w.heap.size w w' := by
  by_cases hz : check ks err = 0
  case neg => exact RReach_check A n cap err ks lo hi w h hm hlo hhi hz
  by_cases h1 : hi < lo
  · exact RReach_arg1 A n cap err ks lo hi w h hm hlo hhi hz h1
  by_cases h2 : lo < -131072
  · exact RReach_arg2 A n cap err ks lo hi w h hm hlo hhi hz h1 h2
  by_cases h3 : 131072 < hi
  · exact RReach_arg3 A n cap err ks lo hi w h hm hlo hhi hz h1 h2 h3
  by_cases hr : risingI ks = 0
  · exact RReach_state A n cap err ks lo hi w h hm hlo hhi hz h1 h2 h3 hr
  exact RReach_rest A n cap err ks lo hi w h hm hz h1 h2 h3 hr
end Go.Proofs.Ytipablcbkoedbaa
