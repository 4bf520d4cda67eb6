/- Inverse. -/
import Derived.RangeFuncNested
import Derived.Shelf.Abstract
import Derived.RangeFuncBound
import Derived.RangeFuncCalls
import Derived.RangeFuncLeaves
import Derived.WalkKit
import Derived.OwnWalkIn
import Derived.TacticsInMore
import Derived.LoopNIn
import Derived.LoopIn
import Derived.WalkLawsBesides
import Derived.Deep.QuietTactic
import Derived.BigQuiet
import Derived.RegionTactic
import Derived.Lib.Hide
import Derived.Outline
import Derived.WalkSmall
import Derived.Test.YtipablcbkoedbaaProg
import Derived.Test.YtipablcbkoedbaaD2
namespace Go.Proofs.Ytipablcbkoedbaa
open Go.RowKit

theorem rising_ne {ks : List (Int × Int)} (h : risingI ks ≠ 0) : ∀ i, i + 1 < ks.length → ky ks (i + 1) ≠ ky ks i := by
  intro i hi
  unfold risingI at h
  by_cases hu : upTo ks (ks.length - 1) = true
  · unfold upTo at hu
    rw [List.all_eq_true] at hu
    have := hu i (List.mem_range.2 (by omega))
    simp only [decide_eq_true_eq] at this
    omega
  · by_cases hd : dnTo ks (ks.length - 1) = true
    · unfold dnTo at hd
      rw [List.all_eq_true] at hd
      have := hd i (List.mem_range.2 (by omega))
      simp only [decide_eq_true_eq] at this
      omega
    · rw [if_neg hu, if_neg hd] at h
      exact absurd rfl h

def ivErr (ks : List (Int × Int)) (err y : Int) : Int := if check ks err ≠ 0 then check ks err else if risingI ks = 0 then 4 else if (whF ks y).isSome = true then 0 else 3
def ivN (ks : List (Int × Int)) (err y : Int) : Int := if ivErr ks err y = 0 then whN ks y else 0
def ivD (ks : List (Int × Int)) (err y : Int) : Int := if ivErr ks err y = 0 then whD ks y else 0

set_option maxHeartbeats 800000 in
theorem Inverse_any (A : Option Addr) (n cap : Nat) (err : Int) (ks : List (Int × Int)) (y : Int) (w : World) (h : CAt w A n ks) (hm : n ≤ 9223372036854775807) :
    Calls Try.prog 19 #[vCv A n cap err, .int .i64 y] w fun e w' => e = .returned (.tuple #[vFrac (ivN ks err y) (ivD ks err y), .int .i64 (ivErr ks err y)]) ∧ Below w.heap.size w w' := by
  have hC := fun W (hW : CAt W A n ks) => Check_any A n cap err ks W hW hm
  have HC := Lib.hid hC
  clear hC
  generalize hW : (w.alloc (.cells #[.slice A n cap, .int .i64 err] 24)).alloc (.cells #[.int .i64 0, .int .i64 0] 30) = W
  have hbw : Below w.heap.size w W := by rw [← hW]; exact ((Below.refl _ _).alloc (Nat.le_refl _) _).alloc (by simp) _
  have hcb : Blk W w.heap.size 24 #[.slice A n cap, .int .i64 err] := by rw [← hW]; exact (Blk.at_new _ _ rfl).alloc _
  have hrb : Blk W (w.heap.size + 1) 30 #[.int .i64 0, .int .i64 0] := by rw [← hW]; exact Blk.at_new _ _ (by simp)
  have HWE := Lib.hid hW
  clear hW
  by_cases hz : check ks err = 0
  case neg =>
    have hz1 : (check ks err != 0) = true := by simpa using hz
    have he : ivErr ks err y = check ks err := by unfold ivErr; rw [if_pos hz]
    have hn0 : ivN ks err y = 0 := by unfold ivN; rw [he, if_neg hz]
    have hd0 : ivD ks err y = 0 := by unfold ivD; rw [he, if_neg hz]
    have HE := Lib.hid he
    have HN := Lib.hid hn0
    have HD := Lib.hid hd0
    have HA := Lib.hid (h.below hbw)
    clear he hn0 hd0 hz h
    go_enter Try.func19, Try.ntmps19
    go_wp2_with fail
    rw [HWE.out]
    refine (HC.out _ HA.out).mono ?_; rintro e w1 ⟨rfl, hb1⟩
    have hr1 := hrb.below hb1
    have hc0 := hr1.cell 0
    have hc1 := hr1.cell 1
    have hf0 := hr1.frozen 0
    have hf1 := hr1.frozen 1
    simp only [List.getElem?_toArray, List.getElem?_cons_zero, List.getElem?_cons_succ] at hc0 hc1
    have hb2 := hbw.trans (hb1.mono hbw.size)
    go_wp2
    exact bodyPost_ret (v := .tuple #[vFrac 0 0, .int .i64 (check ks err)]) (by simp [results, Try.results19, go_sem, hc0, hc1]) rfl ⟨by rw [HE.out, HN.out, HD.out], (hb2.setCell (p := ⟨w.heap.size + 1, 0, none⟩) (by simp) _).setCell (p := ⟨w.heap.size + 1, 1, none⟩) (by simp) _⟩
  have hz1 : (check ks err != 0) = false := by simp [hz]
  obtain ⟨hv, hE1, hE2⟩ := check_zero hz
  have hpos := hv.pos
  have hvle := hv.le
  have hlen := h.len
  obtain ⟨b, off, hAe, hkn⟩ := h.at_ (by omega)
  subst hAe
  subst hlen
  have hR := fun W (hW : Kn W b off ks) => rising_any b off cap err ks W hW hv
  have HR := Lib.hid hR
  have HA := Lib.hid (h.below hbw)
  have HK := Lib.hid (hkn.below hbw)
  have HV := Lib.hid hv
  have HZ := Lib.hid hz
  clear hR h hkn hv hz
  by_cases hr : risingI ks = 0
  · have he : ivErr ks err y = 4 := by unfold ivErr; rw [if_neg (by simp [HZ.out]), if_pos hr]
    have hn0 : ivN ks err y = 0 := by unfold ivN; rw [he, if_neg (by omega)]
    have hd0 : ivD ks err y = 0 := by unfold ivD; rw [he, if_neg (by omega)]
    have HE := Lib.hid he
    have HN := Lib.hid hn0
    have HD := Lib.hid hd0
    have hr1 : (risingI ks == 0) = true := by simpa using hr
    clear he hn0 hd0
    go_enter Try.func19, Try.ntmps19
    go_wp2_with fail
    rw [HWE.out]
    refine (HC.out _ HA.out).mono ?_; rintro e w1 ⟨rfl, hb1⟩
    have hc1 := hcb.below hb1
    have hk0 := hc1.cell 0
    have hk1 := hc1.cell 1
    simp only [List.getElem?_toArray, List.getElem?_cons_zero, List.getElem?_cons_succ] at hk0 hk1
    go_wp2_with (go_at_call 74; refine (HR.out _ (HK.out.below hb1)).mono ?_; rintro e w2 ⟨rfl, hb2⟩; have hb3 := hb1.trans (hb2.mono hb1.size); have hr2 := hrb.below hb3; have g0 := hr2.cell 0; have g1 := hr2.cell 1; have f0 := hr2.frozen 0; have f1 := hr2.frozen 1; have hrl := hr2.lt; simp only [List.getElem?_toArray, List.getElem?_cons_zero, List.getElem?_cons_succ] at g0 g1)
    have hb4 := hbw.trans (hb3.mono hbw.size)
    exact bodyPost_ret (v := .tuple #[vFrac 0 0, .int .i64 4]) (by simp [results, Try.results19, go_sem, g0, g1]) rfl ⟨by rw [HE.out, HN.out, HD.out], (hb4.setCell (p := ⟨w.heap.size + 1, 0, none⟩) (by simp) _).setCell (p := ⟨w.heap.size + 1, 1, none⟩) (by simp) _⟩
  · have hWh := fun W (hW : Kn W b off ks) => where_any b off cap err ks y W hW HV.out (rising_ne hr)
    have HWh := Lib.hid hWh
    have hr1 : (risingI ks == 0) = false := by simpa using hr
    have he : ivErr ks err y = if (whF ks y).isSome = true then 0 else 3 := by unfold ivErr; rw [if_neg (by simp [HZ.out]), if_neg hr]
    have HE := Lib.hid he
    have HN := Lib.hid (show ivN ks err y = if ivErr ks err y = 0 then whN ks y else 0 from rfl)
    have HD := Lib.hid (show ivD ks err y = if ivErr ks err y = 0 then whD ks y else 0 from rfl)
    clear he hWh hr
    generalize (whF ks y).isSome = is at *
    generalize whN ks y = qn at *
    generalize whD ks y = qd at *
    cases is with
    | true =>
      go_enter Try.func19, Try.ntmps19
      go_wp2_with fail
      rw [HWE.out]
      refine (HC.out _ HA.out).mono ?_; rintro e w1 ⟨rfl, hb1⟩
      have hc1 := hcb.below hb1
      have hk0 := hc1.cell 0
      have hk1 := hc1.cell 1
      simp only [List.getElem?_toArray, List.getElem?_cons_zero, List.getElem?_cons_succ] at hk0 hk1
      go_wp2_with (go_at_call 74; refine (HR.out _ (HK.out.below hb1)).mono ?_; rintro e w2 ⟨rfl, hb2⟩; have hb3 := hb1.trans (hb2.mono hb1.size); have hc2 := hcb.below hb3; have g0 := hc2.cell 0; have g1 := hc2.cell 1; simp only [List.getElem?_toArray, List.getElem?_cons_zero, List.getElem?_cons_succ] at g0 g1)
      refine (HWh.out _ (HK.out.below hb3)).mono ?_; rintro e w3 ⟨rfl, hb4⟩
      have hb5 := hb3.trans (hb4.mono hb3.size)
      have hr5 := hrb.below hb5
      have c0 := hr5.cell 0
      have c1 := hr5.cell 1
      have f0 := hr5.frozen 0
      have f1 := hr5.frozen 1
      have hrl := hr5.lt
      simp only [List.getElem?_toArray, List.getElem?_cons_zero, List.getElem?_cons_succ] at c0 c1
      have hb6 := hbw.trans (hb5.mono hbw.size)
      go_wp2
      have hF := ((hr5.set_ 0 (.int .i64 qn)).set_ 1 (.int .i64 qd)).alloc (.cells #[.int .i64 qn, .int .i64 qd] 30)
      have k0 := hF.cell 0
      have k1 := hF.cell 1
      simp only [List.setIfInBounds_toArray, List.set_cons_zero, List.set_cons_succ, List.getElem?_toArray, List.getElem?_cons_zero, List.getElem?_cons_succ] at k0 k1
      exact bodyPost_ret (v := .tuple #[vFrac qn qd, .int .i64 0]) (by simp [results, Try.results19, go_sem, k0, k1]) rfl ⟨by rw [HN.out, HD.out, HE.out]; rfl, ((hb6.setCell (p := ⟨w.heap.size + 1, 0, none⟩) (by simp) _).setCell (p := ⟨w.heap.size + 1, 1, none⟩) (by simp) _).alloc (by simp [World.setCell]; have := hb6.size; omega) _⟩
    | false =>
      go_enter Try.func19, Try.ntmps19
      go_wp2_with fail
      rw [HWE.out]
      refine (HC.out _ HA.out).mono ?_; rintro e w1 ⟨rfl, hb1⟩
      have hc1 := hcb.below hb1
      have hk0 := hc1.cell 0
      have hk1 := hc1.cell 1
      simp only [List.getElem?_toArray, List.getElem?_cons_zero, List.getElem?_cons_succ] at hk0 hk1
      go_wp2_with (go_at_call 74; refine (HR.out _ (HK.out.below hb1)).mono ?_; rintro e w2 ⟨rfl, hb2⟩; have hb3 := hb1.trans (hb2.mono hb1.size); have hc2 := hcb.below hb3; have g0 := hc2.cell 0; have g1 := hc2.cell 1; simp only [List.getElem?_toArray, List.getElem?_cons_zero, List.getElem?_cons_succ] at g0 g1)
      refine (HWh.out _ (HK.out.below hb3)).mono ?_; rintro e w3 ⟨rfl, hb4⟩
      have hb5 := hb3.trans (hb4.mono hb3.size)
      have hr5 := hrb.below hb5
      have c0 := hr5.cell 0
      have c1 := hr5.cell 1
      have f0 := hr5.frozen 0
      have f1 := hr5.frozen 1
      have hrl := hr5.lt
      simp only [List.getElem?_toArray, List.getElem?_cons_zero, List.getElem?_cons_succ] at c0 c1
      have hb6 := hbw.trans (hb5.mono hbw.size)
      go_wp2
      have hF := ((hr5.set_ 0 (.int .i64 0)).set_ 1 (.int .i64 0)).alloc (.cells #[.int .i64 qn, .int .i64 qd] 30)
      have k0 := hF.cell 0
      have k1 := hF.cell 1
      simp only [List.setIfInBounds_toArray, List.set_cons_zero, List.set_cons_succ, List.getElem?_toArray, List.getElem?_cons_zero, List.getElem?_cons_succ] at k0 k1
      exact bodyPost_ret (v := .tuple #[vFrac 0 0, .int .i64 3]) (by simp [results, Try.results19, go_sem, k0, k1]) rfl ⟨by rw [HN.out, HD.out, HE.out]; rfl, ((hb6.setCell (p := ⟨w.heap.size + 1, 0, none⟩) (by simp) _).setCell (p := ⟨w.heap.size + 1, 1, none⟩) (by simp) _).alloc (by simp [World.setCell]; have := hb6.size; omega) _⟩
end Go.Proofs.Ytipablcbkoedbaa
