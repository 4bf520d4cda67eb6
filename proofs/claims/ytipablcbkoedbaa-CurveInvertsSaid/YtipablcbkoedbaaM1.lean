/- Rising of both; the reference's Steepest. -/
import Derived.RangeFuncNested
import Derived.Shelf.Abstract
import Derived.RangeFuncBound
import Derived.RangeFuncCalls
import Derived.RangeFuncLeaves
import Derived.WalkKit
import Derived.OwnWalkIn
import Derived.OwnWalk
import Derived.TacticsInMore
import Derived.LoopNIn
import Derived.LoopIn
import Derived.WalkLawsBesides
import Derived.Deep.QuietTactic
import Derived.BigQuiet
import Derived.RegionTactic
import Derived.Lib.Hide
import Derived.Outline
import Derived.WalkSmall
import Derived.Test.YtipablcbkoedbaaProg
import Derived.Test.YtipablcbkoedbaaH9
import Derived.Test.YtipablcbkoedbaaH4
namespace Go.Proofs.Ytipablcbkoedbaa
open Go.RowKit

def rsV (ks : List (Int × Int)) (err : Int) : Int := if check ks err = 0 then risingI ks else 0
theorem Rising_any (A : Option Addr) (n cap : Nat) (err : Int) (ks : List (Int × Int)) (w : World) (h : CAt w A n ks) (hm : n ≤ 9223372036854775807) :
    Calls Try.prog 46 #[vCv A n cap err] w fun e w' => e = .returned (.tuple #[.int .i64 (rsV ks err), .int .i64 (check ks err)]) ∧ Below w.heap.size w w' := by
  have HC := Lib.hid (fun W (hW : CAt W A n ks) => Check_any A n cap err ks W hW hm)
  have hbw := (Below.refl w.heap.size w).alloc (Nat.le_refl _) (.cells #[.slice A n cap, .int .i64 err] 24)
  have hcb := Blk.new w 24 #[.slice A n cap, .int .i64 err]
  have HA := Lib.hid (h.below hbw)
  by_cases hz : check ks err = 0
  case neg =>
    have hz1 : (check ks err != 0) = true := by simpa using hz
    have HE := Lib.hid (show rsV ks err = 0 by unfold rsV; rw [if_neg hz])
    clear hz h
    generalize check ks err = ce at *
    go_enter Try.func46, Try.ntmps46
    go_wp2_with fail
    refine (HC.out _ HA.out).mono ?_; rintro e w1 ⟨rfl, hb1⟩
    go_wp2
    go_ret2
    exact ⟨by rw [HE.out]; rfl, hbw.trans (hb1.mono hbw.size)⟩
  obtain ⟨hv, _, _⟩ := check_zero hz
  have hpos := hv.pos
  have hlen := h.len
  obtain ⟨b, off, hAe, hkn⟩ := h.at_ (by omega)
  subst hAe hlen
  have HR := Lib.hid (fun W (hW : Kn W b off ks) => rising_any b off cap err ks W hW hv)
  have HK := Lib.hid (hkn.below hbw)
  have HE := Lib.hid (show rsV ks err = risingI ks by unfold rsV; rw [if_pos hz])
  rw [hz] at HC
  rw [hz]
  clear hz h hkn hv
  generalize risingI ks = ri at *
  go_enter Try.func46, Try.ntmps46
  go_wp2_with fail
  refine (HC.out _ HA.out).mono ?_; rintro e w1 ⟨rfl, hb1⟩
  have hc1 := hcb.below hb1
  have cc0 := hc1.cell 0
  have cc1 := hc1.cell 1
  simp only [List.getElem?_toArray, List.getElem?_cons_zero, List.getElem?_cons_succ] at cc0 cc1
  have cl := hc1.lt
  have hb2 := hbw.trans (hb1.mono hbw.size)
  go_wp2_with fail
  refine (HR.out _ (HK.out.below hb1)).mono ?_; rintro e w2 ⟨rfl, hb3⟩
  go_wp2
  go_ret2
  exact ⟨by rw [HE.out]; rfl, hb2.trans (hb3.mono hb2.size)⟩
theorem RRising_any (A : Option Addr) (n cap : Nat) (err : Int) (ks : List (Int × Int)) (w : World) (h : CAt w A n ks) (hm : n ≤ 9223372036854775807) :
    Calls Try.prog 47 #[vCv A n cap err] w fun e w' => e = .returned (.tuple #[.int .i64 (rsV ks err), .int .i64 (check ks err)]) ∧ Below w.heap.size w w' := by
  have HC := Lib.hid (fun W (hW : CAt W A n ks) => RCheck_any A n cap err ks W hW hm)
  have hbw := (Below.refl w.heap.size w).alloc (Nat.le_refl _) (.cells #[.slice A n cap, .int .i64 err] 24)
  have hcb := Blk.new w 24 #[.slice A n cap, .int .i64 err]
  have HA := Lib.hid (h.below hbw)
  by_cases hz : check ks err = 0
  case neg =>
    have hz1 : (check ks err != 0) = true := by simpa using hz
    have HE := Lib.hid (show rsV ks err = 0 by unfold rsV; rw [if_neg hz])
    clear hz h
    generalize check ks err = ce at *
    go_enter Try.func47, Try.ntmps47
    go_wp2_with fail
    refine (HC.out _ HA.out).mono ?_; rintro e w1 ⟨rfl, hb1⟩
    go_wp2
    go_ret2
    exact ⟨by rw [HE.out]; rfl, hbw.trans (hb1.mono hbw.size)⟩
  obtain ⟨hv, _, _⟩ := check_zero hz
  have hpos := hv.pos
  have hlen := h.len
  obtain ⟨b, off, hAe, hkn⟩ := h.at_ (by omega)
  subst hAe hlen
  have HR := Lib.hid (fun W (hW : Kn W b off ks) => way_any b off cap err ks W hW hv)
  have HK := Lib.hid (hkn.below hbw)
  have HE := Lib.hid (show rsV ks err = risingI ks by unfold rsV; rw [if_pos hz])
  rw [hz] at HC
  rw [hz]
  clear hz h hkn hv
  generalize risingI ks = ri at *
  go_enter Try.func47, Try.ntmps47
  go_wp2_with fail
  refine (HC.out _ HA.out).mono ?_; rintro e w1 ⟨rfl, hb1⟩
  have hc1 := hcb.below hb1
  have cc0 := hc1.cell 0
  have cc1 := hc1.cell 1
  simp only [List.getElem?_toArray, List.getElem?_cons_zero, List.getElem?_cons_succ] at cc0 cc1
  have cl := hc1.lt
  have hb2 := hbw.trans (hb1.mono hbw.size)
  go_wp2_with fail
  refine (HR.out _ (HK.out.below hb1)).mono ?_; rintro e w2 ⟨rfl, hb3⟩
  go_wp2
  go_ret2
  exact ⟨by rw [HE.out]; rfl, hb2.trans (hb3.mono hb2.size)⟩

/-! ### Steepest -/
def slF (ks : List (Int × Int)) (i : Nat) : Int × Int := (lowN (ky ks (i + 1) - ky ks i) (kx ks (i + 1) - kx ks i), lowD (ky ks (i + 1) - ky ks i) (kx ks (i + 1) - kx ks i))
def slL (ks : List (Int × Int)) : List (Int × Int) := (List.range (ks.length - 1)).map (slF ks)
def stErr (ks : List (Int × Int)) (err : Int) : Int := if check ks err ≠ 0 then check ks err else if ks.length = 1 then 5 else 0
def stB (ks : List (Int × Int)) (err : Int) : (Int × Int) × Int := if stErr ks err = 0 then extr gtF (slL ks) (0, 0) else ((0, 0), 0)
theorem slL_len (ks : List (Int × Int)) : (slL ks).length = ks.length - 1 := by simp [slL]
theorem slL_at (ks : List (Int × Int)) (k : Nat) (h : k < ks.length - 1) : (slL ks).getD k (0, 0) = slF ks k := by
  simp [slL, List.getD_eq_getElem?_getD, h]
theorem slF_frb {ks : List (Int × Int)} (hv : Valid ks) {i : Nat} (hi : i + 1 < ks.length) : FrB (slF ks i) := by
  obtain ⟨a, b⟩ := hv.y0 i (by omega)
  obtain ⟨c, d⟩ := hv.y0 (i + 1) hi
  obtain ⟨e, f⟩ := hv.x0 i (by omega)
  obtain ⟨g, h⟩ := hv.x0 (i + 1) hi
  have hu := hv.up i hi
  obtain ⟨n1, n2⟩ := lowN_bd (n := ky ks (i + 1) - ky ks i) (d := kx ks (i + 1) - kx ks i) (M := 200000) (by omega) (by omega) (by omega)
  obtain ⟨d1, d2⟩ := lowD_bd (n := ky ks (i + 1) - ky ks i) (d := kx ks (i + 1) - kx ks i) (D := 2000) (by omega) (by omega)
  exact ⟨by show _ ≤ lowN _ _; omega, by show lowN _ _ ≤ _; omega, d1, by show lowD _ _ ≤ _; omega⟩
theorem slL_frb {ks : List (Int × Int)} (hv : Valid ks) : ∀ z ∈ slL ks, FrB z := by
  intro z hz
  obtain ⟨i, hi, rfl⟩ := List.mem_map.1 hz
  exact slF_frb hv (by have := List.mem_range.1 hi; omega)

set_option maxRecDepth 100000 in
set_option maxHeartbeats 3200000 in
theorem RSteepest_any (A : Option Addr) (n cap : Nat) (err : Int) (ks : List (Int × Int)) (w : World) (h : CAt w A n ks) (hm : n ≤ 9223372036854775807) :
    Calls Try.prog 49 #[vCv A n cap err] w fun e w' => e = .returned (vSteep (stB ks err).2 (stB ks err).1.1 (stB ks err).1.2 (stErr ks err)) ∧ Below w.heap.size w w' := by
  have HC := Lib.hid (fun W (hW : CAt W A n ks) => RCheck_any A n cap err ks W hW hm)
  generalize hW : (w.alloc (.cells #[.slice A n cap, .int .i64 err] 24)).alloc (.cells #[.int .i64 0, .int .i64 0, .int .i64 0, .int .i64 0] 51) = W
  have hbw : Below w.heap.size w W := by rw [← hW]; exact ((Below.refl _ _).alloc (Nat.le_refl _) _).alloc (by simp) _
  have hcb : Blk W w.heap.size 24 #[.slice A n cap, .int .i64 err] := by rw [← hW]; exact (Blk.at_new _ _ rfl).alloc _
  have hrb : Blk W (w.heap.size + 1) 51 #[.int .i64 0, .int .i64 0, .int .i64 0, .int .i64 0] := by rw [← hW]; exact Blk.at_new _ _ (by simp)
  have HWE := Lib.hid hW
  have HA := Lib.hid (h.below hbw)
  clear hW
  by_cases hz : check ks err = 0
  case neg =>
    have hz1 : (check ks err != 0) = true := by simpa using hz
    have he : stErr ks err = check ks err := by unfold stErr; rw [if_pos hz]
    have HE := Lib.hid (show stB ks err = ((0, 0), 0) by unfold stB; rw [he, if_neg hz])
    rw [he]
    clear hz h he
    generalize check ks err = ce at *
    go_enter Try.func49, Try.ntmps49
    go_wp2_with fail
    rw [HWE.out]
    refine (HC.out _ HA.out).mono ?_; rintro e w1 ⟨rfl, hb1⟩
    have hr1 := hrb.below hb1
    have rc0 := hr1.cell 0
    have rc1 := hr1.cell 1
    have rc2 := hr1.cell 2
    have rc3 := hr1.cell 3
    simp only [List.getElem?_toArray, List.getElem?_cons_zero, List.getElem?_cons_succ] at rc0 rc1 rc2 rc3
    have rf0 := hr1.frozen 0
    have rf1 := hr1.frozen 1
    have rf2 := hr1.frozen 2
    have rf3 := hr1.frozen 3
    have hb2 := hbw.trans (hb1.mono hbw.size)
    go_wp2
    have hF := blk_set4 hr1 (.int .i64 0) (.int .i64 0) (.int .i64 0) (.int .i64 ce)
    have k0 := hF.cell 0
    have k1 := hF.cell 1
    have k2 := hF.cell 2
    have k3 := hF.cell 3
    simp only [List.getElem?_toArray, List.getElem?_cons_zero, List.getElem?_cons_succ] at k0 k1 k2 k3
    exact bodyPost_ret (v := vSteep 0 0 0 ce) (by simp [results, Try.results49, go_sem, k0, k1, k2, k3]) rfl ⟨by rw [HE.out], below_set4 hb2 (by omega) _ _ _ _⟩
  obtain ⟨hv, _, _⟩ := check_zero hz
  have hpos := hv.pos
  have hle := hv.le
  have hlen := h.len
  obtain ⟨b, off, hAe, hkn⟩ := h.at_ (by omega)
  subst hAe hlen
  have HK := Lib.hid hkn
  rw [hz] at HC
  by_cases h1 : ks.length = 1
  · have he : stErr ks err = 5 := by unfold stErr; rw [if_neg (by simp [hz]), if_pos h1]
    have HE := Lib.hid (show stB ks err = ((0, 0), 0) by unfold stB; rw [he, if_neg (by omega)])
    rw [he]
    clear hz h he hkn hv
    have h11 : ((ks.length : Int) == 1) = true := by simp; omega
    generalize ks.length = kl at *
    subst h1
    go_enter Try.func49, Try.ntmps49
    go_wp2_with fail
    rw [HWE.out]
    refine (HC.out _ HA.out).mono ?_; rintro e w1 ⟨rfl, hb1⟩
    have hr1 := hrb.below hb1
    have hc1 := hcb.below hb1
    have rc0 := hr1.cell 0
    have rc1 := hr1.cell 1
    have rc2 := hr1.cell 2
    have rc3 := hr1.cell 3
    simp only [List.getElem?_toArray, List.getElem?_cons_zero, List.getElem?_cons_succ] at rc0 rc1 rc2 rc3
    have cc0 := hc1.cell 0
    have cc1 := hc1.cell 1
    simp only [List.getElem?_toArray, List.getElem?_cons_zero, List.getElem?_cons_succ] at cc0 cc1
    have rf0 := hr1.frozen 0
    have rf1 := hr1.frozen 1
    have rf2 := hr1.frozen 2
    have rf3 := hr1.frozen 3
    have hb2 := hbw.trans (hb1.mono hbw.size)
    go_wp2
    have hF := blk_set4 hr1 (.int .i64 0) (.int .i64 0) (.int .i64 0) (.int .i64 5)
    have k0 := hF.cell 0
    have k1 := hF.cell 1
    have k2 := hF.cell 2
    have k3 := hF.cell 3
    simp only [List.getElem?_toArray, List.getElem?_cons_zero, List.getElem?_cons_succ] at k0 k1 k2 k3
    exact bodyPost_ret (v := vSteep 0 0 0 5) (by simp [results, Try.results49, go_sem, k0, k1, k2, k3]) rfl ⟨by rw [HE.out], below_set4 hb2 (by omega) _ _ _ _⟩
  have he : stErr ks err = 0 := by unfold stErr; rw [if_neg (by simp [hz]), if_neg h1]
  have HE := Lib.hid (show stB ks err = exGo gtF (slL ks) (0, 0) (ks.length - 1) by unfold stB; rw [he, if_pos rfl]; unfold extr; rw [slL_len])
  rw [he]
  have HV := Lib.hid hv
  have HFr := Lib.hid (slL_frb hv)
  have h11 : ((ks.length : Int) == 1) = false := by simp; omega
  have hl2 : 2 ≤ ks.length := by omega
  clear hz h he hkn hv h1
  go_enter Try.func49, Try.ntmps49
  go_wp2_with fail
  rw [HWE.out]
  refine (HC.out _ HA.out).mono ?_; rintro e w1 ⟨rfl, hb1⟩
  have hc1 := hcb.below hb1
  have hr1 := hrb.below hb1
  have cc0 := hc1.cell 0
  have cc1 := hc1.cell 1
  simp only [List.getElem?_toArray, List.getElem?_cons_zero, List.getElem?_cons_succ] at cc0 cc1
  have cl := hc1.lt
  have hb2 := hbw.trans (hb1.mono hbw.size)
  have hb3 := hb2.alloc hb2.size (.cells #[.int .i64 0, .int .i64 0, .int .i64 0, .int .i64 0] 51)
  have HC3 := Lib.hid (hc1.alloc (.cells #[.int .i64 0, .int .i64 0, .int .i64 0, .int .i64 0] 51))
  have HR3 := Lib.hid (hr1.alloc (.cells #[.int .i64 0, .int .i64 0, .int .i64 0, .int .i64 0] 51))
  have HG3 := Lib.hid (Blk.new w1 51 #[.int .i64 0, .int .i64 0, .int .i64 0, .int .i64 0])
  have HB3 := Lib.hid hb3
  have hg1 : w.heap.size + 1 < w1.heap.size := hr1.lt
  go_wp2_with fail
  clear hc1 hr1 cc0 cc1 cl hb2 hb3 hb1 hcb hrb hbw
  go_loopw [5] (fun i wr => ∃ (k : Nat) (bn bd bi : Int), k ≤ ks.length - 1 ∧ i = .int .i64 k ∧ (0 < k → exGo gtF (slL ks) (0, 0) k = ((bn, bd), bi)) ∧ Blk wr w.heap.size 24 #[.slice (some ⟨b, off, none⟩) ks.length cap, .int .i64 err] ∧ Blk wr (w.heap.size + 1) 51 #[.int .i64 0, .int .i64 0, .int .i64 0, .int .i64 0] ∧
      Blk wr w1.heap.size 51 #[.int .i64 bi, .int .i64 bn, .int .i64 bd, .int .i64 0] ∧ Below w.heap.size w wr) (fun i _ => ks.length - (intOf i).toNat)
  case atStart => exact ⟨0, 0, 0, 0, Nat.zero_le _, rfl, fun h => absurd h (by omega), HC3.out, HR3.out, HG3.out, HB3.out⟩
  case round =>
    clear HC3 HR3 HG3 HB3
    obtain ⟨k, bn, bd, bi, hk2, rfl, hex, hcc, hrr, hgg, hb⟩ := hrel
    have HEx := Lib.hid hex
    have HCc := Lib.hid hcc
    have HRr := Lib.hid hrr
    have HGg := Lib.hid hgg
    have cc0 := hcc.cell 0
    have cc1 := hcc.cell 1
    simp only [List.getElem?_toArray, List.getElem?_cons_zero, List.getElem?_cons_succ] at cc0 cc1
    have ccl := hcc.lt
    have ggl := hgg.lt
    have hsz := hb.size
    clear hex
    by_cases hkn : k < ks.length - 1
    · have hK := HK.out.below hb
      have hx0 := hK.x k (by omega)
      have hy0 := hK.y k (by omega)
      have hx1 := hK.x (k + 1) (by omega)
      have hy1 := hK.y (k + 1) (by omega)
      have hlb := hK.lt
      obtain ⟨a1, a2⟩ := HV.out.y0 k (by omega)
      obtain ⟨a3, a4⟩ := HV.out.y0 (k + 1) (by omega)
      obtain ⟨a5, a6⟩ := HV.out.x0 k (by omega)
      obtain ⟨a7, a8⟩ := HV.out.x0 (k + 1) (by omega)
      have a9 := HV.out.up k (by omega)
      have hfk := slF_frb HV.out (i := k) (by omega)
      have hsl := slL_at ks k hkn
      have HL := Lib.hid (fun W => Low_any (ky ks (k + 1) - ky ks k) (kx ks (k + 1) - kx ks k) W (by omega) (by omega) (by omega) (by omega))
      have HSl := Lib.hid (show (slL ks).getD k (0, 0) = (lowN (ky ks (k + 1) - ky ks k) (kx ks (k + 1) - kx ks k), lowD (ky ks (k + 1) - ky ks k) (kx ks (k + 1) - kx ks k)) from hsl)
      have hfk2 : FrB (lowN (ky ks (k + 1) - ky ks k) (kx ks (k + 1) - kx ks k), lowD (ky ks (k + 1) - ky ks k) (kx ks (k + 1) - kx ks k)) := hfk
      have HFk := Lib.hid hfk2
      have hkk1 : k + 1 < ks.length := by omega
      have hkk0 : k < ks.length := by omega
      have hln : (slL ks).length = ks.length - 1 := slL_len ks
      clear hK hsl hfk hfk2
      generalize kx ks k = x0 at *
      generalize ky ks k = y0 at *
      generalize kx ks (k + 1) = x1 at *
      generalize ky ks (k + 1) = y1 at *
      generalize lowN (y1 - y0) (x1 - x0) = vn at *
      generalize lowD (y1 - y0) (x1 - x0) = vd at *
      have hbP := hb.alloc hb.size (.cells #[.int .i64 x0, .int .i64 y0] 108)
      have hbQ := hbP.alloc hbP.size (.cells #[.int .i64 x1, .int .i64 y1] 108)
      have hcQ := (hcc.alloc (.cells #[.int .i64 x0, .int .i64 y0] 108)).alloc (.cells #[.int .i64 x1, .int .i64 y1] 108)
      have hrQ := (hrr.alloc (.cells #[.int .i64 x0, .int .i64 y0] 108)).alloc (.cells #[.int .i64 x1, .int .i64 y1] 108)
      have hgQ := (hgg.alloc (.cells #[.int .i64 x0, .int .i64 y0] 108)).alloc (.cells #[.int .i64 x1, .int .i64 y1] 108)
      go_wp2_with fail
      refine (HL.out _).mono ?_; rintro e w4 ⟨rfl, hb4⟩
      have hbR := hbQ.trans (hb4.mono hbQ.size)
      have hbS := hbR.alloc hbR.size (.cells #[.int .i64 vn, .int .i64 vd] 30)
      have hc4 := hcQ.below hb4
      have hr4 := hrQ.below hb4
      have hg4 := hgQ.below hb4
      have hcS := hc4.alloc (.cells #[.int .i64 vn, .int .i64 vd] 30)
      have hrS := hr4.alloc (.cells #[.int .i64 vn, .int .i64 vd] 30)
      have hgS := hg4.alloc (.cells #[.int .i64 vn, .int .i64 vd] 30)
      have hfS := Blk.new w4 30 #[.int .i64 vn, .int .i64 vd]
      have gc0 := hg4.cell 0
      have gc1 := hg4.cell 1
      have gc2 := hg4.cell 2
      have gc3 := hg4.cell 3
      simp only [List.getElem?_toArray, List.getElem?_cons_zero, List.getElem?_cons_succ] at gc0 gc1 gc2 gc3
      have gf0 := hg4.frozen 0
      have gf1 := hg4.frozen 1
      have gf2 := hg4.frozen 2
      have gf3 := hg4.frozen 3
      have gl := hg4.lt
      by_cases hk0 : k = 0
      · have HEx2 := Lib.hid (show exGo gtF (slL ks) (0, 0) (k + 1) = ((vn, vd), 0) by
          subst hk0; rw [exGo_first _ _ _ _ (by simp [exGo]), HSl.out]; rfl)
        have hk00 : ((k : Int) == 0) = true := by simp; omega
        go_wp2
        have hS := (blk_set4 hg4 (.int .i64 0) (.int .i64 vn) (.int .i64 vd) (.int .i64 0)).alloc (.cells #[.int .i64 vn, .int .i64 vd] 30)
        have hR := (((((hr4.far (p := ⟨w1.heap.size, 0, none⟩) (by simp; omega) (.int .i64 0)).far (p := ⟨w1.heap.size, 1, none⟩) (by simp; omega) (.int .i64 vn)).far (p := ⟨w1.heap.size, 2, none⟩) (by simp; omega) (.int .i64 vd)).far (p := ⟨w1.heap.size, 3, none⟩) (by simp; omega) (.int .i64 0))).alloc (.cells #[.int .i64 vn, .int .i64 vd] 30)
        have hC := (((((hc4.far (p := ⟨w1.heap.size, 0, none⟩) (by simp; omega) (.int .i64 0)).far (p := ⟨w1.heap.size, 1, none⟩) (by simp; omega) (.int .i64 vn)).far (p := ⟨w1.heap.size, 2, none⟩) (by simp; omega) (.int .i64 vd)).far (p := ⟨w1.heap.size, 3, none⟩) (by simp; omega) (.int .i64 0))).alloc (.cells #[.int .i64 vn, .int .i64 vd] 30)
        have hbb := (below_set4 hbR (g := w1.heap.size) (by omega) (.int .i64 0) (.int .i64 vn) (.int .i64 vd) (.int .i64 0)).alloc (by simpa using hbR.size) (.cells #[.int .i64 vn, .int .i64 vd] 30)
        go_roundw
        case rel => exact ⟨k + 1, vn, vd, 0, by omega, by go_num, fun _ => HEx2.out, hC, hR, hS, hbb⟩
        case measure => simp [intOf]; omega
      have hk00 : ((k : Int) == 0) = false := by simp; omega
      have hex := HEx.out (by omega)
      have hbest := (exGo_two gtF (slL ks) (0, 0) k (by omega)).2.2.2 (by omega)
      have hidx := (exGo_two gtF (slL ks) (0, 0) k (by omega)).2.2.1 (by omega)
      rw [hex] at hbest hidx
      have hfb := HFr.out _ hbest
      have hord : ∀ W, Calls Try.prog 95 #[vFrac vn vd, vFrac bn bd] W fun e w' => e = .returned (.int .i64 (ordF vn vd bn bd)) ∧ Below W.heap.size W w' :=
        fun W => Order_any vn vd bn bd W (HFk.out.prod hfb).1 (HFk.out.prod hfb).2 (hfb.prod HFk.out).1 (hfb.prod HFk.out).2
      have HOrd := Lib.hid hord
      have HLt := Lib.hid (show gtF ((slL ks).getD k (0, 0)) (bn, bd) = decide (ordF vn vd bn bd > 0) by rw [HSl.out])
      have HIdx := Lib.hid hidx
      have HEx3 := Lib.hid hex
      clear hbest hidx hfb hord hex
      generalize ordF vn vd bn bd = o at *
      go_wp2_with fail
      refine (HOrd.out _).mono ?_; rintro e w5 ⟨rfl, hb6⟩
      have hb7 := hbS.trans (hb6.mono hbS.size)
      have hg5 := hgS.below hb6
      have hr5 := hrS.below hb6
      have hc5 := hcS.below hb6
      have hf5 := hfS.below hb6
      clear gc0 gc1 gc2 gc3 gf0 gf1 gf2 gf3 gl
      have gc0 := hg5.cell 0
      have gc1 := hg5.cell 1
      have gc2 := hg5.cell 2
      have gc3 := hg5.cell 3
      simp only [List.getElem?_toArray, List.getElem?_cons_zero, List.getElem?_cons_succ] at gc0 gc1 gc2 gc3
      have fc0 := hf5.cell 0
      have fc1 := hf5.cell 1
      simp only [List.getElem?_toArray, List.getElem?_cons_zero, List.getElem?_cons_succ] at fc0 fc1
      have gf0 := hg5.frozen 0
      have gf1 := hg5.frozen 1
      have gf2 := hg5.frozen 2
      have gf3 := hg5.frozen 3
      have gl := hg5.lt
      by_cases ho : 0 < o
      · have HEx2 := Lib.hid (show exGo gtF (slL ks) (0, 0) (k + 1) = ((vn, vd), (k : Int)) by
          rw [exGo_yes _ _ _ _ (by rw [HEx3.out, HLt.out]; simpa using ho), HSl.out])
        go_wp2
        have hS := blk_set4 hg5 (.int .i64 k) (.int .i64 vn) (.int .i64 vd) (.int .i64 0)
        have hR := (((hr5.far (p := ⟨w1.heap.size, 0, none⟩) (by simp; omega) (.int .i64 k)).far (p := ⟨w1.heap.size, 1, none⟩) (by simp; omega) (.int .i64 vn)).far (p := ⟨w1.heap.size, 2, none⟩) (by simp; omega) (.int .i64 vd)).far (p := ⟨w1.heap.size, 3, none⟩) (by simp; omega) (.int .i64 0)
        have hC := (((hc5.far (p := ⟨w1.heap.size, 0, none⟩) (by simp; omega) (.int .i64 k)).far (p := ⟨w1.heap.size, 1, none⟩) (by simp; omega) (.int .i64 vn)).far (p := ⟨w1.heap.size, 2, none⟩) (by simp; omega) (.int .i64 vd)).far (p := ⟨w1.heap.size, 3, none⟩) (by simp; omega) (.int .i64 0)
        have hbb := below_set4 hb7 (g := w1.heap.size) (by omega) (.int .i64 k) (.int .i64 vn) (.int .i64 vd) (.int .i64 0)
        go_roundw
        case rel => exact ⟨k + 1, vn, vd, k, by omega, by go_num, fun _ => HEx2.out, hC, hR, hS, hbb⟩
        case measure => simp [intOf]; omega
      · have HEx2 := Lib.hid (show exGo gtF (slL ks) (0, 0) (k + 1) = ((bn, bd), bi) by
          rw [exGo_no _ _ _ _ (by rw [HEx3.out]; have := HIdx.out; dsimp only; omega) (by rw [HEx3.out, HLt.out]; simpa using ho), HEx3.out])
        go_wp2
        go_roundw
        case rel => exact ⟨k + 1, bn, bd, bi, by omega, by go_num, fun _ => HEx2.out, hc5, hr5, hg5, hb7⟩
        case measure => simp [intOf]; omega
    · have hkk : k = ks.length - 1 := by omega
      have hBe : stB ks err = ((bn, bd), bi) := by rw [HE.out, ← hkk, HEx.out (by omega)]
      have HBe := Lib.hid hBe
      have hkx : ¬ (k : Int) + 1 < (ks.length : Int) := by omega
      clear hBe hkk
      have gc0 := hgg.cell 0
      have gc1 := hgg.cell 1
      have gc2 := hgg.cell 2
      have gc3 := hgg.cell 3
      simp only [List.getElem?_toArray, List.getElem?_cons_zero, List.getElem?_cons_succ] at gc0 gc1 gc2 gc3
      have rc0 := hrr.cell 0
      have rc1 := hrr.cell 1
      have rc2 := hrr.cell 2
      have rc3 := hrr.cell 3
      simp only [List.getElem?_toArray, List.getElem?_cons_zero, List.getElem?_cons_succ] at rc0 rc1 rc2 rc3
      have rf0 := hrr.frozen 0
      have rf1 := hrr.frozen 1
      have rf2 := hrr.frozen 2
      have rf3 := hrr.frozen 3
      have rl := hrr.lt
      go_wp2
      have hF := blk_set4 HRr.out (.int .i64 bi) (.int .i64 bn) (.int .i64 bd) (.int .i64 0)
      have k0 := hF.cell 0
      have k1 := hF.cell 1
      have k2 := hF.cell 2
      have k3 := hF.cell 3
      simp only [List.getElem?_toArray, List.getElem?_cons_zero, List.getElem?_cons_succ] at k0 k1 k2 k3
      exact bodyPost_ret (v := vSteep bi bn bd 0) (by simp [results, Try.results49, go_sem, k0, k1, k2, k3]) rfl ⟨by rw [HBe.out], below_set4 hb (by omega) _ _ _ _⟩
end Go.Proofs.Ytipablcbkoedbaa
