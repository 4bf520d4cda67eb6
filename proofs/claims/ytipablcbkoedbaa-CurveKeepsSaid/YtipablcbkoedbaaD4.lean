/- Reach. -/
import Derived.RangeFuncNested
import Derived.Shelf.Abstract
import Derived.RangeFuncBound
import Derived.RangeFuncCalls
import Derived.RangeFuncLeaves
import Derived.WalkKit
import Derived.OwnWalkIn
import Derived.TacticsInMore
import Derived.LoopNIn
import Derived.LoopIn
import Derived.WalkLawsBesides
import Derived.Deep.QuietTactic
import Derived.BigQuiet
import Derived.RegionTactic
import Derived.Lib.Hide
import Derived.Outline
import Derived.WalkSmall
import Derived.Test.YtipablcbkoedbaaProg
import Derived.Test.YtipablcbkoedbaaD3
import Derived.Test.YtipablcbkoedbaaReg4
namespace Go.Proofs.Ytipablcbkoedbaa
open Go.RowKit

def rcLeast (ks : List (Int × Int)) : Int := min (ky ks 0) (ky ks (ks.length - 1))
def rcMost (ks : List (Int × Int)) : Int := max (ky ks 0) (ky ks (ks.length - 1))
def rcErr (ks : List (Int × Int)) (err lo hi : Int) : Int :=
  if check ks err ≠ 0 then check ks err else if lo > hi ∨ lo < -131072 ∨ hi > 131072 then 1 else if risingI ks = 0 then 4 else if hi + err < rcLeast ks ∨ lo - err > rcMost ks then 5 else 0
def rcA (ks : List (Int × Int)) (err lo : Int) : Int := max (lo - err) (rcLeast ks)
def rcB (ks : List (Int × Int)) (err hi : Int) : Int := min (hi + err) (rcMost ks)
/-- The ends of Reach. -/
def rcV (ks : List (Int × Int)) (err lo hi : Int) : (Int × Int) × (Int × Int) :=
  if rcErr ks err lo hi = 0 then
    if risingI ks < 0 then ((whN ks (rcB ks err hi), whD ks (rcB ks err hi)), (whN ks (rcA ks err lo), whD ks (rcA ks err lo)))
    else ((whN ks (rcA ks err lo), whD ks (rcA ks err lo)), (whN ks (rcB ks err hi), whD ks (rcB ks err hi)))
  else ((0, 0), (0, 0))
abbrev vRange (a b c d : Int) : Value := .agg #[.int .i64 a, .int .i64 b, .int .i64 c, .int .i64 d]
abbrev vRc (p : (Int × Int) × (Int × Int)) : Value := vRange p.1.1 p.1.2 p.2.1 p.2.2
theorem rc_zero {ks : List (Int × Int)} {err lo hi e : Int} (h : rcErr ks err lo hi = e) (he : e ≠ 0) : rcV ks err lo hi = ((0, 0), (0, 0)) := by unfold rcV; rw [if_neg (by rw [h]; exact he)]

/-- Two new blocks, the first of them written: what is known while a region draws its order. -/
def twoInv (w3 : World) (x0 y0 : Int) (ls : Nat → Bool) (vs : Nat → Value) (v : World) : Prop :=
  (ls 12 = true → ∃ g, vs 12 = .pointer (some ⟨g, 0, none⟩) ∧ w3.heap.size ≤ g ∧ (∃ c d, Blk v g 108 #[c, d]) ∧ (ls 13 = true → vs 13 ≠ vs 12) ∧ (ls 14 = true → Blk v g 108 #[.int .i64 x0, .int .i64 y0])) ∧
  (ls 13 = true → ∃ g, vs 13 = .pointer (some ⟨g, 0, none⟩) ∧ w3.heap.size ≤ g ∧ ∃ c d, Blk v g 108 #[c, d]) ∧ (ls 14 = true → ls 12 = true)

/-- Two new blocks, written behind each other. -/
theorem blk_setset {W : World} {g : Nat} {t : TypeId} (a b c d : Value) (h : Blk W g t #[a, b]) : Blk ((W.setCell ⟨g, 0, none⟩ c).setCell ⟨g, 1, none⟩ d) g t #[c, d] := by
  have := (h.set_ 0 c).set_ 1 d
  simpa using this

theorem twoInv_below {w3 : World} {x0 y0 : Int} {ls : Nat → Bool} {vs : Nat → Value} {v v' : World} (_ : Below w3.heap.size w3 v) (h : twoInv w3 x0 y0 ls vs v) (k : Below v.heap.size v v') : twoInv w3 x0 y0 ls vs v' := by
  refine ⟨fun h1 => ?_, fun h1 => ?_, h.2.2⟩
  · obtain ⟨g, e, hg, ⟨c, d, hb⟩, h2, h3⟩ := h.1 h1
    exact ⟨g, e, hg, ⟨c, d, hb.below k⟩, h2, fun h4 => (h3 h4).below k⟩
  · obtain ⟨g, e, hg, c, d, hb⟩ := h.2.1 h1
    exact ⟨g, e, hg, c, d, hb.below k⟩

theorem twoInv_12 {w3 : World} {x0 y0 : Int} {ls : Nat → Bool} {vs : Nat → Value} {v : World} (h : twoInv w3 x0 y0 ls vs v) (h12 : ls 12 = false) (hv : Below w3.heap.size w3 v) :
    twoInv w3 x0 y0 (updB ls 12) (upd vs 12 (.pointer (some ⟨v.heap.size, 0, none⟩))) (v.alloc (.cells #[.int .i64 0, .int .i64 0] 108)) := by
  refine ⟨fun _ => ⟨v.heap.size, by simp [upd], hv.size, ⟨_, _, Blk.new _ _ _⟩, fun h1 => ?_, fun h1 => ?_⟩, fun h1 => ?_, fun _ => by simp [updB]⟩
  · have h1 : ls 13 = true := by simpa [updB] using h1
    obtain ⟨g, e, hg, c, d, hb⟩ := h.2.1 h1
    have := hb.lt
    have hx : g ≠ v.heap.size := by omega
    simp [upd, e]
  · have h1 : ls 14 = true := by simpa [updB] using h1
    rw [h.2.2 h1] at h12; cases h12
  · have h1 : ls 13 = true := by simpa [updB] using h1
    obtain ⟨g, e, hg, c, d, hb⟩ := h.2.1 h1
    exact ⟨g, by simp [upd, e], hg, c, d, hb.alloc _⟩
theorem twoInv_13 {w3 : World} {x0 y0 : Int} {ls : Nat → Bool} {vs : Nat → Value} {v : World} (h : twoInv w3 x0 y0 ls vs v) (_ : ls 13 = false) (hv : Below w3.heap.size w3 v) :
    twoInv w3 x0 y0 (updB ls 13) (upd vs 13 (.pointer (some ⟨v.heap.size, 0, none⟩))) (v.alloc (.cells #[.int .i64 0, .int .i64 0] 108)) := by
  refine ⟨fun h1 => ?_, fun _ => ⟨v.heap.size, by simp [upd], hv.size, _, _, Blk.new _ _ _⟩, fun h1 => ?_⟩
  · have h1 : ls 12 = true := by simpa [updB] using h1
    obtain ⟨g, e, hg, ⟨c, d, hb⟩, h2, h3⟩ := h.1 h1
    have := hb.lt
    refine ⟨g, by simp [upd, e], hg, ⟨c, d, hb.alloc _⟩, fun _ => by
      have hx : g ≠ v.heap.size := by omega
      simp [upd, e], fun h4 => ?_⟩
    exact (h3 (by simpa [updB] using h4)).alloc _
  · have h1 : ls 14 = true := by simpa [updB] using h1
    simpa [updB] using h.2.2 h1
theorem twoInv_14 {w3 : World} {x0 y0 : Int} {ls : Nat → Bool} {vs : Nat → Value} {v : World} {g : Nat} (h : twoInv w3 x0 y0 ls vs v) (h12 : ls 12 = true) (e : vs 12 = .pointer (some ⟨g, 0, none⟩)) (u : Value) :
    twoInv w3 x0 y0 (updB ls 14) (upd vs 14 u) ((v.setCell ⟨g, 0, none⟩ (.int .i64 x0)).setCell ⟨g, 1, none⟩ (.int .i64 y0)) := by
  obtain ⟨g1, e1, hg, ⟨c, d, hb⟩, h2, h3⟩ := h.1 h12
  rw [e1] at e
  have : g1 = g := by simpa using e
  subst this
  refine ⟨fun _ => ⟨g1, by simp [upd, e1], hg, ⟨_, _, blk_setset _ _ _ _ hb⟩, fun h1 => ?_, fun _ => blk_setset _ _ _ _ hb⟩, fun h1 => ?_, fun _ => by simpa [updB] using h12⟩
  · have h1 : ls 13 = true := by simpa [updB] using h1
    simpa [upd] using h2 h1
  · have h1 : ls 13 = true := by simpa [updB] using h1
    obtain ⟨g', e', hg', c', d', hb'⟩ := h.2.1 h1
    have hne : g' ≠ g1 := fun hh => h2 h1 (by rw [e1, e', hh])
    exact ⟨g', by simp [upd, e'], hg', c', d', (hb'.far (p := ⟨g1, 0, none⟩) hne _).far (p := ⟨g1, 1, none⟩) hne _⟩

set_option maxRecDepth 100000 in
set_option maxHeartbeats 1600000 in
theorem Reach_check (A : Option Addr) (n cap : Nat) (err : Int) (ks : List (Int × Int)) (lo hi : Int) (w : World) (h : CAt w A n ks) (hm : n ≤ 9223372036854775807) (_ : -9223372036854775808 ≤ lo ∧ lo ≤ 9223372036854775807) (_ : -9223372036854775808 ≤ hi ∧ hi ≤ 9223372036854775807) (hz : check ks err ≠ 0) :
    Calls Try.prog 21 #[vCv A n cap err, vSpan lo hi] w fun e w' => e = .returned (.tuple #[vRc (rcV ks err lo hi), .int .i64 (rcErr ks err lo hi)]) ∧ Below w.heap.size w w' := by
  have hC := fun W (hW : CAt W A n ks) => Check_any A n cap err ks W hW hm
  have HC := Lib.hid hC
  clear hC
  generalize hW : ((w.alloc (.cells #[.slice A n cap, .int .i64 err] 24)).alloc (.cells #[.int .i64 lo, .int .i64 hi] 26)).alloc (.cells #[.int .i64 0, .int .i64 0, .int .i64 0, .int .i64 0] 35) = W
  have hbw : Below w.heap.size w W := by rw [← hW]; exact (((Below.refl _ _).alloc (Nat.le_refl _) _).alloc (by simp) _).alloc (by simp; omega) _
  have hcb : Blk W w.heap.size 24 #[.slice A n cap, .int .i64 err] := by rw [← hW]; exact ((Blk.at_new _ _ rfl).alloc _).alloc _
  have hsb : Blk W (w.heap.size + 1) 26 #[.int .i64 lo, .int .i64 hi] := by rw [← hW]; exact (Blk.at_new _ _ (by simp)).alloc _
  have hrb : Blk W (w.heap.size + 2) 35 #[.int .i64 0, .int .i64 0, .int .i64 0, .int .i64 0] := by rw [← hW]; exact Blk.at_new _ _ (by simp)
  have HWE := Lib.hid hW
  clear hW

  have hz1 : (check ks err != 0) = true := by simpa using hz
  have he : rcErr ks err lo hi = check ks err := by unfold rcErr; rw [if_pos hz]
  have HE := Lib.hid he
  have HV := Lib.hid (rc_zero he hz)
  have HA := Lib.hid (h.below hbw)
  clear he hz h
  go_enter Try.func21, Try.ntmps21
  go_wp2_with fail
  rw [HWE.out]
  refine (HC.out _ HA.out).mono ?_; rintro e w1 ⟨rfl, hb1⟩
  have hr1 := hrb.below hb1
  have rc0 := hr1.cell 0
  have rc1 := hr1.cell 1
  have rc2 := hr1.cell 2
  have rc3 := hr1.cell 3
  simp only [List.getElem?_toArray, List.getElem?_cons_zero, List.getElem?_cons_succ] at rc0 rc1 rc2 rc3
  have rf0 := hr1.frozen 0
  have rf1 := hr1.frozen 1
  have rf2 := hr1.frozen 2
  have rf3 := hr1.frozen 3
  have rl := hr1.lt
  have hb2 := hbw.trans (hb1.mono hbw.size)
  go_wp2
  exact bodyPost_ret (v := .tuple #[vRange 0 0 0 0, .int .i64 (check ks err)]) (by simp [results, Try.results21, go_sem, rc0, rc1, rc2, rc3]) rfl ⟨by rw [HE.out, HV.out], ((((hb2.setCell (p := ⟨w.heap.size + 2, 0, none⟩) (by simp) _).setCell (p := ⟨w.heap.size + 2, 1, none⟩) (by simp) _).setCell (p := ⟨w.heap.size + 2, 2, none⟩) (by simp) _).setCell (p := ⟨w.heap.size + 2, 3, none⟩) (by simp) _)⟩
set_option maxRecDepth 100000 in
set_option maxHeartbeats 1600000 in
theorem Reach_arg1 (A : Option Addr) (n cap : Nat) (err : Int) (ks : List (Int × Int)) (lo hi : Int) (w : World) (h : CAt w A n ks) (hm : n ≤ 9223372036854775807) (_ : -9223372036854775808 ≤ lo ∧ lo ≤ 9223372036854775807) (_ : -9223372036854775808 ≤ hi ∧ hi ≤ 9223372036854775807) (hz : check ks err = 0) (h1 : hi < lo) :
    Calls Try.prog 21 #[vCv A n cap err, vSpan lo hi] w fun e w' => e = .returned (.tuple #[vRc (rcV ks err lo hi), .int .i64 (rcErr ks err lo hi)]) ∧ Below w.heap.size w w' := by
  have hC := fun W (hW : CAt W A n ks) => Check_any A n cap err ks W hW hm
  have HC := Lib.hid hC
  clear hC
  generalize hW : ((w.alloc (.cells #[.slice A n cap, .int .i64 err] 24)).alloc (.cells #[.int .i64 lo, .int .i64 hi] 26)).alloc (.cells #[.int .i64 0, .int .i64 0, .int .i64 0, .int .i64 0] 35) = W
  have hbw : Below w.heap.size w W := by rw [← hW]; exact (((Below.refl _ _).alloc (Nat.le_refl _) _).alloc (by simp) _).alloc (by simp; omega) _
  have hcb : Blk W w.heap.size 24 #[.slice A n cap, .int .i64 err] := by rw [← hW]; exact ((Blk.at_new _ _ rfl).alloc _).alloc _
  have hsb : Blk W (w.heap.size + 1) 26 #[.int .i64 lo, .int .i64 hi] := by rw [← hW]; exact (Blk.at_new _ _ (by simp)).alloc _
  have hrb : Blk W (w.heap.size + 2) 35 #[.int .i64 0, .int .i64 0, .int .i64 0, .int .i64 0] := by rw [← hW]; exact Blk.at_new _ _ (by simp)
  have HWE := Lib.hid hW
  clear hW

  have hz1 : (check ks err != 0) = false := by simp [hz]
  have he : rcErr ks err lo hi = 1 := by unfold rcErr; rw [if_neg (by simp [hz]), if_pos (by omega)]
  have HE := Lib.hid he
  have HV := Lib.hid (rc_zero he (by omega))
  have HA := Lib.hid (h.below hbw)
  clear he h
  rw [hz] at HC
  clear hz
  go_enter Try.func21, Try.ntmps21
  go_wp2_with fail
  rw [HWE.out]
  refine (HC.out _ HA.out).mono ?_; rintro e w1 ⟨rfl, hb1⟩
  have hr1 := hrb.below hb1
  have hs1 := hsb.below hb1
  have rc0 := hr1.cell 0
  have rc1 := hr1.cell 1
  have rc2 := hr1.cell 2
  have rc3 := hr1.cell 3
  simp only [List.getElem?_toArray, List.getElem?_cons_zero, List.getElem?_cons_succ] at rc0 rc1 rc2 rc3
  have rf0 := hr1.frozen 0
  have rf1 := hr1.frozen 1
  have rf2 := hr1.frozen 2
  have rf3 := hr1.frozen 3
  have rl := hr1.lt
  have sc0 := hs1.cell 0
  have sc1 := hs1.cell 1
  simp only [List.getElem?_toArray, List.getElem?_cons_zero, List.getElem?_cons_succ] at sc0 sc1
  have hb2 := hbw.trans (hb1.mono hbw.size)
  go_wp2
  exact bodyPost_ret (v := .tuple #[vRange 0 0 0 0, .int .i64 1]) (by simp [results, Try.results21, go_sem, rc0, rc1, rc2, rc3]) rfl ⟨by rw [HE.out, HV.out], ((((hb2.setCell (p := ⟨w.heap.size + 2, 0, none⟩) (by simp) _).setCell (p := ⟨w.heap.size + 2, 1, none⟩) (by simp) _).setCell (p := ⟨w.heap.size + 2, 2, none⟩) (by simp) _).setCell (p := ⟨w.heap.size + 2, 3, none⟩) (by simp) _)⟩
set_option maxRecDepth 100000 in
set_option maxHeartbeats 1600000 in
theorem Reach_arg2 (A : Option Addr) (n cap : Nat) (err : Int) (ks : List (Int × Int)) (lo hi : Int) (w : World) (h : CAt w A n ks) (hm : n ≤ 9223372036854775807) (hlo : -9223372036854775808 ≤ lo ∧ lo ≤ 9223372036854775807) (_ : -9223372036854775808 ≤ hi ∧ hi ≤ 9223372036854775807) (hz : check ks err = 0) (h1 : ¬ hi < lo) (h2 : lo < -131072) :
    Calls Try.prog 21 #[vCv A n cap err, vSpan lo hi] w fun e w' => e = .returned (.tuple #[vRc (rcV ks err lo hi), .int .i64 (rcErr ks err lo hi)]) ∧ Below w.heap.size w w' := by
  have hC := fun W (hW : CAt W A n ks) => Check_any A n cap err ks W hW hm
  have HC := Lib.hid hC
  clear hC
  generalize hW : ((w.alloc (.cells #[.slice A n cap, .int .i64 err] 24)).alloc (.cells #[.int .i64 lo, .int .i64 hi] 26)).alloc (.cells #[.int .i64 0, .int .i64 0, .int .i64 0, .int .i64 0] 35) = W
  have hbw : Below w.heap.size w W := by rw [← hW]; exact (((Below.refl _ _).alloc (Nat.le_refl _) _).alloc (by simp) _).alloc (by simp; omega) _
  have hcb : Blk W w.heap.size 24 #[.slice A n cap, .int .i64 err] := by rw [← hW]; exact ((Blk.at_new _ _ rfl).alloc _).alloc _
  have hsb : Blk W (w.heap.size + 1) 26 #[.int .i64 lo, .int .i64 hi] := by rw [← hW]; exact (Blk.at_new _ _ (by simp)).alloc _
  have hrb : Blk W (w.heap.size + 2) 35 #[.int .i64 0, .int .i64 0, .int .i64 0, .int .i64 0] := by rw [← hW]; exact Blk.at_new _ _ (by simp)
  have HWE := Lib.hid hW
  clear hW

  have hz1 : (check ks err != 0) = false := by simp [hz]
  have he : rcErr ks err lo hi = 1 := by unfold rcErr; rw [if_neg (by simp [hz]), if_pos (by omega)]
  have HE := Lib.hid he
  have HV := Lib.hid (rc_zero he (by omega))
  have HA := Lib.hid (h.below hbw)
  clear he h
  rw [hz] at HC
  clear hz
  go_enter Try.func21, Try.ntmps21
  go_wp2_with fail
  rw [HWE.out]
  refine (HC.out _ HA.out).mono ?_; rintro e w1 ⟨rfl, hb1⟩
  have hr1 := hrb.below hb1
  have hs1 := hsb.below hb1
  have rc0 := hr1.cell 0
  have rc1 := hr1.cell 1
  have rc2 := hr1.cell 2
  have rc3 := hr1.cell 3
  simp only [List.getElem?_toArray, List.getElem?_cons_zero, List.getElem?_cons_succ] at rc0 rc1 rc2 rc3
  have rf0 := hr1.frozen 0
  have rf1 := hr1.frozen 1
  have rf2 := hr1.frozen 2
  have rf3 := hr1.frozen 3
  have rl := hr1.lt
  have sc0 := hs1.cell 0
  have sc1 := hs1.cell 1
  simp only [List.getElem?_toArray, List.getElem?_cons_zero, List.getElem?_cons_succ] at sc0 sc1
  have hb2 := hbw.trans (hb1.mono hbw.size)
  go_wp2
  exact bodyPost_ret (v := .tuple #[vRange 0 0 0 0, .int .i64 1]) (by simp [results, Try.results21, go_sem, rc0, rc1, rc2, rc3]) rfl ⟨by rw [HE.out, HV.out], ((((hb2.setCell (p := ⟨w.heap.size + 2, 0, none⟩) (by simp) _).setCell (p := ⟨w.heap.size + 2, 1, none⟩) (by simp) _).setCell (p := ⟨w.heap.size + 2, 2, none⟩) (by simp) _).setCell (p := ⟨w.heap.size + 2, 3, none⟩) (by simp) _)⟩
set_option maxRecDepth 100000 in
set_option maxHeartbeats 1600000 in
theorem Reach_arg3 (A : Option Addr) (n cap : Nat) (err : Int) (ks : List (Int × Int)) (lo hi : Int) (w : World) (h : CAt w A n ks) (hm : n ≤ 9223372036854775807) (_ : -9223372036854775808 ≤ lo ∧ lo ≤ 9223372036854775807) (hhi : -9223372036854775808 ≤ hi ∧ hi ≤ 9223372036854775807) (hz : check ks err = 0) (h1 : ¬ hi < lo) (h2 : ¬ lo < -131072) (h3 : 131072 < hi) :
    Calls Try.prog 21 #[vCv A n cap err, vSpan lo hi] w fun e w' => e = .returned (.tuple #[vRc (rcV ks err lo hi), .int .i64 (rcErr ks err lo hi)]) ∧ Below w.heap.size w w' := by
  have hC := fun W (hW : CAt W A n ks) => Check_any A n cap err ks W hW hm
  have HC := Lib.hid hC
  clear hC
  generalize hW : ((w.alloc (.cells #[.slice A n cap, .int .i64 err] 24)).alloc (.cells #[.int .i64 lo, .int .i64 hi] 26)).alloc (.cells #[.int .i64 0, .int .i64 0, .int .i64 0, .int .i64 0] 35) = W
  have hbw : Below w.heap.size w W := by rw [← hW]; exact (((Below.refl _ _).alloc (Nat.le_refl _) _).alloc (by simp) _).alloc (by simp; omega) _
  have hcb : Blk W w.heap.size 24 #[.slice A n cap, .int .i64 err] := by rw [← hW]; exact ((Blk.at_new _ _ rfl).alloc _).alloc _
  have hsb : Blk W (w.heap.size + 1) 26 #[.int .i64 lo, .int .i64 hi] := by rw [← hW]; exact (Blk.at_new _ _ (by simp)).alloc _
  have hrb : Blk W (w.heap.size + 2) 35 #[.int .i64 0, .int .i64 0, .int .i64 0, .int .i64 0] := by rw [← hW]; exact Blk.at_new _ _ (by simp)
  have HWE := Lib.hid hW
  clear hW

  have hz1 : (check ks err != 0) = false := by simp [hz]
  have he : rcErr ks err lo hi = 1 := by unfold rcErr; rw [if_neg (by simp [hz]), if_pos (by omega)]
  have HE := Lib.hid he
  have HV := Lib.hid (rc_zero he (by omega))
  have HA := Lib.hid (h.below hbw)
  clear he h
  rw [hz] at HC
  clear hz
  go_enter Try.func21, Try.ntmps21
  go_wp2_with fail
  rw [HWE.out]
  refine (HC.out _ HA.out).mono ?_; rintro e w1 ⟨rfl, hb1⟩
  have hr1 := hrb.below hb1
  have hs1 := hsb.below hb1
  have rc0 := hr1.cell 0
  have rc1 := hr1.cell 1
  have rc2 := hr1.cell 2
  have rc3 := hr1.cell 3
  simp only [List.getElem?_toArray, List.getElem?_cons_zero, List.getElem?_cons_succ] at rc0 rc1 rc2 rc3
  have rf0 := hr1.frozen 0
  have rf1 := hr1.frozen 1
  have rf2 := hr1.frozen 2
  have rf3 := hr1.frozen 3
  have rl := hr1.lt
  have sc0 := hs1.cell 0
  have sc1 := hs1.cell 1
  simp only [List.getElem?_toArray, List.getElem?_cons_zero, List.getElem?_cons_succ] at sc0 sc1
  have hb2 := hbw.trans (hb1.mono hbw.size)
  go_wp2
  exact bodyPost_ret (v := .tuple #[vRange 0 0 0 0, .int .i64 1]) (by simp [results, Try.results21, go_sem, rc0, rc1, rc2, rc3]) rfl ⟨by rw [HE.out, HV.out], ((((hb2.setCell (p := ⟨w.heap.size + 2, 0, none⟩) (by simp) _).setCell (p := ⟨w.heap.size + 2, 1, none⟩) (by simp) _).setCell (p := ⟨w.heap.size + 2, 2, none⟩) (by simp) _).setCell (p := ⟨w.heap.size + 2, 3, none⟩) (by simp) _)⟩
set_option maxRecDepth 100000 in
set_option maxHeartbeats 1600000 in
theorem Reach_state (A : Option Addr) (n cap : Nat) (err : Int) (ks : List (Int × Int)) (lo hi : Int) (w : World) (h : CAt w A n ks) (hm : n ≤ 9223372036854775807) (hlo : -9223372036854775808 ≤ lo ∧ lo ≤ 9223372036854775807) (hhi : -9223372036854775808 ≤ hi ∧ hi ≤ 9223372036854775807) (hz : check ks err = 0) (h1 : ¬ hi < lo) (h2 : ¬ lo < -131072) (h3 : ¬ 131072 < hi) (hr : risingI ks = 0) :
    Calls Try.prog 21 #[vCv A n cap err, vSpan lo hi] w fun e w' => e = .returned (.tuple #[vRc (rcV ks err lo hi), .int .i64 (rcErr ks err lo hi)]) ∧ Below w.heap.size w w' := by
  have hC := fun W (hW : CAt W A n ks) => Check_any A n cap err ks W hW hm
  have HC := Lib.hid hC
  clear hC
  generalize hW : ((w.alloc (.cells #[.slice A n cap, .int .i64 err] 24)).alloc (.cells #[.int .i64 lo, .int .i64 hi] 26)).alloc (.cells #[.int .i64 0, .int .i64 0, .int .i64 0, .int .i64 0] 35) = W
  have hbw : Below w.heap.size w W := by rw [← hW]; exact (((Below.refl _ _).alloc (Nat.le_refl _) _).alloc (by simp) _).alloc (by simp; omega) _
  have hcb : Blk W w.heap.size 24 #[.slice A n cap, .int .i64 err] := by rw [← hW]; exact ((Blk.at_new _ _ rfl).alloc _).alloc _
  have hsb : Blk W (w.heap.size + 1) 26 #[.int .i64 lo, .int .i64 hi] := by rw [← hW]; exact (Blk.at_new _ _ (by simp)).alloc _
  have hrb : Blk W (w.heap.size + 2) 35 #[.int .i64 0, .int .i64 0, .int .i64 0, .int .i64 0] := by rw [← hW]; exact Blk.at_new _ _ (by simp)
  have HWE := Lib.hid hW
  clear hW

  have hz1 : (check ks err != 0) = false := by simp [hz]
  obtain ⟨hv, hE1, hE2⟩ := check_zero hz
  have hpos := hv.pos
  have hvle := hv.le
  have hlen := h.len
  obtain ⟨b, off, hAe, hkn⟩ := h.at_ (by omega)
  subst hAe
  subst hlen
  have hR := fun W (hW : Kn W b off ks) => rising_any b off cap err ks W hW hv
  have HR := Lib.hid hR
  have HK := Lib.hid (hkn.below hbw)
  have HVa := Lib.hid hv
  clear hR
  have he : rcErr ks err lo hi = 4 := by unfold rcErr; rw [if_neg (by simp [hz]), if_neg (by omega), if_pos hr]
  have HE := Lib.hid he
  have HV := Lib.hid (rc_zero he (by omega))
  have hr1 : (risingI ks == 0) = true := by simpa using hr
  clear he hr
  have HA := Lib.hid (h.below hbw)
  rw [hz] at HC
  clear h hkn hv hz
  go_enter Try.func21, Try.ntmps21
  go_wp2_with fail
  rw [HWE.out]
  refine (HC.out _ HA.out).mono ?_; rintro e w1 ⟨rfl, hb1⟩
  have hs1 := hsb.below hb1
  have hc1 := hcb.below hb1
  have sc0 := hs1.cell 0
  have sc1 := hs1.cell 1
  simp only [List.getElem?_toArray, List.getElem?_cons_zero, List.getElem?_cons_succ] at sc0 sc1
  have cc0 := hc1.cell 0
  have cc1 := hc1.cell 1
  simp only [List.getElem?_toArray, List.getElem?_cons_zero, List.getElem?_cons_succ] at cc0 cc1
  go_wp2_with (go_at_call 74; refine (HR.out _ (HK.out.below hb1)).mono ?_; rintro e w2 ⟨rfl, hb2⟩; have hb3 := hb1.trans (hb2.mono hb1.size); have hr2 := hrb.below hb3; have rc0 := hr2.cell 0; have rc1 := hr2.cell 1; have rc2 := hr2.cell 2; have rc3 := hr2.cell 3; simp only [List.getElem?_toArray, List.getElem?_cons_zero, List.getElem?_cons_succ] at rc0 rc1 rc2 rc3; have rf0 := hr2.frozen 0; have rf1 := hr2.frozen 1; have rf2 := hr2.frozen 2; have rf3 := hr2.frozen 3; have rl := hr2.lt)
  have hb4 := hbw.trans (hb3.mono hbw.size)
  exact bodyPost_ret (v := .tuple #[vRange 0 0 0 0, .int .i64 4]) (by simp [results, Try.results21, go_sem, rc0, rc1, rc2, rc3]) rfl ⟨by rw [HE.out, HV.out], ((((hb4.setCell (p := ⟨w.heap.size + 2, 0, none⟩) (by simp) _).setCell (p := ⟨w.heap.size + 2, 1, none⟩) (by simp) _).setCell (p := ⟨w.heap.size + 2, 2, none⟩) (by simp) _).setCell (p := ⟨w.heap.size + 2, 3, none⟩) (by simp) _)⟩
set_option maxRecDepth 100000 in
set_option maxHeartbeats 1600000 in
theorem Reach_rest (A : Option Addr) (n cap : Nat) (err : Int) (ks : List (Int × Int)) (lo hi : Int) (w : World) (h : CAt w A n ks) (hm : n ≤ 9223372036854775807) (hlo : -9223372036854775808 ≤ lo ∧ lo ≤ 9223372036854775807) (hhi : -9223372036854775808 ≤ hi ∧ hi ≤ 9223372036854775807) (hz : check ks err = 0) (h1 : ¬ hi < lo) (h2 : ¬ lo < -131072) (h3 : ¬ 131072 < hi) (hr : risingI ks ≠ 0) :
    Calls Try.prog 21 #[vCv A n cap err, vSpan lo hi] w fun e w' => e = .returned (.tuple #[vRc (rcV ks err lo hi), .int .i64 (rcErr ks err lo hi)]) ∧ Below w.heap.size w w' := by
  have hC := fun W (hW : CAt W A n ks) => Check_any A n cap err ks W hW hm
  have HC := Lib.hid hC
  clear hC
  generalize hW : ((w.alloc (.cells #[.slice A n cap, .int .i64 err] 24)).alloc (.cells #[.int .i64 lo, .int .i64 hi] 26)).alloc (.cells #[.int .i64 0, .int .i64 0, .int .i64 0, .int .i64 0] 35) = W
  have hbw : Below w.heap.size w W := by rw [← hW]; exact (((Below.refl _ _).alloc (Nat.le_refl _) _).alloc (by simp) _).alloc (by simp; omega) _
  have hcb : Blk W w.heap.size 24 #[.slice A n cap, .int .i64 err] := by rw [← hW]; exact ((Blk.at_new _ _ rfl).alloc _).alloc _
  have hsb : Blk W (w.heap.size + 1) 26 #[.int .i64 lo, .int .i64 hi] := by rw [← hW]; exact (Blk.at_new _ _ (by simp)).alloc _
  have hrb : Blk W (w.heap.size + 1 + 1) 35 #[.int .i64 0, .int .i64 0, .int .i64 0, .int .i64 0] := by rw [← hW]; exact Blk.at_new _ _ (by simp)
  have HWE := Lib.hid hW
  clear hW

  have hz1 : (check ks err != 0) = false := by simp [hz]
  obtain ⟨hv, hE1, hE2⟩ := check_zero hz
  have hpos := hv.pos
  have hvle := hv.le
  have hlen := h.len
  obtain ⟨b, off, hAe, hkn⟩ := h.at_ (by omega)
  subst hAe
  subst hlen
  have hR := fun W (hW : Kn W b off ks) => rising_any b off cap err ks W hW hv
  have HR := Lib.hid hR
  have HK := Lib.hid (hkn.below hbw)
  have HVa := Lib.hid hv
  clear hR
  have he : rcErr ks err lo hi = if hi + err < min (ky ks 0) (ky ks (ks.length - 1)) ∨ lo - err > max (ky ks 0) (ky ks (ks.length - 1)) then 5 else 0 := by
    unfold rcErr; rw [if_neg (by simp [hz]), if_neg (by omega), if_neg hr]; rfl
  have HE := Lib.hid he
  have hWh := fun y W (hW : Kn W b off ks) => where_any b off cap err ks y W hW hv (rising_ne hr)
  have HWh := Lib.hid hWh
  have hr1 : (risingI ks == 0) = false := by simpa using hr
  have HVv := Lib.hid (show rcV ks err lo hi = if rcErr ks err lo hi = 0 then
    if risingI ks < 0 then ((whN ks (min (hi + err) (max (ky ks 0) (ky ks (ks.length - 1)))), whD ks (min (hi + err) (max (ky ks 0) (ky ks (ks.length - 1))))), (whN ks (max (lo - err) (min (ky ks 0) (ky ks (ks.length - 1)))), whD ks (max (lo - err) (min (ky ks 0) (ky ks (ks.length - 1))))))
    else ((whN ks (max (lo - err) (min (ky ks 0) (ky ks (ks.length - 1)))), whD ks (max (lo - err) (min (ky ks 0) (ky ks (ks.length - 1))))), (whN ks (min (hi + err) (max (ky ks 0) (ky ks (ks.length - 1)))), whD ks (min (hi + err) (max (ky ks 0) (ky ks (ks.length - 1))))))
  else ((0, 0), (0, 0)) from rfl)
  clear he hr hWh
  have HA := Lib.hid (h.below hbw)
  rw [hz] at HC
  clear h hkn hv hz
  go_enter Try.func21, Try.ntmps21
  go_wp2_with fail
  rw [HWE.out]
  refine (HC.out _ HA.out).mono ?_; rintro e w1 ⟨rfl, hb1⟩
  have hs1 := hsb.below hb1
  have hc1 := hcb.below hb1
  have sc0 := hs1.cell 0
  have sc1 := hs1.cell 1
  simp only [List.getElem?_toArray, List.getElem?_cons_zero, List.getElem?_cons_succ] at sc0 sc1
  have cc0 := hc1.cell 0
  have cc1 := hc1.cell 1
  simp only [List.getElem?_toArray, List.getElem?_cons_zero, List.getElem?_cons_succ] at cc0 cc1
  go_wp2_with (go_at_call 74; refine (HR.out _ (HK.out.below hb1)).mono ?_; rintro e w2 ⟨rfl, hb2⟩)
  have hb3 := hb1.trans (hb2.mono hb1.size)
  clear hs1 hc1 sc0 sc1 cc0 cc1
  have hc2 := hcb.below hb3
  have hs2 := hsb.below hb3
  have cc0 := hc2.cell 0
  have cc1 := hc2.cell 1
  simp only [List.getElem?_toArray, List.getElem?_cons_zero, List.getElem?_cons_succ] at cc0 cc1
  have sc0 := hs2.cell 0
  have sc1 := hs2.cell 1
  simp only [List.getElem?_toArray, List.getElem?_cons_zero, List.getElem?_cons_succ] at sc0 sc1
  obtain ⟨xc, xf⟩ := xcell (W := w2)
  have hl1 := hc2.lt
  have hl2 := hs2.lt
  refine wp_region_quiet_tail 12 (by kernel_rfl) (by kernel_rfl) ?_
  simp only [List.take_succ_cons, List.take_zero, List.drop_succ_cons, List.drop_zero]
  repeat (first | go_big_quiet_step (fail) | quiet_step (fail))
  refine wpQuiet_nil ?_
  intro w3 hb4
  clear xc xf hl1 hl2 cc0 cc1 sc0 sc1
  have hb5 := hb3.trans (hb4.mono hb3.size)
  have hc3 := hcb.below hb5
  have cc0 := hc3.cell 0
  have cc1 := hc3.cell 1
  simp only [List.getElem?_toArray, List.getElem?_cons_zero, List.getElem?_cons_succ] at cc0 cc1
  have hk3 := HK.out.below hb5
  have kx0 := hk3.x 0 hpos
  have ky0 := hk3.y 0 hpos
  have kxl := hk3.x (ks.length - 1) (by omega)
  have kyl := hk3.y (ks.length - 1) (by omega)
  have hlenl : ks.length - 1 < ks.length := by omega
  simp only [Nat.zero_mul, Nat.add_zero] at kx0 ky0
  obtain ⟨xc, xf⟩ := xcell (W := w3)
  have hl1 := hc3.lt
  have hlb := hk3.lt
  generalize kx ks 0 = x0 at *
  generalize ky ks 0 = y0 at *
  generalize kx ks (ks.length - 1) = xl at *
  generalize ky ks (ks.length - 1) = yl at *
  go_wp2
  refine wp_region_pre 15 [(12, 10), (13, 11), (14, 1000)] (twoInv w3 x0 y0) (by kernel_rfl) (by kernel_rfl) ?h0 ?hP ?ex
  case h0 => intro v _; simp [twoInv]
  case hP => exact fun ls vs v v' hv h k => twoInv_below hv h k
  case ex =>
   apply Exists.intro
   refine ⟨?walk, ?loud⟩
   case walk =>
    intro W hW
    have c0 := (hW.cell (p := ⟨w.heap.size, 0, none⟩) hl1).trans cc0
    have k0 := (hW.cell (p := ⟨_, _, none⟩) hlb).trans kx0
    have k1 := (hW.cell (p := ⟨_, _, none⟩) hlb).trans ky0
    have k2 := (hW.cell (p := ⟨_, _, none⟩) hlb).trans kxl
    have k3 := (hW.cell (p := ⟨_, _, none⟩) hlb).trans kyl
    have hl1 := Nat.lt_of_lt_of_le hl1 hW.size
    have hlb := Nat.lt_of_lt_of_le hlb hW.size
    obtain ⟨xc, xf⟩ := xcell (W := W)
    simp only [List.take_succ_cons, List.take_zero, qOf, isLoud, List.any_cons, List.any_nil, Nat.reduceBEq, Bool.or_false, Bool.or_true, Nat.reduceAdd, Bool.false_eq_true, if_true, if_false, beq_self_eq_true, Nat.zero_add]
    repeat (first | go_big_quiet_step (fail) | quiet_step (fail))
    exact wpQuiet_nil rfl
   case loud =>
    simp only [List.drop_succ_cons, List.drop_zero]
    refine ⟨?_, ?_⟩
    · rintro p hp vs v ⟨x, rfl⟩ ls hI hls hw o ho
      simp only [List.mem_cons, List.not_mem_nil, or_false] at hp
      rcases hp with rfl | rfl | rfl
      · simp only [List.getElem?_cons_succ, List.getElem?_cons_zero, Option.some.injEq] at ho
        subst ho
        simp [loudAt, loudUpon, go_sem, execOp]
        exact ⟨Over.of (x.below.alloc x.below.size _), twoInv_12 hI hls x.below⟩
      · simp only [List.getElem?_cons_succ, List.getElem?_cons_zero, Option.some.injEq] at ho
        subst ho
        simp [loudAt, loudUpon, go_sem, execOp]
        exact ⟨Over.of (x.below.alloc x.below.size _), twoInv_13 hI hls x.below⟩
      · have h12 := hw (12, 10) (by simp) (by kernel_rfl)
        simp only [List.getElem?_cons_succ, List.getElem?_cons_zero, Option.some.injEq] at ho
        subst ho
        obtain ⟨g, e, hg, ⟨c, d, hb⟩, h2, h3⟩ := hI.1 h12
        have g0 := hb.cell 0
        have g1 := hb.cell 1
        have f0 := hb.frozen 0
        have f1 := hb.frozen 1
        simp only [List.getElem?_toArray, List.getElem?_cons_zero, List.getElem?_cons_succ] at g0 g1
        simp [loudAt, loudUpon, go_sem, execOp, putsL, Act.put, e, g0, g1, f0, f1]
        exact ⟨Over.of ((x.below.setCell (p := ⟨g, 0, none⟩) hg _).setCell (p := ⟨g, 1, none⟩) hg _), twoInv_14 hI h12 e _⟩
    · rintro ls vs _ ⟨x, rfl⟩ hI hls
      have h12 := hls (12, 10) (by simp)
      have h13 := hls (13, 11) (by simp)
      have h14 := hls (14, 1000) (by simp)
      obtain ⟨g, e, hg, _, h2, h3⟩ := hI.1 h12
      have hb := h3 h14
      obtain ⟨g', e', hg', c, d, hb'⟩ := hI.2.1 h13
      have hne : g' ≠ g := fun h => h2 h13 (by rw [e, e', h])
      clear h2 h3 hI hls h12 h13 h14
      simp only [putsL, List.foldl_cons, List.foldl_nil, Act.put, e, e', List.setIfInBounds_toArray, List.set_cons_succ, List.set_cons_zero, List.set_nil]
      have g0 := hb.cell 0
      have g1 := hb.cell 1
      have f0 := hb.frozen 0
      have f1 := hb.frozen 1
      have q0 := hb'.cell 0
      have q1 := hb'.cell 1
      have p0 := hb'.frozen 0
      have p1 := hb'.frozen 1
      simp only [List.getElem?_toArray, List.getElem?_cons_zero, List.getElem?_cons_succ] at g0 g1 q0 q1
      have hbv := x.below
      generalize x.w = v at *
      go_wp2
      have hb6 := hb5.trans (((hbv.setCell (p := ⟨g', 0, none⟩) hg' (.int .i64 xl)).setCell (p := ⟨g', 1, none⟩) hg' (.int .i64 yl)).mono hb5.size)
      have hG := (hb.far (p := ⟨g', 0, none⟩) (Ne.symm hne) (.int .i64 xl)).far (p := ⟨g', 1, none⟩) (Ne.symm hne) (.int .i64 yl)
      have hG' := blk_setset _ _ (.int .i64 xl) (.int .i64 yl) hb'
      clear hb hb' g0 g1 f0 f1 q0 q1 p0 p1 hbv e e' cc0 kx0 ky0 kxl kyl xc xf hl1 hlb hk3 hc3
      generalize (v.setCell ⟨g', 0, none⟩ (.int .i64 xl)).setCell ⟨g', 1, none⟩ (.int .i64 yl) = w4 at *
      have g1 := hG.cell 1
      have q1 := hG'.cell 1
      simp only [List.getElem?_toArray, List.getElem?_cons_zero, List.getElem?_cons_succ] at g1 q1
      have gl := hG.lt
      have ql := hG'.lt
      obtain ⟨xc, xf⟩ := xcell (W := w4)
      refine wp_region_quiet_tail 12 (by kernel_rfl) (by kernel_rfl) ?_
      simp only [List.take_succ_cons, List.take_zero, List.drop_succ_cons, List.drop_zero]
      repeat (first | go_big_quiet_step (fail) | quiet_step (fail))
      refine wpQuiet_nil ?_
      intro w5 hb7
      have hb8 := hb6.trans (hb7.mono hb6.size)
      clear g1 q1 gl ql xc xf hG hG'
      have hb9 := hbw.trans (hb8.mono hbw.size)
      by_cases hA : hi + err < min y0 yl
      · have hE5 : rcErr ks err lo hi = 5 := by rw [HE.out, if_pos (.inl hA)]
        have HE5 := Lib.hid hE5
        have HV5 := Lib.hid (rc_zero hE5 (by omega))
        clear hE5
        have hr5 := hrb.below hb8
        have rc0 := hr5.cell 0
        have rc1 := hr5.cell 1
        have rc2 := hr5.cell 2
        have rc3 := hr5.cell 3
        simp only [List.getElem?_toArray, List.getElem?_cons_zero, List.getElem?_cons_succ] at rc0 rc1 rc2 rc3
        have rf0 := hr5.frozen 0
        have rf1 := hr5.frozen 1
        have rf2 := hr5.frozen 2
        have rf3 := hr5.frozen 3
        have rl := hr5.lt
        go_wp2
        exact bodyPost_ret (v := .tuple #[vRange 0 0 0 0, .int .i64 5]) (by simp [results, Try.results21, go_sem, rc0, rc1, rc2, rc3]) rfl ⟨by rw [HE5.out, HV5.out], (((hb9.setCell (p := ⟨w.heap.size + 1 + 1, 0, none⟩) (by simp; omega) _).setCell (p := ⟨w.heap.size + 1 + 1, 1, none⟩) (by simp; omega) _).setCell (p := ⟨w.heap.size + 1 + 1, 2, none⟩) (by simp; omega) _).setCell (p := ⟨w.heap.size + 1 + 1, 3, none⟩) (by simp; omega) _⟩
      by_cases hB : max y0 yl < lo - err
      · have hE5 : rcErr ks err lo hi = 5 := by rw [HE.out, if_pos (.inr hB)]
        have HE5 := Lib.hid hE5
        have HV5 := Lib.hid (rc_zero hE5 (by omega))
        clear hE5
        have hr5 := hrb.below hb8
        have rc0 := hr5.cell 0
        have rc1 := hr5.cell 1
        have rc2 := hr5.cell 2
        have rc3 := hr5.cell 3
        simp only [List.getElem?_toArray, List.getElem?_cons_zero, List.getElem?_cons_succ] at rc0 rc1 rc2 rc3
        have rf0 := hr5.frozen 0
        have rf1 := hr5.frozen 1
        have rf2 := hr5.frozen 2
        have rf3 := hr5.frozen 3
        have rl := hr5.lt
        go_wp2
        exact bodyPost_ret (v := .tuple #[vRange 0 0 0 0, .int .i64 5]) (by simp [results, Try.results21, go_sem, rc0, rc1, rc2, rc3]) rfl ⟨by rw [HE5.out, HV5.out], (((hb9.setCell (p := ⟨w.heap.size + 1 + 1, 0, none⟩) (by simp; omega) _).setCell (p := ⟨w.heap.size + 1 + 1, 1, none⟩) (by simp; omega) _).setCell (p := ⟨w.heap.size + 1 + 1, 2, none⟩) (by simp; omega) _).setCell (p := ⟨w.heap.size + 1 + 1, 3, none⟩) (by simp; omega) _⟩
      have hE0 : rcErr ks err lo hi = 0 := by rw [HE.out, if_neg (by rintro (h | h) <;> contradiction)]
      have HE0 := Lib.hid hE0
      have HV0 := Lib.hid (HVv.out.trans (if_pos hE0))
      have HWA := Lib.hid (HWh.out (max (lo - err) (min y0 yl)))
      have HWB := Lib.hid (HWh.out (min (hi + err) (max y0 yl)))
      clear hE0
      have hc5 := hcb.below hb8
      have cc0 := hc5.cell 0
      have cc1 := hc5.cell 1
      simp only [List.getElem?_toArray, List.getElem?_cons_zero, List.getElem?_cons_succ] at cc0 cc1
      generalize whN ks (max (lo - err) (min y0 yl)) = an at *
      generalize whD ks (max (lo - err) (min y0 yl)) = ad at *
      generalize whN ks (min (hi + err) (max y0 yl)) = bn at *
      generalize whD ks (min (hi + err) (max y0 yl)) = bd at *
      go_wp2_with fail
      refine (HWA.out _ (HK.out.below hb8)).mono ?_; rintro e w6 ⟨rfl, hb10⟩
      have hb11 := hb8.trans (hb10.mono hb8.size)
      have hc6 := hcb.below hb11
      clear hc5 cc0 cc1
      have cc0 := hc6.cell 0
      have cc1 := hc6.cell 1
      simp only [List.getElem?_toArray, List.getElem?_cons_zero, List.getElem?_cons_succ] at cc0 cc1
      have hl6 := hc6.lt
      go_wp2_with fail
      have hb12 := hb11.alloc hb11.size (.cells #[.int .i64 an, .int .i64 ad] 30)
      refine (HWB.out _ (HK.out.below hb12)).mono ?_; rintro e w7 ⟨rfl, hb13⟩
      have hb14 := hb12.trans (hb13.mono hb12.size)
      have ha7 := (Blk.new w6 30 #[.int .i64 an, .int .i64 ad]).below hb13
      have hr7 := hrb.below hb14
      have hb15 := hbw.trans (hb14.mono hbw.size)
      clear hc6 cc0 cc1
      have a0 := ha7.cell 0
      have a1 := ha7.cell 1
      have af0 := ha7.frozen 0
      have af1 := ha7.frozen 1
      have al := ha7.lt
      simp only [List.getElem?_toArray, List.getElem?_cons_zero, List.getElem?_cons_succ] at a0 a1
      have rc0 := hr7.cell 0
      have rc1 := hr7.cell 1
      have rc2 := hr7.cell 2
      have rc3 := hr7.cell 3
      simp only [List.getElem?_toArray, List.getElem?_cons_zero, List.getElem?_cons_succ] at rc0 rc1 rc2 rc3
      have rf0 := hr7.frozen 0
      have rf1 := hr7.frozen 1
      have rf2 := hr7.frozen 2
      have rf3 := hr7.frozen 3
      have rl := hr7.lt
      have rl1 : w.heap.size + 1 < w7.heap.size := by omega
      have rl2 : w.heap.size + 1 ≠ w7.heap.size := by omega
      have rl3 : w.heap.size + 1 + 1 ≠ w7.heap.size := by omega
      by_cases hup : risingI ks < 0
      · have HV1 := Lib.hid (HV0.out.trans (if_pos hup))
        go_wp2
        have hF := (((((hr7.set_ 0 (.int .i64 bn)).set_ 1 (.int .i64 bd)).set_ 2 (.int .i64 an)).set_ 3 (.int .i64 ad)).alloc (.cells #[.int .i64 bn, .int .i64 bd] 30)).alloc (.cells #[.int .i64 bn, .int .i64 bd, .int .i64 an, .int .i64 ad] 109)
        have k0 := hF.cell 0
        have k1 := hF.cell 1
        have k2 := hF.cell 2
        have k3 := hF.cell 3
        simp only [List.setIfInBounds_toArray, List.set_cons_zero, List.set_cons_succ, List.getElem?_toArray, List.getElem?_cons_zero, List.getElem?_cons_succ] at k0 k1 k2 k3
        have hz0 := hb15.size
        exact bodyPost_ret (v := .tuple #[vRange bn bd an ad, .int .i64 0]) (by simp [results, Try.results21, go_sem, k0, k1, k2, k3]) rfl ⟨by rw [HV1.out, HE0.out], (((((hb15.setCell (p := ⟨w.heap.size + 1 + 1, 0, none⟩) (by simp; omega) _).setCell (p := ⟨w.heap.size + 1 + 1, 1, none⟩) (by simp; omega) _).setCell (p := ⟨w.heap.size + 1 + 1, 2, none⟩) (by simp; omega) _).setCell (p := ⟨w.heap.size + 1 + 1, 3, none⟩) (by simp; omega) _).alloc (by simpa using hz0) _).alloc (by simp; omega) _⟩
      · have HV1 := Lib.hid (HV0.out.trans (if_neg hup))
        go_wp2
        have hF := (((((hr7.set_ 0 (.int .i64 an)).set_ 1 (.int .i64 ad)).set_ 2 (.int .i64 bn)).set_ 3 (.int .i64 bd)).alloc (.cells #[.int .i64 bn, .int .i64 bd] 30)).alloc (.cells #[.int .i64 an, .int .i64 ad, .int .i64 bn, .int .i64 bd] 109)
        have k0 := hF.cell 0
        have k1 := hF.cell 1
        have k2 := hF.cell 2
        have k3 := hF.cell 3
        simp only [List.setIfInBounds_toArray, List.set_cons_zero, List.set_cons_succ, List.getElem?_toArray, List.getElem?_cons_zero, List.getElem?_cons_succ] at k0 k1 k2 k3
        have hz0 := hb15.size
        exact bodyPost_ret (v := .tuple #[vRange an ad bn bd, .int .i64 0]) (by simp [results, Try.results21, go_sem, k0, k1, k2, k3]) rfl ⟨by rw [HV1.out, HE0.out], (((((hb15.setCell (p := ⟨w.heap.size + 1 + 1, 0, none⟩) (by simp; omega) _).setCell (p := ⟨w.heap.size + 1 + 1, 1, none⟩) (by simp; omega) _).setCell (p := ⟨w.heap.size + 1 + 1, 2, none⟩) (by simp; omega) _).setCell (p := ⟨w.heap.size + 1 + 1, 3, none⟩) (by simp; omega) _).alloc (by simpa using hz0) _).alloc (by simp; omega) _⟩

theorem Reach_any (A : Option Addr) (n cap : Nat) (err : Int) (ks : List (Int × Int)) (lo hi : Int) (w : World) (h : CAt w A n ks) (hm : n ≤ 9223372036854775807) (hlo : -9223372036854775808 ≤ lo ∧ lo ≤ 9223372036854775807) (hhi : -9223372036854775808 ≤ hi ∧ hi ≤ 9223372036854775807) :
    Calls Try.prog 21 #[vCv A n cap err, vSpan lo hi] w fun e w' => e = .returned (.tuple #[vRc (rcV ks err lo hi), .int .i64 (rcErr ks err lo hi)]) ∧ Below w.heap.size w w' := by
  by_cases hz : check ks err = 0
  case neg => exact Reach_check A n cap err ks lo hi w h hm hlo hhi hz
  by_cases h1 : hi < lo
  · exact Reach_arg1 A n cap err ks lo hi w h hm hlo hhi hz h1
  by_cases h2 : lo < -131072
  · exact Reach_arg2 A n cap err ks lo hi w h hm hlo hhi hz h1 h2
  by_cases h3 : 131072 < hi
  · exact Reach_arg3 A n cap err ks lo hi w h hm hlo hhi hz h1 h2 h3
  by_cases hr : risingI ks = 0
  · exact Reach_state A n cap err ks lo hi w h hm hlo hhi hz h1 h2 h3 hr
  exact Reach_rest A n cap err ks lo hi w h hm hlo hhi hz h1 h2 h3 hr
end Go.Proofs.Ytipablcbkoedbaa
