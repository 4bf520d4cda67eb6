/- The reference: Apart, Clash. -/
import Derived.WalkKit
import Derived.WalkLawsBesides
import Derived.Deep.QuietTactic
import Derived.BigQuiet
import Derived.RegionTactic
import Derived.OwnWalk
import Derived.RangeFuncBox
import Derived.Lib.Hide
import Derived.Outline
import Derived.WalkSmall
import Derived.IntWalk
import Derived.Deep.DeepCutAuto
import Derived.Test.YtipablcbkoedbaaProg
import Derived.Test.YtipablcbkoedbaaReg7
import Derived.Test.YtipablcbkoedbaaK2
import Derived.Test.YtipablcbkoedbaaO1
import Derived.Test.YtipablcbkoedbaaR2
namespace Go.Proofs.Ytipablcbkoedbaa
open Go.RowKit


set_option maxRecDepth 100000 in
set_option maxHeartbeats 6400000 in
theorem RApart_any (A A' : Option Addr) (n cap n' cap' : Nat) (err err' : Int) (ks ks' : List (Int × Int)) (lo hi : Int) (w : World) (h : CAt w A n ks) (hm : n ≤ 9223372036854775807) (h' : CAt w A' n' ks') (hm' : n' ≤ 9223372036854775807) :
    Calls Try.prog 58 #[vCv A n cap err, vCv A' n' cap' err', vSpan lo hi] w fun e w' => e = .returned (.tuple #[(apPk ks ks' err err' lo hi).v, .int .i64 (apErr ks ks' err err' lo hi)]) ∧ Below w.heap.size w w' := by
  have hS := fun W (q : Nat) (hW : LAt W (some ⟨q, 0, none⟩) 2 [⟨A, n, cap, err, ks⟩, ⟨A', n', cap', err', ks'⟩]) => Rover_any (some ⟨q, 0, none⟩) 2 2 [⟨A, n, cap, err, ks⟩, ⟨A', n', cap', err', ks'⟩] lo hi W hW (by omega) (by omega)
  rw [show spanErr [⟨A, n, cap, err, ks⟩, ⟨A', n', cap', err', ks'⟩] lo hi = apErr ks ks' err err' lo hi from rfl] at hS
  have HA := Lib.hid h
  have HA' := Lib.hid h'
  by_cases hz : apErr ks ks' err err' lo hi = 0
  case neg =>
    have hz1 : (apErr ks ks' err err' lo hi != 0) = true := by simpa using hz
    have HP := Lib.hid (show apPk ks ks' err err' lo hi = ⟨0, 0, 0, 0, 0, 0⟩ by unfold apPk; rw [if_neg hz])
    have HS := Lib.hid hS
    clear hz h h' hS
    generalize apErr ks ks' err err' lo hi = e0 at *
    generalize hW : (((w.alloc (.cells #[.slice A n cap, .int .i64 err] 24)).alloc (.cells #[.slice A' n' cap', .int .i64 err'] 24)).alloc (.cells #[.int .i64 lo, .int .i64 hi] 26)).alloc (.cells #[.int .i64 0, .int .i64 0, .int .i64 0, .int .i64 0, .int .i64 0, .int .i64 0] 40) = W
    have B0 : Below w.heap.size w W := by rw [← hW]; exact (((((Below.refl w.heap.size w).alloc (Nat.le_refl _) _).alloc (by simp) _).alloc (by simp; omega) _).alloc (by simp; omega) _)
    have x0_0 : Blk W w.heap.size 24 #[.slice A n cap, .int .i64 err] := by rw [← hW]; exact ((((Blk.at_new _ _ rfl).alloc _).alloc _).alloc _)
    have x1_0 : Blk W (w.heap.size + 1) 24 #[.slice A' n' cap', .int .i64 err'] := by rw [← hW]; exact (((Blk.at_new _ _ (by simp)).alloc _).alloc _)
    have x2_0 : Blk W (w.heap.size + 2) 26 #[.int .i64 lo, .int .i64 hi] := by rw [← hW]; exact ((Blk.at_new _ _ (by simp)).alloc _)
    have r_0 : Blk W (w.heap.size + 3) 40 #[.int .i64 0, .int .i64 0, .int .i64 0, .int .i64 0, .int .i64 0, .int .i64 0] := by rw [← hW]; exact (Blk.at_new _ _ (by simp))
    have HWE := Lib.hid hW
    clear hW
    have HLb := Lib.hid (fun q V (hV : Blk V q 24 #[.slice A n cap, .int .i64 err, .slice A' n' cap', .int .i64 err']) (hb : Below w.heap.size w V) => lat_two hV (HA.out.below hb) hm (HA'.out.below hb) hm')
    go_enter Try.func58, Try.ntmps58
    have x0_0c0 := x0_0.cell 0
    have x0_0c1 := x0_0.cell 1
    simp only [List.getElem?_toArray, List.getElem?_cons_zero, List.getElem?_cons_succ] at x0_0c0 x0_0c1
    have x0_0l := x0_0.lt
    have x1_0c0 := x1_0.cell 0
    have x1_0c1 := x1_0.cell 1
    simp only [List.getElem?_toArray, List.getElem?_cons_zero, List.getElem?_cons_succ] at x1_0c0 x1_0c1
    have x1_0l := x1_0.lt
    have x2_0c0 := x2_0.cell 0
    have x2_0c1 := x2_0.cell 1
    simp only [List.getElem?_toArray, List.getElem?_cons_zero, List.getElem?_cons_succ] at x2_0c0 x2_0c1
    have x2_0l := x2_0.lt
    have r_0c0 := r_0.cell 0
    have r_0c1 := r_0.cell 1
    have r_0c2 := r_0.cell 2
    have r_0c3 := r_0.cell 3
    have r_0c4 := r_0.cell 4
    have r_0c5 := r_0.cell 5
    simp only [List.getElem?_toArray, List.getElem?_cons_zero, List.getElem?_cons_succ] at r_0c0 r_0c1 r_0c2 r_0c3 r_0c4 r_0c5
    have r_0l := r_0.lt
    have B1 := B0
    have B1a := B1.alloc B1.size (.cells #[.slice A n cap, .int .i64 err, .slice A' n' cap', .int .i64 err'] 24)
    go_wp2_with fail
    rw [HWE.out]
    refine (HS.out _ _ (HLb.out _ _ (Blk.at_new (g := w.heap.size + 1 + 1 + 1 + 1) _ _ (by rw [← HWE.out]; simp)) B1a)).mono ?_; rintro e w1 ⟨rfl, hb1⟩
    clear x0_0c0 x0_0c1 x0_0l x1_0c0 x1_0c1 x1_0l x2_0c0 x2_0c1 x2_0l r_0c0 r_0c1 r_0c2 r_0c3 r_0c4 r_0c5 r_0l
    have x0_1 := (x0_0.alloc (.cells #[.slice A n cap, .int .i64 err, .slice A' n' cap', .int .i64 err'] 24)).below hb1
    have x1_1 := (x1_0.alloc (.cells #[.slice A n cap, .int .i64 err, .slice A' n' cap', .int .i64 err'] 24)).below hb1
    have x2_1 := (x2_0.alloc (.cells #[.slice A n cap, .int .i64 err, .slice A' n' cap', .int .i64 err'] 24)).below hb1
    have r_1 := (r_0.alloc (.cells #[.slice A n cap, .int .i64 err, .slice A' n' cap', .int .i64 err'] 24)).below hb1
    clear x0_0 x1_0 x2_0 r_0
    have x0_1c0 := x0_1.cell 0
    have x0_1c1 := x0_1.cell 1
    simp only [List.getElem?_toArray, List.getElem?_cons_zero, List.getElem?_cons_succ] at x0_1c0 x0_1c1
    have x0_1l := x0_1.lt
    have x1_1c0 := x1_1.cell 0
    have x1_1c1 := x1_1.cell 1
    simp only [List.getElem?_toArray, List.getElem?_cons_zero, List.getElem?_cons_succ] at x1_1c0 x1_1c1
    have x1_1l := x1_1.lt
    have x2_1c0 := x2_1.cell 0
    have x2_1c1 := x2_1.cell 1
    simp only [List.getElem?_toArray, List.getElem?_cons_zero, List.getElem?_cons_succ] at x2_1c0 x2_1c1
    have x2_1l := x2_1.lt
    have r_1c0 := r_1.cell 0
    have r_1c1 := r_1.cell 1
    have r_1c2 := r_1.cell 2
    have r_1c3 := r_1.cell 3
    have r_1c4 := r_1.cell 4
    have r_1c5 := r_1.cell 5
    simp only [List.getElem?_toArray, List.getElem?_cons_zero, List.getElem?_cons_succ] at r_1c0 r_1c1 r_1c2 r_1c3 r_1c4 r_1c5
    have r_1l := r_1.lt
    have hr := r_1
    have hf0 := r_1.frozen 0
    have hf1 := r_1.frozen 1
    have hf2 := r_1.frozen 2
    have hf3 := r_1.frozen 3
    have hf4 := r_1.frozen 4
    have hf5 := r_1.frozen 5
    have hl := r_1.lt
    have BZ := B1a.trans (hb1.mono B1a.size)
    go_wp2
    have hF := ((((((hr.set_ 0 (.int .i64 0)).set_ 1 (.int .i64 0)).set_ 2 (.int .i64 0)).set_ 3 (.int .i64 0)).set_ 4 (.int .i64 0)).set_ 5 (.int .i64 0))
    have k0 := hF.cell 0
    have k1 := hF.cell 1
    have k2 := hF.cell 2
    have k3 := hF.cell 3
    have k4 := hF.cell 4
    have k5 := hF.cell 5
    simp only [List.setIfInBounds_toArray, List.set_cons_zero, List.set_cons_succ, List.getElem?_toArray, List.getElem?_cons_zero, List.getElem?_cons_succ] at k0 k1 k2 k3 k4 k5
    exact bodyPost_ret (v := .tuple #[.agg #[.int .i64 0, .int .i64 0, .int .i64 0, .int .i64 0, .int .i64 0, .int .i64 0], .int .i64 e0]) (by simp [results, Try.results58, go_sem, k0, k1, k2, k3, k4, k5]) rfl (⟨by rw [HP.out]; rfl, ((((((BZ.setCell (p := ⟨(w.heap.size + 3), 0, none⟩) (by simp <;> omega) _).setCell (p := ⟨(w.heap.size + 3), 1, none⟩) (by simp <;> omega) _).setCell (p := ⟨(w.heap.size + 3), 2, none⟩) (by simp <;> omega) _).setCell (p := ⟨(w.heap.size + 3), 3, none⟩) (by simp <;> omega) _).setCell (p := ⟨(w.heap.size + 3), 4, none⟩) (by simp <;> omega) _).setCell (p := ⟨(w.heap.size + 3), 5, none⟩) (by simp <;> omega) _)⟩)
  rw [hz] at hS
  rw [hz]
  have HS := Lib.hid hS
  obtain ⟨hv, hv', _, _, _, _, hlh, hlo, hhi, hlo', hhi'⟩ := ap_valid hz
  have hpos := hv.pos
  have hpos' := hv'.pos
  have hlen := h.len
  have hlen' := h'.len
  obtain ⟨b, off, hAe, hkn⟩ := h.at_ (by omega)
  obtain ⟨b', off', hAe', hkn'⟩ := h'.at_ (by omega)
  subst hAe hAe' hlen hlen'
  have hl0 := (hv.x0 0 hpos).1
  have hh0 := (hv.x0 (ks.length - 1) (by omega)).2
  have HPl := Lib.hid (apart_plain hz)
  have HKn := Lib.hid hkn
  have HKn' := Lib.hid hkn'
  have HFrb := Lib.hid (fun (x : Int) (hx : lo ≤ x) => fD_frb hv hv' (x := x) (by omega) (by omega))
  have HAt0 := Lib.hid (fun x (hx1 : lo ≤ x) (hx2 : x ≤ hi) W (hW : Kn W b off ks) => At_any b off cap err ks x W hW hv (by omega) (by omega))
  have HAt1 := Lib.hid (fun x (hx1 : lo ≤ x) (hx2 : x ≤ hi) W (hW : Kn W b' off' ks') => At_any b' off' cap' err' ks' x W hW hv' (by omega) (by omega))
  have hmi : ∀ x, lo ≤ x → ∀ W, Calls Try.prog 118 #[vFrac (valN ks x) (valD ks x), vFrac (valN ks' x) (valD ks' x)] W fun e w' => e = .returned (vFrac (dfN ks ks' x) (dfD ks ks' x)) ∧ Below W.heap.size W w' := fun x hx W => by
    have hdf := df_bd hv hv' (x := x) (by omega) (by omega)
    exact Minus2_any (valN ks x) (valD ks x) (valN ks' x) (valD ks' x) W (by omega) (by omega) (by omega) (by omega) (by omega) (by omega)
  have HMi := Lib.hid hmi
  obtain ⟨i0, hi0, hi1, hi2, hi3⟩ := info_parts info_frac
  have HI := Lib.hid (show Try.prog.info? 30 = some i0 ∧ i0.zero = some (vFrac 0 0) ∧ i0.size = 2 ∧ i0.bytes = 16 from ⟨hi0, hi1, hi2, hi3⟩)
  clear hmi hz hS h h' hkn hkn' hv hv' hi0 hi1 hi2 hi3
  generalize hW : (((w.alloc (.cells #[.slice (some ⟨b, off, none⟩) ks.length cap, .int .i64 err] 24)).alloc (.cells #[.slice (some ⟨b', off', none⟩) ks'.length cap', .int .i64 err'] 24)).alloc (.cells #[.int .i64 lo, .int .i64 hi] 26)).alloc (.cells #[.int .i64 0, .int .i64 0, .int .i64 0, .int .i64 0, .int .i64 0, .int .i64 0] 40) = W
  have B0 : Below w.heap.size w W := by rw [← hW]; exact (((((Below.refl w.heap.size w).alloc (Nat.le_refl _) _).alloc (by simp) _).alloc (by simp; omega) _).alloc (by simp; omega) _)
  have x0_0 : Blk W w.heap.size 24 #[.slice (some ⟨b, off, none⟩) ks.length cap, .int .i64 err] := by rw [← hW]; exact ((((Blk.at_new _ _ rfl).alloc _).alloc _).alloc _)
  have x1_0 : Blk W (w.heap.size + 1) 24 #[.slice (some ⟨b', off', none⟩) ks'.length cap', .int .i64 err'] := by rw [← hW]; exact (((Blk.at_new _ _ (by simp)).alloc _).alloc _)
  have x2_0 : Blk W (w.heap.size + 2) 26 #[.int .i64 lo, .int .i64 hi] := by rw [← hW]; exact ((Blk.at_new _ _ (by simp)).alloc _)
  have r_0 : Blk W (w.heap.size + 3) 40 #[.int .i64 0, .int .i64 0, .int .i64 0, .int .i64 0, .int .i64 0, .int .i64 0] := by rw [← hW]; exact (Blk.at_new _ _ (by simp))
  have HWE := Lib.hid hW
  clear hW
  have HLb := Lib.hid (fun q V (hV : Blk V q 24 #[.slice (some ⟨b, off, none⟩) ks.length cap, .int .i64 err, .slice (some ⟨b', off', none⟩) ks'.length cap', .int .i64 err']) (hb : Below w.heap.size w V) => lat_two hV (HA.out.below hb) hm (HA'.out.below hb) hm')
  go_enter Try.func58, Try.ntmps58
  have x0_0c0 := x0_0.cell 0
  have x0_0c1 := x0_0.cell 1
  simp only [List.getElem?_toArray, List.getElem?_cons_zero, List.getElem?_cons_succ] at x0_0c0 x0_0c1
  have x0_0l := x0_0.lt
  have x1_0c0 := x1_0.cell 0
  have x1_0c1 := x1_0.cell 1
  simp only [List.getElem?_toArray, List.getElem?_cons_zero, List.getElem?_cons_succ] at x1_0c0 x1_0c1
  have x1_0l := x1_0.lt
  have x2_0c0 := x2_0.cell 0
  have x2_0c1 := x2_0.cell 1
  simp only [List.getElem?_toArray, List.getElem?_cons_zero, List.getElem?_cons_succ] at x2_0c0 x2_0c1
  have x2_0l := x2_0.lt
  have r_0c0 := r_0.cell 0
  have r_0c1 := r_0.cell 1
  have r_0c2 := r_0.cell 2
  have r_0c3 := r_0.cell 3
  have r_0c4 := r_0.cell 4
  have r_0c5 := r_0.cell 5
  simp only [List.getElem?_toArray, List.getElem?_cons_zero, List.getElem?_cons_succ] at r_0c0 r_0c1 r_0c2 r_0c3 r_0c4 r_0c5
  have r_0l := r_0.lt
  have B1 := B0
  have B1a := B1.alloc B1.size (.cells #[.slice (some ⟨b, off, none⟩) ks.length cap, .int .i64 err, .slice (some ⟨b', off', none⟩) ks'.length cap', .int .i64 err'] 24)
  go_wp2_with fail
  rw [HWE.out]
  refine (HS.out _ _ (HLb.out _ _ (Blk.at_new (g := w.heap.size + 1 + 1 + 1 + 1) _ _ (by rw [← HWE.out]; simp)) B1a)).mono ?_; rintro e w1 ⟨rfl, hb1⟩
  clear x0_0c0 x0_0c1 x0_0l x1_0c0 x1_0c1 x1_0l x2_0c0 x2_0c1 x2_0l r_0c0 r_0c1 r_0c2 r_0c3 r_0c4 r_0c5 r_0l
  have x0_1 := (x0_0.alloc (.cells #[.slice (some ⟨b, off, none⟩) ks.length cap, .int .i64 err, .slice (some ⟨b', off', none⟩) ks'.length cap', .int .i64 err'] 24)).below hb1
  have x1_1 := (x1_0.alloc (.cells #[.slice (some ⟨b, off, none⟩) ks.length cap, .int .i64 err, .slice (some ⟨b', off', none⟩) ks'.length cap', .int .i64 err'] 24)).below hb1
  have x2_1 := (x2_0.alloc (.cells #[.slice (some ⟨b, off, none⟩) ks.length cap, .int .i64 err, .slice (some ⟨b', off', none⟩) ks'.length cap', .int .i64 err'] 24)).below hb1
  have r_1 := (r_0.alloc (.cells #[.slice (some ⟨b, off, none⟩) ks.length cap, .int .i64 err, .slice (some ⟨b', off', none⟩) ks'.length cap', .int .i64 err'] 24)).below hb1
  clear x0_0 x1_0 x2_0 r_0
  have x0_1c0 := x0_1.cell 0
  have x0_1c1 := x0_1.cell 1
  simp only [List.getElem?_toArray, List.getElem?_cons_zero, List.getElem?_cons_succ] at x0_1c0 x0_1c1
  have x0_1l := x0_1.lt
  have x1_1c0 := x1_1.cell 0
  have x1_1c1 := x1_1.cell 1
  simp only [List.getElem?_toArray, List.getElem?_cons_zero, List.getElem?_cons_succ] at x1_1c0 x1_1c1
  have x1_1l := x1_1.lt
  have x2_1c0 := x2_1.cell 0
  have x2_1c1 := x2_1.cell 1
  simp only [List.getElem?_toArray, List.getElem?_cons_zero, List.getElem?_cons_succ] at x2_1c0 x2_1c1
  have x2_1l := x2_1.lt
  have r_1c0 := r_1.cell 0
  have r_1c1 := r_1.cell 1
  have r_1c2 := r_1.cell 2
  have r_1c3 := r_1.cell 3
  have r_1c4 := r_1.cell 4
  have r_1c5 := r_1.cell 5
  simp only [List.getElem?_toArray, List.getElem?_cons_zero, List.getElem?_cons_succ] at r_1c0 r_1c1 r_1c2 r_1c3 r_1c4 r_1c5
  have r_1l := r_1.lt
  have B2 := B1a.trans (hb1.mono B1a.size)
  go_wp2_with fail
  clear x0_1c0 x0_1c1 x0_1l x1_1c0 x1_1c1 x1_1l x2_1c0 x2_1c1 x2_1l r_1c0 r_1c1 r_1c2 r_1c3 r_1c4 r_1c5 r_1l
  have x0_2 := x0_1
  have x1_2 := x1_1
  have x2_2 := x2_1
  have r_2 := r_1
  clear x0_1 x1_1 x2_1 r_1
  have x0_2c0 := x0_2.cell 0
  have x0_2c1 := x0_2.cell 1
  simp only [List.getElem?_toArray, List.getElem?_cons_zero, List.getElem?_cons_succ] at x0_2c0 x0_2c1
  have x0_2l := x0_2.lt
  have x1_2c0 := x1_2.cell 0
  have x1_2c1 := x1_2.cell 1
  simp only [List.getElem?_toArray, List.getElem?_cons_zero, List.getElem?_cons_succ] at x1_2c0 x1_2c1
  have x1_2l := x1_2.lt
  have x2_2c0 := x2_2.cell 0
  have x2_2c1 := x2_2.cell 1
  simp only [List.getElem?_toArray, List.getElem?_cons_zero, List.getElem?_cons_succ] at x2_2c0 x2_2c1
  have x2_2l := x2_2.lt
  have r_2c0 := r_2.cell 0
  have r_2c1 := r_2.cell 1
  have r_2c2 := r_2.cell 2
  have r_2c3 := r_2.cell 3
  have r_2c4 := r_2.cell 4
  have r_2c5 := r_2.cell 5
  simp only [List.getElem?_toArray, List.getElem?_cons_zero, List.getElem?_cons_succ] at r_2c0 r_2c1 r_2c2 r_2c3 r_2c4 r_2c5
  have r_2l := r_2.lt
  have hws := r_2l
  have hbs : (w.heap.size + 4) ≤ w1.heap.size := by omega
  go_loopw [9, 10] (fun v i wx => ∃ (m : Nat) (X : Int), X = lo + m ∧ m ≤ (hi + 1 - lo).toNat ∧ i = .int .i64 X ∧ wx.ownsRow (w.heap.size + 4) 30 2 v m (((List.range m).map fun (j : Nat) => fD ks ks' (lo + (j : Int))).flatMap encF) ∧ (w.heap.size + 4) ≤ wx.heap.size ∧ Below w.heap.size w wx ∧ Blk wx w.heap.size 24 #[.slice (some ⟨b, off, none⟩) ks.length cap, .int .i64 err] ∧ Blk wx (w.heap.size + 1) 24 #[.slice (some ⟨b', off', none⟩) ks'.length cap', .int .i64 err'] ∧ Blk wx (w.heap.size + 2) 26 #[.int .i64 lo, .int .i64 hi] ∧ Blk wx (w.heap.size + 3) 40 #[.int .i64 0, .int .i64 0, .int .i64 0, .int .i64 0, .int .i64 0, .int .i64 0]) (fun _ i _ => (hi + 1 - intOf i).toNat)
  case atStart => exact ⟨0, lo, by omega, by omega, rfl, World.ownsRow_nil _ _ _ _, hbs, (B2), x0_2, x1_2, x2_2, r_2⟩
  case round =>
    clear x0_2c0 x0_2c1 x0_2l x1_2c0 x1_2c1 x1_2l x2_2c0 x2_2c1 x2_2l r_2c0 r_2c1 r_2c2 r_2c3 r_2c4 r_2c5 r_2l
    obtain ⟨m, X, hX, hmM, rfl, ow_20, hbr, Br, x0_20, x1_20, x2_20, r_20⟩ := hrel
    have x0_20c0 := x0_20.cell 0
    have x0_20c1 := x0_20.cell 1
    simp only [List.getElem?_toArray, List.getElem?_cons_zero, List.getElem?_cons_succ] at x0_20c0 x0_20c1
    have x0_20l := x0_20.lt
    have x1_20c0 := x1_20.cell 0
    have x1_20c1 := x1_20.cell 1
    simp only [List.getElem?_toArray, List.getElem?_cons_zero, List.getElem?_cons_succ] at x1_20c0 x1_20c1
    have x1_20l := x1_20.lt
    have x2_20c0 := x2_20.cell 0
    have x2_20c1 := x2_20.cell 1
    simp only [List.getElem?_toArray, List.getElem?_cons_zero, List.getElem?_cons_succ] at x2_20c0 x2_20c1
    have x2_20l := x2_20.lt
    have r_20c0 := r_20.cell 0
    have r_20c1 := r_20.cell 1
    have r_20c2 := r_20.cell 2
    have r_20c3 := r_20.cell 3
    have r_20c4 := r_20.cell 4
    have r_20c5 := r_20.cell 5
    simp only [List.getElem?_toArray, List.getElem?_cons_zero, List.getElem?_cons_succ] at r_20c0 r_20c1 r_20c2 r_20c3 r_20c4 r_20c5
    have r_20l := r_20.lt
    by_cases hxh : X ≤ hi
    · have hm1 : m < (hi + 1 - lo).toNat := by omega
      have hm2 : m ≤ 2001 := by omega
      have HAt := Lib.hid (HAt0.out X (by omega) hxh)
      have HAt' := Lib.hid (HAt1.out X (by omega) hxh)
      have HMx := Lib.hid (HMi.out X (by omega))
      have HXe := Lib.hid hX
      have HRow := Lib.hid (show ((List.range (m + 1)).map fun (j : Nat) => fD ks ks' (lo + (j : Int))).flatMap encF = ((List.range m).map fun (j : Nat) => fD ks ks' (lo + (j : Int))).flatMap encF ++ [.int .i64 (dfN ks ks' X), .int .i64 (dfD ks ks' X)] by
        rw [List.range_succ, List.map_append, List.flatMap_append, hX]; rfl)
      have hXa : 0 ≤ X := by omega
      have hXb : X ≤ 2000 := by omega
      have HLT := Lib.hid (fun (q : Nat) hq => own_lt (g := q) ow_20 hq)
      have OW := Lib.hid ow_20
      clear hX ow_20
      generalize dfN ks ks' X = qn at *
      generalize dfD ks ks' X = qd at *
      generalize valN ks X = vn at *
      generalize valD ks X = vd at *
      generalize valN ks' X = un at *
      generalize valD ks' X = ud at *
      generalize ((List.range m).map fun (j : Nat) => fD ks ks' (lo + (j : Int))).flatMap encF = acc at *
      go_wp2_with fail
      refine wp_region_preC 10 [(8, 36), (9, 37)] (fun v' => Below w.heap.size w v' ∧ (w.heap.size + 4) ≤ v'.heap.size ∧ Blk v' w.heap.size 24 #[.slice (some ⟨b, off, none⟩) ks.length cap, .int .i64 err] ∧ Blk v' (w.heap.size + 1) 24 #[.slice (some ⟨b', off', none⟩) ks'.length cap', .int .i64 err'] ∧ Blk v' (w.heap.size + 2) 26 #[.int .i64 lo, .int .i64 hi] ∧ Blk v' (w.heap.size + 3) 40 #[.int .i64 0, .int .i64 0, .int .i64 0, .int .i64 0, .int .i64 0, .int .i64 0]) (OneRow 30 2 ((w.heap.size + 4)) (m) 8 9 u9 acc [.int .i64 qn, .int .i64 qd]) (by kernel_rfl) (by kernel_rfl) ?hw ?hC ?h0 ?hP ?ex
      case hw => exact ⟨Br, hbr, x0_20, x1_20, x2_20, r_20⟩
      case hC =>
        rintro v1 v2 ⟨h0, hb0, qx0, qx1, qx2, qr⟩ kk
        exact ⟨h0.trans (kk.mono h0.size), Nat.le_trans hb0 kk.size, qx0.below kk, qx1.below kk, qx2.below kk, qr.below kk⟩
      case h0 =>
        intro v' hv'
        refine OneRow.below (W := wr) ?_ hv'
        exact ⟨by simpa using OW.out, fun h => (by cases h)⟩
      case hP => exact fun ls vs v v' _ h kk => h.below kk
      case ex =>
        apply Exists.intro
        refine ⟨?walk, ?loud⟩
        case walk =>
          rintro V ⟨h0, hb0, qx0, qx1, qx2, qr⟩
          have x0_vc0 := qx0.cell 0
          have x0_vc1 := qx0.cell 1
          simp only [List.getElem?_toArray, List.getElem?_cons_zero, List.getElem?_cons_succ] at x0_vc0 x0_vc1
          have x0_vl := qx0.lt
          have x1_vc0 := qx1.cell 0
          have x1_vc1 := qx1.cell 1
          simp only [List.getElem?_toArray, List.getElem?_cons_zero, List.getElem?_cons_succ] at x1_vc0 x1_vc1
          have x1_vl := qx1.lt
          have x2_vc0 := qx2.cell 0
          have x2_vc1 := qx2.cell 1
          simp only [List.getElem?_toArray, List.getElem?_cons_zero, List.getElem?_cons_succ] at x2_vc0 x2_vc1
          have x2_vl := qx2.lt
          have r_vc0 := qr.cell 0
          have r_vc1 := qr.cell 1
          have r_vc2 := qr.cell 2
          have r_vc3 := qr.cell 3
          have r_vc4 := qr.cell 4
          have r_vc5 := qr.cell 5
          simp only [List.getElem?_toArray, List.getElem?_cons_zero, List.getElem?_cons_succ] at r_vc0 r_vc1 r_vc2 r_vc3 r_vc4 r_vc5
          have r_vl := qr.lt
          have BV := h0
          have HKV := Lib.hid (HKn.out.below BV)
          have HKV' := Lib.hid (HKn'.out.below BV)
          obtain ⟨xc, xf⟩ := xcell (W := V)
          simp only [List.take_succ_cons, List.take_zero, qOf, isLoud, List.any_cons, List.any_nil, Nat.reduceBEq, Bool.or_false, Bool.or_true, Nat.reduceAdd, Bool.false_eq_true, if_true, if_false, beq_self_eq_true, Nat.zero_add]
          repeat (first | go_big_quiet_step (first | (go_at_call 85; with_reducible refine calls_ext (HAt.out _ ?_); exact HKV.out.below (Ext.below _)) | (go_at_call 85; with_reducible refine calls_ext (HAt'.out _ ?_); exact HKV'.out.below (Ext.below _)) | (go_at_call 118; with_reducible refine calls_ext (HMx.out _))) | quiet_step (first | (go_at_call 85; with_reducible refine calls_ext (HAt.out _ ?_); exact HKV.out.below (Ext.below _)) | (go_at_call 85; with_reducible refine calls_ext (HAt'.out _ ?_); exact HKV'.out.below (Ext.below _)) | (go_at_call 118; with_reducible refine calls_ext (HMx.out _))))
          exact wpQuiet_nil rfl
        case loud =>
          simp only [List.drop_succ_cons, List.drop_zero]
          refine ⟨?_, ?_⟩
          · rintro p hp vs V ⟨h0, hb0, qx0, qx1, qx2, qr⟩ ls hI hls hw o ho
            simp only [List.mem_cons, List.not_mem_nil, or_false] at hp
            rcases hp with rfl | rfl
            · simp only [List.getElem?_cons_succ, List.getElem?_cons_zero, Option.some.injEq] at ho
              subst ho
              simp [loudAt, loudUpon, go_sem, execOp, putsL, Act.put]
              exact ⟨⟨h0.alloc h0.size _, by omega, qx0.alloc _, qx1.alloc _, qx2.alloc _, qr.alloc _⟩, hI.lay (by decide)⟩
            · have h9 := hw (8, 36) (by simp) (by kernel_rfl)
              obtain ⟨g, e, hbk⟩ := hI.new h9 hls
              have hrow := hI.row
              have h8 := hls
              simp only [h8, cond_false, Nat.add_zero, List.append_nil] at hrow
              simp only [List.getElem?_cons_succ, List.getElem?_cons_zero, Option.some.injEq] at ho
              subst ho
              refine loudAt_append (.tmp 28) (.tmp 36) 117 rfl ((w.heap.size + 4)) 30 i0 (vFrac 0 0) 2 16 Try.underlying117 HI.out.1 HI.out.2.1 HI.out.2.2.1 HI.out.2.2.2 rfl (by decide) u9 (m) acc rfl hrow ⟨g, 0, none⟩ 1 1 [.int .i64 qn, .int .i64 qd] e rfl ?c1 ?c2 ?c3 ?c4 hb0 ?_
              case c1 =>
                have g0 := hbk.cell 0
                have g1 := hbk.cell 1
                simp only [List.getElem?_toArray, List.getElem?_cons_zero, List.getElem?_cons_succ] at g0 g1
                intro j' u hj'
                match j', hj' with
                | 0, hj' => simp at hj'; subst hj'; simpa [Addr.add] using g0
                | 1, hj' => simp at hj'; subst hj'; simpa [Addr.add] using g1
              case c2 => intro u hu; simp at hu; rcases hu with rfl | rfl <;> rfl
              case c3 => unfold maxLen; omega
              case c4 => omega
              intro v' w2 hown' hgrow hat
              refine ⟨⟨h0.grown hgrow h0.size (fun kk hk => by have := HLT.out _ hk; omega), Nat.le_trans hb0 hgrow.size, qx0.grown hgrow (fun h => by have := HLT.out _ h; omega), qx1.grown hgrow (fun h => by have := HLT.out _ h; omega), qx2.grown hgrow (fun h => by have := HLT.out _ h; omega), qr.grown hgrow (fun h => by have := HLT.out _ h; omega)⟩, hI.app v' hown'⟩
          · rintro ls vs V21 ⟨B21, hbase21, x0_21, x1_21, x2_21, r_21⟩ hI hls
            have h8 := hls (9, 37) (by simp)
            have hrow := hI.row
            simp only [h8, cond_true] at hrow
            have HN := Lib.hid hrow
            clear hrow hI hls h8
            simp only [putsL, List.foldl_cons, List.foldl_nil, Act.put, List.setIfInBounds_toArray, List.set_cons_succ, List.set_cons_zero]
            generalize vs 9 = v7 at *
            generalize vs 8 = v6 at *
            obtain ⟨g', cap', rfl⟩ := ownsRow_succ HN.out
            have x0_21c0 := x0_21.cell 0
            have x0_21c1 := x0_21.cell 1
            simp only [List.getElem?_toArray, List.getElem?_cons_zero, List.getElem?_cons_succ] at x0_21c0 x0_21c1
            have x0_21l := x0_21.lt
            have x1_21c0 := x1_21.cell 0
            have x1_21c1 := x1_21.cell 1
            simp only [List.getElem?_toArray, List.getElem?_cons_zero, List.getElem?_cons_succ] at x1_21c0 x1_21c1
            have x1_21l := x1_21.lt
            have x2_21c0 := x2_21.cell 0
            have x2_21c1 := x2_21.cell 1
            simp only [List.getElem?_toArray, List.getElem?_cons_zero, List.getElem?_cons_succ] at x2_21c0 x2_21c1
            have x2_21l := x2_21.lt
            have r_21c0 := r_21.cell 0
            have r_21c1 := r_21.cell 1
            have r_21c2 := r_21.cell 2
            have r_21c3 := r_21.cell 3
            have r_21c4 := r_21.cell 4
            have r_21c5 := r_21.cell 5
            simp only [List.getElem?_toArray, List.getElem?_cons_zero, List.getElem?_cons_succ] at r_21c0 r_21c1 r_21c2 r_21c3 r_21c4 r_21c5
            have r_21l := r_21.lt
            go_wp2
            go_roundw
            case rel => exact ⟨m + 1, X + 1, by have := HXe.out; omega, by omega, rfl, by rw [HRow.out]; simpa using HN.out, hbase21, (B21), x0_21, x1_21, x2_21, r_21⟩
            case measure => simp [intOf]; omega
    · have hmE : m = (hi + 1 - lo).toNat := by omega
      have hm0 : 0 < m := by omega
      obtain ⟨g, c, rfl⟩ := Joins.ownsRow_form ow_20 hm0
      have hzl : ((List.range m).map fun (j : Nat) => fD ks ks' (lo + (j : Int))).length = m := by simp
      have hF1 : Fs wr g 0 ((List.range m).map fun (j : Nat) => fD ks ks' (lo + (j : Int))) := Fs_of_own (by rw [hzl]; exact ow_20)
      have hfr : ∀ z ∈ ((List.range m).map fun (j : Nat) => fD ks ks' (lo + (j : Int))), FrB z := fun z hz => by
        obtain ⟨j, _, rfl⟩ := List.mem_map.1 hz
        exact HFrb.out _ (by omega)
      have hpk := Rpeak_any lo g 0 c ((List.range m).map fun (j : Nat) => fD ks ks' (lo + (j : Int))) wr hF1 hfr (by omega) (by omega) (by omega) (by omega)
      rw [hzl] at hpk
      have hpe : apPk ks ks' err err' lo hi = rpkV (fD ks ks') lo hi := HPl.out
      unfold rpkV at hpe
      rw [ints_map, ← hmE] at hpe
      have HPe := Lib.hid hpe
      have HPk := Lib.hid hpk
      clear hpk hpe hF1 hfr ow_20 hzl HPl hmE hX
      generalize extr ltF ((List.range m).map fun (j : Nat) => fD ks ks' (lo + (j : Int))) (0, 0) = m1 at *
      generalize extr gtF ((List.range m).map fun (j : Nat) => fD ks ks' (lo + (j : Int))) (0, 0) = m2 at *
      obtain ⟨⟨ln, ld⟩, la⟩ := m1
      obtain ⟨⟨hn', hd⟩, ha⟩ := m2
      dsimp only at HPk HPe
      have B21 := Br
      go_wp2_with fail
      refine (HPk.out).mono ?_; rintro e w21 ⟨rfl, hb21⟩
      clear x0_20c0 x0_20c1 x0_20l x1_20c0 x1_20c1 x1_20l x2_20c0 x2_20c1 x2_20l r_20c0 r_20c1 r_20c2 r_20c3 r_20c4 r_20c5 r_20l
      have x0_21 := x0_20.below hb21
      have x1_21 := x1_20.below hb21
      have x2_21 := x2_20.below hb21
      have r_21 := r_20.below hb21
      clear x0_20 x1_20 x2_20 r_20
      have x0_21c0 := x0_21.cell 0
      have x0_21c1 := x0_21.cell 1
      simp only [List.getElem?_toArray, List.getElem?_cons_zero, List.getElem?_cons_succ] at x0_21c0 x0_21c1
      have x0_21l := x0_21.lt
      have x1_21c0 := x1_21.cell 0
      have x1_21c1 := x1_21.cell 1
      simp only [List.getElem?_toArray, List.getElem?_cons_zero, List.getElem?_cons_succ] at x1_21c0 x1_21c1
      have x1_21l := x1_21.lt
      have x2_21c0 := x2_21.cell 0
      have x2_21c1 := x2_21.cell 1
      simp only [List.getElem?_toArray, List.getElem?_cons_zero, List.getElem?_cons_succ] at x2_21c0 x2_21c1
      have x2_21l := x2_21.lt
      have r_21c0 := r_21.cell 0
      have r_21c1 := r_21.cell 1
      have r_21c2 := r_21.cell 2
      have r_21c3 := r_21.cell 3
      have r_21c4 := r_21.cell 4
      have r_21c5 := r_21.cell 5
      simp only [List.getElem?_toArray, List.getElem?_cons_zero, List.getElem?_cons_succ] at r_21c0 r_21c1 r_21c2 r_21c3 r_21c4 r_21c5
      have r_21l := r_21.lt
      have hr := r_21
      have hf0 := r_21.frozen 0
      have hf1 := r_21.frozen 1
      have hf2 := r_21.frozen 2
      have hf3 := r_21.frozen 3
      have hf4 := r_21.frozen 4
      have hf5 := r_21.frozen 5
      have hl := r_21.lt
      have BZ := B21.trans (hb21.mono B21.size)
      go_wp2
      have hF := ((((((hr.set_ 0 (.int .i64 ln)).set_ 1 (.int .i64 ld)).set_ 2 (.int .i64 hn')).set_ 3 (.int .i64 hd)).set_ 4 (.int .i64 (lo + la))).set_ 5 (.int .i64 (lo + ha)))
      have k0 := hF.cell 0
      have k1 := hF.cell 1
      have k2 := hF.cell 2
      have k3 := hF.cell 3
      have k4 := hF.cell 4
      have k5 := hF.cell 5
      simp only [List.setIfInBounds_toArray, List.set_cons_zero, List.set_cons_succ, List.getElem?_toArray, List.getElem?_cons_zero, List.getElem?_cons_succ] at k0 k1 k2 k3 k4 k5
      exact bodyPost_ret (v := .tuple #[.agg #[.int .i64 ln, .int .i64 ld, .int .i64 hn', .int .i64 hd, .int .i64 (lo + la), .int .i64 (lo + ha)], .int .i64 0]) (by simp [results, Try.results58, go_sem, k0, k1, k2, k3, k4, k5]) rfl (⟨by rw [HPe.out]; rfl, ((((((BZ.setCell (p := ⟨(w.heap.size + 3), 0, none⟩) (by simp <;> omega) _).setCell (p := ⟨(w.heap.size + 3), 1, none⟩) (by simp <;> omega) _).setCell (p := ⟨(w.heap.size + 3), 2, none⟩) (by simp <;> omega) _).setCell (p := ⟨(w.heap.size + 3), 3, none⟩) (by simp <;> omega) _).setCell (p := ⟨(w.heap.size + 3), 4, none⟩) (by simp <;> omega) _).setCell (p := ⟨(w.heap.size + 3), 5, none⟩) (by simp <;> omega) _)⟩)

set_option maxRecDepth 100000 in
set_option maxHeartbeats 6400000 in
theorem RClash_any (A A' : Option Addr) (n cap n' cap' : Nat) (err err' : Int) (ks ks' : List (Int × Int)) (w : World) (h : CAt w A n ks) (hm : n ≤ 9223372036854775807) (h' : CAt w A' n' ks') (hm' : n' ≤ 9223372036854775807) :
    Calls Try.prog 60 #[vCv A n cap err, vCv A' n' cap' err'] w fun e w' => e = .returned (.agg #[.int .i64 ((clX ks ks' err err').getD 0), .bool (clX ks ks' err err').isSome, .int .i64 (twErr ks ks' err err')]) ∧ Below w.heap.size w w' := by
  have hT := fun W (hW : CAt W A n ks) (hW' : CAt W A' n' ks') => two_any A A' n cap n' cap' err err' ks ks' W hW hm hW' hm'
  have HA := Lib.hid h
  have HA' := Lib.hid h'
  by_cases hz : twErr ks ks' err err' = 0
  case neg =>
    have hz1 : (twErr ks ks' err err' != 0) = true := by simpa using hz
    have HP := Lib.hid (show clX ks ks' err err' = none by unfold clX; rw [if_neg hz])
    have HT := Lib.hid hT
    clear hz h h' hT
    generalize twErr ks ks' err err' = e0 at *
    generalize hW : ((w.alloc (.cells #[.slice A n cap, .int .i64 err] 24)).alloc (.cells #[.slice A' n' cap', .int .i64 err'] 24)).alloc (.cells #[.int .i64 0, .bool false, .int .i64 0] 87) = W
    have B0 : Below w.heap.size w W := by rw [← hW]; exact ((((Below.refl w.heap.size w).alloc (Nat.le_refl _) _).alloc (by simp) _).alloc (by simp; omega) _)
    have x0_0 : Blk W w.heap.size 24 #[.slice A n cap, .int .i64 err] := by rw [← hW]; exact (((Blk.at_new _ _ rfl).alloc _).alloc _)
    have x1_0 : Blk W (w.heap.size + 1) 24 #[.slice A' n' cap', .int .i64 err'] := by rw [← hW]; exact ((Blk.at_new _ _ (by simp)).alloc _)
    have r_0 : Blk W (w.heap.size + 2) 87 #[.int .i64 0, .bool false, .int .i64 0] := by rw [← hW]; exact (Blk.at_new _ _ (by simp))
    have HWE := Lib.hid hW
    clear hW
    go_enter Try.func60, Try.ntmps60
    have B1 := B0
    go_wp2_with fail
    rw [HWE.out]
    refine (HT.out _ (HA.out.below B1) (HA'.out.below B1)).mono ?_; rintro e w1 ⟨rfl, hb1⟩
    have x0_1 := x0_0.below hb1
    have x1_1 := x1_0.below hb1
    have r_1 := r_0.below hb1
    clear x0_0 x1_0 r_0
    have x0_1c0 := x0_1.cell 0
    have x0_1c1 := x0_1.cell 1
    simp only [List.getElem?_toArray, List.getElem?_cons_zero, List.getElem?_cons_succ] at x0_1c0 x0_1c1
    have x0_1l := x0_1.lt
    have x1_1c0 := x1_1.cell 0
    have x1_1c1 := x1_1.cell 1
    simp only [List.getElem?_toArray, List.getElem?_cons_zero, List.getElem?_cons_succ] at x1_1c0 x1_1c1
    have x1_1l := x1_1.lt
    have r_1c0 := r_1.cell 0
    have r_1c1 := r_1.cell 1
    have r_1c2 := r_1.cell 2
    simp only [List.getElem?_toArray, List.getElem?_cons_zero, List.getElem?_cons_succ] at r_1c0 r_1c1 r_1c2
    have r_1l := r_1.lt
    have hr := r_1
    have hf0 := r_1.frozen 0
    have hf1 := r_1.frozen 1
    have hf2 := r_1.frozen 2
    have hl := r_1.lt
    have BZ := B1.trans (hb1.mono B1.size)
    go_wp2
    have hF := (((hr.set_ 0 (.int .i64 0)).set_ 1 (.bool false)).set_ 2 (.int .i64 e0))
    have k0 := hF.cell 0
    have k1 := hF.cell 1
    have k2 := hF.cell 2
    simp only [List.setIfInBounds_toArray, List.set_cons_zero, List.set_cons_succ, List.getElem?_toArray, List.getElem?_cons_zero, List.getElem?_cons_succ] at k0 k1 k2
    exact bodyPost_ret (v := .agg #[.int .i64 0, .bool false, .int .i64 e0]) (by simp [results, Try.results60, go_sem, k0, k1, k2]) rfl (⟨by rw [HP.out]; rfl, (((BZ.setCell (p := ⟨(w.heap.size + 2), 0, none⟩) (by simp <;> omega) _).setCell (p := ⟨(w.heap.size + 2), 1, none⟩) (by simp <;> omega) _).setCell (p := ⟨(w.heap.size + 2), 2, none⟩) (by simp <;> omega) _)⟩)
  rw [hz] at hT
  rw [hz]
  have HT := Lib.hid hT
  have HP := Lib.hid (show clX ks ks' err err' = clG (mtB ks ks' err err') (twLo ks ks') (twHi ks ks' + 1 - twLo ks ks').toNat by unfold clX; rw [if_pos hz])
  obtain ⟨hv, hv', he, he'⟩ := tw_valid hz
  obtain ⟨q1, q2, r1, r2, r3, r4, r5, r6, r7, r8⟩ := tw_lohi hz
  have hpos := hv.pos
  have hpos' := hv'.pos
  have hlen := h.len
  have hlen' := h'.len
  obtain ⟨b, off, hAe, hkn⟩ := h.at_ (by omega)
  obtain ⟨b', off', hAe', hkn'⟩ := h'.at_ (by omega)
  subst hAe hAe'
  have HKn := Lib.hid hkn
  have HKn' := Lib.hid hkn'
  have hsh := fun W (hW : Kn W b off ks) (hW' : Kn W b' off' ks') => Rshared_any b off n cap b' off' n' cap' err err' ks ks' W hW hlen hv hW' hlen' hv'
  rw [← q1, ← q2] at hsh
  have HSh := Lib.hid hsh
  have d1 : domLo ks = kx ks 0 := rfl
  have d2 : domLo ks' = kx ks' 0 := rfl
  have d3 : domHi ks = kx ks (ks.length - 1) := rfl
  have d4 : domHi ks' = kx ks' (ks'.length - 1) := rfl
  have HMt := Lib.hid (fun x (a : twLo ks ks' ≤ x) (c : x ≤ twHi ks ks') W (hW : Kn W b off ks) (hW' : Kn W b' off' ks') => meets_any b off n cap b' off' n' cap' err err' ks ks' W hW hlen hv hW' hlen' hv' x (by omega) (by omega) (by omega) (by omega) he he')
  have hlo0 : 0 ≤ twLo ks ks' := by omega
  have hhi0 : twHi ks ks' ≤ 2000 := by omega
  clear hsh hz hT h h' hkn hkn' hv hv' d1 d2 d3 d4 q1 q2 r1 r2 r3 r4 r5 r6 r7 r8 hlen hlen' he he' hpos hpos'
  generalize hloe : twLo ks ks' = lo at *
  generalize hhie : twHi ks ks' = hi at *
  clear hloe hhie
  generalize hW : ((w.alloc (.cells #[.slice (some ⟨b, off, none⟩) n cap, .int .i64 err] 24)).alloc (.cells #[.slice (some ⟨b', off', none⟩) n' cap', .int .i64 err'] 24)).alloc (.cells #[.int .i64 0, .bool false, .int .i64 0] 87) = W
  have B0 : Below w.heap.size w W := by rw [← hW]; exact ((((Below.refl w.heap.size w).alloc (Nat.le_refl _) _).alloc (by simp) _).alloc (by simp; omega) _)
  have x0_0 : Blk W w.heap.size 24 #[.slice (some ⟨b, off, none⟩) n cap, .int .i64 err] := by rw [← hW]; exact (((Blk.at_new _ _ rfl).alloc _).alloc _)
  have x1_0 : Blk W (w.heap.size + 1) 24 #[.slice (some ⟨b', off', none⟩) n' cap', .int .i64 err'] := by rw [← hW]; exact ((Blk.at_new _ _ (by simp)).alloc _)
  have r_0 : Blk W (w.heap.size + 2) 87 #[.int .i64 0, .bool false, .int .i64 0] := by rw [← hW]; exact (Blk.at_new _ _ (by simp))
  have HWE := Lib.hid hW
  clear hW
  go_enter Try.func60, Try.ntmps60
  have B1 := B0
  go_wp2_with fail
  rw [HWE.out]
  refine (HT.out _ (HA.out.below B1) (HA'.out.below B1)).mono ?_; rintro e w1 ⟨rfl, hb1⟩
  have x0_1 := x0_0.below hb1
  have x1_1 := x1_0.below hb1
  have r_1 := r_0.below hb1
  clear x0_0 x1_0 r_0
  have x0_1c0 := x0_1.cell 0
  have x0_1c1 := x0_1.cell 1
  simp only [List.getElem?_toArray, List.getElem?_cons_zero, List.getElem?_cons_succ] at x0_1c0 x0_1c1
  have x0_1l := x0_1.lt
  have x1_1c0 := x1_1.cell 0
  have x1_1c1 := x1_1.cell 1
  simp only [List.getElem?_toArray, List.getElem?_cons_zero, List.getElem?_cons_succ] at x1_1c0 x1_1c1
  have x1_1l := x1_1.lt
  have r_1c0 := r_1.cell 0
  have r_1c1 := r_1.cell 1
  have r_1c2 := r_1.cell 2
  simp only [List.getElem?_toArray, List.getElem?_cons_zero, List.getElem?_cons_succ] at r_1c0 r_1c1 r_1c2
  have r_1l := r_1.lt
  have B2 := B1.trans (hb1.mono B1.size)
  go_wp2_with fail
  refine (HSh.out _ (HKn.out.below B2) (HKn'.out.below B2)).mono ?_; rintro e w2 ⟨rfl, hb2⟩
  clear x0_1c0 x0_1c1 x0_1l x1_1c0 x1_1c1 x1_1l r_1c0 r_1c1 r_1c2 r_1l
  have x0_2 := x0_1.below hb2
  have x1_2 := x1_1.below hb2
  have r_2 := r_1.below hb2
  clear x0_1 x1_1 r_1
  have x0_2c0 := x0_2.cell 0
  have x0_2c1 := x0_2.cell 1
  simp only [List.getElem?_toArray, List.getElem?_cons_zero, List.getElem?_cons_succ] at x0_2c0 x0_2c1
  have x0_2l := x0_2.lt
  have x1_2c0 := x1_2.cell 0
  have x1_2c1 := x1_2.cell 1
  simp only [List.getElem?_toArray, List.getElem?_cons_zero, List.getElem?_cons_succ] at x1_2c0 x1_2c1
  have x1_2l := x1_2.lt
  have r_2c0 := r_2.cell 0
  have r_2c1 := r_2.cell 1
  have r_2c2 := r_2.cell 2
  simp only [List.getElem?_toArray, List.getElem?_cons_zero, List.getElem?_cons_succ] at r_2c0 r_2c1 r_2c2
  have r_2l := r_2.lt
  have B3 := B2.trans (hb2.mono B2.size)
  have B3a := B3.alloc B3.size (.cells #[.int .i64 lo, .int .i64 hi] 26)
  go_wp2_with fail
  clear x0_2c0 x0_2c1 x0_2l x1_2c0 x1_2c1 x1_2l r_2c0 r_2c1 r_2c2 r_2l
  have x0_3 := (x0_2.alloc (.cells #[.int .i64 lo, .int .i64 hi] 26))
  have x1_3 := (x1_2.alloc (.cells #[.int .i64 lo, .int .i64 hi] 26))
  have r_3 := (r_2.alloc (.cells #[.int .i64 lo, .int .i64 hi] 26))
  clear x0_2 x1_2 r_2
  have s_3 := (Blk.new w2 26 #[.int .i64 lo, .int .i64 hi])
  generalize hV3 : w2.alloc (.cells #[.int .i64 lo, .int .i64 hi] 26) = V3 at *
  generalize hg3 : w2.heap.size = g3 at *
  clear hV3 hg3
  have x0_3c0 := x0_3.cell 0
  have x0_3c1 := x0_3.cell 1
  simp only [List.getElem?_toArray, List.getElem?_cons_zero, List.getElem?_cons_succ] at x0_3c0 x0_3c1
  have x0_3l := x0_3.lt
  have x1_3c0 := x1_3.cell 0
  have x1_3c1 := x1_3.cell 1
  simp only [List.getElem?_toArray, List.getElem?_cons_zero, List.getElem?_cons_succ] at x1_3c0 x1_3c1
  have x1_3l := x1_3.lt
  have r_3c0 := r_3.cell 0
  have r_3c1 := r_3.cell 1
  have r_3c2 := r_3.cell 2
  simp only [List.getElem?_toArray, List.getElem?_cons_zero, List.getElem?_cons_succ] at r_3c0 r_3c1 r_3c2
  have r_3l := r_3.lt
  have s_3c0 := s_3.cell 0
  have s_3c1 := s_3.cell 1
  simp only [List.getElem?_toArray, List.getElem?_cons_zero, List.getElem?_cons_succ] at s_3c0 s_3c1
  have s_3l := s_3.lt
  go_loopw [7] (fun i wx => ∃ (m : Nat) (X : Int), X = lo + m ∧ (m : Int) ≤ max 0 (hi + 1 - lo) ∧ i = .int .i64 X ∧ clG (mtB ks ks' err err') lo m = none ∧ Below w.heap.size w wx ∧ Blk wx w.heap.size 24 #[.slice (some ⟨b, off, none⟩) n cap, .int .i64 err] ∧ Blk wx (w.heap.size + 1) 24 #[.slice (some ⟨b', off', none⟩) n' cap', .int .i64 err'] ∧ Blk wx (w.heap.size + 2) 87 #[.int .i64 0, .bool false, .int .i64 0] ∧ Blk wx g3 26 #[.int .i64 lo, .int .i64 hi]) (fun i _ => (hi + 1 - intOf i).toNat)
  case atStart => exact ⟨0, lo, by omega, by omega, rfl, rfl, (B3a), x0_3, x1_3, r_3, s_3⟩
  case round =>
    clear x0_3c0 x0_3c1 x0_3l x1_3c0 x1_3c1 x1_3l r_3c0 r_3c1 r_3c2 r_3l s_3c0 s_3c1 s_3l
    obtain ⟨m, X, hX, hmM, rfl, hnone, Br, x0_20, x1_20, r_20, s_20⟩ := hrel
    have x0_20c0 := x0_20.cell 0
    have x0_20c1 := x0_20.cell 1
    simp only [List.getElem?_toArray, List.getElem?_cons_zero, List.getElem?_cons_succ] at x0_20c0 x0_20c1
    have x0_20l := x0_20.lt
    have x1_20c0 := x1_20.cell 0
    have x1_20c1 := x1_20.cell 1
    simp only [List.getElem?_toArray, List.getElem?_cons_zero, List.getElem?_cons_succ] at x1_20c0 x1_20c1
    have x1_20l := x1_20.lt
    have r_20c0 := r_20.cell 0
    have r_20c1 := r_20.cell 1
    have r_20c2 := r_20.cell 2
    simp only [List.getElem?_toArray, List.getElem?_cons_zero, List.getElem?_cons_succ] at r_20c0 r_20c1 r_20c2
    have r_20l := r_20.lt
    have s_20c0 := s_20.cell 0
    have s_20c1 := s_20.cell 1
    simp only [List.getElem?_toArray, List.getElem?_cons_zero, List.getElem?_cons_succ] at s_20c0 s_20c1
    have s_20l := s_20.lt
    by_cases hxh : X ≤ hi
    · have hm1 : m < (hi + 1 - lo).toNat := by omega
      have HHit := Lib.hid (fun (h : mtB ks ks' err err' X = false) => (hX ▸ clG_hit hnone (by rw [← hX]; exact h) hm1 : clG (mtB ks ks' err err') lo (hi + 1 - lo).toNat = some X))
      have HGo := Lib.hid (fun (h : mtB ks ks' err err' X = true) => clG_step hnone (by rw [← hX]; exact h))
      have HM := Lib.hid (HMt.out X (by omega) hxh)
      have HX := Lib.hid hX
      have hX0 : 0 ≤ X := by omega
      have hX1 : X ≤ 2000 := by omega
      clear hX hnone
      generalize mtB ks ks' err err' X = bm at *
      have B21 := Br
      go_wp2_with fail
      refine (HM.out _ (HKn.out.below B21) (HKn'.out.below B21)).mono ?_; rintro e w21 ⟨rfl, hb21⟩
      clear x0_20c0 x0_20c1 x0_20l x1_20c0 x1_20c1 x1_20l r_20c0 r_20c1 r_20c2 r_20l s_20c0 s_20c1 s_20l
      have x0_21 := x0_20.below hb21
      have x1_21 := x1_20.below hb21
      have r_21 := r_20.below hb21
      have s_21 := s_20.below hb21
      clear x0_20 x1_20 r_20 s_20
      have x0_21c0 := x0_21.cell 0
      have x0_21c1 := x0_21.cell 1
      simp only [List.getElem?_toArray, List.getElem?_cons_zero, List.getElem?_cons_succ] at x0_21c0 x0_21c1
      have x0_21l := x0_21.lt
      have x1_21c0 := x1_21.cell 0
      have x1_21c1 := x1_21.cell 1
      simp only [List.getElem?_toArray, List.getElem?_cons_zero, List.getElem?_cons_succ] at x1_21c0 x1_21c1
      have x1_21l := x1_21.lt
      have r_21c0 := r_21.cell 0
      have r_21c1 := r_21.cell 1
      have r_21c2 := r_21.cell 2
      simp only [List.getElem?_toArray, List.getElem?_cons_zero, List.getElem?_cons_succ] at r_21c0 r_21c1 r_21c2
      have r_21l := r_21.lt
      have s_21c0 := s_21.cell 0
      have s_21c1 := s_21.cell 1
      simp only [List.getElem?_toArray, List.getElem?_cons_zero, List.getElem?_cons_succ] at s_21c0 s_21c1
      have s_21l := s_21.lt
      cases bm with
      | true =>
        clear HHit
        go_wp2
        go_roundw
        case rel => exact ⟨m + 1, X + 1, by have := HX.out; omega, by omega, rfl, HGo.out (by simp), (B21.trans (hb21.mono B21.size)), x0_21, x1_21, r_21, s_21⟩
        case measure => simp [intOf]; omega
      | false =>
        have HH2 := Lib.hid (HHit.out (by simp))
        clear HHit HGo
        have hr := r_21
        have hf0 := r_21.frozen 0
        have hf1 := r_21.frozen 1
        have hf2 := r_21.frozen 2
        have hl := r_21.lt
        have BZ := B21.trans (hb21.mono B21.size)
        go_wp2
        have hF := (((hr.set_ 0 (.int .i64 X)).set_ 1 (.bool true)).set_ 2 (.int .i64 0))
        have k0 := hF.cell 0
        have k1 := hF.cell 1
        have k2 := hF.cell 2
        simp only [List.setIfInBounds_toArray, List.set_cons_zero, List.set_cons_succ, List.getElem?_toArray, List.getElem?_cons_zero, List.getElem?_cons_succ] at k0 k1 k2
        exact bodyPost_ret (v := .agg #[.int .i64 X, .bool true, .int .i64 0]) (by simp [results, Try.results60, go_sem, k0, k1, k2]) rfl (⟨by rw [HP.out, HH2.out]; rfl, (((BZ.setCell (p := ⟨(w.heap.size + 2), 0, none⟩) (by simp <;> omega) _).setCell (p := ⟨(w.heap.size + 2), 1, none⟩) (by simp <;> omega) _).setCell (p := ⟨(w.heap.size + 2), 2, none⟩) (by simp <;> omega) _)⟩)
    · have hmE : m = (hi + 1 - lo).toNat := by omega
      rw [hmE] at hnone
      have HN := Lib.hid hnone
      clear hnone hmE
      have hr := r_20
      have hf0 := r_20.frozen 0
      have hf1 := r_20.frozen 1
      have hf2 := r_20.frozen 2
      have hl := r_20.lt
      have BZ := Br
      go_wp2
      have hF := (((hr.set_ 0 (.int .i64 0)).set_ 1 (.bool false)).set_ 2 (.int .i64 0))
      have k0 := hF.cell 0
      have k1 := hF.cell 1
      have k2 := hF.cell 2
      simp only [List.setIfInBounds_toArray, List.set_cons_zero, List.set_cons_succ, List.getElem?_toArray, List.getElem?_cons_zero, List.getElem?_cons_succ] at k0 k1 k2
      exact bodyPost_ret (v := .agg #[.int .i64 0, .bool false, .int .i64 0]) (by simp [results, Try.results60, go_sem, k0, k1, k2]) rfl (⟨by rw [HP.out, HN.out]; rfl, (((BZ.setCell (p := ⟨(w.heap.size + 2), 0, none⟩) (by simp <;> omega) _).setCell (p := ⟨(w.heap.size + 2), 1, none⟩) (by simp <;> omega) _).setCell (p := ⟨(w.heap.size + 2), 2, none⟩) (by simp <;> omega) _)⟩)
end Go.Proofs.Ytipablcbkoedbaa
