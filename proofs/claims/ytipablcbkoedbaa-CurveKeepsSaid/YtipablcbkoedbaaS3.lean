/- The reference: mixed, Add, Minus. -/
import Derived.WalkKit
import Derived.WalkLawsBesides
import Derived.Deep.QuietTactic
import Derived.BigQuiet
import Derived.RegionTactic
import Derived.OwnWalk
import Derived.RangeFuncBox
import Derived.Lib.Hide
import Derived.Outline
import Derived.WalkSmall
import Derived.IntWalk
import Derived.Deep.DeepCutAuto
import Derived.Test.YtipablcbkoedbaaProg
import Derived.Test.YtipablcbkoedbaaS2
import Derived.Test.YtipablcbkoedbaaH1
namespace Go.Proofs.Ytipablcbkoedbaa
open Go.RowKit

/-- What a function that returns a curve with an error returns. -/
def cvdOut (w : World) (R : List (Int × Int)) (F E : Int) (en : Ending) (w' : World) : Prop :=
  ∃ A n cap, en = .returned (.agg #[.slice A n cap, .int .i64 F, .int .i64 E]) ∧ CAt w' A n R ∧ n ≤ 1000 ∧ (∀ a, A = some a → w.heap.size ≤ a.block) ∧ Below w.heap.size w w'
theorem cvdOut_nil {w : World} {E : Int} {en : Ending} {w' : World} (h : en = .returned (.agg #[.slice none 0 0, .int .i64 0, .int .i64 E])) (hb : Below w.heap.size w w') : cvdOut w [] 0 E en w' :=
  ⟨none, 0, 0, h, ⟨rfl, fun h => absurd h (by omega)⟩, by omega, (fun a h => by cases h), hb⟩
theorem CAt.sets3 {w : World} {A : Option Addr} {n : Nat} {ks : List (Int × Int)} (h : CAt w A n ks) {r : Nat} (hr : ∀ a, A = some a → a.block ≠ r) (u v x : Value) : CAt (((w.setCell ⟨r, 0, none⟩ u).setCell ⟨r, 1, none⟩ v).setCell ⟨r, 2, none⟩ x) A n ks :=
  ⟨h.len, fun hn => by
    obtain ⟨b, off, e, hk⟩ := h.at_ hn
    have := hr _ e
    exact ⟨b, off, e, ((hk.set_ (p := ⟨r, 0, none⟩) this u).set_ (p := ⟨r, 1, none⟩) this v).set_ (p := ⟨r, 2, none⟩) this x⟩⟩


set_option maxRecDepth 100000 in
set_option maxHeartbeats 6400000 in
theorem mixed_any (t : Int) (ht : -1 ≤ t ∧ t ≤ 1) (f : Int → Int → Int) (hf : ∀ a b, a + t * b = f a b) (A A' : Option Addr) (n cap n' cap' : Nat) (err err' : Int) (ks ks' : List (Int × Int)) (w : World) (h : CAt w A n ks) (hm : n ≤ 9223372036854775807) (h' : CAt w A' n' ks') (hm' : n' ≤ 9223372036854775807) :
    Calls Try.prog 114 #[vCv A n cap err, vCv A' n' cap' err', .int .i64 t] w (cvdOut w (jnR f ks ks' err err') (jnF f ks ks' err err') (jnErr f ks ks' err err')) := by
  have hC := fun W (hW : CAt W A n ks) => RCheck_any A n cap err ks W hW hm
  have hC' := fun W (hW : CAt W A' n' ks') => RCheck_any A' n' cap' err' ks' W hW hm'
  have HA := Lib.hid h
  have HA' := Lib.hid h'
  have hjd : jnErr f ks ks' err err' = if twErr ks ks' err err' ≠ 0 then twErr ks ks' err err' else if sameX ks ks' = false then 4 else if check (jnL f ks ks') (err + err') ≠ 0 then 3 else 0 := rfl
  have hjn : ∀ e, jnErr f ks ks' err err' = e → e ≠ 0 → jnR f ks ks' err err' = [] ∧ jnF f ks ks' err err' = 0 := fun e h0 h1 => by unfold jnR jnF; rw [h0, if_neg h1, if_neg h1]; exact ⟨rfl, rfl⟩
  have htw : twErr ks ks' err err' = if check ks err = 0 then check ks' err' else check ks err := rfl
  by_cases hc : check ks err = 0
  case neg =>
    rw [if_neg hc] at htw
    rw [htw, if_pos hc] at hjd
    obtain ⟨hR, hFz⟩ := hjn _ hjd hc
    rw [hjd, hR, hFz]
    have hz1 : (check ks err != 0) = true := by simpa using hc
    have hz2 : (check ks err == 0) = false := by simpa using hc
    have HC := Lib.hid hC
    clear hjd hjn hR hFz htw h h' hc hC hC'
    generalize check ks err = te at *
    generalize hW : ((w.alloc (.cells #[.slice A n cap, .int .i64 err] 24)).alloc (.cells #[.slice A' n' cap', .int .i64 err'] 24)).alloc (.cells #[.slice none 0 0, .int .i64 0, .int .i64 0] 78) = W
    have B0 : Below w.heap.size w W := by rw [← hW]; exact ((((Below.refl w.heap.size w).alloc (Nat.le_refl _) _).alloc (by simp) _).alloc (by simp; omega) _)
    have x0_0 : Blk W w.heap.size 24 #[.slice A n cap, .int .i64 err] := by rw [← hW]; exact (((Blk.at_new _ _ rfl).alloc _).alloc _)
    have x1_0 : Blk W (w.heap.size + 1) 24 #[.slice A' n' cap', .int .i64 err'] := by rw [← hW]; exact ((Blk.at_new _ _ (by simp)).alloc _)
    have r_0 : Blk W (w.heap.size + 2) 78 #[.slice none 0 0, .int .i64 0, .int .i64 0] := by rw [← hW]; exact (Blk.at_new _ _ (by simp))
    have HWE := Lib.hid hW
    clear hW
    go_enter Try.func114, Try.ntmps114
    have B1 := B0
    go_wp2_with fail
    rw [HWE.out]
    refine (HC.out _ (HA.out.below B1)).mono ?_; rintro e w1 ⟨rfl, hb1⟩
    have x0_1 := x0_0.below hb1
    have x1_1 := x1_0.below hb1
    have r_1 := r_0.below hb1
    clear x0_0 x1_0 r_0
    have x0_1c0 := x0_1.cell 0
    have x0_1c1 := x0_1.cell 1
    simp only [List.getElem?_toArray, List.getElem?_cons_zero, List.getElem?_cons_succ] at x0_1c0 x0_1c1
    have x0_1l := x0_1.lt
    have x1_1c0 := x1_1.cell 0
    have x1_1c1 := x1_1.cell 1
    simp only [List.getElem?_toArray, List.getElem?_cons_zero, List.getElem?_cons_succ] at x1_1c0 x1_1c1
    have x1_1l := x1_1.lt
    have r_1c0 := r_1.cell 0
    have r_1c1 := r_1.cell 1
    have r_1c2 := r_1.cell 2
    simp only [List.getElem?_toArray, List.getElem?_cons_zero, List.getElem?_cons_succ] at r_1c0 r_1c1 r_1c2
    have r_1l := r_1.lt
    have hr := r_1
    have hf0 := r_1.frozen 0
    have hf1 := r_1.frozen 1
    have hf2 := r_1.frozen 2
    have hl := r_1.lt
    have BZ := B1.trans (hb1.mono B1.size)
    go_wp2
    have hF := (((hr.set_ 0 (.slice none 0 0)).set_ 1 (.int .i64 0)).set_ 2 (.int .i64 te))
    have k0 := hF.cell 0
    have k1 := hF.cell 1
    have k2 := hF.cell 2
    simp only [List.setIfInBounds_toArray, List.set_cons_zero, List.set_cons_succ, List.getElem?_toArray, List.getElem?_cons_zero, List.getElem?_cons_succ] at k0 k1 k2
    exact bodyPost_ret (v := .agg #[.slice none 0 0, .int .i64 0, .int .i64 te]) (by simp [results, Try.results114, go_sem, k0, k1, k2]) rfl (cvdOut_nil rfl (((BZ.setCell (p := ⟨(w.heap.size + 2), 0, none⟩) (by simp <;> omega) _).setCell (p := ⟨(w.heap.size + 2), 1, none⟩) (by simp <;> omega) _).setCell (p := ⟨(w.heap.size + 2), 2, none⟩) (by simp <;> omega) _))
  rw [if_pos hc] at htw
  rw [hc] at hC
  have HC := Lib.hid hC
  clear hC
  by_cases hc' : check ks' err' = 0
  case neg =>
    rw [htw, if_pos hc'] at hjd
    obtain ⟨hR, hFz⟩ := hjn _ hjd hc'
    rw [hjd, hR, hFz]
    have hz1 : (check ks' err' != 0) = true := by simpa using hc'
    have HC' := Lib.hid hC'
    clear hjd hjn hR hFz htw h h' hc hc' hC'
    generalize check ks' err' = te at *
    generalize hW : ((w.alloc (.cells #[.slice A n cap, .int .i64 err] 24)).alloc (.cells #[.slice A' n' cap', .int .i64 err'] 24)).alloc (.cells #[.slice none 0 0, .int .i64 0, .int .i64 0] 78) = W
    have B0 : Below w.heap.size w W := by rw [← hW]; exact ((((Below.refl w.heap.size w).alloc (Nat.le_refl _) _).alloc (by simp) _).alloc (by simp; omega) _)
    have x0_0 : Blk W w.heap.size 24 #[.slice A n cap, .int .i64 err] := by rw [← hW]; exact (((Blk.at_new _ _ rfl).alloc _).alloc _)
    have x1_0 : Blk W (w.heap.size + 1) 24 #[.slice A' n' cap', .int .i64 err'] := by rw [← hW]; exact ((Blk.at_new _ _ (by simp)).alloc _)
    have r_0 : Blk W (w.heap.size + 2) 78 #[.slice none 0 0, .int .i64 0, .int .i64 0] := by rw [← hW]; exact (Blk.at_new _ _ (by simp))
    have HWE := Lib.hid hW
    clear hW
    go_enter Try.func114, Try.ntmps114
    have B1 := B0
    go_wp2_with fail
    rw [HWE.out]
    refine (HC.out _ (HA.out.below B1)).mono ?_; rintro e w1 ⟨rfl, hb1⟩
    have x0_1 := x0_0.below hb1
    have x1_1 := x1_0.below hb1
    have r_1 := r_0.below hb1
    clear x0_0 x1_0 r_0
    have x0_1c0 := x0_1.cell 0
    have x0_1c1 := x0_1.cell 1
    simp only [List.getElem?_toArray, List.getElem?_cons_zero, List.getElem?_cons_succ] at x0_1c0 x0_1c1
    have x0_1l := x0_1.lt
    have x1_1c0 := x1_1.cell 0
    have x1_1c1 := x1_1.cell 1
    simp only [List.getElem?_toArray, List.getElem?_cons_zero, List.getElem?_cons_succ] at x1_1c0 x1_1c1
    have x1_1l := x1_1.lt
    have r_1c0 := r_1.cell 0
    have r_1c1 := r_1.cell 1
    have r_1c2 := r_1.cell 2
    simp only [List.getElem?_toArray, List.getElem?_cons_zero, List.getElem?_cons_succ] at r_1c0 r_1c1 r_1c2
    have r_1l := r_1.lt
    have B2 := B1.trans (hb1.mono B1.size)
    go_wp2_with fail
    refine (HC'.out _ (HA'.out.below B2)).mono ?_; rintro e w2 ⟨rfl, hb2⟩
    clear x0_1c0 x0_1c1 x0_1l x1_1c0 x1_1c1 x1_1l r_1c0 r_1c1 r_1c2 r_1l
    have x0_2 := x0_1.below hb2
    have x1_2 := x1_1.below hb2
    have r_2 := r_1.below hb2
    clear x0_1 x1_1 r_1
    have x0_2c0 := x0_2.cell 0
    have x0_2c1 := x0_2.cell 1
    simp only [List.getElem?_toArray, List.getElem?_cons_zero, List.getElem?_cons_succ] at x0_2c0 x0_2c1
    have x0_2l := x0_2.lt
    have x1_2c0 := x1_2.cell 0
    have x1_2c1 := x1_2.cell 1
    simp only [List.getElem?_toArray, List.getElem?_cons_zero, List.getElem?_cons_succ] at x1_2c0 x1_2c1
    have x1_2l := x1_2.lt
    have r_2c0 := r_2.cell 0
    have r_2c1 := r_2.cell 1
    have r_2c2 := r_2.cell 2
    simp only [List.getElem?_toArray, List.getElem?_cons_zero, List.getElem?_cons_succ] at r_2c0 r_2c1 r_2c2
    have r_2l := r_2.lt
    have hr := r_2
    have hf0 := r_2.frozen 0
    have hf1 := r_2.frozen 1
    have hf2 := r_2.frozen 2
    have hl := r_2.lt
    have BZ := B2.trans (hb2.mono B2.size)
    go_wp2
    have hF := (((hr.set_ 0 (.slice none 0 0)).set_ 1 (.int .i64 0)).set_ 2 (.int .i64 te))
    have k0 := hF.cell 0
    have k1 := hF.cell 1
    have k2 := hF.cell 2
    simp only [List.setIfInBounds_toArray, List.set_cons_zero, List.set_cons_succ, List.getElem?_toArray, List.getElem?_cons_zero, List.getElem?_cons_succ] at k0 k1 k2
    exact bodyPost_ret (v := .agg #[.slice none 0 0, .int .i64 0, .int .i64 te]) (by simp [results, Try.results114, go_sem, k0, k1, k2]) rfl (cvdOut_nil rfl (((BZ.setCell (p := ⟨(w.heap.size + 2), 0, none⟩) (by simp <;> omega) _).setCell (p := ⟨(w.heap.size + 2), 1, none⟩) (by simp <;> omega) _).setCell (p := ⟨(w.heap.size + 2), 2, none⟩) (by simp <;> omega) _))
  rw [hc'] at htw hC'
  have HC' := Lib.hid hC'
  have hz := htw
  rw [htw, if_neg (by simp)] at hjd
  clear htw hC' hc hc'
  have hlen := h.len
  have hlen' := h'.len
  by_cases hnn : n = n'
  case neg =>
    rw [if_pos (sameX_nlen (by omega))] at hjd
    obtain ⟨hR, hFz⟩ := hjn _ hjd (by omega)
    rw [hjd, hR, hFz]
    have hz1 : ((n : Int) != (n' : Int)) = true := by simp; omega
    have hz2 : ((n : Int) == (n' : Int)) = false := by simp; omega
    clear hjd hjn hR hFz h h' hz hlen hlen' hnn
    generalize hW : ((w.alloc (.cells #[.slice A n cap, .int .i64 err] 24)).alloc (.cells #[.slice A' n' cap', .int .i64 err'] 24)).alloc (.cells #[.slice none 0 0, .int .i64 0, .int .i64 0] 78) = W
    have B0 : Below w.heap.size w W := by rw [← hW]; exact ((((Below.refl w.heap.size w).alloc (Nat.le_refl _) _).alloc (by simp) _).alloc (by simp; omega) _)
    have x0_0 : Blk W w.heap.size 24 #[.slice A n cap, .int .i64 err] := by rw [← hW]; exact (((Blk.at_new _ _ rfl).alloc _).alloc _)
    have x1_0 : Blk W (w.heap.size + 1) 24 #[.slice A' n' cap', .int .i64 err'] := by rw [← hW]; exact ((Blk.at_new _ _ (by simp)).alloc _)
    have r_0 : Blk W (w.heap.size + 2) 78 #[.slice none 0 0, .int .i64 0, .int .i64 0] := by rw [← hW]; exact (Blk.at_new _ _ (by simp))
    have HWE := Lib.hid hW
    clear hW
    go_enter Try.func114, Try.ntmps114
    have B1 := B0
    go_wp2_with fail
    rw [HWE.out]
    refine (HC.out _ (HA.out.below B1)).mono ?_; rintro e w1 ⟨rfl, hb1⟩
    have x0_1 := x0_0.below hb1
    have x1_1 := x1_0.below hb1
    have r_1 := r_0.below hb1
    clear x0_0 x1_0 r_0
    have x0_1c0 := x0_1.cell 0
    have x0_1c1 := x0_1.cell 1
    simp only [List.getElem?_toArray, List.getElem?_cons_zero, List.getElem?_cons_succ] at x0_1c0 x0_1c1
    have x0_1l := x0_1.lt
    have x1_1c0 := x1_1.cell 0
    have x1_1c1 := x1_1.cell 1
    simp only [List.getElem?_toArray, List.getElem?_cons_zero, List.getElem?_cons_succ] at x1_1c0 x1_1c1
    have x1_1l := x1_1.lt
    have r_1c0 := r_1.cell 0
    have r_1c1 := r_1.cell 1
    have r_1c2 := r_1.cell 2
    simp only [List.getElem?_toArray, List.getElem?_cons_zero, List.getElem?_cons_succ] at r_1c0 r_1c1 r_1c2
    have r_1l := r_1.lt
    have B2 := B1.trans (hb1.mono B1.size)
    go_wp2_with fail
    refine (HC'.out _ (HA'.out.below B2)).mono ?_; rintro e w2 ⟨rfl, hb2⟩
    clear x0_1c0 x0_1c1 x0_1l x1_1c0 x1_1c1 x1_1l r_1c0 r_1c1 r_1c2 r_1l
    have x0_2 := x0_1.below hb2
    have x1_2 := x1_1.below hb2
    have r_2 := r_1.below hb2
    clear x0_1 x1_1 r_1
    have x0_2c0 := x0_2.cell 0
    have x0_2c1 := x0_2.cell 1
    simp only [List.getElem?_toArray, List.getElem?_cons_zero, List.getElem?_cons_succ] at x0_2c0 x0_2c1
    have x0_2l := x0_2.lt
    have x1_2c0 := x1_2.cell 0
    have x1_2c1 := x1_2.cell 1
    simp only [List.getElem?_toArray, List.getElem?_cons_zero, List.getElem?_cons_succ] at x1_2c0 x1_2c1
    have x1_2l := x1_2.lt
    have r_2c0 := r_2.cell 0
    have r_2c1 := r_2.cell 1
    have r_2c2 := r_2.cell 2
    simp only [List.getElem?_toArray, List.getElem?_cons_zero, List.getElem?_cons_succ] at r_2c0 r_2c1 r_2c2
    have r_2l := r_2.lt
    have hr := r_2
    have hf0 := r_2.frozen 0
    have hf1 := r_2.frozen 1
    have hf2 := r_2.frozen 2
    have hl := r_2.lt
    have BZ := B2.trans (hb2.mono B2.size)
    go_wp2
    have hF := (((hr.set_ 0 (.slice none 0 0)).set_ 1 (.int .i64 0)).set_ 2 (.int .i64 4))
    have k0 := hF.cell 0
    have k1 := hF.cell 1
    have k2 := hF.cell 2
    simp only [List.setIfInBounds_toArray, List.set_cons_zero, List.set_cons_succ, List.getElem?_toArray, List.getElem?_cons_zero, List.getElem?_cons_succ] at k0 k1 k2
    exact bodyPost_ret (v := .agg #[.slice none 0 0, .int .i64 0, .int .i64 4]) (by simp [results, Try.results114, go_sem, k0, k1, k2]) rfl (cvdOut_nil rfl (((BZ.setCell (p := ⟨(w.heap.size + 2), 0, none⟩) (by simp <;> omega) _).setCell (p := ⟨(w.heap.size + 2), 1, none⟩) (by simp <;> omega) _).setCell (p := ⟨(w.heap.size + 2), 2, none⟩) (by simp <;> omega) _))
  obtain ⟨hv, hv', he, he'⟩ := tw_valid hz
  have hpos := hv.pos
  obtain ⟨b, off, hAe, hkn⟩ := h.at_ (by omega)
  obtain ⟨b', off', hAe', hkn'⟩ := h'.at_ (by omega)
  subst hAe hAe'
  have HKn := Lib.hid hkn
  have HKn' := Lib.hid hkn'
  have HV := Lib.hid hv
  have HV' := Lib.hid hv'
  have hle := hv.le
  have HLen := Lib.hid hlen
  have HLen' := Lib.hid hlen'
  have HT := Lib.hid (fun (k : Nat) (hk : k < ks.length) => jnL_take f ks ks' hk)
  have HJl := Lib.hid (jnL_len f ks ks')
  have HJd := Lib.hid hjd
  have HJn := Lib.hid hjn
  have hn40 : n ≤ 40 := by omega
  have hn0 : 0 < n := by omega
  have HF := Lib.hid hf
  have HR := Lib.hid (show jnR f ks ks' err err' = if jnErr f ks ks' err err' = 0 then jnL f ks ks' else [] from rfl)
  have HFz := Lib.hid (show jnF f ks ks' err err' = if jnErr f ks ks' err err' = 0 then err + err' else 0 from rfl)
  have HSn := Lib.hid (fun (k : Nat) (hk : k < n) (hne : kx ks k ≠ kx ks' k) => (show jnErr f ks ks' err err' = 4 from hjd.trans (if_pos (sameX_no (by omega) (by omega) hne))))
  have HSy := Lib.hid (fun (hall : ∀ j, j < n → kx ks j = kx ks' j) => (show jnErr f ks ks' err err' = if check (jnL f ks ks') (err + err') ≠ 0 then 3 else 0 from hjd.trans (if_neg (by rw [sameX_yes (by omega) (fun j hj => hall j (by omega))]; simp))))
  clear hf hjd hjn h h' hz hv hv' hkn hkn' hlen hlen' hpos hle
  subst hnn
  obtain ⟨i0, hi0, hi1, hi2, hi3⟩ := info_parts info_knot
  have HI := Lib.hid (show Try.prog.info? 108 = some i0 ∧ i0.zero = some (.agg #[.int .i64 0, .int .i64 0]) ∧ i0.size = 2 ∧ i0.bytes = 16 from ⟨hi0, hi1, hi2, hi3⟩)
  clear hi0 hi1 hi2 hi3
  generalize hW : ((w.alloc (.cells #[.slice (some ⟨b, off, none⟩) n cap, .int .i64 err] 24)).alloc (.cells #[.slice (some ⟨b', off', none⟩) n cap', .int .i64 err'] 24)).alloc (.cells #[.slice none 0 0, .int .i64 0, .int .i64 0] 78) = W
  have B0 : Below w.heap.size w W := by rw [← hW]; exact ((((Below.refl w.heap.size w).alloc (Nat.le_refl _) _).alloc (by simp) _).alloc (by simp; omega) _)
  have x0_0 : Blk W w.heap.size 24 #[.slice (some ⟨b, off, none⟩) n cap, .int .i64 err] := by rw [← hW]; exact (((Blk.at_new _ _ rfl).alloc _).alloc _)
  have x1_0 : Blk W (w.heap.size + 1) 24 #[.slice (some ⟨b', off', none⟩) n cap', .int .i64 err'] := by rw [← hW]; exact ((Blk.at_new _ _ (by simp)).alloc _)
  have r_0 : Blk W (w.heap.size + 2) 78 #[.slice none 0 0, .int .i64 0, .int .i64 0] := by rw [← hW]; exact (Blk.at_new _ _ (by simp))
  have HWE := Lib.hid hW
  clear hW
  go_enter Try.func114, Try.ntmps114
  have B1 := B0
  go_wp2_with fail
  rw [HWE.out]
  refine (HC.out _ (HA.out.below B1)).mono ?_; rintro e w1 ⟨rfl, hb1⟩
  have x0_1 := x0_0.below hb1
  have x1_1 := x1_0.below hb1
  have r_1 := r_0.below hb1
  clear x0_0 x1_0 r_0
  have x0_1c0 := x0_1.cell 0
  have x0_1c1 := x0_1.cell 1
  simp only [List.getElem?_toArray, List.getElem?_cons_zero, List.getElem?_cons_succ] at x0_1c0 x0_1c1
  have x0_1l := x0_1.lt
  have x1_1c0 := x1_1.cell 0
  have x1_1c1 := x1_1.cell 1
  simp only [List.getElem?_toArray, List.getElem?_cons_zero, List.getElem?_cons_succ] at x1_1c0 x1_1c1
  have x1_1l := x1_1.lt
  have r_1c0 := r_1.cell 0
  have r_1c1 := r_1.cell 1
  have r_1c2 := r_1.cell 2
  simp only [List.getElem?_toArray, List.getElem?_cons_zero, List.getElem?_cons_succ] at r_1c0 r_1c1 r_1c2
  have r_1l := r_1.lt
  have B2 := B1.trans (hb1.mono B1.size)
  go_wp2_with fail
  refine (HC'.out _ (HA'.out.below B2)).mono ?_; rintro e w2 ⟨rfl, hb2⟩
  clear x0_1c0 x0_1c1 x0_1l x1_1c0 x1_1c1 x1_1l r_1c0 r_1c1 r_1c2 r_1l
  have x0_2 := x0_1.below hb2
  have x1_2 := x1_1.below hb2
  have r_2 := r_1.below hb2
  clear x0_1 x1_1 r_1
  have x0_2c0 := x0_2.cell 0
  have x0_2c1 := x0_2.cell 1
  simp only [List.getElem?_toArray, List.getElem?_cons_zero, List.getElem?_cons_succ] at x0_2c0 x0_2c1
  have x0_2l := x0_2.lt
  have x1_2c0 := x1_2.cell 0
  have x1_2c1 := x1_2.cell 1
  simp only [List.getElem?_toArray, List.getElem?_cons_zero, List.getElem?_cons_succ] at x1_2c0 x1_2c1
  have x1_2l := x1_2.lt
  have r_2c0 := r_2.cell 0
  have r_2c1 := r_2.cell 1
  have r_2c2 := r_2.cell 2
  simp only [List.getElem?_toArray, List.getElem?_cons_zero, List.getElem?_cons_succ] at r_2c0 r_2c1 r_2c2
  have r_2l := r_2.lt
  have hws := r_2l
  have B3 := B2.trans (hb2.mono B2.size)
  have B3a := B3.alloc B3.size (.cells #[.slice none 0 0, .int .i64 (err + err')] 24)
  go_wp2_with fail
  clear x0_2c0 x0_2c1 x0_2l x1_2c0 x1_2c1 x1_2l r_2c0 r_2c1 r_2c2 r_2l
  have x0_3 := (x0_2.alloc (.cells #[.slice none 0 0, .int .i64 (err + err')] 24))
  have x1_3 := (x1_2.alloc (.cells #[.slice none 0 0, .int .i64 (err + err')] 24))
  have r_3 := (r_2.alloc (.cells #[.slice none 0 0, .int .i64 (err + err')] 24))
  clear x0_2 x1_2 r_2
  have o_3 := (Blk.new w2 24 #[.slice none 0 0, .int .i64 (err + err')])
  generalize hV3 : w2.alloc (.cells #[.slice none 0 0, .int .i64 (err + err')] 24) = V3 at *
  generalize hg3 : w2.heap.size = g3 at *
  clear hV3 hg3
  have x0_3c0 := x0_3.cell 0
  have x0_3c1 := x0_3.cell 1
  simp only [List.getElem?_toArray, List.getElem?_cons_zero, List.getElem?_cons_succ] at x0_3c0 x0_3c1
  have x0_3l := x0_3.lt
  have x1_3c0 := x1_3.cell 0
  have x1_3c1 := x1_3.cell 1
  simp only [List.getElem?_toArray, List.getElem?_cons_zero, List.getElem?_cons_succ] at x1_3c0 x1_3c1
  have x1_3l := x1_3.lt
  have r_3c0 := r_3.cell 0
  have r_3c1 := r_3.cell 1
  have r_3c2 := r_3.cell 2
  simp only [List.getElem?_toArray, List.getElem?_cons_zero, List.getElem?_cons_succ] at r_3c0 r_3c1 r_3c2
  have r_3l := r_3.lt
  have o_3c0 := o_3.cell 0
  have o_3c1 := o_3.cell 1
  simp only [List.getElem?_toArray, List.getElem?_cons_zero, List.getElem?_cons_succ] at o_3c0 o_3c1
  have o_3l := o_3.lt
  have hbs : (g3 + 1) ≤ V3.heap.size := o_3l
  go_loopw [9] (fun i wx => ∃ (k : Nat) (v : Value), k ≤ n ∧ i = .int .i64 k ∧ (∀ j, j < k → kx ks j = kx ks' j) ∧ wx.ownsRow (g3 + 1) 108 2 v k (((jnL f ks ks').take k).flatMap encF) ∧ (g3 + 1) ≤ wx.heap.size ∧ Below w.heap.size w wx ∧ Blk wx w.heap.size 24 #[.slice (some ⟨b, off, none⟩) n cap, .int .i64 err] ∧ Blk wx (w.heap.size + 1) 24 #[.slice (some ⟨b', off', none⟩) n cap', .int .i64 err'] ∧ Blk wx (w.heap.size + 2) 78 #[.slice none 0 0, .int .i64 0, .int .i64 0] ∧ Blk wx g3 24 #[v, .int .i64 (err + err')]) (fun i _ => n - (intOf i).toNat)
  case atStart => exact ⟨0, .slice none 0 0, Nat.zero_le _, rfl, fun j hj => absurd hj (by omega), World.ownsRow_nil _ _ _ _, hbs, (B3a), x0_3, x1_3, r_3, o_3⟩
  case round =>
    clear x0_3c0 x0_3c1 x0_3l x1_3c0 x1_3c1 x1_3l r_3c0 r_3c1 r_3c2 r_3l o_3c0 o_3c1 o_3l
    obtain ⟨k, v, hk, rfl, hall, ow_20, hbr, Br, x0_20, x1_20, r_20, o_20⟩ := hrel
    have HALL := Lib.hid hall
    clear hall
    have x0_20c0 := x0_20.cell 0
    have x0_20c1 := x0_20.cell 1
    simp only [List.getElem?_toArray, List.getElem?_cons_zero, List.getElem?_cons_succ] at x0_20c0 x0_20c1
    have x0_20l := x0_20.lt
    have x1_20c0 := x1_20.cell 0
    have x1_20c1 := x1_20.cell 1
    simp only [List.getElem?_toArray, List.getElem?_cons_zero, List.getElem?_cons_succ] at x1_20c0 x1_20c1
    have x1_20l := x1_20.lt
    have r_20c0 := r_20.cell 0
    have r_20c1 := r_20.cell 1
    have r_20c2 := r_20.cell 2
    simp only [List.getElem?_toArray, List.getElem?_cons_zero, List.getElem?_cons_succ] at r_20c0 r_20c1 r_20c2
    have r_20l := r_20.lt
    have o_20c0 := o_20.cell 0
    have o_20c1 := o_20.cell 1
    simp only [List.getElem?_toArray, List.getElem?_cons_zero, List.getElem?_cons_succ] at o_20c0 o_20c1
    have o_20l := o_20.lt
    have HLT := Lib.hid (fun (q : Nat) hq => own_lt (g := q) ow_20 hq)
    by_cases hkn : k < n
    · have hkl : k < ks.length := by rw [HLen.out]; exact hkn
      have hkl' : k < ks'.length := by rw [HLen'.out]; exact hkn
      have hK := HKn.out.below Br
      have hK' := HKn'.out.below Br
      have lt1 := hK.lt
      have lt2 := hK'.lt
      have xx := hK.x k hkl
      have xx' := hK'.x k hkl'
      obtain ⟨y1, y2⟩ := HV.out.y0 k hkl
      obtain ⟨z1, z2⟩ := HV'.out.y0 k hkl'
      have hfe := HF.out (ky ks k) (ky ks' k)
      have HTk := Lib.hid (HT.out k hkl)
      have HXa := Lib.hid (HKn.out.x k hkl)
      have HYa := Lib.hid (HKn.out.y k hkl)
      have HYb := Lib.hid (HKn'.out.y k hkl')
      have HNe := Lib.hid (HSn.out k hkn)
      have hnx : ∀ a c : Int, kx ks k = a → kx ks' k = c → a = c → ∀ j, j < k + 1 → kx ks j = kx ks' j := fun a c e1 e3 f1 j hj => if e : j = k then by subst e; exact e1.trans (f1.trans e3.symm) else HALL.out j (by omega)
      have HNx := Lib.hid (hnx _ _ rfl rfl)
      clear hK hK' hnx
      generalize kx ks k = ax at *
      generalize kx ks' k = bx at *
      generalize ky ks k = ay at *
      generalize ky ks' k = byy at *
      generalize hfy : f ay byy = fy at *
      clear hfy
      have hmb := mul_bd (x := t) (y := byy) (A := 1) (B := 65536) (by omega) (by omega) z1 z2
      have HM1 := Lib.hid (show IntKind.i64.wrap (t * byy) = t * byy from IntWalk.i64_in _ (by omega))
      have HM2 := Lib.hid (show IntKind.i64.wrap (ay + t * byy) = fy from (IntWalk.i64_in _ (by omega)).trans hfe)
      clear hfe hmb
      by_cases hxx : ax = bx
      case neg =>
        have hx1 : (ax == bx) = false := by simpa using hxx
        have hx2 : (ax != bx) = true := by simpa using hxx
        have hje := HNe.out hxx
        obtain ⟨hR, hFz⟩ := HJn.out _ hje (by omega)
        have HQ := Lib.hid (And.intro hje (And.intro hR hFz))
        clear hje hR hFz
        go_wp2_with fail
        obtain ⟨xc, xf⟩ := xcell (W := wr)
        refine wp_region_quiet_tail 13 (by kernel_rfl) (by kernel_rfl) ?_
        simp only [List.take_succ_cons, List.take_zero, List.drop_succ_cons, List.drop_zero]
        repeat (first | go_big_quiet_step (fail) | quiet_step (fail))
        refine wpQuiet_nil ?_
        intro w21 hb21
        clear xc xf
        clear x0_20c0 x0_20c1 x0_20l x1_20c0 x1_20c1 x1_20l r_20c0 r_20c1 r_20c2 r_20l o_20c0 o_20c1 o_20l
        have B21 := Br
        have x0_21 := x0_20.below hb21
        have x1_21 := x1_20.below hb21
        have r_21 := r_20.below hb21
        have o_21 := o_20.below hb21
        clear x0_20 x1_20 r_20 o_20
        have x0_21c0 := x0_21.cell 0
        have x0_21c1 := x0_21.cell 1
        simp only [List.getElem?_toArray, List.getElem?_cons_zero, List.getElem?_cons_succ] at x0_21c0 x0_21c1
        have x0_21l := x0_21.lt
        have x1_21c0 := x1_21.cell 0
        have x1_21c1 := x1_21.cell 1
        simp only [List.getElem?_toArray, List.getElem?_cons_zero, List.getElem?_cons_succ] at x1_21c0 x1_21c1
        have x1_21l := x1_21.lt
        have r_21c0 := r_21.cell 0
        have r_21c1 := r_21.cell 1
        have r_21c2 := r_21.cell 2
        simp only [List.getElem?_toArray, List.getElem?_cons_zero, List.getElem?_cons_succ] at r_21c0 r_21c1 r_21c2
        have r_21l := r_21.lt
        have o_21c0 := o_21.cell 0
        have o_21c1 := o_21.cell 1
        simp only [List.getElem?_toArray, List.getElem?_cons_zero, List.getElem?_cons_succ] at o_21c0 o_21c1
        have o_21l := o_21.lt
        have hr := r_21
        have hf0 := r_21.frozen 0
        have hf1 := r_21.frozen 1
        have hf2 := r_21.frozen 2
        have hl := r_21.lt
        have BZ := B21.trans (hb21.mono B21.size)
        go_wp2
        have hF := (((hr.set_ 0 (.slice none 0 0)).set_ 1 (.int .i64 0)).set_ 2 (.int .i64 4))
        have k0 := hF.cell 0
        have k1 := hF.cell 1
        have k2 := hF.cell 2
        simp only [List.setIfInBounds_toArray, List.set_cons_zero, List.set_cons_succ, List.getElem?_toArray, List.getElem?_cons_zero, List.getElem?_cons_succ] at k0 k1 k2
        exact bodyPost_ret (v := .agg #[.slice none 0 0, .int .i64 0, .int .i64 4]) (by simp [results, Try.results114, go_sem, k0, k1, k2]) rfl (by rw [HQ.out.1, HQ.out.2.1, HQ.out.2.2]; exact cvdOut_nil rfl (((BZ.setCell (p := ⟨(w.heap.size + 2), 0, none⟩) (by simp <;> omega) _).setCell (p := ⟨(w.heap.size + 2), 1, none⟩) (by simp <;> omega) _).setCell (p := ⟨(w.heap.size + 2), 2, none⟩) (by simp <;> omega) _))
      subst hxx
      go_wp2_with fail
      obtain ⟨xc, xf⟩ := xcell (W := wr)
      refine wp_region_quiet_tail 13 (by kernel_rfl) (by kernel_rfl) ?_
      simp only [List.take_succ_cons, List.take_zero, List.drop_succ_cons, List.drop_zero]
      repeat (first | go_big_quiet_step (fail) | quiet_step (fail))
      refine wpQuiet_nil ?_
      intro w21 hb21
      clear xc xf xx xx' lt1 lt2
      have OW := Lib.hid (owns_below ow_20 hb21)
      have hbr2 := Nat.le_trans hbr hb21.size
      clear x0_20c0 x0_20c1 x0_20l x1_20c0 x1_20c1 x1_20l r_20c0 r_20c1 r_20c2 r_20l o_20c0 o_20c1 o_20l
      have B21 := Br
      have x0_21 := x0_20.below hb21
      have x1_21 := x1_20.below hb21
      have r_21 := r_20.below hb21
      have o_21 := o_20.below hb21
      clear x0_20 x1_20 r_20 o_20
      have x0_21c0 := x0_21.cell 0
      have x0_21c1 := x0_21.cell 1
      simp only [List.getElem?_toArray, List.getElem?_cons_zero, List.getElem?_cons_succ] at x0_21c0 x0_21c1
      have x0_21l := x0_21.lt
      have x1_21c0 := x1_21.cell 0
      have x1_21c1 := x1_21.cell 1
      simp only [List.getElem?_toArray, List.getElem?_cons_zero, List.getElem?_cons_succ] at x1_21c0 x1_21c1
      have x1_21l := x1_21.lt
      have r_21c0 := r_21.cell 0
      have r_21c1 := r_21.cell 1
      have r_21c2 := r_21.cell 2
      simp only [List.getElem?_toArray, List.getElem?_cons_zero, List.getElem?_cons_succ] at r_21c0 r_21c1 r_21c2
      have r_21l := r_21.lt
      have o_21c0 := o_21.cell 0
      have o_21c1 := o_21.cell 1
      simp only [List.getElem?_toArray, List.getElem?_cons_zero, List.getElem?_cons_succ] at o_21c0 o_21c1
      have o_21l := o_21.lt
      clear ow_20
      go_wp2_with fail
      refine wp_region_preC 27 [(24, 79), (25, 80)] (fun v' => Below w.heap.size w v' ∧ (g3 + 1) ≤ v'.heap.size ∧ Blk v' w.heap.size 24 #[.slice (some ⟨b, off, none⟩) n cap, .int .i64 err] ∧ Blk v' (w.heap.size + 1) 24 #[.slice (some ⟨b', off', none⟩) n cap', .int .i64 err'] ∧ Blk v' (w.heap.size + 2) 78 #[.slice none 0 0, .int .i64 0, .int .i64 0] ∧ Blk v' g3 24 #[v, .int .i64 (err + err')]) (OneRow 108 2 ((g3 + 1)) (k) 24 25 v (((jnL f ks ks').take k).flatMap encF) [.int .i64 ax, .int .i64 fy]) (by kernel_rfl) (by kernel_rfl) ?hw ?hC ?h0 ?hP ?ex
      case hw => exact ⟨B21.trans (hb21.mono B21.size), hbr2, x0_21, x1_21, r_21, o_21⟩
      case hC =>
        rintro v1 v2 ⟨h0, hb0, qx0, qx1, qr, qo⟩ kk
        exact ⟨h0.trans (kk.mono h0.size), Nat.le_trans hb0 kk.size, qx0.below kk, qx1.below kk, qr.below kk, qo.below kk⟩
      case h0 =>
        intro v' hv'
        refine OneRow.below (W := w21) ?_ hv'
        exact ⟨by simpa using OW.out, fun h => (by cases h)⟩
      case hP => exact fun ls vs v v' _ h kk => h.below kk
      case ex =>
        apply Exists.intro
        refine ⟨?walk, ?loud⟩
        case walk =>
          rintro V ⟨h0, hb0, qx0, qx1, qr, qo⟩
          have x0_vc0 := qx0.cell 0
          have x0_vc1 := qx0.cell 1
          simp only [List.getElem?_toArray, List.getElem?_cons_zero, List.getElem?_cons_succ] at x0_vc0 x0_vc1
          have x0_vl := qx0.lt
          have x1_vc0 := qx1.cell 0
          have x1_vc1 := qx1.cell 1
          simp only [List.getElem?_toArray, List.getElem?_cons_zero, List.getElem?_cons_succ] at x1_vc0 x1_vc1
          have x1_vl := qx1.lt
          have r_vc0 := qr.cell 0
          have r_vc1 := qr.cell 1
          have r_vc2 := qr.cell 2
          simp only [List.getElem?_toArray, List.getElem?_cons_zero, List.getElem?_cons_succ] at r_vc0 r_vc1 r_vc2
          have r_vl := qr.lt
          have o_vc0 := qo.cell 0
          have o_vc1 := qo.cell 1
          simp only [List.getElem?_toArray, List.getElem?_cons_zero, List.getElem?_cons_succ] at o_vc0 o_vc1
          have o_vl := qo.lt
          have BV := h0
          have hca := (BV.cell (p := ⟨b, off + k * 2, none⟩) HKn.out.lt).trans HXa.out
          have hcb := (BV.cell (p := ⟨b, off + k * 2 + 1, none⟩) HKn.out.lt).trans HYa.out
          have hcc := (BV.cell (p := ⟨b', off' + k * 2 + 1, none⟩) HKn'.out.lt).trans HYb.out
          have hla := Nat.lt_of_lt_of_le HKn.out.lt BV.size
          have hlb := Nat.lt_of_lt_of_le HKn'.out.lt BV.size
          have hm1 := HM1.out
          have hm2 := HM2.out
          obtain ⟨xc, xf⟩ := xcell (W := V)
          simp only [List.take_succ_cons, List.take_zero, qOf, isLoud, List.any_cons, List.any_nil, Nat.reduceBEq, Bool.or_false, Bool.or_true, Nat.reduceAdd, Bool.false_eq_true, if_true, if_false, beq_self_eq_true, Nat.zero_add]
          repeat (first | go_big_quiet_step (fail) | quiet_step (fail))
          exact wpQuiet_nil rfl
        case loud =>
          simp only [List.drop_succ_cons, List.drop_zero]
          refine ⟨?_, ?_⟩
          · rintro p hp vs V ⟨h0, hb0, qx0, qx1, qr, qo⟩ ls hI hls hw o ho
            simp only [List.mem_cons, List.not_mem_nil, or_false] at hp
            rcases hp with rfl | rfl
            · simp only [List.getElem?_cons_succ, List.getElem?_cons_zero, Option.some.injEq] at ho
              subst ho
              simp [loudAt, loudUpon, go_sem, execOp, putsL, Act.put]
              exact ⟨⟨h0.alloc h0.size _, by omega, qx0.alloc _, qx1.alloc _, qr.alloc _, qo.alloc _⟩, hI.lay (by decide)⟩
            · have h9 := hw (24, 79) (by simp) (by kernel_rfl)
              obtain ⟨g, e, hbk⟩ := hI.new h9 hls
              have hrow := hI.row
              have h8 := hls
              simp only [h8, cond_false, Nat.add_zero, List.append_nil] at hrow
              simp only [List.getElem?_cons_succ, List.getElem?_cons_zero, Option.some.injEq] at ho
              subst ho
              refine loudAt_append (.tmp 56) (.tmp 79) 22 rfl ((g3 + 1)) 108 i0 (.agg #[.int .i64 0, .int .i64 0]) 2 16 Try.underlying22 HI.out.1 HI.out.2.1 HI.out.2.2.1 HI.out.2.2.2 rfl (by decide) v (k) (((jnL f ks ks').take k).flatMap encF) rfl hrow ⟨g, 0, none⟩ 1 1 [.int .i64 ax, .int .i64 fy] e rfl ?c1 ?c2 ?c3 ?c4 hb0 ?_
              case c1 =>
                have g0 := hbk.cell 0
                have g1 := hbk.cell 1
                simp only [List.getElem?_toArray, List.getElem?_cons_zero, List.getElem?_cons_succ] at g0 g1
                intro j' u hj'
                match j', hj' with
                | 0, hj' => simp at hj'; subst hj'; simpa [Addr.add] using g0
                | 1, hj' => simp at hj'; subst hj'; simpa [Addr.add] using g1
              case c2 => intro u hu; simp at hu; rcases hu with rfl | rfl <;> rfl
              case c3 => unfold maxLen; omega
              case c4 => omega
              intro v' w2 hown' hgrow hat
              refine ⟨⟨h0.grown hgrow h0.size (fun kk hk => by have := HLT.out _ hk; omega), Nat.le_trans hb0 hgrow.size, qx0.grown hgrow (fun h => by have := HLT.out _ h; omega), qx1.grown hgrow (fun h => by have := HLT.out _ h; omega), qr.grown hgrow (fun h => by have := HLT.out _ h; omega), qo.grown hgrow (fun h => by have := HLT.out _ h; omega)⟩, hI.app v' hown'⟩
          · rintro ls vs V22 ⟨B22, hbase22, x0_22, x1_22, r_22, o_22⟩ hI hls
            have h8 := hls (25, 80) (by simp)
            have hrow := hI.row
            simp only [h8, cond_true] at hrow
            have HN := Lib.hid hrow
            clear hrow hI hls h8
            simp only [putsL, List.foldl_cons, List.foldl_nil, Act.put, List.setIfInBounds_toArray, List.set_cons_succ, List.set_cons_zero]
            generalize vs 25 = v7 at *
            generalize vs 24 = v6 at *
            obtain ⟨g', cap', rfl⟩ := ownsRow_succ HN.out
            have x0_22c0 := x0_22.cell 0
            have x0_22c1 := x0_22.cell 1
            simp only [List.getElem?_toArray, List.getElem?_cons_zero, List.getElem?_cons_succ] at x0_22c0 x0_22c1
            have x0_22l := x0_22.lt
            have x1_22c0 := x1_22.cell 0
            have x1_22c1 := x1_22.cell 1
            simp only [List.getElem?_toArray, List.getElem?_cons_zero, List.getElem?_cons_succ] at x1_22c0 x1_22c1
            have x1_22l := x1_22.lt
            have r_22c0 := r_22.cell 0
            have r_22c1 := r_22.cell 1
            have r_22c2 := r_22.cell 2
            simp only [List.getElem?_toArray, List.getElem?_cons_zero, List.getElem?_cons_succ] at r_22c0 r_22c1 r_22c2
            have r_22l := r_22.lt
            have o_22c0 := o_22.cell 0
            have o_22c1 := o_22.cell 1
            simp only [List.getElem?_toArray, List.getElem?_cons_zero, List.getElem?_cons_succ] at o_22c0 o_22c1
            have o_22l := o_22.lt
            have of0 := o_22.frozen 0
            go_wp2
            go_roundw
            case rel =>
              refine ⟨k + 1, .slice (some ⟨g', 0, none⟩) (k + 1) cap', by omega, by go_num, HNx.out (by simp), ?_, by simpa [World.setCell] using hbase22, ?_⟩
              · rw [HTk.out]
                have := owns_grown HN.out (grownBy_setCell' V22 g3 (.slice (some ⟨g', 0, none⟩) (k + 1) cap')) (fun q hq e => by have := (own_lt HN.out hq).1; have e2 := Option.some.inj e; omega)
                simpa using this
              · exact ⟨B22.setCell (p := ⟨g3, 0, none⟩) (by simp <;> omega) _, x0_22.far (p := ⟨g3, 0, none⟩) (by simp <;> omega) _, x1_22.far (p := ⟨g3, 0, none⟩) (by simp <;> omega) _, r_22.far (p := ⟨g3, 0, none⟩) (by simp <;> omega) _, by simpa using o_22.set_ 0 (.slice (some ⟨g', 0, none⟩) (k + 1) cap')⟩
            case measure => simp [intOf]; omega
    · have hkk : k = n := by omega
      subst hkk
      have hjd := HSy.out HALL.out
      rw [List.take_of_length_le (by rw [HJl.out, HLen.out]; exact Nat.le_refl _)] at ow_20
      obtain ⟨m, rfl⟩ : ∃ m, k = m + 1 := ⟨k - 1, by omega⟩
      obtain ⟨g', cap', rfl⟩ := ownsRow_succ ow_20
      have hgl := own_lt (g := g') ow_20 rfl
      have HKo := Lib.hid (Kn_of_row (by rw [HJl.out, HLen.out]) ow_20)
      have hCo := fun W (hW : Kn W g' 0 (jnL f ks ks')) => RCheck_any (some ⟨g', 0, none⟩) (m + 1) cap' (err + err') (jnL f ks ks') W ⟨by rw [HJl.out, HLen.out], fun _ => ⟨g', 0, rfl, hW⟩⟩ (by omega)
      have HCA := Lib.hid (fun W (hW : Kn W g' 0 (jnL f ks ks')) => (⟨by rw [HJl.out, HLen.out], fun _ => ⟨g', 0, rfl, hW⟩⟩ : CAt W (some ⟨g', 0, none⟩) (m + 1) (jnL f ks ks')))
      clear ow_20 HLT
      have x0_20c0 := x0_20.cell 0
      have x0_20c1 := x0_20.cell 1
      simp only [List.getElem?_toArray, List.getElem?_cons_zero, List.getElem?_cons_succ] at x0_20c0 x0_20c1
      have x0_20l := x0_20.lt
      have x1_20c0 := x1_20.cell 0
      have x1_20c1 := x1_20.cell 1
      simp only [List.getElem?_toArray, List.getElem?_cons_zero, List.getElem?_cons_succ] at x1_20c0 x1_20c1
      have x1_20l := x1_20.lt
      have r_20c0 := r_20.cell 0
      have r_20c1 := r_20.cell 1
      have r_20c2 := r_20.cell 2
      simp only [List.getElem?_toArray, List.getElem?_cons_zero, List.getElem?_cons_succ] at r_20c0 r_20c1 r_20c2
      have r_20l := r_20.lt
      have o_20c0 := o_20.cell 0
      have o_20c1 := o_20.cell 1
      simp only [List.getElem?_toArray, List.getElem?_cons_zero, List.getElem?_cons_succ] at o_20c0 o_20c1
      have o_20l := o_20.lt
      by_cases hc : check (jnL f ks ks') (err + err') = 0
      case neg =>
        rw [if_pos hc] at hjd
        obtain ⟨hR, hFz⟩ := HJn.out _ hjd (by omega)
        have HQ := Lib.hid (And.intro hjd (And.intro hR hFz))
        have HCo := Lib.hid hCo
        have hc1 : (check (jnL f ks ks') (err + err') != 0) = true := by simpa using hc
        generalize check (jnL f ks ks') (err + err') = ce at *
        clear hjd hR hFz hc hCo
        have B21 := Br
        go_wp2_with fail
        refine (HCo.out _ (HKo.out)).mono ?_; rintro e w21 ⟨rfl, hb21⟩
        clear x0_20c0 x0_20c1 x0_20l x1_20c0 x1_20c1 x1_20l r_20c0 r_20c1 r_20c2 r_20l o_20c0 o_20c1 o_20l
        have x0_21 := x0_20.below hb21
        have x1_21 := x1_20.below hb21
        have r_21 := r_20.below hb21
        have o_21 := o_20.below hb21
        clear x0_20 x1_20 r_20 o_20
        have x0_21c0 := x0_21.cell 0
        have x0_21c1 := x0_21.cell 1
        simp only [List.getElem?_toArray, List.getElem?_cons_zero, List.getElem?_cons_succ] at x0_21c0 x0_21c1
        have x0_21l := x0_21.lt
        have x1_21c0 := x1_21.cell 0
        have x1_21c1 := x1_21.cell 1
        simp only [List.getElem?_toArray, List.getElem?_cons_zero, List.getElem?_cons_succ] at x1_21c0 x1_21c1
        have x1_21l := x1_21.lt
        have r_21c0 := r_21.cell 0
        have r_21c1 := r_21.cell 1
        have r_21c2 := r_21.cell 2
        simp only [List.getElem?_toArray, List.getElem?_cons_zero, List.getElem?_cons_succ] at r_21c0 r_21c1 r_21c2
        have r_21l := r_21.lt
        have o_21c0 := o_21.cell 0
        have o_21c1 := o_21.cell 1
        simp only [List.getElem?_toArray, List.getElem?_cons_zero, List.getElem?_cons_succ] at o_21c0 o_21c1
        have o_21l := o_21.lt
        have hr := r_21
        have hf0 := r_21.frozen 0
        have hf1 := r_21.frozen 1
        have hf2 := r_21.frozen 2
        have hl := r_21.lt
        have BZ := B21.trans (hb21.mono B21.size)
        go_wp2
        have hF := (((hr.set_ 0 (.slice none 0 0)).set_ 1 (.int .i64 0)).set_ 2 (.int .i64 3))
        have k0 := hF.cell 0
        have k1 := hF.cell 1
        have k2 := hF.cell 2
        simp only [List.setIfInBounds_toArray, List.set_cons_zero, List.set_cons_succ, List.getElem?_toArray, List.getElem?_cons_zero, List.getElem?_cons_succ] at k0 k1 k2
        exact bodyPost_ret (v := .agg #[.slice none 0 0, .int .i64 0, .int .i64 3]) (by simp [results, Try.results114, go_sem, k0, k1, k2]) rfl (by rw [HQ.out.1, HQ.out.2.1, HQ.out.2.2]; exact cvdOut_nil rfl (((BZ.setCell (p := ⟨(w.heap.size + 2), 0, none⟩) (by simp <;> omega) _).setCell (p := ⟨(w.heap.size + 2), 1, none⟩) (by simp <;> omega) _).setCell (p := ⟨(w.heap.size + 2), 2, none⟩) (by simp <;> omega) _))
      rw [if_neg (by simp [hc])] at hjd
      rw [hc] at hCo
      have HCo := Lib.hid hCo
      have hR := HR.out
      have hFz := HFz.out
      rw [if_pos hjd] at hR hFz
      have HQ := Lib.hid (And.intro hjd (And.intro hR hFz))
      clear hjd hR hFz hc hCo
      have B21 := Br
      go_wp2_with fail
      refine (HCo.out _ (HKo.out)).mono ?_; rintro e w21 ⟨rfl, hb21⟩
      clear x0_20c0 x0_20c1 x0_20l x1_20c0 x1_20c1 x1_20l r_20c0 r_20c1 r_20c2 r_20l o_20c0 o_20c1 o_20l
      have x0_21 := x0_20.below hb21
      have x1_21 := x1_20.below hb21
      have r_21 := r_20.below hb21
      have o_21 := o_20.below hb21
      clear x0_20 x1_20 r_20 o_20
      have x0_21c0 := x0_21.cell 0
      have x0_21c1 := x0_21.cell 1
      simp only [List.getElem?_toArray, List.getElem?_cons_zero, List.getElem?_cons_succ] at x0_21c0 x0_21c1
      have x0_21l := x0_21.lt
      have x1_21c0 := x1_21.cell 0
      have x1_21c1 := x1_21.cell 1
      simp only [List.getElem?_toArray, List.getElem?_cons_zero, List.getElem?_cons_succ] at x1_21c0 x1_21c1
      have x1_21l := x1_21.lt
      have r_21c0 := r_21.cell 0
      have r_21c1 := r_21.cell 1
      have r_21c2 := r_21.cell 2
      simp only [List.getElem?_toArray, List.getElem?_cons_zero, List.getElem?_cons_succ] at r_21c0 r_21c1 r_21c2
      have r_21l := r_21.lt
      have o_21c0 := o_21.cell 0
      have o_21c1 := o_21.cell 1
      simp only [List.getElem?_toArray, List.getElem?_cons_zero, List.getElem?_cons_succ] at o_21c0 o_21c1
      have o_21l := o_21.lt
      have HKp := Lib.hid (HKo.out.below hb21)
      have hr := r_21
      have hf0 := r_21.frozen 0
      have hf1 := r_21.frozen 1
      have hf2 := r_21.frozen 2
      have hl := r_21.lt
      have BZ := B21.trans (hb21.mono B21.size)
      go_wp2
      have hF := (((hr.set_ 0 ((.slice (some ⟨g', 0, none⟩) (m + 1) cap'))).set_ 1 ((.int .i64 (err + err')))).set_ 2 ((.int .i64 0)))
      have k0 := hF.cell 0
      have k1 := hF.cell 1
      have k2 := hF.cell 2
      simp only [List.setIfInBounds_toArray, List.set_cons_zero, List.set_cons_succ, List.getElem?_toArray, List.getElem?_cons_zero, List.getElem?_cons_succ] at k0 k1 k2
      exact bodyPost_ret (v := .agg #[(.slice (some ⟨g', 0, none⟩) (m + 1) cap'), (.int .i64 (err + err')), (.int .i64 0)]) (by simp [results, Try.results114, go_sem, k0, k1, k2]) rfl (by rw [HQ.out.1, HQ.out.2.1, HQ.out.2.2]; exact ⟨some ⟨g', 0, none⟩, m + 1, cap', rfl, (HCA.out _ HKp.out).sets3 (r := (w.heap.size + 2)) (fun a h => by have := Option.some.inj h; subst this; have := hgl; dsimp only; omega) _ _ _, by omega, (fun a h => by have := Option.some.inj h; subst this; have := hgl; dsimp only; omega), (((BZ.setCell (p := ⟨(w.heap.size + 2), 0, none⟩) (by simp <;> omega) _).setCell (p := ⟨(w.heap.size + 2), 1, none⟩) (by simp <;> omega) _).setCell (p := ⟨(w.heap.size + 2), 2, none⟩) (by simp <;> omega) _)⟩)

theorem RAdd_any (A A' : Option Addr) (n cap n' cap' : Nat) (err err' : Int) (ks ks' : List (Int × Int)) (w : World) (h : CAt w A n ks) (hm : n ≤ 9223372036854775807) (h' : CAt w A' n' ks') (hm' : n' ≤ 9223372036854775807) :
    Calls Try.prog 53 #[vCv A n cap err, vCv A' n' cap' err'] w (cvdOut w (jnR (fun a b => a + b) ks ks' err err') (jnF (fun a b => a + b) ks ks' err err') (jnErr (fun a b => a + b) ks ks' err err')) := by
  have HJ := Lib.hid (fun W (hW : CAt W A n ks) (hW' : CAt W A' n' ks') => mixed_any (1) (by omega) (fun a b => a + b) (fun a b => by omega) A A' n cap n' cap' err err' ks ks' W hW hm hW' hm')
  have HA := Lib.hid h
  have HA' := Lib.hid h'
  clear h h'
  generalize jnR (fun a b => a + b) ks ks' err err' = R at *
  generalize jnF (fun a b => a + b) ks ks' err err' = Fz at *
  generalize jnErr (fun a b => a + b) ks ks' err err' = E at *
  generalize hW : ((w.alloc (.cells #[.slice A n cap, .int .i64 err] 24)).alloc (.cells #[.slice A' n' cap', .int .i64 err'] 24)).alloc (.cells #[.slice none 0 0, .int .i64 0, .int .i64 0] 78) = W
  have B0 : Below w.heap.size w W := by rw [← hW]; exact ((((Below.refl w.heap.size w).alloc (Nat.le_refl _) _).alloc (by simp) _).alloc (by simp; omega) _)
  have x0_0 : Blk W w.heap.size 24 #[.slice A n cap, .int .i64 err] := by rw [← hW]; exact (((Blk.at_new _ _ rfl).alloc _).alloc _)
  have x1_0 : Blk W (w.heap.size + 1) 24 #[.slice A' n' cap', .int .i64 err'] := by rw [← hW]; exact ((Blk.at_new _ _ (by simp)).alloc _)
  have r_0 : Blk W (w.heap.size + 2) 78 #[.slice none 0 0, .int .i64 0, .int .i64 0] := by rw [← hW]; exact (Blk.at_new _ _ (by simp))
  have HWE := Lib.hid hW
  clear hW
  go_enter Try.func53, Try.ntmps53
  have B1 := B0
  go_wp2_with fail
  rw [HWE.out]
  refine (HJ.out _ (HA.out.below B1) (HA'.out.below B1)).mono ?_; rintro e w1 ⟨A2, n2, cap2, rfl, hC2, hn2, hfr, hb1⟩
  have x0_1 := x0_0.below hb1
  have x1_1 := x1_0.below hb1
  have r_1 := r_0.below hb1
  clear x0_0 x1_0 r_0
  have x0_1c0 := x0_1.cell 0
  have x0_1c1 := x0_1.cell 1
  simp only [List.getElem?_toArray, List.getElem?_cons_zero, List.getElem?_cons_succ] at x0_1c0 x0_1c1
  have x0_1l := x0_1.lt
  have x1_1c0 := x1_1.cell 0
  have x1_1c1 := x1_1.cell 1
  simp only [List.getElem?_toArray, List.getElem?_cons_zero, List.getElem?_cons_succ] at x1_1c0 x1_1c1
  have x1_1l := x1_1.lt
  have r_1c0 := r_1.cell 0
  have r_1c1 := r_1.cell 1
  have r_1c2 := r_1.cell 2
  simp only [List.getElem?_toArray, List.getElem?_cons_zero, List.getElem?_cons_succ] at r_1c0 r_1c1 r_1c2
  have r_1l := r_1.lt
  have HC2 := Lib.hid hC2
  have hlr : (w.heap.size + 2) < W.heap.size := by rw [← HWE.out]; simp
  clear hC2
  have hr := r_1
  have hf0 := r_1.frozen 0
  have hf1 := r_1.frozen 1
  have hf2 := r_1.frozen 2
  have hl := r_1.lt
  have BZ := B1.trans (hb1.mono B1.size)
  go_wp2
  have hF := (((hr.set_ 0 ((.slice A2 n2 cap2))).set_ 1 ((.int .i64 Fz))).set_ 2 ((.int .i64 E)))
  have k0 := hF.cell 0
  have k1 := hF.cell 1
  have k2 := hF.cell 2
  simp only [List.setIfInBounds_toArray, List.set_cons_zero, List.set_cons_succ, List.getElem?_toArray, List.getElem?_cons_zero, List.getElem?_cons_succ] at k0 k1 k2
  exact bodyPost_ret (v := .agg #[(.slice A2 n2 cap2), (.int .i64 Fz), (.int .i64 E)]) (by simp [results, Try.results53, go_sem, k0, k1, k2]) rfl (⟨A2, n2, cap2, rfl, HC2.out.sets3 (r := (w.heap.size + 2)) (fun a h => by have := hfr a h; omega) _ _ _, hn2, (fun a h => by have := hfr a h; have := B0.size; omega), (((BZ.setCell (p := ⟨(w.heap.size + 2), 0, none⟩) (by simp <;> omega) _).setCell (p := ⟨(w.heap.size + 2), 1, none⟩) (by simp <;> omega) _).setCell (p := ⟨(w.heap.size + 2), 2, none⟩) (by simp <;> omega) _)⟩)

theorem RMinus_any (A A' : Option Addr) (n cap n' cap' : Nat) (err err' : Int) (ks ks' : List (Int × Int)) (w : World) (h : CAt w A n ks) (hm : n ≤ 9223372036854775807) (h' : CAt w A' n' ks') (hm' : n' ≤ 9223372036854775807) :
    Calls Try.prog 55 #[vCv A n cap err, vCv A' n' cap' err'] w (cvdOut w (jnR (fun a b => a - b) ks ks' err err') (jnF (fun a b => a - b) ks ks' err err') (jnErr (fun a b => a - b) ks ks' err err')) := by
  have HJ := Lib.hid (fun W (hW : CAt W A n ks) (hW' : CAt W A' n' ks') => mixed_any (-1) (by omega) (fun a b => a - b) (fun a b => by omega) A A' n cap n' cap' err err' ks ks' W hW hm hW' hm')
  have HA := Lib.hid h
  have HA' := Lib.hid h'
  clear h h'
  generalize jnR (fun a b => a - b) ks ks' err err' = R at *
  generalize jnF (fun a b => a - b) ks ks' err err' = Fz at *
  generalize jnErr (fun a b => a - b) ks ks' err err' = E at *
  generalize hW : ((w.alloc (.cells #[.slice A n cap, .int .i64 err] 24)).alloc (.cells #[.slice A' n' cap', .int .i64 err'] 24)).alloc (.cells #[.slice none 0 0, .int .i64 0, .int .i64 0] 78) = W
  have B0 : Below w.heap.size w W := by rw [← hW]; exact ((((Below.refl w.heap.size w).alloc (Nat.le_refl _) _).alloc (by simp) _).alloc (by simp; omega) _)
  have x0_0 : Blk W w.heap.size 24 #[.slice A n cap, .int .i64 err] := by rw [← hW]; exact (((Blk.at_new _ _ rfl).alloc _).alloc _)
  have x1_0 : Blk W (w.heap.size + 1) 24 #[.slice A' n' cap', .int .i64 err'] := by rw [← hW]; exact ((Blk.at_new _ _ (by simp)).alloc _)
  have r_0 : Blk W (w.heap.size + 2) 78 #[.slice none 0 0, .int .i64 0, .int .i64 0] := by rw [← hW]; exact (Blk.at_new _ _ (by simp))
  have HWE := Lib.hid hW
  clear hW
  go_enter Try.func55, Try.ntmps55
  have B1 := B0
  go_wp2_with fail
  rw [HWE.out]
  refine (HJ.out _ (HA.out.below B1) (HA'.out.below B1)).mono ?_; rintro e w1 ⟨A2, n2, cap2, rfl, hC2, hn2, hfr, hb1⟩
  have x0_1 := x0_0.below hb1
  have x1_1 := x1_0.below hb1
  have r_1 := r_0.below hb1
  clear x0_0 x1_0 r_0
  have x0_1c0 := x0_1.cell 0
  have x0_1c1 := x0_1.cell 1
  simp only [List.getElem?_toArray, List.getElem?_cons_zero, List.getElem?_cons_succ] at x0_1c0 x0_1c1
  have x0_1l := x0_1.lt
  have x1_1c0 := x1_1.cell 0
  have x1_1c1 := x1_1.cell 1
  simp only [List.getElem?_toArray, List.getElem?_cons_zero, List.getElem?_cons_succ] at x1_1c0 x1_1c1
  have x1_1l := x1_1.lt
  have r_1c0 := r_1.cell 0
  have r_1c1 := r_1.cell 1
  have r_1c2 := r_1.cell 2
  simp only [List.getElem?_toArray, List.getElem?_cons_zero, List.getElem?_cons_succ] at r_1c0 r_1c1 r_1c2
  have r_1l := r_1.lt
  have HC2 := Lib.hid hC2
  have hlr : (w.heap.size + 2) < W.heap.size := by rw [← HWE.out]; simp
  clear hC2
  have hr := r_1
  have hf0 := r_1.frozen 0
  have hf1 := r_1.frozen 1
  have hf2 := r_1.frozen 2
  have hl := r_1.lt
  have BZ := B1.trans (hb1.mono B1.size)
  go_wp2
  have hF := (((hr.set_ 0 ((.slice A2 n2 cap2))).set_ 1 ((.int .i64 Fz))).set_ 2 ((.int .i64 E)))
  have k0 := hF.cell 0
  have k1 := hF.cell 1
  have k2 := hF.cell 2
  simp only [List.setIfInBounds_toArray, List.set_cons_zero, List.set_cons_succ, List.getElem?_toArray, List.getElem?_cons_zero, List.getElem?_cons_succ] at k0 k1 k2
  exact bodyPost_ret (v := .agg #[(.slice A2 n2 cap2), (.int .i64 Fz), (.int .i64 E)]) (by simp [results, Try.results55, go_sem, k0, k1, k2]) rfl (⟨A2, n2, cap2, rfl, HC2.out.sets3 (r := (w.heap.size + 2)) (fun a h => by have := hfr a h; omega) _ _ _, hn2, (fun a h => by have := hfr a h; have := B0.size; omega), (((BZ.setCell (p := ⟨(w.heap.size + 2), 0, none⟩) (by simp <;> omega) _).setCell (p := ⟨(w.heap.size + 2), 1, none⟩) (by simp <;> omega) _).setCell (p := ⟨(w.heap.size + 2), 2, none⟩) (by simp <;> omega) _)⟩)
end Go.Proofs.Ytipablcbkoedbaa
