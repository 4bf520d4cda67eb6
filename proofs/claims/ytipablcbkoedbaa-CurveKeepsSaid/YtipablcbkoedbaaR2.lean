/- The reference: Minus2, two, shared, meets. -/
import Derived.WalkKit
import Derived.WalkLawsBesides
import Derived.Deep.QuietTactic
import Derived.BigQuiet
import Derived.RegionTactic
import Derived.OwnWalk
import Derived.Lib.Hide
import Derived.Outline
import Derived.WalkSmall
import Derived.IntWalk
import Derived.Deep.DeepCutAuto
import Derived.Test.YtipablcbkoedbaaProg
import Derived.Test.YtipablcbkoedbaaR1
import Derived.Test.YtipablcbkoedbaaH3
import Derived.Test.YtipablcbkoedbaaN3
namespace Go.Proofs.Ytipablcbkoedbaa
open Go.RowKit


theorem Minus2_any (a b c d : Int) (w : World) (h1 : -4000000000000 ≤ a * d) (h2 : a * d ≤ 4000000000000) (h3 : -4000000000000 ≤ c * b) (h4 : c * b ≤ 4000000000000) (h5 : 1 ≤ b * d) (h6 : b * d ≤ 4000000000000) :
    Calls Try.prog 118 #[vFrac a b, vFrac c d] w fun e w' => e = .returned (vFrac (lowN (a * d - c * b) (b * d)) (lowD (a * d - c * b) (b * d))) ∧ Below w.heap.size w w' := by
  have HL := Lib.hid (fun W => Low_any (a * d - c * b) (b * d) W (by omega) (by omega) h5 (by omega))
  generalize lowN (a * d - c * b) (b * d) = qn at *
  generalize lowD (a * d - c * b) (b * d) = qd at *
  generalize hW : ((w.alloc (.cells #[.int .i64 a, .int .i64 b] 30)).alloc (.cells #[.int .i64 c, .int .i64 d] 30)).alloc (.cells #[.int .i64 0, .int .i64 0] 30) = W
  have B0 : Below w.heap.size w W := by rw [← hW]; exact ((((Below.refl w.heap.size w).alloc (Nat.le_refl _) _).alloc (by simp) _).alloc (by simp; omega) _)
  have x0_0 : Blk W w.heap.size 30 #[.int .i64 a, .int .i64 b] := by rw [← hW]; exact (((Blk.at_new _ _ rfl).alloc _).alloc _)
  have x1_0 : Blk W (w.heap.size + 1) 30 #[.int .i64 c, .int .i64 d] := by rw [← hW]; exact ((Blk.at_new _ _ (by simp)).alloc _)
  have r_0 : Blk W (w.heap.size + 2) 30 #[.int .i64 0, .int .i64 0] := by rw [← hW]; exact (Blk.at_new _ _ (by simp))
  have HWE := Lib.hid hW
  clear hW
  go_enter Try.func118, Try.ntmps118
  have x0_0c0 := x0_0.cell 0
  have x0_0c1 := x0_0.cell 1
  simp only [List.getElem?_toArray, List.getElem?_cons_zero, List.getElem?_cons_succ] at x0_0c0 x0_0c1
  have x0_0l := x0_0.lt
  have x1_0c0 := x1_0.cell 0
  have x1_0c1 := x1_0.cell 1
  simp only [List.getElem?_toArray, List.getElem?_cons_zero, List.getElem?_cons_succ] at x1_0c0 x1_0c1
  have x1_0l := x1_0.lt
  have r_0c0 := r_0.cell 0
  have r_0c1 := r_0.cell 1
  simp only [List.getElem?_toArray, List.getElem?_cons_zero, List.getElem?_cons_succ] at r_0c0 r_0c1
  have r_0l := r_0.lt
  go_wp2_with fail
  rw [HWE.out]
  refine (HL.out _).mono ?_; rintro e w1 ⟨rfl, hb1⟩
  have r_1 := r_0.below hb1
  have hr := r_1
  have hf0 := r_1.frozen 0
  have hf1 := r_1.frozen 1
  have hl := r_1.lt
  have hc0 := r_1.cell 0
  have hc1 := r_1.cell 1
  simp only [List.getElem?_toArray, List.getElem?_cons_zero, List.getElem?_cons_succ] at hc0 hc1
  have BZ := B0.trans (hb1.mono B0.size)
  clear x0_0 x1_0 x0_0c0 x0_0c1 x0_0l x1_0c0 x1_0c1 x1_0l r_0c0 r_0c1 r_0l
  go_wp2
  have hF := ((hr.set_ 0 (.int .i64 qn)).set_ 1 (.int .i64 qd))
  have k0 := hF.cell 0
  have k1 := hF.cell 1
  simp only [List.setIfInBounds_toArray, List.set_cons_zero, List.set_cons_succ, List.getElem?_toArray, List.getElem?_cons_zero, List.getElem?_cons_succ] at k0 k1
  exact bodyPost_ret (v := vFrac qn qd) (by simp [results, Try.results118, go_sem, k0, k1]) rfl ⟨rfl, ((BZ.setCell (p := ⟨w.heap.size + 1 + 1, 0, none⟩) (by simp; omega) _).setCell (p := ⟨w.heap.size + 1 + 1, 1, none⟩) (by simp; omega) _)⟩


theorem two_any (A A' : Option Addr) (n cap n' cap' : Nat) (err err' : Int) (ks ks' : List (Int × Int)) (w : World) (h : CAt w A n ks) (hm : n ≤ 9223372036854775807) (h' : CAt w A' n' ks') (hm' : n' ≤ 9223372036854775807) :
    Calls Try.prog 119 #[vCv A n cap err, vCv A' n' cap' err'] w fun e w' => e = .returned (.int .i64 (twErr ks ks' err err')) ∧ Below w.heap.size w w' := by
  have HC := Lib.hid (fun W (hW : CAt W A n ks) => RCheck_any A n cap err ks W hW hm)
  have HC' := Lib.hid (fun W (hW : CAt W A' n' ks') => RCheck_any A' n' cap' err' ks' W hW hm')
  have HA := Lib.hid h
  have HA' := Lib.hid h'
  unfold twErr
  clear h h'
  by_cases hc : check ks err = 0
  case neg =>
    rw [if_neg hc]
    have hc1 : (check ks err != 0) = true := by simpa using hc
    generalize check ks err = ce at *
    clear hc HC'
    generalize hW : (w.alloc (.cells #[.slice A n cap, .int .i64 err] 24)).alloc (.cells #[.slice A' n' cap', .int .i64 err'] 24) = W
    have B0 : Below w.heap.size w W := by rw [← hW]; exact (((Below.refl w.heap.size w).alloc (Nat.le_refl _) _).alloc (by simp) _)
    have x0_0 : Blk W w.heap.size 24 #[.slice A n cap, .int .i64 err] := by rw [← hW]; exact ((Blk.at_new _ _ rfl).alloc _)
    have x1_0 : Blk W (w.heap.size + 1) 24 #[.slice A' n' cap', .int .i64 err'] := by rw [← hW]; exact (Blk.at_new _ _ (by simp))
    have HWE := Lib.hid hW
    clear hW
    go_enter Try.func119, Try.ntmps119
    have B1 := B0
    go_wp2_with fail
    rw [HWE.out]
    refine (HC.out _ (HA.out.below B1)).mono ?_; rintro e w1 ⟨rfl, hb1⟩
    have x0_1 := x0_0.below hb1
    have x1_1 := x1_0.below hb1
    clear x0_0 x1_0
    have x0_1c0 := x0_1.cell 0
    have x0_1c1 := x0_1.cell 1
    simp only [List.getElem?_toArray, List.getElem?_cons_zero, List.getElem?_cons_succ] at x0_1c0 x0_1c1
    have x0_1l := x0_1.lt
    have x1_1c0 := x1_1.cell 0
    have x1_1c1 := x1_1.cell 1
    simp only [List.getElem?_toArray, List.getElem?_cons_zero, List.getElem?_cons_succ] at x1_1c0 x1_1c1
    have x1_1l := x1_1.lt
    go_wp2
    go_ret
    exact ⟨rfl, B1.trans (hb1.mono B1.size)⟩
  rw [if_pos hc]
  rw [hc] at HC
  generalize check ks' err' = ce at *
  clear hc
  generalize hW : (w.alloc (.cells #[.slice A n cap, .int .i64 err] 24)).alloc (.cells #[.slice A' n' cap', .int .i64 err'] 24) = W
  have B0 : Below w.heap.size w W := by rw [← hW]; exact (((Below.refl w.heap.size w).alloc (Nat.le_refl _) _).alloc (by simp) _)
  have x0_0 : Blk W w.heap.size 24 #[.slice A n cap, .int .i64 err] := by rw [← hW]; exact ((Blk.at_new _ _ rfl).alloc _)
  have x1_0 : Blk W (w.heap.size + 1) 24 #[.slice A' n' cap', .int .i64 err'] := by rw [← hW]; exact (Blk.at_new _ _ (by simp))
  have HWE := Lib.hid hW
  clear hW
  go_enter Try.func119, Try.ntmps119
  have B1 := B0
  go_wp2_with fail
  rw [HWE.out]
  refine (HC.out _ (HA.out.below B1)).mono ?_; rintro e w1 ⟨rfl, hb1⟩
  have x0_1 := x0_0.below hb1
  have x1_1 := x1_0.below hb1
  clear x0_0 x1_0
  have x0_1c0 := x0_1.cell 0
  have x0_1c1 := x0_1.cell 1
  simp only [List.getElem?_toArray, List.getElem?_cons_zero, List.getElem?_cons_succ] at x0_1c0 x0_1c1
  have x0_1l := x0_1.lt
  have x1_1c0 := x1_1.cell 0
  have x1_1c1 := x1_1.cell 1
  simp only [List.getElem?_toArray, List.getElem?_cons_zero, List.getElem?_cons_succ] at x1_1c0 x1_1c1
  have x1_1l := x1_1.lt
  have B2 := B1.trans (hb1.mono B1.size)
  go_wp2_with fail
  refine (HC'.out _ (HA'.out.below B2)).mono ?_; rintro e w2 ⟨rfl, hb2⟩
  clear x0_1c0 x0_1c1 x0_1l x1_1c0 x1_1c1 x1_1l
  have x0_2 := x0_1.below hb2
  have x1_2 := x1_1.below hb2
  clear x0_1 x1_1
  have x0_2c0 := x0_2.cell 0
  have x0_2c1 := x0_2.cell 1
  simp only [List.getElem?_toArray, List.getElem?_cons_zero, List.getElem?_cons_succ] at x0_2c0 x0_2c1
  have x0_2l := x0_2.lt
  have x1_2c0 := x1_2.cell 0
  have x1_2c1 := x1_2.cell 1
  simp only [List.getElem?_toArray, List.getElem?_cons_zero, List.getElem?_cons_succ] at x1_2c0 x1_2c1
  have x1_2l := x1_2.lt
  go_wp2
  go_ret
  exact ⟨rfl, B2.trans (hb2.mono B2.size)⟩

theorem Rshared_any (b off n cap b' off' n' cap' : Nat) (err err' : Int) (ks ks' : List (Int × Int)) (w : World) (h : Kn w b off ks) (hl : ks.length = n) (hv : Valid ks) (h' : Kn w b' off' ks') (hl' : ks'.length = n') (hv' : Valid ks') :
    Calls Try.prog 120 #[vCv (some ⟨b, off, none⟩) n cap err, vCv (some ⟨b', off', none⟩) n' cap' err'] w fun e w' => e = .returned (vSpan (max (domLo ks) (domLo ks')) (min (domHi ks) (domHi ks'))) ∧ Below w.heap.size w w' := by
  have HD := Lib.hid (fun W (hW : Kn W b off ks) => Rdomain_any b off n cap err ks W hW hl (by have := hv.pos; omega) (by have := hv.le; omega))
  have HD' := Lib.hid (fun W (hW : Kn W b' off' ks') => Rdomain_any b' off' n' cap' err' ks' W hW hl' (by have := hv'.pos; omega) (by have := hv'.le; omega))
  have HA := Lib.hid h
  have HA' := Lib.hid h'
  clear h h' hl hl' hv hv'
  generalize domLo ks = l1 at *
  generalize domHi ks = h1 at *
  generalize domLo ks' = l2 at *
  generalize domHi ks' = h2 at *
  generalize hW : ((w.alloc (.cells #[.slice (some ⟨b, off, none⟩) n cap, .int .i64 err] 24)).alloc (.cells #[.slice (some ⟨b', off', none⟩) n' cap', .int .i64 err'] 24)).alloc (.cells #[.int .i64 0, .int .i64 0] 26) = W
  have B0 : Below w.heap.size w W := by rw [← hW]; exact ((((Below.refl w.heap.size w).alloc (Nat.le_refl _) _).alloc (by simp) _).alloc (by simp; omega) _)
  have x0_0 : Blk W w.heap.size 24 #[.slice (some ⟨b, off, none⟩) n cap, .int .i64 err] := by rw [← hW]; exact (((Blk.at_new _ _ rfl).alloc _).alloc _)
  have x1_0 : Blk W (w.heap.size + 1) 24 #[.slice (some ⟨b', off', none⟩) n' cap', .int .i64 err'] := by rw [← hW]; exact ((Blk.at_new _ _ (by simp)).alloc _)
  have r_0 : Blk W (w.heap.size + 2) 26 #[.int .i64 0, .int .i64 0] := by rw [← hW]; exact (Blk.at_new _ _ (by simp))
  have HWE := Lib.hid hW
  clear hW
  go_enter Try.func120, Try.ntmps120
  have B1 := B0
  go_wp2_with fail
  rw [HWE.out]
  refine (HD.out _ (HA.out.below B1)).mono ?_; rintro e w1 ⟨rfl, hb1⟩
  have x0_1 := x0_0.below hb1
  have x1_1 := x1_0.below hb1
  have r_1 := r_0.below hb1
  clear x0_0 x1_0 r_0
  have x0_1c0 := x0_1.cell 0
  have x0_1c1 := x0_1.cell 1
  simp only [List.getElem?_toArray, List.getElem?_cons_zero, List.getElem?_cons_succ] at x0_1c0 x0_1c1
  have x0_1l := x0_1.lt
  have x1_1c0 := x1_1.cell 0
  have x1_1c1 := x1_1.cell 1
  simp only [List.getElem?_toArray, List.getElem?_cons_zero, List.getElem?_cons_succ] at x1_1c0 x1_1c1
  have x1_1l := x1_1.lt
  have r_1c0 := r_1.cell 0
  have r_1c1 := r_1.cell 1
  simp only [List.getElem?_toArray, List.getElem?_cons_zero, List.getElem?_cons_succ] at r_1c0 r_1c1
  have r_1l := r_1.lt
  have B2 := B1.trans (hb1.mono B1.size)
  have B2a := B2.alloc B2.size (.cells #[.int .i64 l1, .int .i64 h1] 26)
  go_wp2_with fail
  refine (HD'.out _ (HA'.out.below B2a)).mono ?_; rintro e w2 ⟨rfl, hb2⟩
  clear x0_1c0 x0_1c1 x0_1l x1_1c0 x1_1c1 x1_1l r_1c0 r_1c1 r_1l
  have x0_2 := (x0_1.alloc (.cells #[.int .i64 l1, .int .i64 h1] 26)).below hb2
  have x1_2 := (x1_1.alloc (.cells #[.int .i64 l1, .int .i64 h1] 26)).below hb2
  have r_2 := (r_1.alloc (.cells #[.int .i64 l1, .int .i64 h1] 26)).below hb2
  clear x0_1 x1_1 r_1
  have d1_2 := (Blk.new w1 26 #[.int .i64 l1, .int .i64 h1]).below hb2
  have x0_2c0 := x0_2.cell 0
  have x0_2c1 := x0_2.cell 1
  simp only [List.getElem?_toArray, List.getElem?_cons_zero, List.getElem?_cons_succ] at x0_2c0 x0_2c1
  have x0_2l := x0_2.lt
  have x1_2c0 := x1_2.cell 0
  have x1_2c1 := x1_2.cell 1
  simp only [List.getElem?_toArray, List.getElem?_cons_zero, List.getElem?_cons_succ] at x1_2c0 x1_2c1
  have x1_2l := x1_2.lt
  have r_2c0 := r_2.cell 0
  have r_2c1 := r_2.cell 1
  simp only [List.getElem?_toArray, List.getElem?_cons_zero, List.getElem?_cons_succ] at r_2c0 r_2c1
  have r_2l := r_2.lt
  have d1_2c0 := d1_2.cell 0
  have d1_2c1 := d1_2.cell 1
  simp only [List.getElem?_toArray, List.getElem?_cons_zero, List.getElem?_cons_succ] at d1_2c0 d1_2c1
  have d1_2l := d1_2.lt
  have B3 := B2a.trans (hb2.mono B2a.size)
  have B3a := B3.alloc B3.size (.cells #[.int .i64 l2, .int .i64 h2] 26)
  clear x0_2c0 x0_2c1 x0_2l x1_2c0 x1_2c1 x1_2l r_2c0 r_2c1 r_2l d1_2c0 d1_2c1 d1_2l
  have x0_3 := (x0_2.alloc (.cells #[.int .i64 l2, .int .i64 h2] 26))
  have x1_3 := (x1_2.alloc (.cells #[.int .i64 l2, .int .i64 h2] 26))
  have r_3 := (r_2.alloc (.cells #[.int .i64 l2, .int .i64 h2] 26))
  have d1_3 := (d1_2.alloc (.cells #[.int .i64 l2, .int .i64 h2] 26))
  clear x0_2 x1_2 r_2 d1_2
  have d2_3 := (Blk.new w2 26 #[.int .i64 l2, .int .i64 h2])
  go_upto_region 3 with fail
  generalize hV3 : w2.alloc (.cells #[.int .i64 l2, .int .i64 h2] 26) = V3 at *
  generalize hg3 : w2.heap.size = g3 at *
  clear hV3 hg3
  have x0_3c0 := x0_3.cell 0
  have x0_3c1 := x0_3.cell 1
  simp only [List.getElem?_toArray, List.getElem?_cons_zero, List.getElem?_cons_succ] at x0_3c0 x0_3c1
  have x0_3l := x0_3.lt
  have x1_3c0 := x1_3.cell 0
  have x1_3c1 := x1_3.cell 1
  simp only [List.getElem?_toArray, List.getElem?_cons_zero, List.getElem?_cons_succ] at x1_3c0 x1_3c1
  have x1_3l := x1_3.lt
  have r_3c0 := r_3.cell 0
  have r_3c1 := r_3.cell 1
  simp only [List.getElem?_toArray, List.getElem?_cons_zero, List.getElem?_cons_succ] at r_3c0 r_3c1
  have r_3l := r_3.lt
  have d1_3c0 := d1_3.cell 0
  have d1_3c1 := d1_3.cell 1
  simp only [List.getElem?_toArray, List.getElem?_cons_zero, List.getElem?_cons_succ] at d1_3c0 d1_3c1
  have d1_3l := d1_3.lt
  have d2_3c0 := d2_3.cell 0
  have d2_3c1 := d2_3.cell 1
  simp only [List.getElem?_toArray, List.getElem?_cons_zero, List.getElem?_cons_succ] at d2_3c0 d2_3c1
  have d2_3l := d2_3.lt
  have hr := r_3
  have hf0 := r_3.frozen 0
  have hf1 := r_3.frozen 1
  have hl := r_3.lt
  have BZ := B3a
  go_wp2
  have hF := ((hr.set_ 0 (.int .i64 (max l1 l2))).set_ 1 (.int .i64 (min h1 h2)))
  have k0 := hF.cell 0
  have k1 := hF.cell 1
  simp only [List.setIfInBounds_toArray, List.set_cons_zero, List.set_cons_succ, List.getElem?_toArray, List.getElem?_cons_zero, List.getElem?_cons_succ] at k0 k1
  exact bodyPost_ret (v := .agg #[.int .i64 (max l1 l2), .int .i64 (min h1 h2)]) (by simp [results, Try.results120, go_sem, k0, k1]) rfl ⟨rfl, ((BZ.setCell (p := ⟨(w.heap.size + 2), 0, none⟩) (by simp <;> omega) _).setCell (p := ⟨(w.heap.size + 2), 1, none⟩) (by simp <;> omega) _)⟩

set_option maxHeartbeats 1600000 in
theorem meets_any (b off n cap b' off' n' cap' : Nat) (err err' : Int) (ks ks' : List (Int × Int)) (w : World) (h : Kn w b off ks) (hl : ks.length = n) (hv : Valid ks) (h' : Kn w b' off' ks') (hl' : ks'.length = n') (hv' : Valid ks') (x : Int) (h0 : kx ks 0 ≤ x) (h1 : x ≤ kx ks (ks.length - 1)) (h0' : kx ks' 0 ≤ x) (h1' : x ≤ kx ks' (ks'.length - 1)) (he : 0 ≤ err ∧ err ≤ 4000) (he' : 0 ≤ err' ∧ err' ≤ 4000) :
    Calls Try.prog 121 #[vCv (some ⟨b, off, none⟩) n cap err, vCv (some ⟨b', off', none⟩) n' cap' err', .int .i64 x] w fun e w' => e = .returned (.bool (mtB ks ks' err err' x)) ∧ Below w.heap.size w w' := by
  subst hl hl'
  have HVa := Lib.hid (fun W hW => At_any b off cap err ks x W hW hv h0 h1)
  have HVb := Lib.hid (fun W hW => At_any b' off' cap' err' ks' x W hW hv' h0' h1')
  have hdf := df_bd hv hv' (x := x) h0 h0'
  have hfd := fD_frb hv hv' (x := x) h0 h0'
  have ho1 : ∀ W, Calls Try.prog 118 #[vFrac (valN ks x) (valD ks x), vFrac (valN ks' x) (valD ks' x)] W fun e w' => e = .returned (vFrac (dfN ks ks' x) (dfD ks ks' x)) ∧ Below W.heap.size W w' :=
    fun W => Minus2_any (valN ks x) (valD ks x) (valN ks' x) (valD ks' x) W (by omega) (by omega) (by omega) (by omega) (by omega) (by omega)
  have HO1 := Lib.hid ho1
  clear ho1
  have HMt := Lib.hid (show mtB ks ks' err err' x = decide (((dfN ks ks' x).natAbs : Int) ≤ (err + err') * dfD ks ks' x) from rfl)
  have HA := Lib.hid h
  have HA' := Lib.hid h'
  have q1 := hfd.n1
  have q2 := hfd.n2
  have q3 := hfd.d1
  have q4 := hfd.d2
  dsimp only at q1 q2 q3 q4
  clear h h' hv hv' hdf hfd h0 h1 h0' h1'
  generalize dfN ks ks' x = n3 at *
  generalize dfD ks ks' x = d3 at *
  generalize mtB ks ks' err err' x = bm at *
  generalize valN ks x = n1 at *
  generalize valD ks x = d1 at *
  generalize valN ks' x = n2 at *
  generalize valD ks' x = d2 at *
  obtain ⟨p1, p2⟩ := mul_bd (x := err + err') (y := d3) (A := 8000) (B := 4194304) (by omega) (by omega) (by omega) (by omega)
  generalize hW : (w.alloc (.cells #[.slice (some ⟨b, off, none⟩) ks.length cap, .int .i64 err] 24)).alloc (.cells #[.slice (some ⟨b', off', none⟩) ks'.length cap', .int .i64 err'] 24) = W
  have B0 : Below w.heap.size w W := by rw [← hW]; exact (((Below.refl w.heap.size w).alloc (Nat.le_refl _) _).alloc (by simp) _)
  have x0_0 : Blk W w.heap.size 24 #[.slice (some ⟨b, off, none⟩) ks.length cap, .int .i64 err] := by rw [← hW]; exact ((Blk.at_new _ _ rfl).alloc _)
  have x1_0 : Blk W (w.heap.size + 1) 24 #[.slice (some ⟨b', off', none⟩) ks'.length cap', .int .i64 err'] := by rw [← hW]; exact (Blk.at_new _ _ (by simp))
  have HWE := Lib.hid hW
  clear hW
  have HX0 := Lib.hid (HA.out.below B0)
  have HX1 := Lib.hid (HA'.out.below B0)
  go_enter Try.func121, Try.ntmps121
  go_wp2_with fail
  rw [HWE.out]
  refine wp_region_new 8 7 7 30 #[.int .i64 0, .int .i64 0] (by kernel_rfl) (by kernel_rfl) ?_ ?_
  · intro a' v R hR o ho
    simp only [List.getElem?_cons_succ, List.getElem?_cons_zero, Option.some.injEq] at ho
    subst ho
    simpa [loudAt, loudUpon, go_sem, execOp] using hR
  apply Exists.intro
  refine ⟨?_, ?_⟩
  · intro V hV
    have BV := (B0).trans (hV.mono (B0).size)
    have x0_v := x0_0.below hV
    have x0_vc0 := x0_v.cell 0
    have x0_vc1 := x0_v.cell 1
    simp only [List.getElem?_toArray, List.getElem?_cons_zero, List.getElem?_cons_succ] at x0_vc0 x0_vc1
    have x0_vl := x0_v.lt
    have x1_v := x1_0.below hV
    have x1_vc0 := x1_v.cell 0
    have x1_vc1 := x1_v.cell 1
    simp only [List.getElem?_toArray, List.getElem?_cons_zero, List.getElem?_cons_succ] at x1_vc0 x1_vc1
    have x1_vl := x1_v.lt
    have HKV := Lib.hid (HX0.out.below hV)
    have HKV' := Lib.hid (HX1.out.below hV)
    obtain ⟨xc, xf⟩ := xcell (W := V)
    simp only [List.take_succ_cons, List.take_zero, qOf, isLoud, List.any_cons, List.any_nil, Nat.reduceBEq, Bool.or_false, Nat.reduceAdd, Bool.false_eq_true, if_true, if_false, beq_self_eq_true, Nat.zero_add]
    repeat (first | go_big_quiet_step (first | (go_at_call 85; with_reducible refine calls_ext (HVa.out _ ?_); exact HKV.out.below (Ext.below _)) | (go_at_call 85; with_reducible refine calls_ext (HVb.out _ ?_); exact HKV'.out.below (Ext.below _)) | (go_at_call 118; with_reducible refine calls_ext (HO1.out _))) | quiet_step (first | (go_at_call 85; with_reducible refine calls_ext (HVa.out _ ?_); exact HKV.out.below (Ext.below _)) | (go_at_call 85; with_reducible refine calls_ext (HVb.out _ ?_); exact HKV'.out.below (Ext.below _)) | (go_at_call 118; with_reducible refine calls_ext (HO1.out _))))
    exact wpQuiet_nil rfl
  intro gn1 vn1 hgn1 hvn1 hbn1
  simp only [List.drop_succ_cons, List.drop_zero, Act.put, List.setIfInBounds_toArray, List.set_cons_succ, List.set_cons_zero]
  have nc0 := hbn1.cell 0
  have nc1 := hbn1.cell 1
  simp only [List.getElem?_toArray, List.getElem?_cons_zero, List.getElem?_cons_succ] at nc0 nc1
  have nf0 := hbn1.frozen 0
  have nf1 := hbn1.frozen 1
  have nl := hbn1.lt
  have f_1 := ((hbn1.set_ 0 (.int .i64 n3)).set_ 1 (.int .i64 d3))
  simp only [List.setIfInBounds_toArray, List.set_cons_zero, List.set_cons_succ] at f_1
  have x0_l1 := x0_0.lt
  have x0_1 := (((x0_0.below hvn1).far (p := ⟨gn1, 0, none⟩) (by simp; omega) (.int .i64 n3)).far (p := ⟨gn1, 1, none⟩) (by simp; omega) (.int .i64 d3))
  have x1_l1 := x1_0.lt
  have x1_1 := (((x1_0.below hvn1).far (p := ⟨gn1, 0, none⟩) (by simp; omega) (.int .i64 n3)).far (p := ⟨gn1, 1, none⟩) (by simp; omega) (.int .i64 d3))
  have hbv1 := ((hvn1.setCell (p := ⟨gn1, 0, none⟩) hgn1 (.int .i64 n3)).setCell (p := ⟨gn1, 1, none⟩) hgn1 (.int .i64 d3))
  have B1 := (B0).trans (hbv1.mono (B0).size)
  go_upto_region 2 with fail
  generalize hve1 : (vn1.setCell ⟨gn1, 0, none⟩ (.int .i64 n3)).setCell ⟨gn1, 1, none⟩ (.int .i64 d3) = V1 at *
  clear hve1 nc0 nc1 nf0 nf1 nl hbn1 hvn1
  have x0_1c0 := x0_1.cell 0
  have x0_1c1 := x0_1.cell 1
  simp only [List.getElem?_toArray, List.getElem?_cons_zero, List.getElem?_cons_succ] at x0_1c0 x0_1c1
  have x0_1l := x0_1.lt
  have x1_1c0 := x1_1.cell 0
  have x1_1c1 := x1_1.cell 1
  simp only [List.getElem?_toArray, List.getElem?_cons_zero, List.getElem?_cons_succ] at x1_1c0 x1_1c1
  have x1_1l := x1_1.lt
  have f_1c0 := f_1.cell 0
  have f_1c1 := f_1.cell 1
  simp only [List.getElem?_toArray, List.getElem?_cons_zero, List.getElem?_cons_succ] at f_1c0 f_1c1
  have f_1l := f_1.lt
  cases bm with
  | true =>
    have hle : ((n3.natAbs : Int) ≤ (err + err') * d3) := of_decide_eq_true HMt.out.symm
    have m1 : n3 ≤ (err + err') * d3 := by omega
    have m2 : -n3 ≤ (err + err') * d3 := by omega
    go_wp2
    go_ret
    exact ⟨rfl, B1⟩
  | false =>
    have hle : ¬ ((n3.natAbs : Int) ≤ (err + err') * d3) := of_decide_eq_false HMt.out.symm
    by_cases m1 : n3 ≤ (err + err') * d3
    · have m2 : ¬ -n3 ≤ (err + err') * d3 := by omega
      go_wp2
      go_ret
      exact ⟨rfl, B1⟩
    · go_wp2
      go_ret
      exact ⟨rfl, B1⟩
end Go.Proofs.Ytipablcbkoedbaa
