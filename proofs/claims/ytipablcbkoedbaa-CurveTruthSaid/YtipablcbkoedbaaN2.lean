/- The laws' own functions: apart, less. -/
import Derived.WalkKit
import Derived.WalkLawsBesides
import Derived.OwnWalk
import Derived.Lib.Hide
import Derived.Outline
import Derived.WalkSmall
import Derived.Lib.SmallJoins
import Derived.Test.YtipablcbkoedbaaProg
import Derived.Test.YtipablcbkoedbaaG1
import Derived.Test.YtipablcbkoedbaaH3
import Derived.Test.YtipablcbkoedbaaC9
namespace Go.Proofs.Ytipablcbkoedbaa
open Go.RowKit

theorem lw_of {n d : Int} (hd : 1 ≤ d) (h1 : -549755813888 ≤ n) (h2 : n ≤ 549755813888) (h3 : d ≤ 4194304) : lwErr n d = 0 ∧ lwN n d = lowN n d ∧ lwD n d = lowD n d := by
  have hs : ¬ d < 0 := by omega
  have e1 : sN n d = lowN n d := by unfold sN; rw [if_neg hs]
  have e2 : sD n d = lowD n d := by unfold sD; rw [if_neg hs]
  have hk : okF (sN n d) (sD n d) := by
    rw [e1, e2]
    have a := lowN_bd (n := n) (d := d) (M := 549755813888) hd h1 h2
    have b := lowD_bd (n := n) (d := d) (D := 4194304) hd h3
    exact ⟨b.1, b.2, a.1, a.2, low_cop hd⟩
  have he : lwErr n d = 0 := by
    unfold lwErr
    rw [if_neg (by omega), if_pos hk]
  exact ⟨he, (lw_nz he).1.trans e1, (lw_nz he).2.trans e2⟩

theorem less_law (a b : Int × Int) (w : World) (ha : okF a.1 a.2) (hb : okF b.1 b.2) :
    Calls Try.prog 50 #[vFrac a.1 a.2, vFrac b.1 b.2] w fun e w' => e = .returned (.bool (ltF a b)) ∧ Below w.heap.size w w' := by
  have HC := Lib.hid (Compare_any a b)
  have hE : cpErr a b = 0 := by unfold cpErr; rw [if_pos ⟨ha, hb⟩]
  have hV : cpV a b = ordF a.1 a.2 b.1 b.2 := by unfold cpV; rw [if_pos ⟨ha, hb⟩]
  have hL : ltF a b = decide (ordF a.1 a.2 b.1 b.2 < 0) := rfl
  unfold cpOut at HC
  rw [hE, hV] at HC
  rw [hL]
  clear hE hV hL ha hb
  generalize ordF a.1 a.2 b.1 b.2 = o at *
  obtain ⟨a1, a2⟩ := a
  obtain ⟨b1, b2⟩ := b
  dsimp only at HC ⊢
  generalize hW : (w.alloc (.cells #[.int .i64 a1, .int .i64 a2] 30)).alloc (.cells #[.int .i64 b1, .int .i64 b2] 30) = W
  have hbw : Below w.heap.size w W := by rw [← hW]; exact (((Below.refl w.heap.size w).alloc (Nat.le_refl _) _).alloc (by simp) _)
  have x0_0 : Blk W w.heap.size 30 #[.int .i64 a1, .int .i64 a2] := by rw [← hW]; exact ((Blk.at_new _ _ rfl).alloc _)
  have x1_0 : Blk W (w.heap.size + 1) 30 #[.int .i64 b1, .int .i64 b2] := by rw [← hW]; exact (Blk.at_new _ _ (by simp))
  have HWE := Lib.hid hW
  clear hW
  go_enter Try.func50, Try.ntmps50
  have B1 := hbw
  go_wp2_with fail
  rw [HWE.out]
  refine (HC.out _).mono ?_; rintro e w1 ⟨rfl, hb1⟩
  have x0_1 := x0_0.below hb1
  have x1_1 := x1_0.below hb1
  clear x0_0 x1_0
  have x0_1c0 := x0_1.cell 0
  have x0_1c1 := x0_1.cell 1
  simp only [List.getElem?_toArray, List.getElem?_cons_zero, List.getElem?_cons_succ] at x0_1c0 x0_1c1
  have x0_1l := x0_1.lt
  have x1_1c0 := x1_1.cell 0
  have x1_1c1 := x1_1.cell 1
  simp only [List.getElem?_toArray, List.getElem?_cons_zero, List.getElem?_cons_succ] at x1_1c0 x1_1c1
  have x1_1l := x1_1.lt
  go_wp2
  go_ret
  exact ⟨by simp, B1.trans (hb1.mono B1.size)⟩

set_option maxHeartbeats 1600000 in
theorem apart_any (A A' : Option Addr) (n cap n' cap' : Nat) (err err' : Int) (ks ks' : List (Int × Int)) (x : Int) (w : World) (h : CAt w A n ks) (hm : n ≤ 9223372036854775807) (h' : CAt w A' n' ks') (hm' : n' ≤ 9223372036854775807) (hx : valErr ks err x = 0) (hx' : valErr ks' err' x = 0) :
    Calls Try.prog 45 #[vCv A n cap err, vCv A' n' cap' err', .int .i64 x] w fun e w' => e = .returned (vFrac (dfN ks ks' x) (dfD ks ks' x)) ∧ Below w.heap.size w w' := by
  have hV := fun W (hW : CAt W A n ks) => Value_any A n cap err ks x W hW hm
  have hV' := fun W (hW : CAt W A' n' ks') => Value_any A' n' cap' err' ks' x W hW hm'
  have e1 : vN ks err x = valN ks x := by unfold vN; rw [if_pos hx]
  have e2 : vD ks err x = valD ks x := by unfold vD; rw [if_pos hx]
  have e3 : vN ks' err' x = valN ks' x := by unfold vN; rw [if_pos hx']
  have e4 : vD ks' err' x = valD ks' x := by unfold vD; rw [if_pos hx']
  rw [hx, e1, e2] at hV
  rw [hx', e3, e4] at hV'
  obtain ⟨hv, _, _, h0, _⟩ := val_in hx
  obtain ⟨hv', _, _, h0', _⟩ := val_in hx'
  obtain ⟨b1, b2, b3, b4, b5, b6⟩ := df_bd hv hv' h0 h0'
  have hL := fun W => Lowest_any (valN ks x * valD ks' x - valN ks' x * valD ks x) (valD ks x * valD ks' x) W
  obtain ⟨l1, l2, l3⟩ := lw_of (n := valN ks x * valD ks' x - valN ks' x * valD ks x) (d := valD ks x * valD ks' x) b5 (by omega) (by omega) (by omega)
  unfold lwOut at hL
  rw [l1, l2, l3] at hL
  have hN : dfN ks ks' x = lowN (valN ks x * valD ks' x - valN ks' x * valD ks x) (valD ks x * valD ks' x) := rfl
  have hD : dfD ks ks' x = lowD (valN ks x * valD ks' x - valN ks' x * valD ks x) (valD ks x * valD ks' x) := rfl
  rw [hN, hD]
  have HV := Lib.hid hV
  have HV' := Lib.hid hV'
  have HL := Lib.hid hL
  have HA := Lib.hid h
  have HA' := Lib.hid h'
  clear e1 e2 e3 e4 l1 l2 l3 hN hD hV hV' hL hx hx' hv hv' h0 h0' h h'
  generalize lowN (valN ks x * valD ks' x - valN ks' x * valD ks x) (valD ks x * valD ks' x) = qn at *
  generalize lowD (valN ks x * valD ks' x - valN ks' x * valD ks x) (valD ks x * valD ks' x) = qd at *
  generalize valN ks x = vn at *
  generalize valD ks x = vd at *
  generalize valN ks' x = un at *
  generalize valD ks' x = ud at *
  generalize hW : ((w.alloc (.cells #[.slice A n cap, .int .i64 err] 24)).alloc (.cells #[.slice A' n' cap', .int .i64 err'] 24)).alloc (.cells #[.int .i64 0, .int .i64 0] 30) = W
  have hbw : Below w.heap.size w W := by rw [← hW]; exact ((((Below.refl w.heap.size w).alloc (Nat.le_refl _) _).alloc (by simp) _).alloc (by simp; omega) _)
  have x0_0 : Blk W w.heap.size 24 #[.slice A n cap, .int .i64 err] := by rw [← hW]; exact (((Blk.at_new _ _ rfl).alloc _).alloc _)
  have x1_0 : Blk W (w.heap.size + 1) 24 #[.slice A' n' cap', .int .i64 err'] := by rw [← hW]; exact ((Blk.at_new _ _ (by simp)).alloc _)
  have x2_0 : Blk W (w.heap.size + 2) 30 #[.int .i64 0, .int .i64 0] := by rw [← hW]; exact (Blk.at_new _ _ (by simp))
  have HWE := Lib.hid hW
  clear hW
  go_enter Try.func45, Try.ntmps45
  have B1 := hbw
  go_wp2_with fail
  rw [HWE.out]
  refine (HV.out _ (HA.out.below B1)).mono ?_; rintro e w1 ⟨rfl, hb1⟩
  have x0_1 := x0_0.below hb1
  have x1_1 := x1_0.below hb1
  have x2_1 := x2_0.below hb1
  clear x0_0 x1_0 x2_0
  have x0_1c0 := x0_1.cell 0
  have x0_1c1 := x0_1.cell 1
  simp only [List.getElem?_toArray, List.getElem?_cons_zero, List.getElem?_cons_succ] at x0_1c0 x0_1c1
  have x0_1l := x0_1.lt
  have x1_1c0 := x1_1.cell 0
  have x1_1c1 := x1_1.cell 1
  simp only [List.getElem?_toArray, List.getElem?_cons_zero, List.getElem?_cons_succ] at x1_1c0 x1_1c1
  have x1_1l := x1_1.lt
  have x2_1c0 := x2_1.cell 0
  have x2_1c1 := x2_1.cell 1
  simp only [List.getElem?_toArray, List.getElem?_cons_zero, List.getElem?_cons_succ] at x2_1c0 x2_1c1
  have x2_1l := x2_1.lt
  have B2 := B1.trans (hb1.mono B1.size)
  have B2a := B2.alloc B2.size (.cells #[.int .i64 vn, .int .i64 vd] 30)
  go_wp2_with fail
  refine (HV'.out _ (HA'.out.below B2a)).mono ?_; rintro e w2 ⟨rfl, hb2⟩
  clear x0_1c0 x0_1c1 x0_1l x1_1c0 x1_1c1 x1_1l x2_1c0 x2_1c1 x2_1l
  have x0_2 := (x0_1.alloc (.cells #[.int .i64 vn, .int .i64 vd] 30)).below hb2
  have x1_2 := (x1_1.alloc (.cells #[.int .i64 vn, .int .i64 vd] 30)).below hb2
  have x2_2 := (x2_1.alloc (.cells #[.int .i64 vn, .int .i64 vd] 30)).below hb2
  have p_2 := (Blk.new w1 30 #[.int .i64 vn, .int .i64 vd]).below hb2
  clear x0_1 x1_1 x2_1
  have x0_2c0 := x0_2.cell 0
  have x0_2c1 := x0_2.cell 1
  simp only [List.getElem?_toArray, List.getElem?_cons_zero, List.getElem?_cons_succ] at x0_2c0 x0_2c1
  have x0_2l := x0_2.lt
  have x1_2c0 := x1_2.cell 0
  have x1_2c1 := x1_2.cell 1
  simp only [List.getElem?_toArray, List.getElem?_cons_zero, List.getElem?_cons_succ] at x1_2c0 x1_2c1
  have x1_2l := x1_2.lt
  have x2_2c0 := x2_2.cell 0
  have x2_2c1 := x2_2.cell 1
  simp only [List.getElem?_toArray, List.getElem?_cons_zero, List.getElem?_cons_succ] at x2_2c0 x2_2c1
  have x2_2l := x2_2.lt
  have p_2c0 := p_2.cell 0
  have p_2c1 := p_2.cell 1
  simp only [List.getElem?_toArray, List.getElem?_cons_zero, List.getElem?_cons_succ] at p_2c0 p_2c1
  have p_2l := p_2.lt
  have B3 := B2a.trans (hb2.mono B2a.size)
  have B3a := B3.alloc B3.size (.cells #[.int .i64 un, .int .i64 ud] 30)
  go_wp2_with fail
  refine (HL.out _).mono ?_; rintro e w3 ⟨rfl, hb3⟩
  clear x0_2c0 x0_2c1 x0_2l x1_2c0 x1_2c1 x1_2l x2_2c0 x2_2c1 x2_2l p_2c0 p_2c1 p_2l
  have x0_3 := (x0_2.alloc (.cells #[.int .i64 un, .int .i64 ud] 30)).below hb3
  have x1_3 := (x1_2.alloc (.cells #[.int .i64 un, .int .i64 ud] 30)).below hb3
  have x2_3 := (x2_2.alloc (.cells #[.int .i64 un, .int .i64 ud] 30)).below hb3
  have p_3 := (p_2.alloc (.cells #[.int .i64 un, .int .i64 ud] 30)).below hb3
  have q_3 := (Blk.new w2 30 #[.int .i64 un, .int .i64 ud]).below hb3
  clear x0_2 x1_2 x2_2 p_2
  have x0_3c0 := x0_3.cell 0
  have x0_3c1 := x0_3.cell 1
  simp only [List.getElem?_toArray, List.getElem?_cons_zero, List.getElem?_cons_succ] at x0_3c0 x0_3c1
  have x0_3l := x0_3.lt
  have x1_3c0 := x1_3.cell 0
  have x1_3c1 := x1_3.cell 1
  simp only [List.getElem?_toArray, List.getElem?_cons_zero, List.getElem?_cons_succ] at x1_3c0 x1_3c1
  have x1_3l := x1_3.lt
  have x2_3c0 := x2_3.cell 0
  have x2_3c1 := x2_3.cell 1
  simp only [List.getElem?_toArray, List.getElem?_cons_zero, List.getElem?_cons_succ] at x2_3c0 x2_3c1
  have x2_3l := x2_3.lt
  have p_3c0 := p_3.cell 0
  have p_3c1 := p_3.cell 1
  simp only [List.getElem?_toArray, List.getElem?_cons_zero, List.getElem?_cons_succ] at p_3c0 p_3c1
  have p_3l := p_3.lt
  have q_3c0 := q_3.cell 0
  have q_3c1 := q_3.cell 1
  simp only [List.getElem?_toArray, List.getElem?_cons_zero, List.getElem?_cons_succ] at q_3c0 q_3c1
  have q_3l := q_3.lt
  have BZ := B3a.trans (hb3.mono B3a.size)
  have hr := x2_3
  have hf0 := x2_3.frozen 0
  have hf1 := x2_3.frozen 1
  have hl := x2_3.lt
  go_wp2
  have hF := ((hr.set_ 0 (.int .i64 qn)).set_ 1 (.int .i64 qd)).alloc (.cells #[.int .i64 qn, .int .i64 qd] 30)
  have k0 := hF.cell 0
  have k1 := hF.cell 1
  simp only [List.setIfInBounds_toArray, List.set_cons_zero, List.set_cons_succ, List.getElem?_toArray, List.getElem?_cons_zero, List.getElem?_cons_succ] at k0 k1
  exact bodyPost_ret (v := vFrac qn qd) (by simp [results, Try.results45, go_sem, k0, k1]) rfl ⟨rfl, ((BZ.setCell (p := ⟨w.heap.size + 1 + 1, 0, none⟩) (by simp; omega) _).setCell (p := ⟨w.heap.size + 1 + 1, 1, none⟩) (by simp; omega) _).alloc (by simpa using BZ.size) _⟩
end Go.Proofs.Ytipablcbkoedbaa
