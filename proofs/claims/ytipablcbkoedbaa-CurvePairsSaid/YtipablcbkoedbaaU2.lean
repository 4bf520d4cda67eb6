/- The reference: Cross. -/
import Derived.WalkKit
import Derived.WalkLawsBesides
import Derived.Deep.QuietTactic
import Derived.BigQuiet
import Derived.RegionTactic
import Derived.OwnWalk
import Derived.RangeFuncBox
import Derived.Lib.Hide
import Derived.Outline
import Derived.WalkSmall
import Derived.IntWalk
import Derived.Deep.DeepCutAuto
import Derived.Test.YtipablcbkoedbaaProg
import Derived.Test.YtipablcbkoedbaaReg7
import Derived.Test.YtipablcbkoedbaaN1
import Derived.Test.YtipablcbkoedbaaR2
namespace Go.Proofs.Ytipablcbkoedbaa
open Go.RowKit

/-- What the reference's Cross returns. -/
def spOut (w : World) (l : List (Int × Int)) (e : Int) (en : Ending) (w' : World) : Prop :=
  ∃ v, en = .returned (.agg #[v, .int .i64 e]) ∧ w'.ownsRow w.heap.size 26 2 v l.length (l.flatMap encF) ∧ Below w.heap.size w w'
theorem grownBy_setCell2 (W : World) (b o : Nat) (v : Value) : W.grownBy (W.setCell ⟨b, o, none⟩ v) (some b) :=
  ⟨rfl, rfl, rfl, by simp [World.setCell], fun i _ hne => Below.heap_setCell W ⟨b, o, none⟩ v i (by simpa using fun h : i = b => hne (by rw [h]))⟩
theorem owns_far2 {W : World} {B e size n : Nat} {v : Value} {xs : List Value} (h : W.ownsRow B e size v n xs) {r : Nat} (hr : r < B) (a c : Value) : ((W.setCell ⟨r, 0, none⟩ a).setCell ⟨r, 1, none⟩ c).ownsRow B e size v n xs := by
  refine owns_grown (owns_grown h (grownBy_setCell2 W r 0 a) ?_) (grownBy_setCell2 _ r 1 c) ?_ <;> (intro g hg e; have := (own_lt h hg).1; have := Option.some.inj e; omega)
theorem RO_any {ks ks' : List (Int × Int)} (hv : Valid ks) (hv' : Valid ks') (x : Int) (h0 : kx ks 0 ≤ x) (h0' : kx ks' 0 ≤ x) (W : World) :
    Calls Try.prog 95 #[vFrac (valN ks x) (valD ks x), vFrac (valN ks' x) (valD ks' x)] W fun e w' => e = .returned (.int .i64 (twO ks ks' x)) ∧ Below W.heap.size W w' := by
  have a := fV_frb hv h0
  have b := fV_frb hv' h0'
  exact Order_any _ _ _ _ W (a.prod b).1 (a.prod b).2 (b.prod a).1 (b.prod a).2
theorem crS_a {lo b x : Int} {o : Int → Int} {p : List (Int × Int)} (h1 : o x = 0) (h2 : lo < x) (h3 : b = 0) : crStep lo o b x p = lastHi p x := by unfold crStep; rw [if_pos ⟨h1, h2, h3⟩]
theorem crS_b {lo b x : Int} {o : Int → Int} {p : List (Int × Int)} (h1 : o x = 0) (h2 : ¬ (lo < x ∧ b = 0)) : crStep lo o b x p = p ++ [(x, x)] := by unfold crStep; rw [if_neg (fun h => h2 h.2), if_pos h1]
theorem crS_c {lo b x : Int} {o : Int → Int} {p : List (Int × Int)} (h1 : o x ≠ 0) (h2 : lo < x) (h3 : o x = -b) : crStep lo o b x p = p ++ [(x - 1, x)] := by unfold crStep; rw [if_neg (fun h => h1 h.1), if_neg h1, if_pos ⟨h2, h3⟩]
theorem crS_d {lo b x : Int} {o : Int → Int} {p : List (Int × Int)} (h1 : o x ≠ 0) (h2 : ¬ (lo < x ∧ o x = -b)) : crStep lo o b x p = p := by unfold crStep; rw [if_neg (fun h => h1 h.1), if_neg h1, if_neg h2]

set_option maxRecDepth 100000 in
set_option maxHeartbeats 12800000 in
theorem RCross_any (A A' : Option Addr) (n cap n' cap' : Nat) (err err' : Int) (ks ks' : List (Int × Int)) (w : World) (h : CAt w A n ks) (hm : n ≤ 9223372036854775807) (h' : CAt w A' n' ks') (hm' : n' ≤ 9223372036854775807) :
    Calls Try.prog 59 #[vCv A n cap err, vCv A' n' cap' err'] w (spOut w (crV ks ks' err err') (twErr ks ks' err err')) := by
  have hT := fun W (hW : CAt W A n ks) (hW' : CAt W A' n' ks') => two_any A A' n cap n' cap' err err' ks ks' W hW hm hW' hm'
  have HA := Lib.hid h
  have HA' := Lib.hid h'
  by_cases hz : twErr ks ks' err err' = 0
  case neg =>
    have hz1 : (twErr ks ks' err err' != 0) = true := by simpa using hz
    have HP := Lib.hid (show crV ks ks' err err' = [] by unfold crV; rw [if_neg hz])
    have HT := Lib.hid hT
    clear hz h h' hT
    generalize twErr ks ks' err err' = e0 at *
    generalize hW : ((w.alloc (.cells #[.slice A n cap, .int .i64 err] 24)).alloc (.cells #[.slice A' n' cap', .int .i64 err'] 24)).alloc (.cells #[.slice none 0 0, .int .i64 0] 84) = W
    have B0 : Below w.heap.size w W := by rw [← hW]; exact ((((Below.refl w.heap.size w).alloc (Nat.le_refl _) _).alloc (by simp) _).alloc (by simp; omega) _)
    have x0_0 : Blk W w.heap.size 24 #[.slice A n cap, .int .i64 err] := by rw [← hW]; exact (((Blk.at_new _ _ rfl).alloc _).alloc _)
    have x1_0 : Blk W (w.heap.size + 1) 24 #[.slice A' n' cap', .int .i64 err'] := by rw [← hW]; exact ((Blk.at_new _ _ (by simp)).alloc _)
    have r_0 : Blk W (w.heap.size + 2) 84 #[.slice none 0 0, .int .i64 0] := by rw [← hW]; exact (Blk.at_new _ _ (by simp))
    have HWE := Lib.hid hW
    clear hW
    go_enter Try.func59, Try.ntmps59
    have B1 := B0
    go_wp2_with fail
    rw [HWE.out]
    refine (HT.out _ (HA.out.below B1) (HA'.out.below B1)).mono ?_; rintro e w1 ⟨rfl, hb1⟩
    have x0_1 := x0_0.below hb1
    have x1_1 := x1_0.below hb1
    have r_1 := r_0.below hb1
    clear x0_0 x1_0 r_0
    have x0_1c0 := x0_1.cell 0
    have x0_1c1 := x0_1.cell 1
    simp only [List.getElem?_toArray, List.getElem?_cons_zero, List.getElem?_cons_succ] at x0_1c0 x0_1c1
    have x0_1l := x0_1.lt
    have x1_1c0 := x1_1.cell 0
    have x1_1c1 := x1_1.cell 1
    simp only [List.getElem?_toArray, List.getElem?_cons_zero, List.getElem?_cons_succ] at x1_1c0 x1_1c1
    have x1_1l := x1_1.lt
    have r_1c0 := r_1.cell 0
    have r_1c1 := r_1.cell 1
    simp only [List.getElem?_toArray, List.getElem?_cons_zero, List.getElem?_cons_succ] at r_1c0 r_1c1
    have r_1l := r_1.lt
    have hr := r_1
    have hf0 := r_1.frozen 0
    have hf1 := r_1.frozen 1
    have hl := r_1.lt
    have BZ := B1.trans (hb1.mono B1.size)
    go_wp2
    have hF := ((hr.set_ 0 (.slice none 0 0)).set_ 1 (.int .i64 e0))
    have k0 := hF.cell 0
    have k1 := hF.cell 1
    simp only [List.setIfInBounds_toArray, List.set_cons_zero, List.set_cons_succ, List.getElem?_toArray, List.getElem?_cons_zero, List.getElem?_cons_succ] at k0 k1
    exact bodyPost_ret (v := .agg #[.slice none 0 0, .int .i64 e0]) (by simp [results, Try.results59, go_sem, k0, k1]) rfl (⟨_, rfl, by rw [HP.out]; exact World.ownsRow_nil _ _ _ _, ((BZ.setCell (p := ⟨(w.heap.size + 2), 0, none⟩) (by simp <;> omega) _).setCell (p := ⟨(w.heap.size + 2), 1, none⟩) (by simp <;> omega) _)⟩)
  rw [hz] at hT
  rw [hz]
  have HT := Lib.hid hT
  have HP := Lib.hid (show crV ks ks' err err' = crL (twLo ks ks') (twO ks ks') (twHi ks ks' + 1 - twLo ks ks').toNat by unfold crV; rw [if_pos hz])
  obtain ⟨hv, hv', he, he'⟩ := tw_valid hz
  obtain ⟨q1, q2, r1, r2, r3, r4, r5, r6, r7, r8⟩ := tw_lohi hz
  have hpos := hv.pos
  have hpos' := hv'.pos
  have hlen := h.len
  have hlen' := h'.len
  obtain ⟨b, off, hAe, hkn⟩ := h.at_ (by omega)
  obtain ⟨b', off', hAe', hkn'⟩ := h'.at_ (by omega)
  subst hAe hAe'
  have HKn := Lib.hid hkn
  have HKn' := Lib.hid hkn'
  have hsh := fun W (hW : Kn W b off ks) (hW' : Kn W b' off' ks') => Rshared_any b off n cap b' off' n' cap' err err' ks ks' W hW hlen hv hW' hlen' hv'
  rw [← q1, ← q2] at hsh
  have HSh := Lib.hid hsh
  have d1 : domLo ks = kx ks 0 := rfl
  have d2 : domLo ks' = kx ks' 0 := rfl
  have d3 : domHi ks = kx ks (ks.length - 1) := rfl
  have d4 : domHi ks' = kx ks' (ks'.length - 1) := rfl
  have HVa := Lib.hid (fun x (a : twLo ks ks' ≤ x) (c : x ≤ twHi ks ks') W (hW : Kn W b off ks) => hlen ▸ At_any b off cap err ks x W hW hv (by omega) (by omega))
  have HVb := Lib.hid (fun x (a : twLo ks ks' ≤ x) (c : x ≤ twHi ks ks') W (hW : Kn W b' off' ks') => hlen' ▸ At_any b' off' cap' err' ks' x W hW hv' (by omega) (by omega))
  have HO := Lib.hid (fun x (a : twLo ks ks' ≤ x) W => RO_any hv hv' x (by omega) (by omega) W)
  have hlo0 : 0 ≤ twLo ks ks' := by omega
  have hhi0 : twHi ks ks' ≤ 2000 := by omega
  have hlo3 : twLo ks ks' ≤ 2000 := by omega
  obtain ⟨i0, hi0, hi1, hi2, hi3⟩ := info_parts info_span
  have HI := Lib.hid (show Try.prog.info? 26 = some i0 ∧ i0.zero = some (vSpan 0 0) ∧ i0.size = 2 ∧ i0.bytes = 16 from ⟨hi0, hi1, hi2, hi3⟩)
  clear hsh hz hT h h' hkn hkn' hv hv' d1 d2 d3 d4 q1 q2 r1 r2 r3 r4 r5 r6 r7 r8 hlen hlen' he he' hpos hpos' hi0 hi1 hi2 hi3
  generalize hloe : twLo ks ks' = lo at *
  generalize hhie : twHi ks ks' = hi at *
  clear hloe hhie
  generalize hW : ((w.alloc (.cells #[.slice (some ⟨b, off, none⟩) n cap, .int .i64 err] 24)).alloc (.cells #[.slice (some ⟨b', off', none⟩) n' cap', .int .i64 err'] 24)).alloc (.cells #[.slice none 0 0, .int .i64 0] 84) = W
  have B0 : Below w.heap.size w W := by rw [← hW]; exact ((((Below.refl w.heap.size w).alloc (Nat.le_refl _) _).alloc (by simp) _).alloc (by simp; omega) _)
  have x0_0 : Blk W w.heap.size 24 #[.slice (some ⟨b, off, none⟩) n cap, .int .i64 err] := by rw [← hW]; exact (((Blk.at_new _ _ rfl).alloc _).alloc _)
  have x1_0 : Blk W (w.heap.size + 1) 24 #[.slice (some ⟨b', off', none⟩) n' cap', .int .i64 err'] := by rw [← hW]; exact ((Blk.at_new _ _ (by simp)).alloc _)
  have r_0 : Blk W (w.heap.size + 2) 84 #[.slice none 0 0, .int .i64 0] := by rw [← hW]; exact (Blk.at_new _ _ (by simp))
  have HWE := Lib.hid hW
  clear hW
  go_enter Try.func59, Try.ntmps59
  have B1 := B0
  go_wp2_with fail
  rw [HWE.out]
  refine (HT.out _ (HA.out.below B1) (HA'.out.below B1)).mono ?_; rintro e w1 ⟨rfl, hb1⟩
  have x0_1 := x0_0.below hb1
  have x1_1 := x1_0.below hb1
  have r_1 := r_0.below hb1
  clear x0_0 x1_0 r_0
  have x0_1c0 := x0_1.cell 0
  have x0_1c1 := x0_1.cell 1
  simp only [List.getElem?_toArray, List.getElem?_cons_zero, List.getElem?_cons_succ] at x0_1c0 x0_1c1
  have x0_1l := x0_1.lt
  have x1_1c0 := x1_1.cell 0
  have x1_1c1 := x1_1.cell 1
  simp only [List.getElem?_toArray, List.getElem?_cons_zero, List.getElem?_cons_succ] at x1_1c0 x1_1c1
  have x1_1l := x1_1.lt
  have r_1c0 := r_1.cell 0
  have r_1c1 := r_1.cell 1
  simp only [List.getElem?_toArray, List.getElem?_cons_zero, List.getElem?_cons_succ] at r_1c0 r_1c1
  have r_1l := r_1.lt
  have B2 := B1.trans (hb1.mono B1.size)
  go_wp2_with fail
  refine (HSh.out _ (HKn.out.below B2) (HKn'.out.below B2)).mono ?_; rintro e w2 ⟨rfl, hb2⟩
  clear x0_1c0 x0_1c1 x0_1l x1_1c0 x1_1c1 x1_1l r_1c0 r_1c1 r_1l
  have x0_2 := x0_1.below hb2
  have x1_2 := x1_1.below hb2
  have r_2 := r_1.below hb2
  clear x0_1 x1_1 r_1
  have x0_2c0 := x0_2.cell 0
  have x0_2c1 := x0_2.cell 1
  simp only [List.getElem?_toArray, List.getElem?_cons_zero, List.getElem?_cons_succ] at x0_2c0 x0_2c1
  have x0_2l := x0_2.lt
  have x1_2c0 := x1_2.cell 0
  have x1_2c1 := x1_2.cell 1
  simp only [List.getElem?_toArray, List.getElem?_cons_zero, List.getElem?_cons_succ] at x1_2c0 x1_2c1
  have x1_2l := x1_2.lt
  have r_2c0 := r_2.cell 0
  have r_2c1 := r_2.cell 1
  simp only [List.getElem?_toArray, List.getElem?_cons_zero, List.getElem?_cons_succ] at r_2c0 r_2c1
  have r_2l := r_2.lt
  have hws := r_2l
  have B3 := B2.trans (hb2.mono B2.size)
  have B3a := B3.alloc B3.size (.cells #[.int .i64 lo, .int .i64 hi] 26)
  go_wp2_with fail
  clear x0_2c0 x0_2c1 x0_2l x1_2c0 x1_2c1 x1_2l r_2c0 r_2c1 r_2l
  have x0_3 := (x0_2.alloc (.cells #[.int .i64 lo, .int .i64 hi] 26))
  have x1_3 := (x1_2.alloc (.cells #[.int .i64 lo, .int .i64 hi] 26))
  have r_3 := (r_2.alloc (.cells #[.int .i64 lo, .int .i64 hi] 26))
  clear x0_2 x1_2 r_2
  have s_3 := (Blk.new w2 26 #[.int .i64 lo, .int .i64 hi])
  generalize hV3 : w2.alloc (.cells #[.int .i64 lo, .int .i64 hi] 26) = V3 at *
  generalize hg3 : w2.heap.size = g3 at *
  clear hV3 hg3
  have x0_3c0 := x0_3.cell 0
  have x0_3c1 := x0_3.cell 1
  simp only [List.getElem?_toArray, List.getElem?_cons_zero, List.getElem?_cons_succ] at x0_3c0 x0_3c1
  have x0_3l := x0_3.lt
  have x1_3c0 := x1_3.cell 0
  have x1_3c1 := x1_3.cell 1
  simp only [List.getElem?_toArray, List.getElem?_cons_zero, List.getElem?_cons_succ] at x1_3c0 x1_3c1
  have x1_3l := x1_3.lt
  have r_3c0 := r_3.cell 0
  have r_3c1 := r_3.cell 1
  simp only [List.getElem?_toArray, List.getElem?_cons_zero, List.getElem?_cons_succ] at r_3c0 r_3c1
  have r_3l := r_3.lt
  have s_3c0 := s_3.cell 0
  have s_3c1 := s_3.cell 1
  simp only [List.getElem?_toArray, List.getElem?_cons_zero, List.getElem?_cons_succ] at s_3c0 s_3c1
  have s_3l := s_3.lt
  have hbs : (g3 + 1) ≤ V3.heap.size := s_3l
  go_loopw [7, 8] (fun v i wx => ∃ (m : Nat) (X : Int), X = lo + m ∧ (m : Int) ≤ max 0 (hi + 1 - lo) ∧ i = .int .i64 X ∧ wx.ownsRow (g3 + 1) 26 2 v (crL lo (twO ks ks') m).length ((crL lo (twO ks ks') m).flatMap encF) ∧ (g3 + 1) ≤ wx.heap.size ∧ Below w.heap.size w wx ∧ Blk wx w.heap.size 24 #[.slice (some ⟨b, off, none⟩) n cap, .int .i64 err] ∧ Blk wx (w.heap.size + 1) 24 #[.slice (some ⟨b', off', none⟩) n' cap', .int .i64 err'] ∧ Blk wx (w.heap.size + 2) 84 #[.slice none 0 0, .int .i64 0] ∧ Blk wx g3 26 #[.int .i64 lo, .int .i64 hi]) (fun _ i _ => (hi + 1 - intOf i).toNat)
  case atStart => exact ⟨0, lo, by omega, by omega, rfl, World.ownsRow_nil _ _ _ _, hbs, (B3a), x0_3, x1_3, r_3, s_3⟩
  case round =>
    clear x0_3c0 x0_3c1 x0_3l x1_3c0 x1_3c1 x1_3l r_3c0 r_3c1 r_3l s_3c0 s_3c1 s_3l
    obtain ⟨m, X, hX, hmM, rfl, ow_20, hbr, Br, x0_20, x1_20, r_20, s_20⟩ := hrel
    have x0_20c0 := x0_20.cell 0
    have x0_20c1 := x0_20.cell 1
    simp only [List.getElem?_toArray, List.getElem?_cons_zero, List.getElem?_cons_succ] at x0_20c0 x0_20c1
    have x0_20l := x0_20.lt
    have x1_20c0 := x1_20.cell 0
    have x1_20c1 := x1_20.cell 1
    simp only [List.getElem?_toArray, List.getElem?_cons_zero, List.getElem?_cons_succ] at x1_20c0 x1_20c1
    have x1_20l := x1_20.lt
    have r_20c0 := r_20.cell 0
    have r_20c1 := r_20.cell 1
    simp only [List.getElem?_toArray, List.getElem?_cons_zero, List.getElem?_cons_succ] at r_20c0 r_20c1
    have r_20l := r_20.lt
    have s_20c0 := s_20.cell 0
    have s_20c1 := s_20.cell 1
    simp only [List.getElem?_toArray, List.getElem?_cons_zero, List.getElem?_cons_succ] at s_20c0 s_20c1
    have s_20l := s_20.lt
    by_cases hxh : X ≤ hi
    · have hm2 : m ≤ 2001 := by omega
      have hgl : lo < X ↔ 0 < m := by omega
      have HSt := Lib.hid (show crL lo (twO ks ks') (m + 1) = crStep lo (twO ks ks') (crB lo (twO ks ks') m) X (crL lo (twO ks ks') m) by rw [hX]; rfl)
      have hBe : 0 < m → crB lo (twO ks ks') m = twO ks ks' (X - 1) := fun h => (crB_eq lo (twO ks ks') m h).trans (by rw [hX])
      have HNe := Lib.hid (fun (h : lo < X) (h1 : crB lo (twO ks ks') m = 0) => crL_ne lo (twO ks ks') m (hgl.1 h) h1)
      have hpl := crL_len lo (twO ks ks') m
      obtain ⟨hnw1, hnw2⟩ := twO_bd ks ks' X
      obtain ⟨hbv1, hbv2⟩ := crB_bd lo ks ks' m
      have HAt := Lib.hid (HVa.out X (by omega) hxh)
      have HAt' := Lib.hid (HVb.out X (by omega) hxh)
      have HOx := Lib.hid (HO.out X (by omega))
      have hlen2 : (crL lo (twO ks ks') m).length ≤ 2001 := by omega
      have HLT := Lib.hid (fun (q : Nat) hq => own_lt (g := q) ow_20 hq)
      have HX := Lib.hid hX
      have hX0 : 0 ≤ X := by omega
      have hX1 : X ≤ 2000 := by omega
      have HS1 := Lib.hid (fun (h1 : twO ks ks' X = 0) (h2 : lo < X) (h3 : crB lo (twO ks ks') m = 0) => HSt.out.trans (crS_a h1 h2 h3))
      have HS2 := Lib.hid (fun (h1 : twO ks ks' X = 0) (h2 : ¬ (lo < X ∧ crB lo (twO ks ks') m = 0)) => HSt.out.trans (crS_b h1 h2))
      have HS3 := Lib.hid (fun (h1 : twO ks ks' X ≠ 0) (h2 : lo < X) (h3 : twO ks ks' X = -crB lo (twO ks ks') m) => HSt.out.trans (crS_c h1 h2 h3))
      have HS4 := Lib.hid (fun (h1 : twO ks ks' X ≠ 0) (h2 : ¬ (lo < X ∧ twO ks ks' X = -crB lo (twO ks ks') m)) => HSt.out.trans (crS_d h1 h2))
      clear hpl hX
      by_cases hgt : lo < X
      · have hbe := hBe (hgl.1 hgt)
        have HAp := Lib.hid (HVa.out (X - 1) (by omega) (by omega))
        have HAp' := Lib.hid (HVb.out (X - 1) (by omega) (by omega))
        have HOp := Lib.hid (HO.out (X - 1) (by omega))
        rw [← hbe] at HOp
        clear hBe hbe
        generalize twO ks ks' X = nw at *
        generalize hp : crL lo (twO ks ks') m = p at *
        clear hp
        generalize valN ks X = n1 at *
        generalize valD ks X = d1 at *
        generalize valN ks' X = n2 at *
        generalize valD ks' X = d2 at *
        generalize crB lo (twO ks ks') m = bv at *
        generalize valN ks (X - 1) = n3 at *
        generalize valD ks (X - 1) = d3 at *
        generalize valN ks' (X - 1) = n4 at *
        generalize valD ks' (X - 1) = d4 at *
        have HM := Lib.hid (show IntKind.i64.wrap (X - 1) = X - 1 from IntWalk.i64_in _ (by omega))
        go_wp2_with fail
        have HKV := Lib.hid (HKn.out.below Br)
        have HKV' := Lib.hid (HKn'.out.below Br)
        obtain ⟨xc, xf⟩ := xcell (W := wr)
        refine wp_region_quiet_tail 7 (by kernel_rfl) (by kernel_rfl) ?_
        simp only [List.take_succ_cons, List.take_zero, List.drop_succ_cons, List.drop_zero]
        repeat (first | go_big_quiet_step (first | (go_at_call 85; with_reducible refine calls_ext (HAt.out _ ?_); exact HKV.out.below (Ext.below _)) | (go_at_call 85; with_reducible refine calls_ext (HAt'.out _ ?_); exact HKV'.out.below (Ext.below _)) | (go_at_call 95; with_reducible refine calls_ext (HOx.out _))) | quiet_step (first | (go_at_call 85; with_reducible refine calls_ext (HAt.out _ ?_); exact HKV.out.below (Ext.below _)) | (go_at_call 85; with_reducible refine calls_ext (HAt'.out _ ?_); exact HKV'.out.below (Ext.below _)) | (go_at_call 95; with_reducible refine calls_ext (HOx.out _))))
        refine wpQuiet_nil ?_
        intro w21 hb21
        clear xc xf
        have OW1 := Lib.hid (owns_below ow_20 hb21)
        have hbr1 := Nat.le_trans hbr hb21.size
        clear ow_20
        clear x0_20c0 x0_20c1 x0_20l x1_20c0 x1_20c1 x1_20l r_20c0 r_20c1 r_20l s_20c0 s_20c1 s_20l
        have B21 := Br
        have x0_21 := x0_20.below hb21
        have x1_21 := x1_20.below hb21
        have r_21 := r_20.below hb21
        have s_21 := s_20.below hb21
        clear x0_20 x1_20 r_20 s_20
        have x0_21c0 := x0_21.cell 0
        have x0_21c1 := x0_21.cell 1
        simp only [List.getElem?_toArray, List.getElem?_cons_zero, List.getElem?_cons_succ] at x0_21c0 x0_21c1
        have x0_21l := x0_21.lt
        have x1_21c0 := x1_21.cell 0
        have x1_21c1 := x1_21.cell 1
        simp only [List.getElem?_toArray, List.getElem?_cons_zero, List.getElem?_cons_succ] at x1_21c0 x1_21c1
        have x1_21l := x1_21.lt
        have r_21c0 := r_21.cell 0
        have r_21c1 := r_21.cell 1
        simp only [List.getElem?_toArray, List.getElem?_cons_zero, List.getElem?_cons_succ] at r_21c0 r_21c1
        have r_21l := r_21.lt
        have s_21c0 := s_21.cell 0
        have s_21c1 := s_21.cell 1
        simp only [List.getElem?_toArray, List.getElem?_cons_zero, List.getElem?_cons_succ] at s_21c0 s_21c1
        have s_21l := s_21.lt
        go_wp2_with fail
        have BQ := B21.trans (hb21.mono B21.size)
        have HKW := Lib.hid (HKn.out.below BQ)
        have HKW' := Lib.hid (HKn'.out.below BQ)
        have hmw := HM.out
        obtain ⟨xc, xf⟩ := xcell (W := w21)
        refine wp_region_quiet_tail 9 (by kernel_rfl) (by kernel_rfl) ?_
        simp only [List.take_succ_cons, List.take_zero, List.drop_succ_cons, List.drop_zero]
        repeat (first | go_big_quiet_step (first | (go_at_call 85; with_reducible refine calls_ext (HAp.out _ ?_); exact HKW.out.below (Ext.below _)) | (go_at_call 85; with_reducible refine calls_ext (HAp'.out _ ?_); exact HKW'.out.below (Ext.below _)) | (go_at_call 95; with_reducible refine calls_ext (HOp.out _))) | quiet_step (first | (go_at_call 85; with_reducible refine calls_ext (HAp.out _ ?_); exact HKW.out.below (Ext.below _)) | (go_at_call 85; with_reducible refine calls_ext (HAp'.out _ ?_); exact HKW'.out.below (Ext.below _)) | (go_at_call 95; with_reducible refine calls_ext (HOp.out _))))
        refine wpQuiet_nil ?_
        intro w22 hb22
        clear xc xf hmw
        have OW2 := Lib.hid (owns_below OW1.out hb22)
        have hbr2 := Nat.le_trans hbr1 hb22.size
        clear x0_21c0 x0_21c1 x0_21l x1_21c0 x1_21c1 x1_21l r_21c0 r_21c1 r_21l s_21c0 s_21c1 s_21l
        have B22 := BQ
        have x0_22 := x0_21.below hb22
        have x1_22 := x1_21.below hb22
        have r_22 := r_21.below hb22
        have s_22 := s_21.below hb22
        clear x0_21 x1_21 r_21 s_21
        have x0_22c0 := x0_22.cell 0
        have x0_22c1 := x0_22.cell 1
        simp only [List.getElem?_toArray, List.getElem?_cons_zero, List.getElem?_cons_succ] at x0_22c0 x0_22c1
        have x0_22l := x0_22.lt
        have x1_22c0 := x1_22.cell 0
        have x1_22c1 := x1_22.cell 1
        simp only [List.getElem?_toArray, List.getElem?_cons_zero, List.getElem?_cons_succ] at x1_22c0 x1_22c1
        have x1_22l := x1_22.lt
        have r_22c0 := r_22.cell 0
        have r_22c1 := r_22.cell 1
        simp only [List.getElem?_toArray, List.getElem?_cons_zero, List.getElem?_cons_succ] at r_22c0 r_22c1
        have r_22l := r_22.lt
        have s_22c0 := s_22.cell 0
        have s_22c1 := s_22.cell 1
        simp only [List.getElem?_toArray, List.getElem?_cons_zero, List.getElem?_cons_succ] at s_22c0 s_22c1
        have s_22l := s_22.lt
        have BR := B22.trans (hb22.mono B22.size)
        by_cases h0 : nw = 0
        · subst h0
          by_cases hb0 : bv = 0
          · subst hb0
            obtain ⟨q, z, rfl⟩ := split_last (HNe.out hgt rfl)
            have hst := HS1.out rfl hgt rfl
            rw [lastHi_at] at hst
            have HSt2 := Lib.hid hst
            have how := OW2.out
            rw [show (q ++ [z]).length = q.length + 1 by simp] at how hlen2
            obtain ⟨gq, cq, rfl⟩ := Joins.ownsRow_form how (by omega)
            have hcell := how.cellAt (q.length * 2 + 1) (by omega)
            have hlq : (q.flatMap encF).length = q.length * 2 := flat_len 2 encF (fun _ => rfl) q
            rw [List.flatMap_append, List.getElem?_append_right (by omega), hlq, show q.length * 2 + 1 - q.length * 2 = 1 by omega, show ([z].flatMap encF)[1]? = some (.int .i64 z.2) from rfl] at hcell
            have hfro := how.frozenAt (q.length * 2 + 1)
            have hstd := how.stored (q.length * 2 + 1) (.int .i64 X)
            have hgl2 := own_lt (g := gq) how rfl
            have hset := set_last q z X
            rw [hset] at hstd
            have HStd := Lib.hid hstd
            have hz_x0 := Blk.grown x0_22 hstd.2 (fun e => by have h1 : gq = w.heap.size := (by simpa using e); have := hgl2.1; omega)
            have hz_x1 := Blk.grown x1_22 hstd.2 (fun e => by have h1 : gq = (w.heap.size + 1) := (by simpa using e); have := hgl2.1; omega)
            have hz_r := Blk.grown r_22 hstd.2 (fun e => by have h1 : gq = (w.heap.size + 2) := (by simpa using e); have := hgl2.1; omega)
            have hz_s := Blk.grown s_22 hstd.2 (fun e => by have h1 : gq = g3 := (by simpa using e); have := hgl2.1; omega)
            have hz_B := BR.grown hstd.2 BR.size (fun k hk => by have h1 : gq = k := (by simpa using hk); have := hgl2.1; omega)
            have hz_b := Nat.le_trans hbr2 hstd.2.size
            have HZx0 := Lib.hid hz_x0
            have HZx1 := Lib.hid hz_x1
            have HZr := Lib.hid hz_r
            have HZs := Lib.hid hz_s
            have HZB := Lib.hid hz_B
            have HZb := Lib.hid hz_b
            have hn_x0 : ¬ w.heap.size = gq := by have := hgl2.1; omega
            have hn_x1 : ¬ (w.heap.size + 1) = gq := by have := hgl2.1; omega
            have hn_r : ¬ (w.heap.size + 2) = gq := by have := hgl2.1; omega
            have hn_s : ¬ g3 = gq := by have := hgl2.1; omega
            clear how hstd hset hlq OW1 OW2 HNe hst HS1 HS2 HS3 HS4 hz_x0 hz_x1 hz_r hz_s hz_B hz_b
            generalize hnq : q.length = nq at *
            have HNq := Lib.hid hnq
            clear hnq
            go_wp2
            go_roundw
            case rel =>
              refine ⟨m + 1, X + 1, by have := HX.out; omega, by have := HX.out; omega, rfl, ?_, HZb.out, HZB.out, HZx0.out, HZx1.out, HZr.out, HZs.out⟩
              rw [HSt2.out]
              have := HStd.out.1
              simpa [HNq.out] using this
            case measure => simp [intOf]; omega
          · have hb1 : (bv == 0) = false := by simpa using hb0
            have hb2 : (bv != 0) = true := by simpa using hb0
            have HSt2 := Lib.hid (HS2.out rfl (fun h => hb0 h.2))
            clear OW1 HNe HS1 HS2 HS3 HS4
            go_wp2_with (at_builtin; go_loud (refine wpList_append_own _ rfl (.tmp 68) (.tmp 72) 63 rfl ((g3 + 1)) 26 i0 (vSpan 0 0) 2 16 Try.underlying63 HI.out.1 HI.out.2.1 HI.out.2.2.1 HI.out.2.2.2 rfl (by decide) _ (p.length) (p.flatMap encF) rfl (OW2.out.alloc _) ⟨w22.heap.size, 0, none⟩ 1 1 [.int .i64 X, .int .i64 X] rfl rfl (new_cells2 _ _ _ _) (one_ints2 _ _) (by unfold maxLen; omega) (by omega) (by simp; omega) ?_))
            intro v' w23 hown23 hgrow23 hnn23
            clear x0_22c0 x0_22c1 x0_22l x1_22c0 x1_22c1 x1_22l r_22c0 r_22c1 r_22l s_22c0 s_22c1 s_22l
            have x0_23 := Blk.grown (x0_22.alloc _) hgrow23 (fun h => by have := HLT.out _ h; omega)
            have x1_23 := Blk.grown (x1_22.alloc _) hgrow23 (fun h => by have := HLT.out _ h; omega)
            have r_23 := Blk.grown (r_22.alloc _) hgrow23 (fun h => by have := HLT.out _ h; omega)
            have s_23 := Blk.grown (s_22.alloc _) hgrow23 (fun h => by have := HLT.out _ h; omega)
            have B23 := ((BR).alloc (BR).size _).grown hgrow23 (Nat.le_trans (BR).size (by simp)) (fun kk hk => by have := HLT.out _ hk; omega)
            have hbase23 : (g3 + 1) ≤ w23.heap.size := Nat.le_trans hbr2 (Nat.le_trans (by simp) hgrow23.size)
            have HN := Lib.hid hown23
            clear hown23 hgrow23 hnn23
            have x0_23c0 := x0_23.cell 0
            have x0_23c1 := x0_23.cell 1
            simp only [List.getElem?_toArray, List.getElem?_cons_zero, List.getElem?_cons_succ] at x0_23c0 x0_23c1
            have x0_23l := x0_23.lt
            have x1_23c0 := x1_23.cell 0
            have x1_23c1 := x1_23.cell 1
            simp only [List.getElem?_toArray, List.getElem?_cons_zero, List.getElem?_cons_succ] at x1_23c0 x1_23c1
            have x1_23l := x1_23.lt
            have r_23c0 := r_23.cell 0
            have r_23c1 := r_23.cell 1
            simp only [List.getElem?_toArray, List.getElem?_cons_zero, List.getElem?_cons_succ] at r_23c0 r_23c1
            have r_23l := r_23.lt
            have s_23c0 := s_23.cell 0
            have s_23c1 := s_23.cell 1
            simp only [List.getElem?_toArray, List.getElem?_cons_zero, List.getElem?_cons_succ] at s_23c0 s_23c1
            have s_23l := s_23.lt
            go_wp2
            go_roundw
            case rel => exact ⟨m + 1, X + 1, by have := HX.out; omega, by have := HX.out; omega, rfl, by rw [HSt2.out]; simpa [encF] using HN.out, hbase23, (B23), x0_23, x1_23, r_23, s_23⟩
            case measure => simp [intOf]; omega
        · have h01 : (nw == 0) = false := by simpa using h0
          have hpr : -1 ≤ nw * bv ∧ nw * bv ≤ 1 := by rcases (show nw = 1 ∨ nw = -1 by omega) with rfl | rfl <;> omega
          by_cases hc : nw = -bv
          · have HSt2 := Lib.hid (HS3.out h0 hgt hc)
            clear OW1 HNe HS1 HS2 HS3 HS4 hpr
            have hcs : (nw = 1 ∧ bv = -1) ∨ (nw = -1 ∧ bv = 1) := by omega
            clear hc h0 h01
            rcases hcs with ⟨rfl, rfl⟩ | ⟨rfl, rfl⟩
            all_goals
              go_wp2_with (at_builtin; go_loud (refine wpList_append_own _ rfl (.tmp 78) (.tmp 83) 63 rfl ((g3 + 1)) 26 i0 (vSpan 0 0) 2 16 Try.underlying63 HI.out.1 HI.out.2.1 HI.out.2.2.1 HI.out.2.2.2 rfl (by decide) _ (p.length) (p.flatMap encF) rfl (OW2.out.alloc _) ⟨w22.heap.size, 0, none⟩ 1 1 [.int .i64 (X - 1), .int .i64 X] rfl rfl (new_cells2 _ _ _ _) (one_ints2 _ _) (by unfold maxLen; omega) (by omega) (by simp; omega) ?_))
              intro v' w23 hown23 hgrow23 hnn23
              clear x0_22c0 x0_22c1 x0_22l x1_22c0 x1_22c1 x1_22l r_22c0 r_22c1 r_22l s_22c0 s_22c1 s_22l
              have x0_23 := Blk.grown (x0_22.alloc _) hgrow23 (fun h => by have := HLT.out _ h; omega)
              have x1_23 := Blk.grown (x1_22.alloc _) hgrow23 (fun h => by have := HLT.out _ h; omega)
              have r_23 := Blk.grown (r_22.alloc _) hgrow23 (fun h => by have := HLT.out _ h; omega)
              have s_23 := Blk.grown (s_22.alloc _) hgrow23 (fun h => by have := HLT.out _ h; omega)
              have B23 := ((BR).alloc (BR).size _).grown hgrow23 (Nat.le_trans (BR).size (by simp)) (fun kk hk => by have := HLT.out _ hk; omega)
              have hbase23 : (g3 + 1) ≤ w23.heap.size := Nat.le_trans hbr2 (Nat.le_trans (by simp) hgrow23.size)
              have HN := Lib.hid hown23
              clear hown23 hgrow23 hnn23
              have x0_23c0 := x0_23.cell 0
              have x0_23c1 := x0_23.cell 1
              simp only [List.getElem?_toArray, List.getElem?_cons_zero, List.getElem?_cons_succ] at x0_23c0 x0_23c1
              have x0_23l := x0_23.lt
              have x1_23c0 := x1_23.cell 0
              have x1_23c1 := x1_23.cell 1
              simp only [List.getElem?_toArray, List.getElem?_cons_zero, List.getElem?_cons_succ] at x1_23c0 x1_23c1
              have x1_23l := x1_23.lt
              have r_23c0 := r_23.cell 0
              have r_23c1 := r_23.cell 1
              simp only [List.getElem?_toArray, List.getElem?_cons_zero, List.getElem?_cons_succ] at r_23c0 r_23c1
              have r_23l := r_23.lt
              have s_23c0 := s_23.cell 0
              have s_23c1 := s_23.cell 1
              simp only [List.getElem?_toArray, List.getElem?_cons_zero, List.getElem?_cons_succ] at s_23c0 s_23c1
              have s_23l := s_23.lt
              go_wp2
              go_roundw
              case rel => exact ⟨m + 1, X + 1, by have := HX.out; omega, by have := HX.out; omega, rfl, by rw [HSt2.out]; simpa [encF] using HN.out, hbase23, (B23), x0_23, x1_23, r_23, s_23⟩
              case measure => simp [intOf]; omega
          · have HSt2 := Lib.hid (HS4.out h0 (fun h => hc h.2))
            clear OW1 HNe HS1 HS2 HS3 HS4 hpr
            rcases (show (nw = 1 ∧ bv = 0) ∨ (nw = 1 ∧ bv = 1) ∨ (nw = -1 ∧ bv = 0) ∨ (nw = -1 ∧ bv = -1) by omega) with ⟨rfl, rfl⟩ | ⟨rfl, rfl⟩ | ⟨rfl, rfl⟩ | ⟨rfl, rfl⟩
            all_goals
              go_wp2
              go_roundw
              case rel => exact ⟨m + 1, X + 1, by have := HX.out; omega, by have := HX.out; omega, rfl, by rw [HSt2.out]; simpa [encF] using OW2.out, hbr2, (BR), x0_22, x1_22, r_22, s_22⟩
              case measure => simp [intOf]; omega
      · clear hBe
        generalize crB lo (twO ks ks') m = bv at *
        generalize twO ks ks' X = nw at *
        generalize hp : crL lo (twO ks ks') m = p at *
        clear hp
        generalize valN ks X = n1 at *
        generalize valD ks X = d1 at *
        generalize valN ks' X = n2 at *
        generalize valD ks' X = d2 at *
        go_wp2_with fail
        have HKV := Lib.hid (HKn.out.below Br)
        have HKV' := Lib.hid (HKn'.out.below Br)
        obtain ⟨xc, xf⟩ := xcell (W := wr)
        refine wp_region_quiet_tail 7 (by kernel_rfl) (by kernel_rfl) ?_
        simp only [List.take_succ_cons, List.take_zero, List.drop_succ_cons, List.drop_zero]
        repeat (first | go_big_quiet_step (first | (go_at_call 85; with_reducible refine calls_ext (HAt.out _ ?_); exact HKV.out.below (Ext.below _)) | (go_at_call 85; with_reducible refine calls_ext (HAt'.out _ ?_); exact HKV'.out.below (Ext.below _)) | (go_at_call 95; with_reducible refine calls_ext (HOx.out _))) | quiet_step (first | (go_at_call 85; with_reducible refine calls_ext (HAt.out _ ?_); exact HKV.out.below (Ext.below _)) | (go_at_call 85; with_reducible refine calls_ext (HAt'.out _ ?_); exact HKV'.out.below (Ext.below _)) | (go_at_call 95; with_reducible refine calls_ext (HOx.out _))))
        refine wpQuiet_nil ?_
        intro w21 hb21
        clear xc xf
        have OW1 := Lib.hid (owns_below ow_20 hb21)
        have hbr1 := Nat.le_trans hbr hb21.size
        clear ow_20
        clear x0_20c0 x0_20c1 x0_20l x1_20c0 x1_20c1 x1_20l r_20c0 r_20c1 r_20l s_20c0 s_20c1 s_20l
        have B21 := Br
        have x0_21 := x0_20.below hb21
        have x1_21 := x1_20.below hb21
        have r_21 := r_20.below hb21
        have s_21 := s_20.below hb21
        clear x0_20 x1_20 r_20 s_20
        have x0_21c0 := x0_21.cell 0
        have x0_21c1 := x0_21.cell 1
        simp only [List.getElem?_toArray, List.getElem?_cons_zero, List.getElem?_cons_succ] at x0_21c0 x0_21c1
        have x0_21l := x0_21.lt
        have x1_21c0 := x1_21.cell 0
        have x1_21c1 := x1_21.cell 1
        simp only [List.getElem?_toArray, List.getElem?_cons_zero, List.getElem?_cons_succ] at x1_21c0 x1_21c1
        have x1_21l := x1_21.lt
        have r_21c0 := r_21.cell 0
        have r_21c1 := r_21.cell 1
        simp only [List.getElem?_toArray, List.getElem?_cons_zero, List.getElem?_cons_succ] at r_21c0 r_21c1
        have r_21l := r_21.lt
        have s_21c0 := s_21.cell 0
        have s_21c1 := s_21.cell 1
        simp only [List.getElem?_toArray, List.getElem?_cons_zero, List.getElem?_cons_succ] at s_21c0 s_21c1
        have s_21l := s_21.lt
        have BQ := B21.trans (hb21.mono B21.size)
        by_cases h0 : nw = 0
        · subst h0
          have HSt2 := Lib.hid (HS2.out rfl (fun h => by have := h.1; omega))
          clear HNe HS1 HS2 HS3 HS4
          go_wp2_with (at_builtin; go_loud (refine wpList_append_own _ rfl (.tmp 68) (.tmp 72) 63 rfl ((g3 + 1)) 26 i0 (vSpan 0 0) 2 16 Try.underlying63 HI.out.1 HI.out.2.1 HI.out.2.2.1 HI.out.2.2.2 rfl (by decide) _ (p.length) (p.flatMap encF) rfl (OW1.out.alloc _) ⟨w21.heap.size, 0, none⟩ 1 1 [.int .i64 X, .int .i64 X] rfl rfl (new_cells2 _ _ _ _) (one_ints2 _ _) (by unfold maxLen; omega) (by omega) (by simp; omega) ?_))
          intro v' w22 hown22 hgrow22 hnn22
          clear x0_21c0 x0_21c1 x0_21l x1_21c0 x1_21c1 x1_21l r_21c0 r_21c1 r_21l s_21c0 s_21c1 s_21l
          have x0_22 := Blk.grown (x0_21.alloc _) hgrow22 (fun h => by have := HLT.out _ h; omega)
          have x1_22 := Blk.grown (x1_21.alloc _) hgrow22 (fun h => by have := HLT.out _ h; omega)
          have r_22 := Blk.grown (r_21.alloc _) hgrow22 (fun h => by have := HLT.out _ h; omega)
          have s_22 := Blk.grown (s_21.alloc _) hgrow22 (fun h => by have := HLT.out _ h; omega)
          have B22 := ((BQ).alloc (BQ).size _).grown hgrow22 (Nat.le_trans (BQ).size (by simp)) (fun kk hk => by have := HLT.out _ hk; omega)
          have hbase22 : (g3 + 1) ≤ w22.heap.size := Nat.le_trans hbr1 (Nat.le_trans (by simp) hgrow22.size)
          have HN := Lib.hid hown22
          clear hown22 hgrow22 hnn22
          have x0_22c0 := x0_22.cell 0
          have x0_22c1 := x0_22.cell 1
          simp only [List.getElem?_toArray, List.getElem?_cons_zero, List.getElem?_cons_succ] at x0_22c0 x0_22c1
          have x0_22l := x0_22.lt
          have x1_22c0 := x1_22.cell 0
          have x1_22c1 := x1_22.cell 1
          simp only [List.getElem?_toArray, List.getElem?_cons_zero, List.getElem?_cons_succ] at x1_22c0 x1_22c1
          have x1_22l := x1_22.lt
          have r_22c0 := r_22.cell 0
          have r_22c1 := r_22.cell 1
          simp only [List.getElem?_toArray, List.getElem?_cons_zero, List.getElem?_cons_succ] at r_22c0 r_22c1
          have r_22l := r_22.lt
          have s_22c0 := s_22.cell 0
          have s_22c1 := s_22.cell 1
          simp only [List.getElem?_toArray, List.getElem?_cons_zero, List.getElem?_cons_succ] at s_22c0 s_22c1
          have s_22l := s_22.lt
          go_wp2
          go_roundw
          case rel => exact ⟨m + 1, X + 1, by have := HX.out; omega, by have := HX.out; omega, rfl, by rw [HSt2.out]; simpa [encF] using HN.out, hbase22, (B22), x0_22, x1_22, r_22, s_22⟩
          case measure => simp [intOf]; omega
        · have h01 : (nw == 0) = false := by simpa using h0
          have HSt2 := Lib.hid (HS4.out h0 (fun h => by have := h.1; omega))
          clear HNe HS1 HS2 HS3 HS4
          have hpr : -2 ≤ nw * 2 ∧ nw * 2 ≤ 2 := by omega
          have hq1 : (nw * 2 == -1) = false := by simp; omega
          go_wp2
          go_roundw
          case rel => exact ⟨m + 1, X + 1, by have := HX.out; omega, by have := HX.out; omega, rfl, by rw [HSt2.out]; simpa [encF] using OW1.out, hbr1, (BQ), x0_21, x1_21, r_21, s_21⟩
          case measure => simp [intOf]; omega
    · have hmE : m = (hi + 1 - lo).toNat := by omega
      have HMe := Lib.hid hmE
      have hos : World.ownsRow wr (g3 + 1) 26 2 u7 (crL lo (twO ks ks') m).length ((crL lo (twO ks ks') m).flatMap encF) := ow_20
      obtain ⟨A1, c1, hu7⟩ : ∃ A1 c1, u7 = .slice A1 (crL lo (twO ks ks') m).length c1 := by
        rcases hos.2 with ⟨e, h0⟩ | ⟨gg, cp, cur, e, _⟩
        · exact ⟨none, 0, by rw [e, h0]⟩
        · exact ⟨_, _, e⟩
      subst hu7
      have OW := Lib.hid hos
      clear hos ow_20 hmE
      generalize hnl : (crL lo (twO ks ks') m).length = nl at *
      have HNl := Lib.hid hnl
      clear hnl
      have hr := r_20
      have hf0 := r_20.frozen 0
      have hf1 := r_20.frozen 1
      have hl := r_20.lt
      have BZ := Br
      go_wp2
      have hF := ((hr.set_ 0 (.slice A1 nl c1)).set_ 1 (.int .i64 0))
      have k0 := hF.cell 0
      have k1 := hF.cell 1
      simp only [List.setIfInBounds_toArray, List.set_cons_zero, List.set_cons_succ, List.getElem?_toArray, List.getElem?_cons_zero, List.getElem?_cons_succ] at k0 k1
      exact bodyPost_ret (v := .agg #[.slice A1 nl c1, .int .i64 0]) (by simp [results, Try.results59, go_sem, k0, k1]) rfl (⟨_, rfl, by rw [HP.out, ← HMe.out, HNl.out]; exact Joins.ownsRow_le (owns_far2 OW.out (r := (w.heap.size + 2)) (by omega) _ _) (by omega), ((BZ.setCell (p := ⟨(w.heap.size + 2), 0, none⟩) (by simp <;> omega) _).setCell (p := ⟨(w.heap.size + 2), 1, none⟩) (by simp <;> omega) _)⟩)
end Go.Proofs.Ytipablcbkoedbaa
