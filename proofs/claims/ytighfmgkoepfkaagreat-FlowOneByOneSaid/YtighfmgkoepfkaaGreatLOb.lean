/- The law FlowOneByOne. -/
import Derived.Test.YtighfmgkoepfkaaGreatMOw
import Derived.Test.YtighfmgkoepfkaaGreatMOx
import Derived.Test.YtighfmgkoepfkaaGreatMI
import Derived.Test.YtighfmgkoepfkaaGreatMBq
import Derived.Deep.DeepCutAuto
namespace Go.Proofs.YtighfmgkoepfkaaGreat
open Go.RowKit

theorem new_ok {A : Option Addr} {n c : Nat} {hs : List Hd} {w : World} (h : SAt encH 6 w A n hs) (hn : n ≤ 9223372036854775807) (hc : n ≤ c) (hv : tcheck hs [] = 0) :
    Calls Tryz.prog 31 #[.slice A n c] w fun e w' => ∃ p, e = .returned (.tuple #[.pointer (some ⟨p, 0, none⟩), .int .i64 0]) ∧ OfE w' w.heap.size p 0 hs [] ∧ Below w.heap.size w w' := by
  refine (New_any A n c hs w h hn hc).mono ?_
  rintro e w' ⟨v, he, hb, _, h2⟩
  obtain ⟨p, rfl, ho⟩ := h2 hv
  rw [hv] at he
  exact ⟨p, he, ho, hb⟩
theorem nwE_agr {hs : List Hd} {ms : List Mv} (hc : tcheck hs ms = 0) : (nwE hs ms == 0) = agrL hs ms := by
  cases ha : agrL hs ms with
  | true => rw [(nwE_of hc ha).1]; rfl
  | false =>
    unfold nwE
    rw [if_neg (by simpa using hc), if_pos ha]
    rfl
theorem TV.nil {hs : List Hd} {ms : List Mv} (h : TV hs ms) : TV hs [] := ⟨h.lenH, Nat.zero_le _, h.hd, h.ids, fun m hm => absurd hm (by simp), by simp⟩
theorem wf_u8z {n : Int} (h : (Lit.int .u8 n).wf = true) : 0 ≤ n ∧ n ≤ 255 := by
  simp [Lit.wf, IntKind.min, IntKind.max, IntKind.signed, IntKind.bits] at h
  omega
theorem OfE.pad {w : World} {L p K K' : Nat} {hs : List Hd} {ms : List Mv} (h : OfE w L p K hs ms) (hk : K ≤ K') : OfE w L p K' hs ms := by
  obtain ⟨A, n, c, b, k, O, q, oc, hk1, h⟩ := h
  exact ⟨A, n, c, b, k, O, q, oc, Nat.le_trans hk1 hk, h⟩
set_option maxRecDepth 100000 in
set_option maxHeartbeats 12800000 in
theorem flowOneByOne_walk (t : TR) (fi : Int) (x : Mv) (w : World) (h : t.Ok w) (hf : 0 ≤ fi ∧ fi ≤ 255) (hx : -9223372036854775808 ≤ x.id ∧ x.id ≤ 9223372036854775807) : Calls Tryz.prog 6 #[t.v, .int .u8 fi, vMv x] w fun e w' => e = .returned (.bool true) ∧ Below w.heap.size w w' := by
  obtain ⟨A, n, c, B, m, d, hs, ms⟩ := t
  have HSan := Lib.hid (fun u => sanity_any u)
  obtain ⟨fb, hfb⟩ : ∃ b, fewB n m = b := ⟨_, rfl⟩
  have HFew := Lib.hid (fun u => few_any A n c B m d u h.n_le h.m_le)
  rw [hfb] at HFew
  have HCk := Lib.hid (fun (u : World) (hu : TR.Ok u ⟨A, n, c, B, m, d, hs, ms⟩) => Check_any ⟨A, n, c, B, m, d, hs, ms⟩ u hu)
  have hn9 : n ≤ 9223372036854775807 := h.n_le
  have hm9 : m ≤ 9223372036854775807 := h.m_le
  obtain ⟨f, rfl⟩ : ∃ f : Nat, fi = (f : Int) := ⟨fi.toNat, by omega⟩
  have hf8 : f ≤ 255 := by omega
  have HXr := Lib.hid hx
  clear hf hx
  obtain ⟨xi, xf, xt, xl, xh⟩ := x
  dsimp only [TR.v, vMv] at *
  have HB0 : Hid (Below w.heap.size w ((w.alloc (.cells #[.slice A n c, .slice B m d] 25)).alloc (.cells #[.int .i64 xi, .int .i64 xf, .int .i64 xt, .int .i64 xl, .int .i64 xh] 59))) := Lib.hid (((Below.refl w.heap.size w).alloc (Nat.le_refl _) _).alloc (by simp) _)
  have T0 : Hid (Blk ((w.alloc (.cells #[.slice A n c, .slice B m d] 25)).alloc (.cells #[.int .i64 xi, .int .i64 xf, .int .i64 xt, .int .i64 xl, .int .i64 xh] 59)) w.heap.size 25 #[.slice A n c, .slice B m d]) := Lib.hid ((Blk.at_new 25 #[.slice A n c, .slice B m d] rfl).alloc _)
  have X0 : Hid (Blk ((w.alloc (.cells #[.slice A n c, .slice B m d] 25)).alloc (.cells #[.int .i64 xi, .int .i64 xf, .int .i64 xt, .int .i64 xl, .int .i64 xh] 59)) (w.heap.size + 1) 59 #[.int .i64 xi, .int .i64 xf, .int .i64 xt, .int .i64 xl, .int .i64 xh]) := Lib.hid (Blk.at_new 59 #[.int .i64 xi, .int .i64 xf, .int .i64 xt, .int .i64 xl, .int .i64 xh] (by simp))
  have O0 := Lib.hid ((h).below HB0.out)
  go_enter Tryz.func6, Tryz.ntmps6
  go_upto_region 1 with fail
  generalize hV : (w.alloc (.cells #[.slice A n c, .slice B m d] 25)).alloc (.cells #[.int .i64 xi, .int .i64 xf, .int .i64 xt, .int .i64 xl, .int .i64 xh] 59) = V0 at *
  clear hV
  clear h hfb
  cases fb with
  | false =>
    have yT0 := T0.out.cell 0
    have yT1 := T0.out.cell 1
    have yX0 := X0.out.cell 0
    have yX1 := X0.out.cell 1
    have yX2 := X0.out.cell 2
    have yX3 := X0.out.cell 3
    have yX4 := X0.out.cell 4
    simp only [List.getElem?_toArray, List.getElem?_cons_zero, List.getElem?_cons_succ] at yT0 yT1 yX0 yX1 yX2 yX3 yX4
    have yTl := T0.out.lt
    have yXl := X0.out.lt
    go_upto_region 2 with (go_at_call 12; with_reducible refine (HFew.out _).mono ?_; rintro e u1 ⟨rfl, hb1⟩; have T1 := Lib.hid (T0.out.below hb1); have X1 := Lib.hid (X0.out.below hb1); have O1 := Lib.hid (O0.out.below hb1); have HB1 := Lib.hid (HB0.out.trans (hb1.mono HB0.out.size)); clear hb1; have y1T0 := T1.out.cell 0; have y1T1 := T1.out.cell 1; have y1X0 := X1.out.cell 0; have y1X1 := X1.out.cell 1; have y1X2 := X1.out.cell 2; have y1X3 := X1.out.cell 3; have y1X4 := X1.out.cell 4; simp only [List.getElem?_toArray, List.getElem?_cons_zero, List.getElem?_cons_succ] at y1T0 y1T1 y1X0 y1X1 y1X2 y1X3 y1X4; have y1Tl := T1.out.lt; have y1Xl := X1.out.lt)
    clear yT0 yT1 yX0 yX1 yX2 yX3 yX4 yTl yXl y1T0 y1T1 y1X0 y1X1 y1X2 y1X3 y1X4 y1Tl y1Xl T0 X0 O0 HB0
    have yT0 := T1.out.cell 0
    have yT1 := T1.out.cell 1
    have yX0 := X1.out.cell 0
    have yX1 := X1.out.cell 1
    have yX2 := X1.out.cell 2
    have yX3 := X1.out.cell 3
    have yX4 := X1.out.cell 4
    simp only [List.getElem?_toArray, List.getElem?_cons_zero, List.getElem?_cons_succ] at yT0 yT1 yX0 yX1 yX2 yX3 yX4
    have yTl := T1.out.lt
    have yXl := X1.out.lt
    go_wp2_with (go_at_call 13; with_reducible refine (HSan.out _).mono ?_; rintro e u2 ⟨rfl, hb2⟩; have T2 := Lib.hid (T1.out.below hb2); have X2 := Lib.hid (X1.out.below hb2); have O2 := Lib.hid (O1.out.below hb2); have HB2 := Lib.hid (HB1.out.trans (hb2.mono HB1.out.size)); clear hb2; have y2T0 := T2.out.cell 0; have y2T1 := T2.out.cell 1; have y2X0 := X2.out.cell 0; have y2X1 := X2.out.cell 1; have y2X2 := X2.out.cell 2; have y2X3 := X2.out.cell 3; have y2X4 := X2.out.cell 4; simp only [List.getElem?_toArray, List.getElem?_cons_zero, List.getElem?_cons_succ] at y2T0 y2T1 y2X0 y2X1 y2X2 y2X3 y2X4; have y2Tl := T2.out.lt; have y2Xl := X2.out.lt)
    exact bodyPost_ret (v := .bool true) (by simp [results, Tryz.results6, go_sem]) rfl ⟨rfl, HB2.out⟩
  | true =>
  by_cases hc : tcheck hs ms = 0
  case neg =>
    generalize tcheck hs ms = ck at *
    have hcb : (ck != 0) = true := by simpa using hc
    clear hc
    have yT0 := T0.out.cell 0
    have yT1 := T0.out.cell 1
    have yX0 := X0.out.cell 0
    have yX1 := X0.out.cell 1
    have yX2 := X0.out.cell 2
    have yX3 := X0.out.cell 3
    have yX4 := X0.out.cell 4
    simp only [List.getElem?_toArray, List.getElem?_cons_zero, List.getElem?_cons_succ] at yT0 yT1 yX0 yX1 yX2 yX3 yX4
    have yTl := T0.out.lt
    have yXl := X0.out.lt
    go_upto_region 2 with (first | (go_at_call 12; with_reducible refine (HFew.out _).mono ?_; rintro e u1 ⟨rfl, hb1⟩; have T1 := Lib.hid (T0.out.below hb1); have X1 := Lib.hid (X0.out.below hb1); have O1 := Lib.hid (O0.out.below hb1); have HB1 := Lib.hid (HB0.out.trans (hb1.mono HB0.out.size)); clear hb1; have y1T0 := T1.out.cell 0; have y1T1 := T1.out.cell 1; have y1X0 := X1.out.cell 0; have y1X1 := X1.out.cell 1; have y1X2 := X1.out.cell 2; have y1X3 := X1.out.cell 3; have y1X4 := X1.out.cell 4; simp only [List.getElem?_toArray, List.getElem?_cons_zero, List.getElem?_cons_succ] at y1T0 y1T1 y1X0 y1X1 y1X2 y1X3 y1X4; have y1Tl := T1.out.lt; have y1Xl := X1.out.lt) | (go_at_call 30; with_reducible refine (HCk.out _ O1.out).mono ?_; rintro e u2 ⟨rfl, hb2⟩; have T2 := Lib.hid (T1.out.below hb2); have X2 := Lib.hid (X1.out.below hb2); have O2 := Lib.hid (O1.out.below hb2); have HB2 := Lib.hid (HB1.out.trans (hb2.mono HB1.out.size)); clear hb2; have y2T0 := T2.out.cell 0; have y2T1 := T2.out.cell 1; have y2X0 := X2.out.cell 0; have y2X1 := X2.out.cell 1; have y2X2 := X2.out.cell 2; have y2X3 := X2.out.cell 3; have y2X4 := X2.out.cell 4; simp only [List.getElem?_toArray, List.getElem?_cons_zero, List.getElem?_cons_succ] at y2T0 y2T1 y2X0 y2X1 y2X2 y2X3 y2X4; have y2Tl := T2.out.lt; have y2Xl := X2.out.lt))
    clear yT0 yT1 yX0 yX1 yX2 yX3 yX4 yTl yXl y1T0 y1T1 y1X0 y1X1 y1X2 y1X3 y1X4 y1Tl y1Xl y2T0 y2T1 y2X0 y2X1 y2X2 y2X3 y2X4 y2Tl y2Xl T0 X0 O0 T1 X1 O1 HB0 HB1
    have yT0 := T2.out.cell 0
    have yT1 := T2.out.cell 1
    have yX0 := X2.out.cell 0
    have yX1 := X2.out.cell 1
    have yX2 := X2.out.cell 2
    have yX3 := X2.out.cell 3
    have yX4 := X2.out.cell 4
    simp only [List.getElem?_toArray, List.getElem?_cons_zero, List.getElem?_cons_succ] at yT0 yT1 yX0 yX1 yX2 yX3 yX4
    have yTl := T2.out.lt
    have yXl := X2.out.lt
    go_wp2_with (go_at_call 13; with_reducible refine (HSan.out _).mono ?_; rintro e u3 ⟨rfl, hb3⟩; have T3 := Lib.hid (T2.out.below hb3); have X3 := Lib.hid (X2.out.below hb3); have O3 := Lib.hid (O2.out.below hb3); have HB3 := Lib.hid (HB2.out.trans (hb3.mono HB2.out.size)); clear hb3; have y3T0 := T3.out.cell 0; have y3T1 := T3.out.cell 1; have y3X0 := X3.out.cell 0; have y3X1 := X3.out.cell 1; have y3X2 := X3.out.cell 2; have y3X3 := X3.out.cell 3; have y3X4 := X3.out.cell 4; simp only [List.getElem?_toArray, List.getElem?_cons_zero, List.getElem?_cons_succ] at y3T0 y3T1 y3X0 y3X1 y3X2 y3X3 y3X4; have y3Tl := T3.out.lt; have y3Xl := X3.out.lt)
    exact bodyPost_ret (v := .bool true) (by simp [results, Tryz.results6, go_sem]) rfl ⟨rfl, HB3.out⟩
  case pos =>
  have hv := tcheck_zero.1 hc
  have HTV := Lib.hid hv
  have HTc := Lib.hid hc
  rw [hc] at HCk
  have HLh := Lib.hid (show hs.length = n from O0.out.h.len)
  have HLm := Lib.hid (show ms.length = m from O0.out.m.len)
  have hn : n ≤ 9 := by rw [← HLh.out]; exact hv.lenH
  have hm : m ≤ 24 := by rw [← HLm.out]; exact hv.lenM
  clear hc hv
  have yT0 := T0.out.cell 0
  have yT1 := T0.out.cell 1
  have yX0 := X0.out.cell 0
  have yX1 := X0.out.cell 1
  have yX2 := X0.out.cell 2
  have yX3 := X0.out.cell 3
  have yX4 := X0.out.cell 4
  simp only [List.getElem?_toArray, List.getElem?_cons_zero, List.getElem?_cons_succ] at yT0 yT1 yX0 yX1 yX2 yX3 yX4
  have yTl := T0.out.lt
  have yXl := X0.out.lt
  go_upto_region 3 with (first | (go_at_call 12; with_reducible refine (HFew.out _).mono ?_; rintro e u1 ⟨rfl, hb1⟩; have T1 := Lib.hid (T0.out.below hb1); have X1 := Lib.hid (X0.out.below hb1); have O1 := Lib.hid (O0.out.below hb1); have HB1 := Lib.hid (HB0.out.trans (hb1.mono HB0.out.size)); clear hb1; have y1T0 := T1.out.cell 0; have y1T1 := T1.out.cell 1; have y1X0 := X1.out.cell 0; have y1X1 := X1.out.cell 1; have y1X2 := X1.out.cell 2; have y1X3 := X1.out.cell 3; have y1X4 := X1.out.cell 4; simp only [List.getElem?_toArray, List.getElem?_cons_zero, List.getElem?_cons_succ] at y1T0 y1T1 y1X0 y1X1 y1X2 y1X3 y1X4; have y1Tl := T1.out.lt; have y1Xl := X1.out.lt) | (go_at_call 30; with_reducible refine (HCk.out _ O1.out).mono ?_; rintro e u2 ⟨rfl, hb2⟩; have T2 := Lib.hid (T1.out.below hb2); have X2 := Lib.hid (X1.out.below hb2); have O2 := Lib.hid (O1.out.below hb2); have HB2 := Lib.hid (HB1.out.trans (hb2.mono HB1.out.size)); clear hb2; have y2T0 := T2.out.cell 0; have y2T1 := T2.out.cell 1; have y2X0 := X2.out.cell 0; have y2X1 := X2.out.cell 1; have y2X2 := X2.out.cell 2; have y2X3 := X2.out.cell 3; have y2X4 := X2.out.cell 4; simp only [List.getElem?_toArray, List.getElem?_cons_zero, List.getElem?_cons_succ] at y2T0 y2T1 y2X0 y2X1 y2X2 y2X3 y2X4; have y2Tl := T2.out.lt; have y2Xl := X2.out.lt))
  clear yT0 yT1 yX0 yX1 yX2 yX3 yX4 yTl yXl y1T0 y1T1 y1X0 y1X1 y1X2 y1X3 y1X4 y1Tl y1Xl y2T0 y2T1 y2X0 y2X1 y2X2 y2X3 y2X4 y2Tl y2Xl T0 X0 O0 T1 X1 O1 HB0 HB1
  have yT0 := T2.out.cell 0
  have yT1 := T2.out.cell 1
  have yX0 := X2.out.cell 0
  have yX1 := X2.out.cell 1
  have yX2 := X2.out.cell 2
  have yX3 := X2.out.cell 3
  have yX4 := X2.out.cell 4
  simp only [List.getElem?_toArray, List.getElem?_cons_zero, List.getElem?_cons_succ] at yT0 yT1 yX0 yX1 yX2 yX3 yX4
  have yTl := T2.out.lt
  have yXl := X2.out.lt
  have HC := Lib.hid (new_ok O2.out.h (by omega) O2.out.n_cap (tcheck_zero.2 HTV.out.nil))
  go_upto_region 4 with (go_at_call 31; (with_reducible refine HC.out.mono ?_); rintro e u3 ⟨p, rfl, ho, hb⟩)
  clear HC
  have HOf := Lib.hid ho
  have HBf := Lib.hid hb
  have T3 := Lib.hid (T2.out.below hb)
  clear ho hb yT0 yT1 yX0 yX1 yX2 yX3 yX4 yTl yXl
  have y1 := T3.out.cell 1
  simp only [List.getElem?_toArray, List.getElem?_cons_zero, List.getElem?_cons_succ] at y1
  have yl := T3.out.lt
  go_upto_region 8 with fail
  clear y1 yl T3
  go_loopw [10] (fun i wx => ∃ k : Nat, k ≤ m ∧ i = .int .i64 (k : Int) ∧ OfE wx u2.heap.size p (3 * k) hs (rotL ms f k) ∧ Below u2.heap.size u2 wx) (fun i _ => m - (intOf i).toNat)
  case atStart => exact ⟨0, Nat.zero_le _, rfl, HOf.out, HBf.out⟩
  case round =>
    clear HOf HBf
    obtain ⟨k, hk, rfl, hof, hbb⟩ := hrel
    have HOF := Lib.hid hof
    have HBB := Lib.hid hbb
    have HTk := Lib.hid (T2.out.below hbb)
    have HOk := Lib.hid (O2.out.below hbb)
    clear hof hbb
    have y1 := HTk.out.cell 1
    simp only [List.getElem?_toArray, List.getElem?_cons_zero, List.getElem?_cons_succ] at y1
    have yl := HTk.out.lt
    by_cases hkm : k < m
    case pos =>
      have hkl : k < ms.length := by rw [HLm.out]; exact hkm
      have hql : (f + k) % ms.length < ms.length := Nat.mod_lt _ (by omega)
      have hrem : ((f : Int) + (k : Int)).tmod (m : Int) = (((f + k) % ms.length : Nat) : Int) := by rw [HLm.out, ← Int.natCast_add]; exact (Int.ofNat_tmod _ _).symm
      have HRp := Lib.hid (rot_put HTV.out f hkl)
      rw [mat_eq hql] at HRp
      obtain ⟨bB, oB, eB, hl⟩ := HOk.out.m.at_ (by dsimp only; omega)
      have hl0 := hl
      obtain ⟨c0, c1, c2, c3, c4⟩ := Mvs.at_ hl (List.getElem?_eq_getElem hql)
      have cl := hl.lt
      generalize ms[(f + k) % ms.length] = mv at *
      have hqm : (f + k) % ms.length < m := by rw [← HLm.out]; exact hql
      generalize (f + k) % ms.length = q at *
      dsimp only at eB
      subst eB
      clear hl hl0 hql
      have HPt := Lib.hid (fun (v : World) (hv : Below wr.heap.size wr v) => Put_any u2.heap.size p (3 * k) hs (rotL ms f k) mv v (HOF.out.below hv) (by omega))
      dsimp only [vMv] at HPt
      go_upto_region 10 with fail
      obtain ⟨xc, xf'⟩ := xcell (W := wr)
      refine wp_region_quiet_tail 11 (by kernel_rfl) (by kernel_rfl) ?_
      simp only [List.take_succ_cons, List.take_zero, List.drop_succ_cons, List.drop_zero]
      repeat (first | go_big_quiet_step (fail) | quiet_step (fail))
      refine wpQuiet_nil ?_
      intro w9 hb9
      have HB9 := Lib.hid hb9
      clear hb9
      go_upto_region 12 with (go_at_call 32; (with_reducible refine (HPt.out _ HB9.out).mono ?_); rintro e u6 ⟨he, ho6, hb6, hk6⟩; rw [HRp.out.1] at he; rw [HRp.out.2] at ho6; subst he)
      have HO6 := Lib.hid ho6
      have HB6 := Lib.hid (HBB.out.trans ((HB9.out.mono HBB.out.size).trans hb6))
      clear ho6 hb6 hk6 HB9 HPt HRp hrem c0 c1 c2 c3 c4 cl y1 yl xc xf' hqm
      have x0 := (X2.out.below HB6.out).cell 0
      have x1 := (X2.out.below HB6.out).cell 1
      have x2 := (X2.out.below HB6.out).cell 2
      have x3 := (X2.out.below HB6.out).cell 3
      have x4 := (X2.out.below HB6.out).cell 4
      simp only [List.getElem?_toArray, List.getElem?_cons_zero, List.getElem?_cons_succ] at x0 x1 x2 x3 x4
      have xl' := (X2.out.below HB6.out).lt
      have HC := Lib.hid (Put_any u2.heap.size p (3 * k + 1) hs (rotL ms f (k + 1)) ⟨xi, xf, xt, xl, xh⟩ u6 HO6.out (by omega))
      dsimp only [vMv] at HC
      by_cases he2 : poE hs (rotL ms f (k + 1)) ⟨xi, xf, xt, xl, xh⟩ = 0
      case pos =>
        have HPT := Lib.hid (put_take he2)
        rw [he2] at HC
        rw [HPT.out.1] at HC
        clear he2
        go_upto_region 9 with (first | (go_at_call 32; (with_reducible refine HC.out.mono ?_); rintro e u7 ⟨rfl, ho7, hb7, hk7⟩; have HC7 := Lib.hid (Take_any u2.heap.size p (3 * k + 1 + 1) hs (rotL ms f (k + 1) ++ [⟨xi, xf, xt, xl, xh⟩]) xi u7 ho7 HXr.out); have HB7 := Lib.hid (HB6.out.trans hb7); have w0 := (X2.out.below HB7.out).cell 0; simp only [List.getElem?_toArray, List.getElem?_cons_zero] at w0; have wl := (X2.out.below HB7.out).lt; clear hb7 hk7 ho7) | (go_at_call 33; (with_reducible refine HC7.out.mono ?_); rintro e u8 ⟨he, ho8, hb8, hk8⟩; rw [HPT.out.2.1] at he; rw [HPT.out.2.2] at ho8; subst he))
        have HO8 := Lib.hid (ho8.pad (show 3 * k + 1 + 1 + 1 ≤ 3 * (k + 1) by omega))
        have HB8 := Lib.hid (HB7.out.trans hb8)
        clear ho8 hb8 hk8 HC HC7 HB7 HB6 HO6 x0 x1 x2 x3 x4 xl' w0 wl
        go_wp2
        go_roundw
        case rel => exact ⟨k + 1, by omega, by go_num, HO8.out, HB8.out⟩
        case measure => simp [intOf]; omega
      case neg =>
        have HPN := Lib.hid (show poM hs (rotL ms f (k + 1)) ⟨xi, xf, xt, xl, xh⟩ = rotL ms f (k + 1) by unfold poM; rw [if_neg he2])
        rw [HPN.out] at HC
        have hnb : (poE hs (rotL ms f (k + 1)) ⟨xi, xf, xt, xl, xh⟩ == 0) = false := by simpa using he2
        clear he2
        generalize poE hs (rotL ms f (k + 1)) ⟨xi, xf, xt, xl, xh⟩ = e2 at *
        go_upto_region 9 with (go_at_call 32; (with_reducible refine HC.out.mono ?_); rintro e u7 ⟨rfl, ho7, hb7, hk7⟩)
        have HO8 := Lib.hid (ho7.pad (show 3 * k + 1 + 1 ≤ 3 * (k + 1) by omega))
        have HB8 := Lib.hid (HB6.out.trans hb7)
        clear ho7 hb7 hk7 HC HB6 HO6 x0 x1 x2 x3 x4 xl' hnb
        go_wp2
        go_roundw
        case rel => exact ⟨k + 1, by omega, by go_num, HO8.out, HB8.out⟩
        case measure => simp [intOf]; omega
    case neg =>
      obtain rfl : k = m := by omega
      go_upto_region 14 with fail
      have HC := Lib.hid HOF.out.trade
      go_upto_region 15 with (go_at_call 34; (with_reducible refine HC.out.mono ?_); rintro e u6 ⟨v1, v2, rfl, ho6, hb6⟩; obtain ⟨A5, c5, B5, d5, e1, e2, a1, a2, _, _, _, _⟩ := ho6.form; rw [HLh.out] at e1 a1; rw [rot_len] at e2 a2; subst e1 e2)
      have bq := below_new u6 (.cells #[.slice A5 n c5, .slice B5 k d5] 25)
      have bn := hb6.trans (bq.mono hb6.size)
      have HT6 := Lib.hid (HTk.out.below bn)
      have HO6 := Lib.hid (HOk.out.below bn)
      have HF6 := Lib.hid (HOF.out.below bn)
      have HB6 := Lib.hid (HBB.out.trans (bn.mono HBB.out.size))
      have HR6 := Lib.hid (a2.below bq)
      have HN6 := Lib.hid (Blk.new u6 25 #[.slice A5 n c5, .slice B5 k d5])
      generalize hV : u6.alloc (.cells #[.slice A5 n c5, .slice B5 k d5] 25) = U6 at *
      generalize hg : u6.heap.size = g6 at *
      clear hV hg bq bn hb6 ho6 a1 a2 HC y1 yl HTk HOk HOF HBB
      have y0 := HT6.out.cell 0
      have y1 := HT6.out.cell 1
      simp only [List.getElem?_toArray, List.getElem?_cons_zero, List.getElem?_cons_succ] at y0 y1
      have yl := HT6.out.lt
      have HC := Lib.hid (fi_all HO6.out)
      dsimp only [TR.v, vCo] at HC
      have HNe := Lib.hid (nwE_agr HTc.out)
      generalize nwE hs ms = ne at *
      go_upto_region 16 with (go_at_call 35; (with_reducible refine HC.out.mono ?_); rintro e u7 ⟨F1, n1, k1, F2, n2, k2, F3, n3, k3, st, en, ma, rfl, _, _, _, _, hb7⟩)
      have bq := below_new u7 (.cells #[.slice F1 n1 k1, .slice F2 n2 k2, .slice F3 n3 k3] 68)
      have bn := hb7.trans (bq.mono hb7.size)
      have HT7 := Lib.hid (HT6.out.below bn)
      have HN7 := Lib.hid (HN6.out.below bn)
      have HO7 := Lib.hid (HO6.out.below bn)
      have HF7 := Lib.hid (HF6.out.below bn)
      have HB7 := Lib.hid (HB6.out.trans (bn.mono HB6.out.size))
      have HR7 := Lib.hid (HR6.out.below bn)
      generalize hV : u7.alloc (.cells #[.slice F1 n1 k1, .slice F2 n2 k2, .slice F3 n3 k3] 68) = U7 at *
      generalize hg : u7.heap.size = g7 at *
      clear hV hg bq bn hb7 HC y0 y1 yl HT6 HN6 HO6 HF6 HB6 HR6
      have y0 := HT7.out.cell 0
      have y1 := HT7.out.cell 1
      have z0 := HN7.out.cell 0
      have z1 := HN7.out.cell 1
      simp only [List.getElem?_toArray, List.getElem?_cons_zero, List.getElem?_cons_succ] at y0 y1 z0 z1
      have yl := HT7.out.lt
      have zl := HN7.out.lt
      have HC := Lib.hid (OAgrees_any u2.heap.size p (3 * k) hs (rotL ms f k) U7 HF7.out (HTV.out.rot f k (by rw [HLm.out]; exact Nat.le_refl _)))
      have HPe := Lib.hid (show agrL hs (rotL ms f k) = agrL hs ms by rw [← HLm.out]; exact agr_perm (rot_perm ms f))
      rw [HPe.out] at HC
      have hne := HNe.out
      generalize agrL hs ms = ab at *
      have q1 : ((k : Int) != (k : Int)) = false := by simp
      have q2 : ((n : Int) != (n : Int)) = false := by simp
      have q3 : (ab != ab) = false := by simp
      go_upto_region 18 with (go_at_call 36; (with_reducible refine HC.out.mono ?_); rintro e u8 ⟨rfl, hb8⟩)
      have HT8 := Lib.hid (HT7.out.below hb8)
      have HN8 := Lib.hid (HN7.out.below hb8)
      have HO8 := Lib.hid (HO7.out.below hb8)
      have HB8 := Lib.hid (HB7.out.trans (hb8.mono HB7.out.size))
      have HR8 := Lib.hid (HR7.out.below hb8)
      clear y0 y1 z0 z1 yl zl hb8 HC HPe HNe hne q1 q2 q3 HT7 HN7 HO7 HF7 HB7 HR7 hk hkm
      go_upto_region 19 with fail
      go_loopw [14] (fun i wx => ∃ j : Nat, j ≤ k ∧ i = .int .i64 (j : Int) ∧ Below u8.heap.size u8 wx) (fun i _ => k - (intOf i).toNat)
      case atStart => exact ⟨0, Nat.zero_le _, rfl, Below.refl _ _⟩
      case round =>
        obtain ⟨j, hj, rfl, hb9⟩ := hrel
        have HB9 := Lib.hid hb9
        clear hb9
        by_cases hjk : j < k
        case neg =>
          have HBE := Lib.hid (HB2.out.trans ((HB8.out.trans (HB9.out.mono HB8.out.size)).mono HB2.out.size))
          go_wp2_with (go_at_call 13; (with_reducible refine (HSan.out _).mono ?_); rintro e u10 ⟨rfl, hb10⟩)
          exact bodyPost_ret (v := .bool true) (by simp [results, Tryz.results6, go_sem]) rfl ⟨rfl, HBE.out.trans (hb10.mono HBE.out.size)⟩
        case pos =>
          have y1 := (HT8.out.below HB9.out).cell 1
          have z1 := (HN8.out.below HB9.out).cell 1
          simp only [List.getElem?_toArray, List.getElem?_cons_zero, List.getElem?_cons_succ] at y1 z1
          have yl := (HT8.out.below HB9.out).lt
          have zl := (HN8.out.below HB9.out).lt
          have hql : (f + j) % ms.length < ms.length := Nat.mod_lt _ (by rw [HLm.out]; omega)
          have hrem : ((f : Int) + (j : Int)).tmod (k : Int) = (((f + j) % ms.length : Nat) : Int) := by rw [HLm.out, ← Int.natCast_add]; exact (Int.ofNat_tmod _ _).symm
          obtain ⟨bB, oB, eB, hl⟩ := (HO8.out.m.below HB9.out).at_ (by dsimp only; omega)
          obtain ⟨bR, oR, eR, hr⟩ := (HR8.out.below HB9.out).at_ (by omega)
          obtain ⟨c0, c1, c2, c3, c4⟩ := Mvs.at_ hl (List.getElem?_eq_getElem hql)
          obtain ⟨d0, d1, d2, d3, d4⟩ := Mvs.at_ hr ((rot_at hjk).trans (by rw [mat_eq hql]))
          have cl := hl.lt
          have dl := hr.lt
          clear hl hr
          generalize ms[(f + j) % ms.length] = mv at *
          have hqm : (f + j) % ms.length < k := by rw [← HLm.out]; exact hql
          clear hql
          generalize (f + j) % ms.length = q at *
          dsimp only at eB
          subst eB eR
          go_upto_region 21 with fail
          obtain ⟨xc, xf'⟩ := xcell (W := wr)
          refine wp_region_quiet_tail 16 (by kernel_rfl) (by kernel_rfl) ?_
          simp only [List.take_succ_cons, List.take_zero, List.drop_succ_cons, List.drop_zero]
          repeat (first | go_big_quiet_step (fail) | quiet_step (fail))
          refine wpQuiet_nil ?_
          intro w9 hb10
          have HB10 := Lib.hid (HB9.out.trans (hb10.mono HB9.out.size))
          clear xc xf' hb10 c0 c1 c2 c3 c4 d0 d1 d2 d3 d4 cl dl y1 z1 yl zl hrem hqm
          go_wp2
          go_roundw
          case rel => exact ⟨j + 1, by omega, by go_num, HB10.out⟩
          case measure => simp [intOf]; omega
open Go.WideShapes Go.ChangeShapes Go.Joins Go.Deep
set_option maxRecDepth 100000 in
theorem flowOneByOne_lifted (os : Os) (started : os.Started) (H : Type) (enc : TypeId × Value → H) :
    ReturnsInHanded Rows.flowOneByOneRow.assume Tryz.checked os 6 .any (Rows.flowOneByOneSpec.pre6 enc Tryz.prog Tryz.f6 Rows.flowOneByOneRow.domain false) (Rows.flowOneByOneSpec.post enc Tryz.prog Tryz.f6 false Rows.flowOneByOneRow.fresh Rows.flowOneByOneRow.handsOn Rows.flowOneByOneRow.again) := by
  refine returnsInHanded_of_change (C := Tryz.checked) (by kernel_rfl) started (by kernel_rfl) Tryz.func6
    (ChangeSpec.witness6 (enc := enc) (C := Tryz.checked) false ⟨#[], #[.agg #[.slice none 0 0, .slice none 0 0], .int .u8 0, .agg #[.int .i64 0, .int .i64 0, .int .i64 0, .int .i64 0, .int .i64 0]], []⟩ 8 (by kernel_rfl) (by kernel_rfl) (by kernel_rfl) (by kernel_rfl)) ?_
  intro W base args ds gs before hval0 hW hcnd _
  have hval : ∀ (j : Nat) t v, Tryz.f6.params[j]? = some t → args[j]? = some v → Value.okWide Tryz.prog W .any base t v := hval0
  have hW' := hW
  obtain ⟨p, q, hA0, hV, rfl, hfz, hnd⟩ := hW
  obtain ⟨rfl, rfl⟩ := trodVars_none hV
  have hA : DataW.TrodAll enc Tryz.prog W 0 (fun _ => true) true [25, 5, 59] args.toList ds p := hA0
  obtain ⟨v0, v1, v2, d0, d1, d2, p0, p1, p2, rfl, rfl, rfl, h0, h1, h2⟩ := trodAll_three hA
  obtain ⟨t, rfl, hT, _, rfl⟩ := open_tr (hval 0 25 v0 rfl rfl) h0
  obtain ⟨fi, rfl, rfl, rfl, hwf⟩ := open_int Tryz.underlying5 (hval 1 5 v1 rfl rfl) h1
  obtain ⟨x, rfl, hxr, _, rfl⟩ := open_mv (hval 2 59 v2 rfl rfl) h2
  refine (flowOneByOne_walk t fi x W hT (wf_u8z hwf) hxr).mono fun e W' ⟨he, hb⟩ => ⟨_, he, law_post laid_out (by kernel_rfl) rfl Tryz.underlying4 rfl hW' rfl rfl rfl hb⟩

theorem flowOneByOne : Rows.FlowOneByOneSaid :=
  OpenClaim.holds_of_wide 6 Tryz.f6 rfl rfl rfl rfl rfl rfl rfl ⟨rfl, rfl, rfl, rfl, rfl⟩ rfl rfl rfl rfl rfl (by kernel_rfl) Tryz.func6 (by kernel_rfl)
    (of_decide_eq_true (by kernel_rfl)) (by unfold Func.isWrapper; first | (rw [if_pos (by decide +kernel)]; kernel_rfl) | (rw [if_neg (by decide +kernel)]; exact ⟨rfl, rfl⟩))
    (fun os started H enc _ => flowOneByOne_lifted os started H enc)
#print axioms flowOneByOne
end Go.Proofs.YtighfmgkoepfkaaGreat
