/- The law FlowLimitsHold. -/
import Derived.Test.YtighfmgkoepfkaaGreatML
import Derived.Test.YtighfmgkoepfkaaGreatMD
import Derived.Test.YtighfmgkoepfkaaGreatMI
import Derived.Deep.DeepCutAuto
namespace Go.Proofs.YtighfmgkoepfkaaGreat
open Go.RowKit

/-- What is left of a division, of one span. -/
theorem mod_rz {lo hi x : Int} (h : lo ≤ hi) (hx : 0 ≤ x) : ∃ r, x.tmod (hi - lo + 1) = r ∧ 0 ≤ r ∧ r ≤ hi - lo := by
  refine ⟨_, rfl, Int.tmod_nonneg _ hx, ?_⟩
  have := Int.tmod_lt_of_pos x (show 0 < hi - lo + 1 by omega)
  omega
theorem wf_u16z {n : Int} (h : (Lit.int .u16 n).wf = true) : 0 ≤ n ∧ n ≤ 65535 := by
  simp [Lit.wf, IntKind.min, IntKind.max, IntKind.signed, IntKind.bits] at h
  omega
theorem mid_tv {hs : List Hd} {ms : List Mv} {kind id mid : Int} (hv : TV hs ms) (hp : placeE hs ms kind id = 0) (h0 : 0 ≤ mid) (h1 : mid ≤ 65536) : TV (putIH hs kind id mid mid) (putIM ms kind id mid mid) := by
  rw [← putH_id hv.ids hp, ← putM_id hv.mids hp]
  exact hv.put (by simp [okSp]; omega) _
open Go.ChangeShapes in
theorem trodAll_six {H : Type} {enc : TypeId × Value → H} {P : Program} {w : World} {base : Nat} {spare : Nat → Bool} {held : Bool} {t t' ta t3 t4 t5 : TypeId} {args : Array Value} {ds : List (DataW H)} {ps : List MemPlace} (h : DataW.TrodAll enc P w base spare held [t, t', ta, t3, t4, t5] args.toList ds ps) :
    ∃ v v' va v3 v4 v5 d d' da d3 d4 d5 p p' pa p3 p4 p5, args = #[v, v', va, v3, v4, v5] ∧ ds = [d, d', da, d3, d4, d5] ∧ ps = p ++ p' ++ pa ++ p3 ++ p4 ++ p5 ∧ DataW.Trod enc P w base spare held t v d p ∧ DataW.Trod enc P w base spare held t' v' d' p' ∧ DataW.Trod enc P w base spare held ta va da pa ∧ DataW.Trod enc P w base spare held t3 v3 d3 p3 ∧ DataW.Trod enc P w base spare held t4 v4 d4 p4 ∧ DataW.Trod enc P w base spare held t5 v5 d5 p5 := by
  obtain ⟨v, vs, d, ds', p, q, hargs, rfl, rfl, hd, hrest⟩ := trodAll_cons h
  obtain ⟨v', vs', d', dsa, p', q', rfl, rfl, rfl, hd', hrest'⟩ := trodAll_cons hrest
  obtain ⟨va, vsa, da, dsb, pa, qa, rfl, rfl, rfl, hda, hresta⟩ := trodAll_cons hrest'
  obtain ⟨v3, vs3, d3, ds3, p3, q3, rfl, rfl, rfl, hd3, hrest3⟩ := trodAll_cons hresta
  obtain ⟨v4, vs4, d4, ds4, p4, q4, rfl, rfl, rfl, hd4, hrest4⟩ := trodAll_cons hrest3
  obtain ⟨v5, vs5, d5, ds5, p5, q5, rfl, rfl, rfl, hd5, hrest5⟩ := trodAll_cons hrest4
  obtain ⟨rfl, rfl, rfl⟩ := trodAll_nil hrest5
  exact ⟨v, v', va, v3, v4, v5, d, d', da, d3, d4, d5, p, p', pa, p3, p4, p5, by cases args; simp_all, rfl, by simp, hd, hd', hda, hd3, hd4, hd5⟩
theorem ckCo_fits {hs : List Hd} {ms : List Mv} {st en ma : List Int} (h : ckCo hs ms st en ma = 0) : fitsL hs ms st en ma = true := by
  unfold ckCo at h
  by_cases c : tcheck hs ms ≠ 0
  · rw [if_pos c] at h; exact absurd h c
  rw [if_neg c] at h
  by_cases d : fitsL hs ms st en ma = true
  · exact d
  · rw [if_neg d] at h; cases h
set_option maxRecDepth 100000 in
set_option maxHeartbeats 12800000 in
theorem flowLimitsHold_walk (t : TR) (kind id : Int) (A1 : Option Addr) (n1 c1 : Nat) (A2 : Option Addr) (n2 c2 : Nat) (A3 : Option Addr) (n3 c3 : Nat) (st en ma : List Int) (val : Int) (D1 : Option Addr) (m1 d1 : Nat) (D2 : Option Addr) (m2 d2 : Nat) (D3 : Option Addr) (m3 d3 : Nat) (way : Int) (D4 : Option Addr) (m4 d4 : Nat) (lst len lma s : List Int) (gr : Bool) (nn : Int) (w : World) (h : t.Ok w) (h1 : SAt encI 1 w A1 n1 st) (h2 : SAt encI 1 w A2 n2 en) (h3 : SAt encI 1 w A3 n3 ma) (l1 : n1 ≤ 9223372036854775807) (l2 : n2 ≤ 9223372036854775807) (l3 : n3 ≤ 9223372036854775807) (g1 : SAt encI 1 w D1 m1 lst) (g2 : SAt encI 1 w D2 m2 len) (g3 : SAt encI 1 w D3 m3 lma) (g4 : SAt encI 1 w D4 m4 s) (e1 : m1 ≤ 9223372036854775807) (e2 : m2 ≤ 9223372036854775807) (e3 : m3 ≤ 9223372036854775807) (e4 : m4 ≤ 9223372036854775807) (hn1 : 0 ≤ nn) (hn2 : nn ≤ 65535) : Calls Tryz.prog 11 #[t.v, vAt kind id, vCo A1 n1 c1 A2 n2 c2 A3 n3 c3, vLim val D1 m1 d1 D2 m2 d2 D3 m3 d3 way D4 m4 d4, .bool gr, .int .u16 nn] w fun e w' => e = .returned (.bool true) ∧ Below w.heap.size w w' := by
  obtain ⟨A, n, c, B, m, d, hs, ms⟩ := t
  have HSan := Lib.hid (fun u => sanity_any u)
  obtain ⟨fb, hfb⟩ : ∃ b, fewB n m = b := ⟨_, rfl⟩
  have HFew := Lib.hid (fun u => few_any A n c B m d u h.n_le h.m_le)
  rw [hfb] at HFew
  obtain ⟨cb, hcb⟩ : ∃ b, courseB n1 n2 n3 = b := ⟨_, rfl⟩
  have HCob := Lib.hid (fun u => course_law A1 n1 c1 A2 n2 c2 A3 n3 c3 u l1 l2 l3)
  rw [hcb] at HCob
  obtain ⟨cb2, hcb2⟩ : ∃ b, courseB m1 m2 m3 = b := ⟨_, rfl⟩
  have HCob2 := Lib.hid (fun u => course_law D1 m1 d1 D2 m2 d2 D3 m3 d3 u e1 e2 e3)
  rw [hcb2] at HCob2
  dsimp only [TR.v, vAt, vCo, vLim] at *
  have HB0 : Hid (Below w.heap.size w ((((w.alloc (.cells #[.slice A n c, .slice B m d] 25)).alloc (.cells #[.int .i64 kind, .int .i64 id] 83)).alloc (.cells #[.slice A1 n1 c1, .slice A2 n2 c2, .slice A3 n3 c3] 68)).alloc (.cells #[.int .i64 val, .slice D1 m1 d1, .slice D2 m2 d2, .slice D3 m3 d3, .int .i64 way, .slice D4 m4 d4] 95))) := Lib.hid (((((Below.refl w.heap.size w).alloc (Nat.le_refl _) _).alloc (by simp) _).alloc (by simp; omega) _).alloc (by simp; omega) _)
  have T0 : Hid (Blk ((((w.alloc (.cells #[.slice A n c, .slice B m d] 25)).alloc (.cells #[.int .i64 kind, .int .i64 id] 83)).alloc (.cells #[.slice A1 n1 c1, .slice A2 n2 c2, .slice A3 n3 c3] 68)).alloc (.cells #[.int .i64 val, .slice D1 m1 d1, .slice D2 m2 d2, .slice D3 m3 d3, .int .i64 way, .slice D4 m4 d4] 95)) w.heap.size 25 #[.slice A n c, .slice B m d]) := Lib.hid ((((Blk.at_new 25 #[.slice A n c, .slice B m d] rfl).alloc _).alloc _).alloc _)
  have X0 : Hid (Blk ((((w.alloc (.cells #[.slice A n c, .slice B m d] 25)).alloc (.cells #[.int .i64 kind, .int .i64 id] 83)).alloc (.cells #[.slice A1 n1 c1, .slice A2 n2 c2, .slice A3 n3 c3] 68)).alloc (.cells #[.int .i64 val, .slice D1 m1 d1, .slice D2 m2 d2, .slice D3 m3 d3, .int .i64 way, .slice D4 m4 d4] 95)) (w.heap.size + 1) 83 #[.int .i64 kind, .int .i64 id]) := Lib.hid (((Blk.at_new 83 #[.int .i64 kind, .int .i64 id] (by simp)).alloc _).alloc _)
  have C0 : Hid (Blk ((((w.alloc (.cells #[.slice A n c, .slice B m d] 25)).alloc (.cells #[.int .i64 kind, .int .i64 id] 83)).alloc (.cells #[.slice A1 n1 c1, .slice A2 n2 c2, .slice A3 n3 c3] 68)).alloc (.cells #[.int .i64 val, .slice D1 m1 d1, .slice D2 m2 d2, .slice D3 m3 d3, .int .i64 way, .slice D4 m4 d4] 95)) (w.heap.size + 2) 68 #[.slice A1 n1 c1, .slice A2 n2 c2, .slice A3 n3 c3]) := Lib.hid ((Blk.at_new 68 #[.slice A1 n1 c1, .slice A2 n2 c2, .slice A3 n3 c3] (by simp)).alloc _)
  have L0 : Hid (Blk ((((w.alloc (.cells #[.slice A n c, .slice B m d] 25)).alloc (.cells #[.int .i64 kind, .int .i64 id] 83)).alloc (.cells #[.slice A1 n1 c1, .slice A2 n2 c2, .slice A3 n3 c3] 68)).alloc (.cells #[.int .i64 val, .slice D1 m1 d1, .slice D2 m2 d2, .slice D3 m3 d3, .int .i64 way, .slice D4 m4 d4] 95)) (w.heap.size + 3) 95 #[.int .i64 val, .slice D1 m1 d1, .slice D2 m2 d2, .slice D3 m3 d3, .int .i64 way, .slice D4 m4 d4]) := Lib.hid (Blk.at_new 95 #[.int .i64 val, .slice D1 m1 d1, .slice D2 m2 d2, .slice D3 m3 d3, .int .i64 way, .slice D4 m4 d4] (by simp))
  have O0 := Lib.hid ((h).below HB0.out)
  have P0 := Lib.hid ((h1).below HB0.out)
  have Q0 := Lib.hid ((h2).below HB0.out)
  have R0 := Lib.hid ((h3).below HB0.out)
  have E0 := Lib.hid ((g1).below HB0.out)
  have F0 := Lib.hid ((g2).below HB0.out)
  have G0 := Lib.hid ((g3).below HB0.out)
  have H0 := Lib.hid ((g4).below HB0.out)
  go_enter Tryz.func11, Tryz.ntmps11
  go_upto_region 1 with fail
  generalize hV : (((w.alloc (.cells #[.slice A n c, .slice B m d] 25)).alloc (.cells #[.int .i64 kind, .int .i64 id] 83)).alloc (.cells #[.slice A1 n1 c1, .slice A2 n2 c2, .slice A3 n3 c3] 68)).alloc (.cells #[.int .i64 val, .slice D1 m1 d1, .slice D2 m2 d2, .slice D3 m3 d3, .int .i64 way, .slice D4 m4 d4] 95) = V0 at *
  clear hV
  clear h h1 h2 h3 g1 g2 g3 g4 hfb hcb hcb2
  cases fb with
  | false =>
    have yT0 := T0.out.cell 0
    have yT1 := T0.out.cell 1
    have yX0 := X0.out.cell 0
    have yX1 := X0.out.cell 1
    have yC0 := C0.out.cell 0
    have yC1 := C0.out.cell 1
    have yC2 := C0.out.cell 2
    have yL0 := L0.out.cell 0
    have yL1 := L0.out.cell 1
    have yL2 := L0.out.cell 2
    have yL3 := L0.out.cell 3
    have yL4 := L0.out.cell 4
    have yL5 := L0.out.cell 5
    simp only [List.getElem?_toArray, List.getElem?_cons_zero, List.getElem?_cons_succ] at yT0 yT1 yX0 yX1 yC0 yC1 yC2 yL0 yL1 yL2 yL3 yL4 yL5
    have yTl := T0.out.lt
    have yXl := X0.out.lt
    have yCl := C0.out.lt
    have yLl := L0.out.lt
    go_upto_region 2 with (go_at_call 12; with_reducible refine (HFew.out _).mono ?_; rintro e u1 ⟨rfl, hb1⟩; have T1 := Lib.hid (T0.out.below hb1); have X1 := Lib.hid (X0.out.below hb1); have C1 := Lib.hid (C0.out.below hb1); have L1 := Lib.hid (L0.out.below hb1); have O1 := Lib.hid (O0.out.below hb1); have P1 := Lib.hid (P0.out.below hb1); have Q1 := Lib.hid (Q0.out.below hb1); have R1 := Lib.hid (R0.out.below hb1); have E1 := Lib.hid (E0.out.below hb1); have F1 := Lib.hid (F0.out.below hb1); have G1 := Lib.hid (G0.out.below hb1); have H1 := Lib.hid (H0.out.below hb1); have HB1 := Lib.hid (HB0.out.trans (hb1.mono HB0.out.size)); clear hb1; have y1T0 := T1.out.cell 0; have y1T1 := T1.out.cell 1; have y1X0 := X1.out.cell 0; have y1X1 := X1.out.cell 1; have y1C0 := C1.out.cell 0; have y1C1 := C1.out.cell 1; have y1C2 := C1.out.cell 2; have y1L0 := L1.out.cell 0; have y1L1 := L1.out.cell 1; have y1L2 := L1.out.cell 2; have y1L3 := L1.out.cell 3; have y1L4 := L1.out.cell 4; have y1L5 := L1.out.cell 5; simp only [List.getElem?_toArray, List.getElem?_cons_zero, List.getElem?_cons_succ] at y1T0 y1T1 y1X0 y1X1 y1C0 y1C1 y1C2 y1L0 y1L1 y1L2 y1L3 y1L4 y1L5; have y1Tl := T1.out.lt; have y1Xl := X1.out.lt; have y1Cl := C1.out.lt; have y1Ll := L1.out.lt)
    clear yT0 yT1 yX0 yX1 yC0 yC1 yC2 yL0 yL1 yL2 yL3 yL4 yL5 yTl yXl yCl yLl y1T0 y1T1 y1X0 y1X1 y1C0 y1C1 y1C2 y1L0 y1L1 y1L2 y1L3 y1L4 y1L5 y1Tl y1Xl y1Cl y1Ll T0 X0 C0 L0 O0 P0 Q0 R0 E0 F0 G0 H0 HB0
    have yT0 := T1.out.cell 0
    have yT1 := T1.out.cell 1
    have yX0 := X1.out.cell 0
    have yX1 := X1.out.cell 1
    have yC0 := C1.out.cell 0
    have yC1 := C1.out.cell 1
    have yC2 := C1.out.cell 2
    have yL0 := L1.out.cell 0
    have yL1 := L1.out.cell 1
    have yL2 := L1.out.cell 2
    have yL3 := L1.out.cell 3
    have yL4 := L1.out.cell 4
    have yL5 := L1.out.cell 5
    simp only [List.getElem?_toArray, List.getElem?_cons_zero, List.getElem?_cons_succ] at yT0 yT1 yX0 yX1 yC0 yC1 yC2 yL0 yL1 yL2 yL3 yL4 yL5
    have yTl := T1.out.lt
    have yXl := X1.out.lt
    have yCl := C1.out.lt
    have yLl := L1.out.lt
    go_wp2_with (go_at_call 13; with_reducible refine (HSan.out _).mono ?_; rintro e u2 ⟨rfl, hb2⟩; have T2 := Lib.hid (T1.out.below hb2); have X2 := Lib.hid (X1.out.below hb2); have C2 := Lib.hid (C1.out.below hb2); have L2 := Lib.hid (L1.out.below hb2); have O2 := Lib.hid (O1.out.below hb2); have P2 := Lib.hid (P1.out.below hb2); have Q2 := Lib.hid (Q1.out.below hb2); have R2 := Lib.hid (R1.out.below hb2); have E2 := Lib.hid (E1.out.below hb2); have F2 := Lib.hid (F1.out.below hb2); have G2 := Lib.hid (G1.out.below hb2); have H2 := Lib.hid (H1.out.below hb2); have HB2 := Lib.hid (HB1.out.trans (hb2.mono HB1.out.size)); clear hb2; have y2T0 := T2.out.cell 0; have y2T1 := T2.out.cell 1; have y2X0 := X2.out.cell 0; have y2X1 := X2.out.cell 1; have y2C0 := C2.out.cell 0; have y2C1 := C2.out.cell 1; have y2C2 := C2.out.cell 2; have y2L0 := L2.out.cell 0; have y2L1 := L2.out.cell 1; have y2L2 := L2.out.cell 2; have y2L3 := L2.out.cell 3; have y2L4 := L2.out.cell 4; have y2L5 := L2.out.cell 5; simp only [List.getElem?_toArray, List.getElem?_cons_zero, List.getElem?_cons_succ] at y2T0 y2T1 y2X0 y2X1 y2C0 y2C1 y2C2 y2L0 y2L1 y2L2 y2L3 y2L4 y2L5; have y2Tl := T2.out.lt; have y2Xl := X2.out.lt; have y2Cl := C2.out.lt; have y2Ll := L2.out.lt)
    exact bodyPost_ret (v := .bool true) (by simp [results, Tryz.results11, go_sem]) rfl ⟨rfl, HB2.out⟩
  | true =>
  cases cb with
  | false =>
    have yT0 := T0.out.cell 0
    have yT1 := T0.out.cell 1
    have yX0 := X0.out.cell 0
    have yX1 := X0.out.cell 1
    have yC0 := C0.out.cell 0
    have yC1 := C0.out.cell 1
    have yC2 := C0.out.cell 2
    have yL0 := L0.out.cell 0
    have yL1 := L0.out.cell 1
    have yL2 := L0.out.cell 2
    have yL3 := L0.out.cell 3
    have yL4 := L0.out.cell 4
    have yL5 := L0.out.cell 5
    simp only [List.getElem?_toArray, List.getElem?_cons_zero, List.getElem?_cons_succ] at yT0 yT1 yX0 yX1 yC0 yC1 yC2 yL0 yL1 yL2 yL3 yL4 yL5
    have yTl := T0.out.lt
    have yXl := X0.out.lt
    have yCl := C0.out.lt
    have yLl := L0.out.lt
    go_upto_region 2 with (first | (go_at_call 12; with_reducible refine (HFew.out _).mono ?_; rintro e u1 ⟨rfl, hb1⟩; have T1 := Lib.hid (T0.out.below hb1); have X1 := Lib.hid (X0.out.below hb1); have C1 := Lib.hid (C0.out.below hb1); have L1 := Lib.hid (L0.out.below hb1); have O1 := Lib.hid (O0.out.below hb1); have P1 := Lib.hid (P0.out.below hb1); have Q1 := Lib.hid (Q0.out.below hb1); have R1 := Lib.hid (R0.out.below hb1); have E1 := Lib.hid (E0.out.below hb1); have F1 := Lib.hid (F0.out.below hb1); have G1 := Lib.hid (G0.out.below hb1); have H1 := Lib.hid (H0.out.below hb1); have HB1 := Lib.hid (HB0.out.trans (hb1.mono HB0.out.size)); clear hb1; have y1T0 := T1.out.cell 0; have y1T1 := T1.out.cell 1; have y1X0 := X1.out.cell 0; have y1X1 := X1.out.cell 1; have y1C0 := C1.out.cell 0; have y1C1 := C1.out.cell 1; have y1C2 := C1.out.cell 2; have y1L0 := L1.out.cell 0; have y1L1 := L1.out.cell 1; have y1L2 := L1.out.cell 2; have y1L3 := L1.out.cell 3; have y1L4 := L1.out.cell 4; have y1L5 := L1.out.cell 5; simp only [List.getElem?_toArray, List.getElem?_cons_zero, List.getElem?_cons_succ] at y1T0 y1T1 y1X0 y1X1 y1C0 y1C1 y1C2 y1L0 y1L1 y1L2 y1L3 y1L4 y1L5; have y1Tl := T1.out.lt; have y1Xl := X1.out.lt; have y1Cl := C1.out.lt; have y1Ll := L1.out.lt) | (go_at_call 50; with_reducible refine (HCob.out _).mono ?_; rintro e u2 ⟨rfl, hb2⟩; have T2 := Lib.hid (T1.out.below hb2); have X2 := Lib.hid (X1.out.below hb2); have C2 := Lib.hid (C1.out.below hb2); have L2 := Lib.hid (L1.out.below hb2); have O2 := Lib.hid (O1.out.below hb2); have P2 := Lib.hid (P1.out.below hb2); have Q2 := Lib.hid (Q1.out.below hb2); have R2 := Lib.hid (R1.out.below hb2); have E2 := Lib.hid (E1.out.below hb2); have F2 := Lib.hid (F1.out.below hb2); have G2 := Lib.hid (G1.out.below hb2); have H2 := Lib.hid (H1.out.below hb2); have HB2 := Lib.hid (HB1.out.trans (hb2.mono HB1.out.size)); clear hb2; have y2T0 := T2.out.cell 0; have y2T1 := T2.out.cell 1; have y2X0 := X2.out.cell 0; have y2X1 := X2.out.cell 1; have y2C0 := C2.out.cell 0; have y2C1 := C2.out.cell 1; have y2C2 := C2.out.cell 2; have y2L0 := L2.out.cell 0; have y2L1 := L2.out.cell 1; have y2L2 := L2.out.cell 2; have y2L3 := L2.out.cell 3; have y2L4 := L2.out.cell 4; have y2L5 := L2.out.cell 5; simp only [List.getElem?_toArray, List.getElem?_cons_zero, List.getElem?_cons_succ] at y2T0 y2T1 y2X0 y2X1 y2C0 y2C1 y2C2 y2L0 y2L1 y2L2 y2L3 y2L4 y2L5; have y2Tl := T2.out.lt; have y2Xl := X2.out.lt; have y2Cl := C2.out.lt; have y2Ll := L2.out.lt))
    clear yT0 yT1 yX0 yX1 yC0 yC1 yC2 yL0 yL1 yL2 yL3 yL4 yL5 yTl yXl yCl yLl y1T0 y1T1 y1X0 y1X1 y1C0 y1C1 y1C2 y1L0 y1L1 y1L2 y1L3 y1L4 y1L5 y1Tl y1Xl y1Cl y1Ll y2T0 y2T1 y2X0 y2X1 y2C0 y2C1 y2C2 y2L0 y2L1 y2L2 y2L3 y2L4 y2L5 y2Tl y2Xl y2Cl y2Ll T0 X0 C0 L0 O0 P0 Q0 R0 E0 F0 G0 H0 T1 X1 C1 L1 O1 P1 Q1 R1 E1 F1 G1 H1 HB0 HB1
    have yT0 := T2.out.cell 0
    have yT1 := T2.out.cell 1
    have yX0 := X2.out.cell 0
    have yX1 := X2.out.cell 1
    have yC0 := C2.out.cell 0
    have yC1 := C2.out.cell 1
    have yC2 := C2.out.cell 2
    have yL0 := L2.out.cell 0
    have yL1 := L2.out.cell 1
    have yL2 := L2.out.cell 2
    have yL3 := L2.out.cell 3
    have yL4 := L2.out.cell 4
    have yL5 := L2.out.cell 5
    simp only [List.getElem?_toArray, List.getElem?_cons_zero, List.getElem?_cons_succ] at yT0 yT1 yX0 yX1 yC0 yC1 yC2 yL0 yL1 yL2 yL3 yL4 yL5
    have yTl := T2.out.lt
    have yXl := X2.out.lt
    have yCl := C2.out.lt
    have yLl := L2.out.lt
    go_wp2_with (go_at_call 13; with_reducible refine (HSan.out _).mono ?_; rintro e u3 ⟨rfl, hb3⟩; have T3 := Lib.hid (T2.out.below hb3); have X3 := Lib.hid (X2.out.below hb3); have C3 := Lib.hid (C2.out.below hb3); have L3 := Lib.hid (L2.out.below hb3); have O3 := Lib.hid (O2.out.below hb3); have P3 := Lib.hid (P2.out.below hb3); have Q3 := Lib.hid (Q2.out.below hb3); have R3 := Lib.hid (R2.out.below hb3); have E3 := Lib.hid (E2.out.below hb3); have F3 := Lib.hid (F2.out.below hb3); have G3 := Lib.hid (G2.out.below hb3); have H3 := Lib.hid (H2.out.below hb3); have HB3 := Lib.hid (HB2.out.trans (hb3.mono HB2.out.size)); clear hb3; have y3T0 := T3.out.cell 0; have y3T1 := T3.out.cell 1; have y3X0 := X3.out.cell 0; have y3X1 := X3.out.cell 1; have y3C0 := C3.out.cell 0; have y3C1 := C3.out.cell 1; have y3C2 := C3.out.cell 2; have y3L0 := L3.out.cell 0; have y3L1 := L3.out.cell 1; have y3L2 := L3.out.cell 2; have y3L3 := L3.out.cell 3; have y3L4 := L3.out.cell 4; have y3L5 := L3.out.cell 5; simp only [List.getElem?_toArray, List.getElem?_cons_zero, List.getElem?_cons_succ] at y3T0 y3T1 y3X0 y3X1 y3C0 y3C1 y3C2 y3L0 y3L1 y3L2 y3L3 y3L4 y3L5; have y3Tl := T3.out.lt; have y3Xl := X3.out.lt; have y3Cl := C3.out.lt; have y3Ll := L3.out.lt)
    exact bodyPost_ret (v := .bool true) (by simp [results, Tryz.results11, go_sem]) rfl ⟨rfl, HB3.out⟩
  | true =>
  cases cb2 with
  | false =>
    have yT0 := T0.out.cell 0
    have yT1 := T0.out.cell 1
    have yX0 := X0.out.cell 0
    have yX1 := X0.out.cell 1
    have yC0 := C0.out.cell 0
    have yC1 := C0.out.cell 1
    have yC2 := C0.out.cell 2
    have yL0 := L0.out.cell 0
    have yL1 := L0.out.cell 1
    have yL2 := L0.out.cell 2
    have yL3 := L0.out.cell 3
    have yL4 := L0.out.cell 4
    have yL5 := L0.out.cell 5
    simp only [List.getElem?_toArray, List.getElem?_cons_zero, List.getElem?_cons_succ] at yT0 yT1 yX0 yX1 yC0 yC1 yC2 yL0 yL1 yL2 yL3 yL4 yL5
    have yTl := T0.out.lt
    have yXl := X0.out.lt
    have yCl := C0.out.lt
    have yLl := L0.out.lt
    go_upto_region 2 with (first | (go_at_call 12; with_reducible refine (HFew.out _).mono ?_; rintro e u1 ⟨rfl, hb1⟩; have T1 := Lib.hid (T0.out.below hb1); have X1 := Lib.hid (X0.out.below hb1); have C1 := Lib.hid (C0.out.below hb1); have L1 := Lib.hid (L0.out.below hb1); have O1 := Lib.hid (O0.out.below hb1); have P1 := Lib.hid (P0.out.below hb1); have Q1 := Lib.hid (Q0.out.below hb1); have R1 := Lib.hid (R0.out.below hb1); have E1 := Lib.hid (E0.out.below hb1); have F1 := Lib.hid (F0.out.below hb1); have G1 := Lib.hid (G0.out.below hb1); have H1 := Lib.hid (H0.out.below hb1); have HB1 := Lib.hid (HB0.out.trans (hb1.mono HB0.out.size)); clear hb1; have y1T0 := T1.out.cell 0; have y1T1 := T1.out.cell 1; have y1X0 := X1.out.cell 0; have y1X1 := X1.out.cell 1; have y1C0 := C1.out.cell 0; have y1C1 := C1.out.cell 1; have y1C2 := C1.out.cell 2; have y1L0 := L1.out.cell 0; have y1L1 := L1.out.cell 1; have y1L2 := L1.out.cell 2; have y1L3 := L1.out.cell 3; have y1L4 := L1.out.cell 4; have y1L5 := L1.out.cell 5; simp only [List.getElem?_toArray, List.getElem?_cons_zero, List.getElem?_cons_succ] at y1T0 y1T1 y1X0 y1X1 y1C0 y1C1 y1C2 y1L0 y1L1 y1L2 y1L3 y1L4 y1L5; have y1Tl := T1.out.lt; have y1Xl := X1.out.lt; have y1Cl := C1.out.lt; have y1Ll := L1.out.lt) | (go_at_call 50; with_reducible refine (HCob.out _).mono ?_; rintro e u2 ⟨rfl, hb2⟩; have T2 := Lib.hid (T1.out.below hb2); have X2 := Lib.hid (X1.out.below hb2); have C2 := Lib.hid (C1.out.below hb2); have L2 := Lib.hid (L1.out.below hb2); have O2 := Lib.hid (O1.out.below hb2); have P2 := Lib.hid (P1.out.below hb2); have Q2 := Lib.hid (Q1.out.below hb2); have R2 := Lib.hid (R1.out.below hb2); have E2 := Lib.hid (E1.out.below hb2); have F2 := Lib.hid (F1.out.below hb2); have G2 := Lib.hid (G1.out.below hb2); have H2 := Lib.hid (H1.out.below hb2); have HB2 := Lib.hid (HB1.out.trans (hb2.mono HB1.out.size)); clear hb2; have y2T0 := T2.out.cell 0; have y2T1 := T2.out.cell 1; have y2X0 := X2.out.cell 0; have y2X1 := X2.out.cell 1; have y2C0 := C2.out.cell 0; have y2C1 := C2.out.cell 1; have y2C2 := C2.out.cell 2; have y2L0 := L2.out.cell 0; have y2L1 := L2.out.cell 1; have y2L2 := L2.out.cell 2; have y2L3 := L2.out.cell 3; have y2L4 := L2.out.cell 4; have y2L5 := L2.out.cell 5; simp only [List.getElem?_toArray, List.getElem?_cons_zero, List.getElem?_cons_succ] at y2T0 y2T1 y2X0 y2X1 y2C0 y2C1 y2C2 y2L0 y2L1 y2L2 y2L3 y2L4 y2L5; have y2Tl := T2.out.lt; have y2Xl := X2.out.lt; have y2Cl := C2.out.lt; have y2Ll := L2.out.lt) | (go_at_call 50; with_reducible refine (HCob2.out _).mono ?_; rintro e u3 ⟨rfl, hb3⟩; have T3 := Lib.hid (T2.out.below hb3); have X3 := Lib.hid (X2.out.below hb3); have C3 := Lib.hid (C2.out.below hb3); have L3 := Lib.hid (L2.out.below hb3); have O3 := Lib.hid (O2.out.below hb3); have P3 := Lib.hid (P2.out.below hb3); have Q3 := Lib.hid (Q2.out.below hb3); have R3 := Lib.hid (R2.out.below hb3); have E3 := Lib.hid (E2.out.below hb3); have F3 := Lib.hid (F2.out.below hb3); have G3 := Lib.hid (G2.out.below hb3); have H3 := Lib.hid (H2.out.below hb3); have HB3 := Lib.hid (HB2.out.trans (hb3.mono HB2.out.size)); clear hb3; have y3T0 := T3.out.cell 0; have y3T1 := T3.out.cell 1; have y3X0 := X3.out.cell 0; have y3X1 := X3.out.cell 1; have y3C0 := C3.out.cell 0; have y3C1 := C3.out.cell 1; have y3C2 := C3.out.cell 2; have y3L0 := L3.out.cell 0; have y3L1 := L3.out.cell 1; have y3L2 := L3.out.cell 2; have y3L3 := L3.out.cell 3; have y3L4 := L3.out.cell 4; have y3L5 := L3.out.cell 5; simp only [List.getElem?_toArray, List.getElem?_cons_zero, List.getElem?_cons_succ] at y3T0 y3T1 y3X0 y3X1 y3C0 y3C1 y3C2 y3L0 y3L1 y3L2 y3L3 y3L4 y3L5; have y3Tl := T3.out.lt; have y3Xl := X3.out.lt; have y3Cl := C3.out.lt; have y3Ll := L3.out.lt))
    clear yT0 yT1 yX0 yX1 yC0 yC1 yC2 yL0 yL1 yL2 yL3 yL4 yL5 yTl yXl yCl yLl y1T0 y1T1 y1X0 y1X1 y1C0 y1C1 y1C2 y1L0 y1L1 y1L2 y1L3 y1L4 y1L5 y1Tl y1Xl y1Cl y1Ll y2T0 y2T1 y2X0 y2X1 y2C0 y2C1 y2C2 y2L0 y2L1 y2L2 y2L3 y2L4 y2L5 y2Tl y2Xl y2Cl y2Ll y3T0 y3T1 y3X0 y3X1 y3C0 y3C1 y3C2 y3L0 y3L1 y3L2 y3L3 y3L4 y3L5 y3Tl y3Xl y3Cl y3Ll T0 X0 C0 L0 O0 P0 Q0 R0 E0 F0 G0 H0 T1 X1 C1 L1 O1 P1 Q1 R1 E1 F1 G1 H1 T2 X2 C2 L2 O2 P2 Q2 R2 E2 F2 G2 H2 HB0 HB1 HB2
    have yT0 := T3.out.cell 0
    have yT1 := T3.out.cell 1
    have yX0 := X3.out.cell 0
    have yX1 := X3.out.cell 1
    have yC0 := C3.out.cell 0
    have yC1 := C3.out.cell 1
    have yC2 := C3.out.cell 2
    have yL0 := L3.out.cell 0
    have yL1 := L3.out.cell 1
    have yL2 := L3.out.cell 2
    have yL3 := L3.out.cell 3
    have yL4 := L3.out.cell 4
    have yL5 := L3.out.cell 5
    simp only [List.getElem?_toArray, List.getElem?_cons_zero, List.getElem?_cons_succ] at yT0 yT1 yX0 yX1 yC0 yC1 yC2 yL0 yL1 yL2 yL3 yL4 yL5
    have yTl := T3.out.lt
    have yXl := X3.out.lt
    have yCl := C3.out.lt
    have yLl := L3.out.lt
    go_wp2_with (go_at_call 13; with_reducible refine (HSan.out _).mono ?_; rintro e u4 ⟨rfl, hb4⟩; have T4 := Lib.hid (T3.out.below hb4); have X4 := Lib.hid (X3.out.below hb4); have C4 := Lib.hid (C3.out.below hb4); have L4 := Lib.hid (L3.out.below hb4); have O4 := Lib.hid (O3.out.below hb4); have P4 := Lib.hid (P3.out.below hb4); have Q4 := Lib.hid (Q3.out.below hb4); have R4 := Lib.hid (R3.out.below hb4); have E4 := Lib.hid (E3.out.below hb4); have F4 := Lib.hid (F3.out.below hb4); have G4 := Lib.hid (G3.out.below hb4); have H4 := Lib.hid (H3.out.below hb4); have HB4 := Lib.hid (HB3.out.trans (hb4.mono HB3.out.size)); clear hb4; have y4T0 := T4.out.cell 0; have y4T1 := T4.out.cell 1; have y4X0 := X4.out.cell 0; have y4X1 := X4.out.cell 1; have y4C0 := C4.out.cell 0; have y4C1 := C4.out.cell 1; have y4C2 := C4.out.cell 2; have y4L0 := L4.out.cell 0; have y4L1 := L4.out.cell 1; have y4L2 := L4.out.cell 2; have y4L3 := L4.out.cell 3; have y4L4 := L4.out.cell 4; have y4L5 := L4.out.cell 5; simp only [List.getElem?_toArray, List.getElem?_cons_zero, List.getElem?_cons_succ] at y4T0 y4T1 y4X0 y4X1 y4C0 y4C1 y4C2 y4L0 y4L1 y4L2 y4L3 y4L4 y4L5; have y4Tl := T4.out.lt; have y4Xl := X4.out.lt; have y4Cl := C4.out.lt; have y4Ll := L4.out.lt)
    exact bodyPost_ret (v := .bool true) (by simp [results, Tryz.results11, go_sem]) rfl ⟨rfl, HB4.out⟩
  | true =>
  by_cases hk60 : 60 < m4
  case pos =>
    have hkb : decide ((60 : Int) < (m4 : Int)) = true := decide_eq_true (by omega)
    have yT0 := T0.out.cell 0
    have yT1 := T0.out.cell 1
    have yX0 := X0.out.cell 0
    have yX1 := X0.out.cell 1
    have yC0 := C0.out.cell 0
    have yC1 := C0.out.cell 1
    have yC2 := C0.out.cell 2
    have yL0 := L0.out.cell 0
    have yL1 := L0.out.cell 1
    have yL2 := L0.out.cell 2
    have yL3 := L0.out.cell 3
    have yL4 := L0.out.cell 4
    have yL5 := L0.out.cell 5
    simp only [List.getElem?_toArray, List.getElem?_cons_zero, List.getElem?_cons_succ] at yT0 yT1 yX0 yX1 yC0 yC1 yC2 yL0 yL1 yL2 yL3 yL4 yL5
    have yTl := T0.out.lt
    have yXl := X0.out.lt
    have yCl := C0.out.lt
    have yLl := L0.out.lt
    go_upto_region 2 with (first | (go_at_call 12; with_reducible refine (HFew.out _).mono ?_; rintro e u1 ⟨rfl, hb1⟩; have T1 := Lib.hid (T0.out.below hb1); have X1 := Lib.hid (X0.out.below hb1); have C1 := Lib.hid (C0.out.below hb1); have L1 := Lib.hid (L0.out.below hb1); have O1 := Lib.hid (O0.out.below hb1); have P1 := Lib.hid (P0.out.below hb1); have Q1 := Lib.hid (Q0.out.below hb1); have R1 := Lib.hid (R0.out.below hb1); have E1 := Lib.hid (E0.out.below hb1); have F1 := Lib.hid (F0.out.below hb1); have G1 := Lib.hid (G0.out.below hb1); have H1 := Lib.hid (H0.out.below hb1); have HB1 := Lib.hid (HB0.out.trans (hb1.mono HB0.out.size)); clear hb1; have y1T0 := T1.out.cell 0; have y1T1 := T1.out.cell 1; have y1X0 := X1.out.cell 0; have y1X1 := X1.out.cell 1; have y1C0 := C1.out.cell 0; have y1C1 := C1.out.cell 1; have y1C2 := C1.out.cell 2; have y1L0 := L1.out.cell 0; have y1L1 := L1.out.cell 1; have y1L2 := L1.out.cell 2; have y1L3 := L1.out.cell 3; have y1L4 := L1.out.cell 4; have y1L5 := L1.out.cell 5; simp only [List.getElem?_toArray, List.getElem?_cons_zero, List.getElem?_cons_succ] at y1T0 y1T1 y1X0 y1X1 y1C0 y1C1 y1C2 y1L0 y1L1 y1L2 y1L3 y1L4 y1L5; have y1Tl := T1.out.lt; have y1Xl := X1.out.lt; have y1Cl := C1.out.lt; have y1Ll := L1.out.lt) | (go_at_call 50; with_reducible refine (HCob.out _).mono ?_; rintro e u2 ⟨rfl, hb2⟩; have T2 := Lib.hid (T1.out.below hb2); have X2 := Lib.hid (X1.out.below hb2); have C2 := Lib.hid (C1.out.below hb2); have L2 := Lib.hid (L1.out.below hb2); have O2 := Lib.hid (O1.out.below hb2); have P2 := Lib.hid (P1.out.below hb2); have Q2 := Lib.hid (Q1.out.below hb2); have R2 := Lib.hid (R1.out.below hb2); have E2 := Lib.hid (E1.out.below hb2); have F2 := Lib.hid (F1.out.below hb2); have G2 := Lib.hid (G1.out.below hb2); have H2 := Lib.hid (H1.out.below hb2); have HB2 := Lib.hid (HB1.out.trans (hb2.mono HB1.out.size)); clear hb2; have y2T0 := T2.out.cell 0; have y2T1 := T2.out.cell 1; have y2X0 := X2.out.cell 0; have y2X1 := X2.out.cell 1; have y2C0 := C2.out.cell 0; have y2C1 := C2.out.cell 1; have y2C2 := C2.out.cell 2; have y2L0 := L2.out.cell 0; have y2L1 := L2.out.cell 1; have y2L2 := L2.out.cell 2; have y2L3 := L2.out.cell 3; have y2L4 := L2.out.cell 4; have y2L5 := L2.out.cell 5; simp only [List.getElem?_toArray, List.getElem?_cons_zero, List.getElem?_cons_succ] at y2T0 y2T1 y2X0 y2X1 y2C0 y2C1 y2C2 y2L0 y2L1 y2L2 y2L3 y2L4 y2L5; have y2Tl := T2.out.lt; have y2Xl := X2.out.lt; have y2Cl := C2.out.lt; have y2Ll := L2.out.lt) | (go_at_call 50; with_reducible refine (HCob2.out _).mono ?_; rintro e u3 ⟨rfl, hb3⟩; have T3 := Lib.hid (T2.out.below hb3); have X3 := Lib.hid (X2.out.below hb3); have C3 := Lib.hid (C2.out.below hb3); have L3 := Lib.hid (L2.out.below hb3); have O3 := Lib.hid (O2.out.below hb3); have P3 := Lib.hid (P2.out.below hb3); have Q3 := Lib.hid (Q2.out.below hb3); have R3 := Lib.hid (R2.out.below hb3); have E3 := Lib.hid (E2.out.below hb3); have F3 := Lib.hid (F2.out.below hb3); have G3 := Lib.hid (G2.out.below hb3); have H3 := Lib.hid (H2.out.below hb3); have HB3 := Lib.hid (HB2.out.trans (hb3.mono HB2.out.size)); clear hb3; have y3T0 := T3.out.cell 0; have y3T1 := T3.out.cell 1; have y3X0 := X3.out.cell 0; have y3X1 := X3.out.cell 1; have y3C0 := C3.out.cell 0; have y3C1 := C3.out.cell 1; have y3C2 := C3.out.cell 2; have y3L0 := L3.out.cell 0; have y3L1 := L3.out.cell 1; have y3L2 := L3.out.cell 2; have y3L3 := L3.out.cell 3; have y3L4 := L3.out.cell 4; have y3L5 := L3.out.cell 5; simp only [List.getElem?_toArray, List.getElem?_cons_zero, List.getElem?_cons_succ] at y3T0 y3T1 y3X0 y3X1 y3C0 y3C1 y3C2 y3L0 y3L1 y3L2 y3L3 y3L4 y3L5; have y3Tl := T3.out.lt; have y3Xl := X3.out.lt; have y3Cl := C3.out.lt; have y3Ll := L3.out.lt))
    clear yT0 yT1 yX0 yX1 yC0 yC1 yC2 yL0 yL1 yL2 yL3 yL4 yL5 yTl yXl yCl yLl y1T0 y1T1 y1X0 y1X1 y1C0 y1C1 y1C2 y1L0 y1L1 y1L2 y1L3 y1L4 y1L5 y1Tl y1Xl y1Cl y1Ll y2T0 y2T1 y2X0 y2X1 y2C0 y2C1 y2C2 y2L0 y2L1 y2L2 y2L3 y2L4 y2L5 y2Tl y2Xl y2Cl y2Ll y3T0 y3T1 y3X0 y3X1 y3C0 y3C1 y3C2 y3L0 y3L1 y3L2 y3L3 y3L4 y3L5 y3Tl y3Xl y3Cl y3Ll T0 X0 C0 L0 O0 P0 Q0 R0 E0 F0 G0 H0 T1 X1 C1 L1 O1 P1 Q1 R1 E1 F1 G1 H1 T2 X2 C2 L2 O2 P2 Q2 R2 E2 F2 G2 H2 HB0 HB1 HB2
    have yT0 := T3.out.cell 0
    have yT1 := T3.out.cell 1
    have yX0 := X3.out.cell 0
    have yX1 := X3.out.cell 1
    have yC0 := C3.out.cell 0
    have yC1 := C3.out.cell 1
    have yC2 := C3.out.cell 2
    have yL0 := L3.out.cell 0
    have yL1 := L3.out.cell 1
    have yL2 := L3.out.cell 2
    have yL3 := L3.out.cell 3
    have yL4 := L3.out.cell 4
    have yL5 := L3.out.cell 5
    simp only [List.getElem?_toArray, List.getElem?_cons_zero, List.getElem?_cons_succ] at yT0 yT1 yX0 yX1 yC0 yC1 yC2 yL0 yL1 yL2 yL3 yL4 yL5
    have yTl := T3.out.lt
    have yXl := X3.out.lt
    have yCl := C3.out.lt
    have yLl := L3.out.lt
    go_wp2_with (go_at_call 13; with_reducible refine (HSan.out _).mono ?_; rintro e u4 ⟨rfl, hb4⟩; have T4 := Lib.hid (T3.out.below hb4); have X4 := Lib.hid (X3.out.below hb4); have C4 := Lib.hid (C3.out.below hb4); have L4 := Lib.hid (L3.out.below hb4); have O4 := Lib.hid (O3.out.below hb4); have P4 := Lib.hid (P3.out.below hb4); have Q4 := Lib.hid (Q3.out.below hb4); have R4 := Lib.hid (R3.out.below hb4); have E4 := Lib.hid (E3.out.below hb4); have F4 := Lib.hid (F3.out.below hb4); have G4 := Lib.hid (G3.out.below hb4); have H4 := Lib.hid (H3.out.below hb4); have HB4 := Lib.hid (HB3.out.trans (hb4.mono HB3.out.size)); clear hb4; have y4T0 := T4.out.cell 0; have y4T1 := T4.out.cell 1; have y4X0 := X4.out.cell 0; have y4X1 := X4.out.cell 1; have y4C0 := C4.out.cell 0; have y4C1 := C4.out.cell 1; have y4C2 := C4.out.cell 2; have y4L0 := L4.out.cell 0; have y4L1 := L4.out.cell 1; have y4L2 := L4.out.cell 2; have y4L3 := L4.out.cell 3; have y4L4 := L4.out.cell 4; have y4L5 := L4.out.cell 5; simp only [List.getElem?_toArray, List.getElem?_cons_zero, List.getElem?_cons_succ] at y4T0 y4T1 y4X0 y4X1 y4C0 y4C1 y4C2 y4L0 y4L1 y4L2 y4L3 y4L4 y4L5; have y4Tl := T4.out.lt; have y4Xl := X4.out.lt; have y4Cl := C4.out.lt; have y4Ll := L4.out.lt)
    exact bodyPost_ret (v := .bool true) (by simp [results, Tryz.results11, go_sem]) rfl ⟨rfl, HB4.out⟩
  case neg =>
  have hkb : decide ((60 : Int) < (m4 : Int)) = false := decide_eq_false (by omega)
  have yT0 := T0.out.cell 0
  have yT1 := T0.out.cell 1
  have yX0 := X0.out.cell 0
  have yX1 := X0.out.cell 1
  have yC0 := C0.out.cell 0
  have yC1 := C0.out.cell 1
  have yC2 := C0.out.cell 2
  have yL0 := L0.out.cell 0
  have yL1 := L0.out.cell 1
  have yL2 := L0.out.cell 2
  have yL3 := L0.out.cell 3
  have yL4 := L0.out.cell 4
  have yL5 := L0.out.cell 5
  simp only [List.getElem?_toArray, List.getElem?_cons_zero, List.getElem?_cons_succ] at yT0 yT1 yX0 yX1 yC0 yC1 yC2 yL0 yL1 yL2 yL3 yL4 yL5
  have yTl := T0.out.lt
  have yXl := X0.out.lt
  have yCl := C0.out.lt
  have yLl := L0.out.lt
  go_upto_region 3 with (first | (go_at_call 12; with_reducible refine (HFew.out _).mono ?_; rintro e u1 ⟨rfl, hb1⟩; have T1 := Lib.hid (T0.out.below hb1); have X1 := Lib.hid (X0.out.below hb1); have C1 := Lib.hid (C0.out.below hb1); have L1 := Lib.hid (L0.out.below hb1); have O1 := Lib.hid (O0.out.below hb1); have P1 := Lib.hid (P0.out.below hb1); have Q1 := Lib.hid (Q0.out.below hb1); have R1 := Lib.hid (R0.out.below hb1); have E1 := Lib.hid (E0.out.below hb1); have F1 := Lib.hid (F0.out.below hb1); have G1 := Lib.hid (G0.out.below hb1); have H1 := Lib.hid (H0.out.below hb1); have HB1 := Lib.hid (HB0.out.trans (hb1.mono HB0.out.size)); clear hb1; have y1T0 := T1.out.cell 0; have y1T1 := T1.out.cell 1; have y1X0 := X1.out.cell 0; have y1X1 := X1.out.cell 1; have y1C0 := C1.out.cell 0; have y1C1 := C1.out.cell 1; have y1C2 := C1.out.cell 2; have y1L0 := L1.out.cell 0; have y1L1 := L1.out.cell 1; have y1L2 := L1.out.cell 2; have y1L3 := L1.out.cell 3; have y1L4 := L1.out.cell 4; have y1L5 := L1.out.cell 5; simp only [List.getElem?_toArray, List.getElem?_cons_zero, List.getElem?_cons_succ] at y1T0 y1T1 y1X0 y1X1 y1C0 y1C1 y1C2 y1L0 y1L1 y1L2 y1L3 y1L4 y1L5; have y1Tl := T1.out.lt; have y1Xl := X1.out.lt; have y1Cl := C1.out.lt; have y1Ll := L1.out.lt) | (go_at_call 50; with_reducible refine (HCob.out _).mono ?_; rintro e u2 ⟨rfl, hb2⟩; have T2 := Lib.hid (T1.out.below hb2); have X2 := Lib.hid (X1.out.below hb2); have C2 := Lib.hid (C1.out.below hb2); have L2 := Lib.hid (L1.out.below hb2); have O2 := Lib.hid (O1.out.below hb2); have P2 := Lib.hid (P1.out.below hb2); have Q2 := Lib.hid (Q1.out.below hb2); have R2 := Lib.hid (R1.out.below hb2); have E2 := Lib.hid (E1.out.below hb2); have F2 := Lib.hid (F1.out.below hb2); have G2 := Lib.hid (G1.out.below hb2); have H2 := Lib.hid (H1.out.below hb2); have HB2 := Lib.hid (HB1.out.trans (hb2.mono HB1.out.size)); clear hb2; have y2T0 := T2.out.cell 0; have y2T1 := T2.out.cell 1; have y2X0 := X2.out.cell 0; have y2X1 := X2.out.cell 1; have y2C0 := C2.out.cell 0; have y2C1 := C2.out.cell 1; have y2C2 := C2.out.cell 2; have y2L0 := L2.out.cell 0; have y2L1 := L2.out.cell 1; have y2L2 := L2.out.cell 2; have y2L3 := L2.out.cell 3; have y2L4 := L2.out.cell 4; have y2L5 := L2.out.cell 5; simp only [List.getElem?_toArray, List.getElem?_cons_zero, List.getElem?_cons_succ] at y2T0 y2T1 y2X0 y2X1 y2C0 y2C1 y2C2 y2L0 y2L1 y2L2 y2L3 y2L4 y2L5; have y2Tl := T2.out.lt; have y2Xl := X2.out.lt; have y2Cl := C2.out.lt; have y2Ll := L2.out.lt) | (go_at_call 50; with_reducible refine (HCob2.out _).mono ?_; rintro e u3 ⟨rfl, hb3⟩; have T3 := Lib.hid (T2.out.below hb3); have X3 := Lib.hid (X2.out.below hb3); have C3 := Lib.hid (C2.out.below hb3); have L3 := Lib.hid (L2.out.below hb3); have O3 := Lib.hid (O2.out.below hb3); have P3 := Lib.hid (P2.out.below hb3); have Q3 := Lib.hid (Q2.out.below hb3); have R3 := Lib.hid (R2.out.below hb3); have E3 := Lib.hid (E2.out.below hb3); have F3 := Lib.hid (F2.out.below hb3); have G3 := Lib.hid (G2.out.below hb3); have H3 := Lib.hid (H2.out.below hb3); have HB3 := Lib.hid (HB2.out.trans (hb3.mono HB2.out.size)); clear hb3; have y3T0 := T3.out.cell 0; have y3T1 := T3.out.cell 1; have y3X0 := X3.out.cell 0; have y3X1 := X3.out.cell 1; have y3C0 := C3.out.cell 0; have y3C1 := C3.out.cell 1; have y3C2 := C3.out.cell 2; have y3L0 := L3.out.cell 0; have y3L1 := L3.out.cell 1; have y3L2 := L3.out.cell 2; have y3L3 := L3.out.cell 3; have y3L4 := L3.out.cell 4; have y3L5 := L3.out.cell 5; simp only [List.getElem?_toArray, List.getElem?_cons_zero, List.getElem?_cons_succ] at y3T0 y3T1 y3X0 y3X1 y3C0 y3C1 y3C2 y3L0 y3L1 y3L2 y3L3 y3L4 y3L5; have y3Tl := T3.out.lt; have y3Xl := X3.out.lt; have y3Cl := C3.out.lt; have y3Ll := L3.out.lt))
  clear yT0 yT1 yX0 yX1 yC0 yC1 yC2 yL0 yL1 yL2 yL3 yL4 yL5 yTl yXl yCl yLl y1T0 y1T1 y1X0 y1X1 y1C0 y1C1 y1C2 y1L0 y1L1 y1L2 y1L3 y1L4 y1L5 y1Tl y1Xl y1Cl y1Ll y2T0 y2T1 y2X0 y2X1 y2C0 y2C1 y2C2 y2L0 y2L1 y2L2 y2L3 y2L4 y2L5 y2Tl y2Xl y2Cl y2Ll y3T0 y3T1 y3X0 y3X1 y3C0 y3C1 y3C2 y3L0 y3L1 y3L2 y3L3 y3L4 y3L5 y3Tl y3Xl y3Cl y3Ll T0 X0 C0 L0 O0 P0 Q0 R0 E0 F0 G0 H0 T1 X1 C1 L1 O1 P1 Q1 R1 E1 F1 G1 H1 T2 X2 C2 L2 O2 P2 Q2 R2 E2 F2 G2 H2 HB0 HB1 HB2
  clear hkb
  have hm4 : m4 ≤ 1000000 := by omega
  clear hk60
  have hn9 : n ≤ 1000000 ∨ True := .inr trivial
  clear hn9
  have HLt := Lib.hid (fun (u : World) (hu : TR.Ok u ⟨A, n, c, B, m, d, hs, ms⟩) => (Least_any ⟨A, n, c, B, m, d, hs, ms⟩ kind id u hu).mono fun e w' h => ask_all h)
  have HGt := Lib.hid (fun (u : World) (hu : TR.Ok u ⟨A, n, c, B, m, d, hs, ms⟩) => (Greatest_any ⟨A, n, c, B, m, d, hs, ms⟩ kind id u hu).mono fun e w' h => ask_all h)
  have HCl := Lib.hid (fun (u : World) (hu : TR.Ok u ⟨A, n, c, B, m, d, hs, ms⟩) (q1 : SAt encI 1 u D1 m1 lst) (q2 : SAt encI 1 u D2 m2 len) (q3 : SAt encI 1 u D3 m3 lma) (q4 : SAt encI 1 u D4 m4 s) => CheckLimit_any ⟨A, n, c, B, m, d, hs, ms⟩ kind id val D1 m1 d1 D2 m2 d2 D3 m3 d3 way D4 m4 d4 lst len lma s gr u hu q1 q2 q3 q4 hm4)
  have HNo := Lib.hid (fun q : asE hs ms kind id ≠ 0 => ckLi_no (val := val) (st := lst) (en := len) (ma := lma) (way := way) (s := s) (gr := gr) q)
  have HEq := Lib.hid (fun (q : asE hs ms kind id = 0) (k : ckLi hs ms kind id val lst len lma way s gr = 0) => (show val = asV hs ms kind id gr from (ckLi_lim k).2.trans (asV_lim q gr).symm))
  have HOw := Lib.hid (fun (q : asE hs ms kind id = 0) (b : Bool) (st' en' ma' : List Int) (way' : Int) (s' : List Int) (k : LimF hs ms (placeN hs ms kind id) b st' en' ma' way' s') (e : valAt st' en' ma' (placeN hs ms kind id) = asV hs ms kind id b) => ckLi_own q k e)
  have HVl := Lib.hid (fun q : asE hs ms kind id = 0 => asV_le q)
  have HMd := Lib.hid (fun (q : asE hs ms kind id = 0) (mid : Int) (k1 : asV hs ms kind id false ≤ mid) (k2 : mid ≤ asV hs ms kind id true) => And.intro (mid_tv (asE_zero q).2.2.1 (asE_zero q).2.2.2 (show 0 ≤ mid by have := (asV_le q).1; omega) (show mid ≤ 65536 by have := (asV_le q).2.2; omega)) (mid_told (asE_zero q).2.2.1 (asE_zero q).2.2.2 (asE_zero q).2.1 (by rw [← asV_lim q]; exact k1) (by rw [← asV_lim q]; exact k2)))
  have HFc := Lib.hid (fun (q : asE hs ms kind id = 0) (k : fitsL hs ms st en ma = true) => (show asV hs ms kind id false ≤ (toldL hs ms kind id st en ma).1 ∧ (toldL hs ms kind id st en ma).1 ≤ asV hs ms kind id true by rw [asV_lim q, asV_lim q]; exact (told_fits (asE_zero q).2.2.1 k).2 (asE_zero q).1))
  have HTv := Lib.hid (fun q : asE hs ms kind id = 0 => (asE_zero q).2.2.1)
  have HAg := Lib.hid (fun q : asE hs ms kind id = 0 => (asE_zero q).2.1)
  have HCk := Lib.hid (fun q : ckCo hs ms st en ma = 0 => ckCo_fits q)
  obtain ⟨ck, hck⟩ : ∃ x, ckLi hs ms kind id val lst len lma way s gr = x := ⟨_, rfl⟩
  obtain ⟨lo, hlo⟩ : ∃ x, asV hs ms kind id false = x := ⟨_, rfl⟩
  obtain ⟨hi, hhi⟩ : ∃ x, asV hs ms kind id true = x := ⟨_, rfl⟩
  obtain ⟨ae, hae⟩ : ∃ x, asE hs ms kind id = x := ⟨_, rfl⟩
  have HOl := Lib.hid (fun q => HOw.out q false)
  have HOh := Lib.hid (fun q => HOw.out q true)
  have HEg := Lib.hid (show ae = 0 → ck = 0 → val = if gr = true then hi else lo from fun q k => by
    have := HEq.out (hae.trans q) (hck.trans k)
    cases gr
    · exact this.trans hlo
    · exact this.trans hhi)
  clear HOw HEq
  rw [hlo] at HVl HMd HFc HLt HOl
  rw [hhi] at HVl HMd HFc HGt HOh
  rw [hae] at HVl HMd HFc HLt HGt HOl HOh HNo HTv HAg
  rw [hck] at HNo HCl
  clear hck hlo hhi hae
  dsimp only [TR.v, vAt, vLi, vLim] at HLt HGt HCl
  have yT0 := T3.out.cell 0
  have yT1 := T3.out.cell 1
  have yX0 := X3.out.cell 0
  have yX1 := X3.out.cell 1
  have yC0 := C3.out.cell 0
  have yC1 := C3.out.cell 1
  have yC2 := C3.out.cell 2
  have yL0 := L3.out.cell 0
  have yL1 := L3.out.cell 1
  have yL2 := L3.out.cell 2
  have yL3 := L3.out.cell 3
  have yL4 := L3.out.cell 4
  have yL5 := L3.out.cell 5
  simp only [List.getElem?_toArray, List.getElem?_cons_zero, List.getElem?_cons_succ] at yT0 yT1 yX0 yX1 yC0 yC1 yC2 yL0 yL1 yL2 yL3 yL4 yL5
  have yTl := T3.out.lt
  have yXl := X3.out.lt
  have yCl := C3.out.lt
  have yLl := L3.out.lt
  have HC := Lib.hid (HLt.out _ O3.out)
  try dsimp only [TR.v, vCt] at HC
  go_upto_region 4 with (go_at_call 46; with_reducible refine HC.out.mono ?_; rintro e u4 ⟨J1, jn1, jc1, J2, jn2, jc2, J3, jn3, jc3, jw, J4, jn4, jc4, jst, jen, jma, js, rfl, k1, k2, k3, k4, kb, _, kf, _, hb⟩)
  clear yT0 yT1 yX0 yX1 yC0 yC1 yC2 yL0 yL1 yL2 yL3 yL4 yL5 yTl yXl yCl yLl
  clear HC
  have bn := hb
  have bq : Below u4.heap.size u4 (u4.alloc (.cells #[.int .i64 lo, .slice J1 jn1 jc1, .slice J2 jn2 jc2, .slice J3 jn3 jc3, .int .i64 jw, .slice J4 jn4 jc4] 95)) := ((Below.refl u4.heap.size u4).alloc (Nat.le_refl _) _)
  have bn := hb.trans (bq.mono hb.size)
  have T4 := Lib.hid (T3.out.below bn)
  have X4 := Lib.hid (X3.out.below bn)
  have C4 := Lib.hid (C3.out.below bn)
  have L4 := Lib.hid (L3.out.below bn)
  have O4 := Lib.hid (O3.out.below bn)
  have P4 := Lib.hid (P3.out.below bn)
  have Q4 := Lib.hid (Q3.out.below bn)
  have R4 := Lib.hid (R3.out.below bn)
  have E4 := Lib.hid (E3.out.below bn)
  have F4 := Lib.hid (F3.out.below bn)
  have G4 := Lib.hid (G3.out.below bn)
  have H4 := Lib.hid (H3.out.below bn)
  have HB4 := Lib.hid (HB3.out.trans (bn.mono HB3.out.size))
  have KAf4 := Lib.hid ((k1).below bq)
  have KBf4 := Lib.hid ((k2).below bq)
  have KCf4 := Lib.hid ((k3).below bq)
  have KDf4 := Lib.hid ((k4).below bq)
  have La4 : Hid (Blk (u4.alloc (.cells #[.int .i64 lo, .slice J1 jn1 jc1, .slice J2 jn2 jc2, .slice J3 jn3 jc3, .int .i64 jw, .slice J4 jn4 jc4] 95)) u4.heap.size 95 #[.int .i64 lo, .slice J1 jn1 jc1, .slice J2 jn2 jc2, .slice J3 jn3 jc3, .int .i64 jw, .slice J4 jn4 jc4]) := Lib.hid (Blk.at_new 95 #[.int .i64 lo, .slice J1 jn1 jc1, .slice J2 jn2 jc2, .slice J3 jn3 jc3, .int .i64 jw, .slice J4 jn4 jc4] rfl)
  generalize hV : u4.alloc (.cells #[.int .i64 lo, .slice J1 jn1 jc1, .slice J2 jn2 jc2, .slice J3 jn3 jc3, .int .i64 jw, .slice J4 jn4 jc4] 95) = V4 at *
  generalize hp : u4.heap.size = p4 at *
  clear hV hp bq
  clear hb bn T3 X3 C3 L3 O3 P3 Q3 R3 E3 F3 G3 H3 HB3
  have HBf := Lib.hid (show jn4 ≤ 1000000 by omega)
  have HUf := Lib.hid kf
  clear k1 k2 k3 k4 kb kf
  have yT0 := T4.out.cell 0
  have yT1 := T4.out.cell 1
  have yX0 := X4.out.cell 0
  have yX1 := X4.out.cell 1
  have yC0 := C4.out.cell 0
  have yC1 := C4.out.cell 1
  have yC2 := C4.out.cell 2
  have yL0 := L4.out.cell 0
  have yL1 := L4.out.cell 1
  have yL2 := L4.out.cell 2
  have yL3 := L4.out.cell 3
  have yL4 := L4.out.cell 4
  have yL5 := L4.out.cell 5
  have yLa0 := La4.out.cell 0
  have yLa1 := La4.out.cell 1
  have yLa2 := La4.out.cell 2
  have yLa3 := La4.out.cell 3
  have yLa4 := La4.out.cell 4
  have yLa5 := La4.out.cell 5
  simp only [List.getElem?_toArray, List.getElem?_cons_zero, List.getElem?_cons_succ] at yT0 yT1 yX0 yX1 yC0 yC1 yC2 yL0 yL1 yL2 yL3 yL4 yL5 yLa0 yLa1 yLa2 yLa3 yLa4 yLa5
  have yTl := T4.out.lt
  have yXl := X4.out.lt
  have yCl := C4.out.lt
  have yLl := L4.out.lt
  have yLal := La4.out.lt
  have HC := Lib.hid (HGt.out _ O4.out)
  try dsimp only [TR.v, vCt] at HC
  go_upto_region 5 with (go_at_call 47; with_reducible refine HC.out.mono ?_; rintro e u5 ⟨I1, in1, ic1, I2, in2, ic2, I3, in3, ic3, iw, I4, in4, ic4, ist, ien, ima, is, rfl, k1, k2, k3, k4, kb, _, kf, _, hb⟩)
  clear yT0 yT1 yX0 yX1 yC0 yC1 yC2 yL0 yL1 yL2 yL3 yL4 yL5 yLa0 yLa1 yLa2 yLa3 yLa4 yLa5 yTl yXl yCl yLl yLal
  clear HC
  have bn := hb
  have bq : Below u5.heap.size u5 (u5.alloc (.cells #[.int .i64 hi, .slice I1 in1 ic1, .slice I2 in2 ic2, .slice I3 in3 ic3, .int .i64 iw, .slice I4 in4 ic4] 95)) := ((Below.refl u5.heap.size u5).alloc (Nat.le_refl _) _)
  have bn := hb.trans (bq.mono hb.size)
  have T5 := Lib.hid (T4.out.below bn)
  have X5 := Lib.hid (X4.out.below bn)
  have C5 := Lib.hid (C4.out.below bn)
  have L5 := Lib.hid (L4.out.below bn)
  have O5 := Lib.hid (O4.out.below bn)
  have P5 := Lib.hid (P4.out.below bn)
  have Q5 := Lib.hid (Q4.out.below bn)
  have R5 := Lib.hid (R4.out.below bn)
  have E5 := Lib.hid (E4.out.below bn)
  have F5 := Lib.hid (F4.out.below bn)
  have G5 := Lib.hid (G4.out.below bn)
  have H5 := Lib.hid (H4.out.below bn)
  have La5 := Lib.hid (La4.out.below bn)
  have KAf5 := Lib.hid (KAf4.out.below bn)
  have KBf5 := Lib.hid (KBf4.out.below bn)
  have KCf5 := Lib.hid (KCf4.out.below bn)
  have KDf5 := Lib.hid (KDf4.out.below bn)
  have HB5 := Lib.hid (HB4.out.trans (bn.mono HB4.out.size))
  have KAg5 := Lib.hid ((k1).below bq)
  have KBg5 := Lib.hid ((k2).below bq)
  have KCg5 := Lib.hid ((k3).below bq)
  have KDg5 := Lib.hid ((k4).below bq)
  have Lb5 : Hid (Blk (u5.alloc (.cells #[.int .i64 hi, .slice I1 in1 ic1, .slice I2 in2 ic2, .slice I3 in3 ic3, .int .i64 iw, .slice I4 in4 ic4] 95)) u5.heap.size 95 #[.int .i64 hi, .slice I1 in1 ic1, .slice I2 in2 ic2, .slice I3 in3 ic3, .int .i64 iw, .slice I4 in4 ic4]) := Lib.hid (Blk.at_new 95 #[.int .i64 hi, .slice I1 in1 ic1, .slice I2 in2 ic2, .slice I3 in3 ic3, .int .i64 iw, .slice I4 in4 ic4] rfl)
  generalize hV : u5.alloc (.cells #[.int .i64 hi, .slice I1 in1 ic1, .slice I2 in2 ic2, .slice I3 in3 ic3, .int .i64 iw, .slice I4 in4 ic4] 95) = V5 at *
  generalize hp : u5.heap.size = p5 at *
  clear hV hp bq
  clear hb bn T4 X4 C4 L4 O4 P4 Q4 R4 E4 F4 G4 H4 La4 KAf4 KBf4 KCf4 KDf4 HB4
  have HBg := Lib.hid (show in4 ≤ 1000000 by omega)
  have HUg := Lib.hid kf
  clear k1 k2 k3 k4 kb kf
  by_cases h1 : ae = 0
  case neg =>
    have h1b : (ae != 0) = true := by simpa using h1
    have h2 := HNo.out h1
    have h2b : (ck != 0) = true := by simpa using h2
    clear h1 h2
    have yT0 := T5.out.cell 0
    have yT1 := T5.out.cell 1
    have yX0 := X5.out.cell 0
    have yX1 := X5.out.cell 1
    have yC0 := C5.out.cell 0
    have yC1 := C5.out.cell 1
    have yC2 := C5.out.cell 2
    have yL0 := L5.out.cell 0
    have yL1 := L5.out.cell 1
    have yL2 := L5.out.cell 2
    have yL3 := L5.out.cell 3
    have yL4 := L5.out.cell 4
    have yL5 := L5.out.cell 5
    have yLa0 := La5.out.cell 0
    have yLa1 := La5.out.cell 1
    have yLa2 := La5.out.cell 2
    have yLa3 := La5.out.cell 3
    have yLa4 := La5.out.cell 4
    have yLa5 := La5.out.cell 5
    have yLb0 := Lb5.out.cell 0
    have yLb1 := Lb5.out.cell 1
    have yLb2 := Lb5.out.cell 2
    have yLb3 := Lb5.out.cell 3
    have yLb4 := Lb5.out.cell 4
    have yLb5 := Lb5.out.cell 5
    simp only [List.getElem?_toArray, List.getElem?_cons_zero, List.getElem?_cons_succ] at yT0 yT1 yX0 yX1 yC0 yC1 yC2 yL0 yL1 yL2 yL3 yL4 yL5 yLa0 yLa1 yLa2 yLa3 yLa4 yLa5 yLb0 yLb1 yLb2 yLb3 yLb4 yLb5
    have yTl := T5.out.lt
    have yXl := X5.out.lt
    have yCl := C5.out.lt
    have yLl := L5.out.lt
    have yLal := La5.out.lt
    have yLbl := Lb5.out.lt
    go_wp2_with (first | (go_at_call 13; with_reducible refine (HSan.out _).mono ?_; rintro e u6 ⟨rfl, hb6⟩; have T6 := Lib.hid (T5.out.below hb6); have X6 := Lib.hid (X5.out.below hb6); have C6 := Lib.hid (C5.out.below hb6); have L6 := Lib.hid (L5.out.below hb6); have O6 := Lib.hid (O5.out.below hb6); have P6 := Lib.hid (P5.out.below hb6); have Q6 := Lib.hid (Q5.out.below hb6); have R6 := Lib.hid (R5.out.below hb6); have E6 := Lib.hid (E5.out.below hb6); have F6 := Lib.hid (F5.out.below hb6); have G6 := Lib.hid (G5.out.below hb6); have H6 := Lib.hid (H5.out.below hb6); have La6 := Lib.hid (La5.out.below hb6); have KAf6 := Lib.hid (KAf5.out.below hb6); have KBf6 := Lib.hid (KBf5.out.below hb6); have KCf6 := Lib.hid (KCf5.out.below hb6); have KDf6 := Lib.hid (KDf5.out.below hb6); have Lb6 := Lib.hid (Lb5.out.below hb6); have KAg6 := Lib.hid (KAg5.out.below hb6); have KBg6 := Lib.hid (KBg5.out.below hb6); have KCg6 := Lib.hid (KCg5.out.below hb6); have KDg6 := Lib.hid (KDg5.out.below hb6); have HB6 := Lib.hid (HB5.out.trans (hb6.mono HB5.out.size)); clear hb6; have y6T0 := T6.out.cell 0; have y6T1 := T6.out.cell 1; have y6X0 := X6.out.cell 0; have y6X1 := X6.out.cell 1; have y6C0 := C6.out.cell 0; have y6C1 := C6.out.cell 1; have y6C2 := C6.out.cell 2; have y6L0 := L6.out.cell 0; have y6L1 := L6.out.cell 1; have y6L2 := L6.out.cell 2; have y6L3 := L6.out.cell 3; have y6L4 := L6.out.cell 4; have y6L5 := L6.out.cell 5; have y6La0 := La6.out.cell 0; have y6La1 := La6.out.cell 1; have y6La2 := La6.out.cell 2; have y6La3 := La6.out.cell 3; have y6La4 := La6.out.cell 4; have y6La5 := La6.out.cell 5; have y6Lb0 := Lb6.out.cell 0; have y6Lb1 := Lb6.out.cell 1; have y6Lb2 := Lb6.out.cell 2; have y6Lb3 := Lb6.out.cell 3; have y6Lb4 := Lb6.out.cell 4; have y6Lb5 := Lb6.out.cell 5; simp only [List.getElem?_toArray, List.getElem?_cons_zero, List.getElem?_cons_succ] at y6T0 y6T1 y6X0 y6X1 y6C0 y6C1 y6C2 y6L0 y6L1 y6L2 y6L3 y6L4 y6L5 y6La0 y6La1 y6La2 y6La3 y6La4 y6La5 y6Lb0 y6Lb1 y6Lb2 y6Lb3 y6Lb4 y6Lb5; have y6Tl := T6.out.lt; have y6Xl := X6.out.lt; have y6Cl := C6.out.lt; have y6Ll := L6.out.lt; have y6Lal := La6.out.lt; have y6Lbl := Lb6.out.lt) | (go_at_call 49; with_reducible refine (HCl.out _ O6.out E6.out F6.out G6.out H6.out).mono ?_; rintro e u7 ⟨rfl, hb7⟩; have T7 := Lib.hid (T6.out.below hb7); have X7 := Lib.hid (X6.out.below hb7); have C7 := Lib.hid (C6.out.below hb7); have L7 := Lib.hid (L6.out.below hb7); have O7 := Lib.hid (O6.out.below hb7); have P7 := Lib.hid (P6.out.below hb7); have Q7 := Lib.hid (Q6.out.below hb7); have R7 := Lib.hid (R6.out.below hb7); have E7 := Lib.hid (E6.out.below hb7); have F7 := Lib.hid (F6.out.below hb7); have G7 := Lib.hid (G6.out.below hb7); have H7 := Lib.hid (H6.out.below hb7); have La7 := Lib.hid (La6.out.below hb7); have KAf7 := Lib.hid (KAf6.out.below hb7); have KBf7 := Lib.hid (KBf6.out.below hb7); have KCf7 := Lib.hid (KCf6.out.below hb7); have KDf7 := Lib.hid (KDf6.out.below hb7); have Lb7 := Lib.hid (Lb6.out.below hb7); have KAg7 := Lib.hid (KAg6.out.below hb7); have KBg7 := Lib.hid (KBg6.out.below hb7); have KCg7 := Lib.hid (KCg6.out.below hb7); have KDg7 := Lib.hid (KDg6.out.below hb7); have HB7 := Lib.hid (HB6.out.trans (hb7.mono HB6.out.size)); clear hb7; have y7T0 := T7.out.cell 0; have y7T1 := T7.out.cell 1; have y7X0 := X7.out.cell 0; have y7X1 := X7.out.cell 1; have y7C0 := C7.out.cell 0; have y7C1 := C7.out.cell 1; have y7C2 := C7.out.cell 2; have y7L0 := L7.out.cell 0; have y7L1 := L7.out.cell 1; have y7L2 := L7.out.cell 2; have y7L3 := L7.out.cell 3; have y7L4 := L7.out.cell 4; have y7L5 := L7.out.cell 5; have y7La0 := La7.out.cell 0; have y7La1 := La7.out.cell 1; have y7La2 := La7.out.cell 2; have y7La3 := La7.out.cell 3; have y7La4 := La7.out.cell 4; have y7La5 := La7.out.cell 5; have y7Lb0 := Lb7.out.cell 0; have y7Lb1 := Lb7.out.cell 1; have y7Lb2 := Lb7.out.cell 2; have y7Lb3 := Lb7.out.cell 3; have y7Lb4 := Lb7.out.cell 4; have y7Lb5 := Lb7.out.cell 5; simp only [List.getElem?_toArray, List.getElem?_cons_zero, List.getElem?_cons_succ] at y7T0 y7T1 y7X0 y7X1 y7C0 y7C1 y7C2 y7L0 y7L1 y7L2 y7L3 y7L4 y7L5 y7La0 y7La1 y7La2 y7La3 y7La4 y7La5 y7Lb0 y7Lb1 y7Lb2 y7Lb3 y7Lb4 y7Lb5; have y7Tl := T7.out.lt; have y7Xl := X7.out.lt; have y7Cl := C7.out.lt; have y7Ll := L7.out.lt; have y7Lal := La7.out.lt; have y7Lbl := Lb7.out.lt))
    exact bodyPost_ret (v := .bool true) (by simp [results, Tryz.results11, go_sem]) rfl ⟨rfl, HB7.out⟩
  case pos =>
  obtain ⟨hv0, hv1, hv2⟩ := HVl.out h1
  have HVv := Lib.hid (show 0 ≤ lo ∧ lo ≤ hi ∧ hi ≤ 65536 from ⟨hv0, hv1, hv2⟩)
  obtain ⟨x1, x2⟩ := HUf.out h1
  obtain ⟨y1, y2⟩ := HUg.out h1
  have HZf := Lib.hid (HOl.out h1 _ _ _ _ _ x1 x2)
  have HZg := Lib.hid (HOh.out h1 _ _ _ _ _ y1 y2)
  have HCf := Lib.hid (fun (u : World) (hu : TR.Ok u ⟨A, n, c, B, m, d, hs, ms⟩) (q1 : SAt encI 1 u J1 jn1 jst) (q2 : SAt encI 1 u J2 jn2 jen) (q3 : SAt encI 1 u J3 jn3 jma) (q4 : SAt encI 1 u J4 jn4 js) => CheckLimit_any ⟨A, n, c, B, m, d, hs, ms⟩ kind id lo J1 jn1 jc1 J2 jn2 jc2 J3 jn3 jc3 jw J4 jn4 jc4 jst jen jma js false u hu q1 q2 q3 q4 HBf.out)
  have HCg := Lib.hid (fun (u : World) (hu : TR.Ok u ⟨A, n, c, B, m, d, hs, ms⟩) (q1 : SAt encI 1 u I1 in1 ist) (q2 : SAt encI 1 u I2 in2 ien) (q3 : SAt encI 1 u I3 in3 ima) (q4 : SAt encI 1 u I4 in4 is) => CheckLimit_any ⟨A, n, c, B, m, d, hs, ms⟩ kind id hi I1 in1 ic1 I2 in2 ic2 I3 in3 ic3 iw I4 in4 ic4 ist ien ima is true u hu q1 q2 q3 q4 HBg.out)
  rw [HZf.out] at HCf
  rw [HZg.out] at HCg
  dsimp only [TR.v, vAt, vLim] at HCf HCg
  have HTV := Lib.hid (HTv.out h1)
  have HAE := Lib.hid (HAg.out h1)
  have HLM := Lib.hid (fun (mid : Int) (k1 : lo ≤ mid) (k2 : mid ≤ hi) => HMd.out h1 mid k1 k2)
  have HFC := Lib.hid (fun (k : fitsL hs ms st en ma = true) => HFc.out h1 k)
  have HEG := Lib.hid (fun k : ck = 0 => HEg.out h1 k)
  have hlb : decide (hi < lo) = false := decide_eq_false (by omega)
  have HLh := Lib.hid (show hs.length = n from O5.out.h.len)
  have HLm := Lib.hid (show ms.length = m from O5.out.m.len)
  have hn9 : n ≤ 9 := by rw [← HLh.out]; exact HTV.out.lenH
  have hm24 : m ≤ 24 := by rw [← HLm.out]; exact HTV.out.lenM
  subst h1
  clear x1 x2 y1 y2 HUf HUg HZf HZg HOl HOh HVl HTv HAg HMd HFc HEg HNo hv0 hv1 hv2
  have yT0 := T5.out.cell 0
  have yT1 := T5.out.cell 1
  have yX0 := X5.out.cell 0
  have yX1 := X5.out.cell 1
  have yC0 := C5.out.cell 0
  have yC1 := C5.out.cell 1
  have yC2 := C5.out.cell 2
  have yL0 := L5.out.cell 0
  have yL1 := L5.out.cell 1
  have yL2 := L5.out.cell 2
  have yL3 := L5.out.cell 3
  have yL4 := L5.out.cell 4
  have yL5 := L5.out.cell 5
  have yLa0 := La5.out.cell 0
  have yLa1 := La5.out.cell 1
  have yLa2 := La5.out.cell 2
  have yLa3 := La5.out.cell 3
  have yLa4 := La5.out.cell 4
  have yLa5 := La5.out.cell 5
  have yLb0 := Lb5.out.cell 0
  have yLb1 := Lb5.out.cell 1
  have yLb2 := Lb5.out.cell 2
  have yLb3 := Lb5.out.cell 3
  have yLb4 := Lb5.out.cell 4
  have yLb5 := Lb5.out.cell 5
  simp only [List.getElem?_toArray, List.getElem?_cons_zero, List.getElem?_cons_succ] at yT0 yT1 yX0 yX1 yC0 yC1 yC2 yL0 yL1 yL2 yL3 yL4 yL5 yLa0 yLa1 yLa2 yLa3 yLa4 yLa5 yLb0 yLb1 yLb2 yLb3 yLb4 yLb5
  have yTl := T5.out.lt
  have yXl := X5.out.lt
  have yCl := C5.out.lt
  have yLl := L5.out.lt
  have yLal := La5.out.lt
  have yLbl := Lb5.out.lt
  go_upto_region 11 with (first | (go_at_call 49; with_reducible refine (HCf.out _ O5.out KAf5.out KBf5.out KCf5.out KDf5.out).mono ?_; rintro e u6 ⟨rfl, hb6⟩; have T6 := Lib.hid (T5.out.below hb6); have X6 := Lib.hid (X5.out.below hb6); have C6 := Lib.hid (C5.out.below hb6); have L6 := Lib.hid (L5.out.below hb6); have O6 := Lib.hid (O5.out.below hb6); have P6 := Lib.hid (P5.out.below hb6); have Q6 := Lib.hid (Q5.out.below hb6); have R6 := Lib.hid (R5.out.below hb6); have E6 := Lib.hid (E5.out.below hb6); have F6 := Lib.hid (F5.out.below hb6); have G6 := Lib.hid (G5.out.below hb6); have H6 := Lib.hid (H5.out.below hb6); have La6 := Lib.hid (La5.out.below hb6); have KAf6 := Lib.hid (KAf5.out.below hb6); have KBf6 := Lib.hid (KBf5.out.below hb6); have KCf6 := Lib.hid (KCf5.out.below hb6); have KDf6 := Lib.hid (KDf5.out.below hb6); have Lb6 := Lib.hid (Lb5.out.below hb6); have KAg6 := Lib.hid (KAg5.out.below hb6); have KBg6 := Lib.hid (KBg5.out.below hb6); have KCg6 := Lib.hid (KCg5.out.below hb6); have KDg6 := Lib.hid (KDg5.out.below hb6); have HB6 := Lib.hid (HB5.out.trans (hb6.mono HB5.out.size)); clear hb6; have y6T0 := T6.out.cell 0; have y6T1 := T6.out.cell 1; have y6X0 := X6.out.cell 0; have y6X1 := X6.out.cell 1; have y6C0 := C6.out.cell 0; have y6C1 := C6.out.cell 1; have y6C2 := C6.out.cell 2; have y6L0 := L6.out.cell 0; have y6L1 := L6.out.cell 1; have y6L2 := L6.out.cell 2; have y6L3 := L6.out.cell 3; have y6L4 := L6.out.cell 4; have y6L5 := L6.out.cell 5; have y6La0 := La6.out.cell 0; have y6La1 := La6.out.cell 1; have y6La2 := La6.out.cell 2; have y6La3 := La6.out.cell 3; have y6La4 := La6.out.cell 4; have y6La5 := La6.out.cell 5; have y6Lb0 := Lb6.out.cell 0; have y6Lb1 := Lb6.out.cell 1; have y6Lb2 := Lb6.out.cell 2; have y6Lb3 := Lb6.out.cell 3; have y6Lb4 := Lb6.out.cell 4; have y6Lb5 := Lb6.out.cell 5; simp only [List.getElem?_toArray, List.getElem?_cons_zero, List.getElem?_cons_succ] at y6T0 y6T1 y6X0 y6X1 y6C0 y6C1 y6C2 y6L0 y6L1 y6L2 y6L3 y6L4 y6L5 y6La0 y6La1 y6La2 y6La3 y6La4 y6La5 y6Lb0 y6Lb1 y6Lb2 y6Lb3 y6Lb4 y6Lb5; have y6Tl := T6.out.lt; have y6Xl := X6.out.lt; have y6Cl := C6.out.lt; have y6Ll := L6.out.lt; have y6Lal := La6.out.lt; have y6Lbl := Lb6.out.lt) | (go_at_call 49; with_reducible refine (HCg.out _ O6.out KAg6.out KBg6.out KCg6.out KDg6.out).mono ?_; rintro e u7 ⟨rfl, hb7⟩; have T7 := Lib.hid (T6.out.below hb7); have X7 := Lib.hid (X6.out.below hb7); have C7 := Lib.hid (C6.out.below hb7); have L7 := Lib.hid (L6.out.below hb7); have O7 := Lib.hid (O6.out.below hb7); have P7 := Lib.hid (P6.out.below hb7); have Q7 := Lib.hid (Q6.out.below hb7); have R7 := Lib.hid (R6.out.below hb7); have E7 := Lib.hid (E6.out.below hb7); have F7 := Lib.hid (F6.out.below hb7); have G7 := Lib.hid (G6.out.below hb7); have H7 := Lib.hid (H6.out.below hb7); have La7 := Lib.hid (La6.out.below hb7); have KAf7 := Lib.hid (KAf6.out.below hb7); have KBf7 := Lib.hid (KBf6.out.below hb7); have KCf7 := Lib.hid (KCf6.out.below hb7); have KDf7 := Lib.hid (KDf6.out.below hb7); have Lb7 := Lib.hid (Lb6.out.below hb7); have KAg7 := Lib.hid (KAg6.out.below hb7); have KBg7 := Lib.hid (KBg6.out.below hb7); have KCg7 := Lib.hid (KCg6.out.below hb7); have KDg7 := Lib.hid (KDg6.out.below hb7); have HB7 := Lib.hid (HB6.out.trans (hb7.mono HB6.out.size)); clear hb7; have y7T0 := T7.out.cell 0; have y7T1 := T7.out.cell 1; have y7X0 := X7.out.cell 0; have y7X1 := X7.out.cell 1; have y7C0 := C7.out.cell 0; have y7C1 := C7.out.cell 1; have y7C2 := C7.out.cell 2; have y7L0 := L7.out.cell 0; have y7L1 := L7.out.cell 1; have y7L2 := L7.out.cell 2; have y7L3 := L7.out.cell 3; have y7L4 := L7.out.cell 4; have y7L5 := L7.out.cell 5; have y7La0 := La7.out.cell 0; have y7La1 := La7.out.cell 1; have y7La2 := La7.out.cell 2; have y7La3 := La7.out.cell 3; have y7La4 := La7.out.cell 4; have y7La5 := La7.out.cell 5; have y7Lb0 := Lb7.out.cell 0; have y7Lb1 := Lb7.out.cell 1; have y7Lb2 := Lb7.out.cell 2; have y7Lb3 := Lb7.out.cell 3; have y7Lb4 := Lb7.out.cell 4; have y7Lb5 := Lb7.out.cell 5; simp only [List.getElem?_toArray, List.getElem?_cons_zero, List.getElem?_cons_succ] at y7T0 y7T1 y7X0 y7X1 y7C0 y7C1 y7C2 y7L0 y7L1 y7L2 y7L3 y7L4 y7L5 y7La0 y7La1 y7La2 y7La3 y7La4 y7La5 y7Lb0 y7Lb1 y7Lb2 y7Lb3 y7Lb4 y7Lb5; have y7Tl := T7.out.lt; have y7Xl := X7.out.lt; have y7Cl := C7.out.lt; have y7Ll := L7.out.lt; have y7Lal := La7.out.lt; have y7Lbl := Lb7.out.lt))
  clear yT0 yT1 yX0 yX1 yC0 yC1 yC2 yL0 yL1 yL2 yL3 yL4 yL5 yLa0 yLa1 yLa2 yLa3 yLa4 yLa5 yLb0 yLb1 yLb2 yLb3 yLb4 yLb5 yTl yXl yCl yLl yLal yLbl y6T0 y6T1 y6X0 y6X1 y6C0 y6C1 y6C2 y6L0 y6L1 y6L2 y6L3 y6L4 y6L5 y6La0 y6La1 y6La2 y6La3 y6La4 y6La5 y6Lb0 y6Lb1 y6Lb2 y6Lb3 y6Lb4 y6Lb5 y6Tl y6Xl y6Cl y6Ll y6Lal y6Lbl y7T0 y7T1 y7X0 y7X1 y7C0 y7C1 y7C2 y7L0 y7L1 y7L2 y7L3 y7L4 y7L5 y7La0 y7La1 y7La2 y7La3 y7La4 y7La5 y7Lb0 y7Lb1 y7Lb2 y7Lb3 y7Lb4 y7Lb5 y7Tl y7Xl y7Cl y7Ll y7Lal y7Lbl T5 X5 C5 L5 O5 P5 Q5 R5 E5 F5 G5 H5 La5 KAf5 KBf5 KCf5 KDf5 Lb5 KAg5 KBg5 KCg5 KDg5 T6 X6 C6 L6 O6 P6 Q6 R6 E6 F6 G6 H6 La6 KAf6 KBf6 KCf6 KDf6 Lb6 KAg6 KBg6 KCg6 KDg6 HB5 HB6
  have yT0 := T7.out.cell 0
  have yT1 := T7.out.cell 1
  have yX0 := X7.out.cell 0
  have yX1 := X7.out.cell 1
  have yC0 := C7.out.cell 0
  have yC1 := C7.out.cell 1
  have yC2 := C7.out.cell 2
  have yL0 := L7.out.cell 0
  have yL1 := L7.out.cell 1
  have yL2 := L7.out.cell 2
  have yL3 := L7.out.cell 3
  have yL4 := L7.out.cell 4
  have yL5 := L7.out.cell 5
  have yLa0 := La7.out.cell 0
  have yLa1 := La7.out.cell 1
  have yLa2 := La7.out.cell 2
  have yLa3 := La7.out.cell 3
  have yLa4 := La7.out.cell 4
  have yLa5 := La7.out.cell 5
  have yLb0 := Lb7.out.cell 0
  have yLb1 := Lb7.out.cell 1
  have yLb2 := Lb7.out.cell 2
  have yLb3 := Lb7.out.cell 3
  have yLb4 := Lb7.out.cell 4
  have yLb5 := Lb7.out.cell 5
  simp only [List.getElem?_toArray, List.getElem?_cons_zero, List.getElem?_cons_succ] at yT0 yT1 yX0 yX1 yC0 yC1 yC2 yL0 yL1 yL2 yL3 yL4 yL5 yLa0 yLa1 yLa2 yLa3 yLa4 yLa5 yLb0 yLb1 yLb2 yLb3 yLb4 yLb5
  have yTl := T7.out.lt
  have yXl := X7.out.lt
  have yCl := C7.out.lt
  have yLl := L7.out.lt
  have yLal := La7.out.lt
  have yLbl := Lb7.out.lt
  go_cut [117] (fun q wx => q = .bool false ∧ Below u7.heap.size u7 wx)
  case first =>
    by_cases hk : ck = 0
    case neg =>
      have hkb : (ck == 0) = false := by simpa using hk
      clear hk
      go_wp2_with (go_at_call 49; with_reducible refine (HCl.out _ O7.out E7.out F7.out G7.out H7.out).mono ?_; rintro e u9 ⟨rfl, hb9⟩)
      go_meet
      exact ⟨by simp, hb9⟩
    case pos =>
      have hke := HEG.out hk
      cases gr with
      | true =>
        have hkv : (val != hi) = false := by simpa using hke
        have hkb : (ck == 0) = true := by simpa using hk
        clear hk hke
        go_wp2_with (go_at_call 49; with_reducible refine (HCl.out _ O7.out E7.out F7.out G7.out H7.out).mono ?_; rintro e u9 ⟨rfl, hb9⟩; have zLa := La7.out.below hb9; have zLa0 := zLa.cell 0; have zLal := zLa.lt; have zLb := Lb7.out.below hb9; have zLb0 := zLb.cell 0; have zLbl := zLb.lt; have zL := L7.out.below hb9; have zL0 := zL.cell 0; have zLl := zL.lt; simp only [List.getElem?_toArray, List.getElem?_cons_zero] at zLa0 zLb0 zL0)
        go_meet
        exact ⟨by simp, hb9⟩
      | false =>
        have hkv : (val != lo) = false := by simpa using hke
        have hkb : (ck == 0) = true := by simpa using hk
        clear hk hke
        go_wp2_with (go_at_call 49; with_reducible refine (HCl.out _ O7.out E7.out F7.out G7.out H7.out).mono ?_; rintro e u9 ⟨rfl, hb9⟩; have zLa := La7.out.below hb9; have zLa0 := zLa.cell 0; have zLal := zLa.lt; have zLb := Lb7.out.below hb9; have zLb0 := zLb.cell 0; have zLbl := zLb.lt; have zL := L7.out.below hb9; have zL0 := zL.cell 0; have zLl := zL.lt; simp only [List.getElem?_toArray, List.getElem?_cons_zero] at zLa0 zLb0 zL0)
        go_meet
        exact ⟨by simp, hb9⟩
  case rest =>
    obtain ⟨hq, hb⟩ := hcut
    subst hq
    clear yT0 yT1 yX0 yX1 yC0 yC1 yC2 yL0 yL1 yL2 yL3 yL4 yL5 yLa0 yLa1 yLa2 yLa3 yLa4 yLa5 yLb0 yLb1 yLb2 yLb3 yLb4 yLb5 yTl yXl yCl yLl yLal yLbl hlb HCl HCf HCg HEG HCob HCob2 HFew
    have T8 := Lib.hid (T7.out.below hb)
    have X8 := Lib.hid (X7.out.below hb)
    have C8 := Lib.hid (C7.out.below hb)
    have L8 := Lib.hid (L7.out.below hb)
    have O8 := Lib.hid (O7.out.below hb)
    have P8 := Lib.hid (P7.out.below hb)
    have Q8 := Lib.hid (Q7.out.below hb)
    have R8 := Lib.hid (R7.out.below hb)
    have E8 := Lib.hid (E7.out.below hb)
    have F8 := Lib.hid (F7.out.below hb)
    have G8 := Lib.hid (G7.out.below hb)
    have H8 := Lib.hid (H7.out.below hb)
    have La8 := Lib.hid (La7.out.below hb)
    have KAf8 := Lib.hid (KAf7.out.below hb)
    have KBf8 := Lib.hid (KBf7.out.below hb)
    have KCf8 := Lib.hid (KCf7.out.below hb)
    have KDf8 := Lib.hid (KDf7.out.below hb)
    have Lb8 := Lib.hid (Lb7.out.below hb)
    have KAg8 := Lib.hid (KAg7.out.below hb)
    have KBg8 := Lib.hid (KBg7.out.below hb)
    have KCg8 := Lib.hid (KCg7.out.below hb)
    have KDg8 := Lib.hid (KDg7.out.below hb)
    have HB8 := Lib.hid (HB7.out.trans (hb.mono HB7.out.size))
    clear hb T7 X7 C7 L7 O7 P7 Q7 R7 E7 F7 G7 H7 La7 KAf7 KBf7 KCf7 KDf7 Lb7 KAg7 KBg7 KCg7 KDg7 HB7
    clear E8 F8 G8 H8 KAf8 KBf8 KCf8 KDf8 KAg8 KBg8 KCg8 KDg8 L8
    go_upto_region 13 with fail
    have HTo := Lib.hid (fun (u : World) (hu : TR.Ok u ⟨A, n, c, B, m, d, hs, ms⟩) (q1 : SAt encI 1 u A1 n1 st) (q2 : SAt encI 1 u A2 n2 en) (q3 : SAt encI 1 u A3 n3 ma) => told_any ⟨A, n, c, B, m, d, hs, ms⟩ kind id A1 n1 c1 A2 n2 c2 A3 n3 c3 st en ma u hu q1 q2 q3 (show n ≤ 1000000 by omega) (show m ≤ 1000000 by omega))
    have HCc := Lib.hid (fun (u : World) (hu : TR.Ok u ⟨A, n, c, B, m, d, hs, ms⟩) (q1 : SAt encI 1 u A1 n1 st) (q2 : SAt encI 1 u A2 n2 en) (q3 : SAt encI 1 u A3 n3 ma) => CheckCourse_any ⟨A, n, c, B, m, d, hs, ms⟩ A1 n1 c1 A2 n2 c2 A3 n3 c3 st en ma u hu q1 q2 q3)
    dsimp only [TR.v, vAt, vCo] at HTo HCc
    obtain ⟨cc, hcc⟩ : ∃ x, ckCo hs ms st en ma = x := ⟨_, rfl⟩
    rw [hcc] at HCc HCk
    obtain ⟨TL, hTL⟩ : ∃ x, toldL hs ms kind id st en ma = x := ⟨_, rfl⟩
    rw [hTL] at HTo HFC
    obtain ⟨tv, tb⟩ := TL
    dsimp only at HTo HFC
    clear hTL hcc
    have yT0 := T8.out.cell 0
    have yT1 := T8.out.cell 1
    have yX0 := X8.out.cell 0
    have yX1 := X8.out.cell 1
    have yC0 := C8.out.cell 0
    have yC1 := C8.out.cell 1
    have yC2 := C8.out.cell 2
    have yLa0 := La8.out.cell 0
    have yLa1 := La8.out.cell 1
    have yLa2 := La8.out.cell 2
    have yLa3 := La8.out.cell 3
    have yLa4 := La8.out.cell 4
    have yLa5 := La8.out.cell 5
    have yLb0 := Lb8.out.cell 0
    have yLb1 := Lb8.out.cell 1
    have yLb2 := Lb8.out.cell 2
    have yLb3 := Lb8.out.cell 3
    have yLb4 := Lb8.out.cell 4
    have yLb5 := Lb8.out.cell 5
    simp only [List.getElem?_toArray, List.getElem?_cons_zero, List.getElem?_cons_succ] at yT0 yT1 yX0 yX1 yC0 yC1 yC2 yLa0 yLa1 yLa2 yLa3 yLa4 yLa5 yLb0 yLb1 yLb2 yLb3 yLb4 yLb5
    have yTl := T8.out.lt
    have yXl := X8.out.lt
    have yCl := C8.out.lt
    have yLal := La8.out.lt
    have yLbl := Lb8.out.lt
    have HC := Lib.hid (HTo.out _ O8.out P8.out Q8.out R8.out)
    try dsimp only [TR.v, vCt] at HC
    go_upto_region 14 with (go_at_call 52; with_reducible refine HC.out.mono ?_; rintro e u9 ⟨rfl, hb⟩)
    clear yT0 yT1 yX0 yX1 yC0 yC1 yC2 yLa0 yLa1 yLa2 yLa3 yLa4 yLa5 yLb0 yLb1 yLb2 yLb3 yLb4 yLb5 yTl yXl yCl yLal yLbl
    clear HC
    have bn := hb
    have T9 := Lib.hid (T8.out.below bn)
    have X9 := Lib.hid (X8.out.below bn)
    have C9 := Lib.hid (C8.out.below bn)
    have O9 := Lib.hid (O8.out.below bn)
    have P9 := Lib.hid (P8.out.below bn)
    have Q9 := Lib.hid (Q8.out.below bn)
    have R9 := Lib.hid (R8.out.below bn)
    have La9 := Lib.hid (La8.out.below bn)
    have Lb9 := Lib.hid (Lb8.out.below bn)
    have HB9 := Lib.hid (HB8.out.trans (bn.mono HB8.out.size))
    clear hb bn T8 X8 C8 O8 P8 Q8 R8 La8 Lb8 HB8
    have yT0 := T9.out.cell 0
    have yT1 := T9.out.cell 1
    have yX0 := X9.out.cell 0
    have yX1 := X9.out.cell 1
    have yC0 := C9.out.cell 0
    have yC1 := C9.out.cell 1
    have yC2 := C9.out.cell 2
    have yLa0 := La9.out.cell 0
    have yLa1 := La9.out.cell 1
    have yLa2 := La9.out.cell 2
    have yLa3 := La9.out.cell 3
    have yLa4 := La9.out.cell 4
    have yLa5 := La9.out.cell 5
    have yLb0 := Lb9.out.cell 0
    have yLb1 := Lb9.out.cell 1
    have yLb2 := Lb9.out.cell 2
    have yLb3 := Lb9.out.cell 3
    have yLb4 := Lb9.out.cell 4
    have yLb5 := Lb9.out.cell 5
    simp only [List.getElem?_toArray, List.getElem?_cons_zero, List.getElem?_cons_succ] at yT0 yT1 yX0 yX1 yC0 yC1 yC2 yLa0 yLa1 yLa2 yLa3 yLa4 yLa5 yLb0 yLb1 yLb2 yLb3 yLb4 yLb5
    have yTl := T9.out.lt
    have yXl := X9.out.lt
    have yCl := C9.out.lt
    have yLal := La9.out.lt
    have yLbl := Lb9.out.lt
    go_cut [143] (fun q wx => q = .bool false ∧ Below u9.heap.size u9 wx)
    case first =>
      cases tb with
      | false =>
        go_wp2_with fail
        go_meet
        exact ⟨by simp, Below.refl _ _⟩
      | true =>
        by_cases hk : cc = 0
        case neg =>
          have hkb : (cc == 0) = false := by simpa using hk
          clear hk
          go_wp2_with (go_at_call 53; with_reducible refine (HCc.out _ O9.out P9.out Q9.out R9.out).mono ?_; rintro e u9 ⟨rfl, hb9⟩)
          go_meet
          exact ⟨by simp, hb9⟩
        case pos =>
          obtain ⟨hk1, hk2⟩ := HFC.out (HCk.out hk)
          have hkb : (cc == 0) = true := by simpa using hk
          have hkc : decide (tv < lo) = false := decide_eq_false (by omega)
          have hkd : decide (hi < tv) = false := decide_eq_false (by omega)
          clear hk hk1 hk2
          go_wp2_with (go_at_call 53; with_reducible refine (HCc.out _ O9.out P9.out Q9.out R9.out).mono ?_; rintro e u9 ⟨rfl, hb9⟩; have zLa := La9.out.below hb9; have zLa0 := zLa.cell 0; have zLal := zLa.lt; have zLb := Lb9.out.below hb9; have zLb0 := zLb.cell 0; have zLbl := zLb.lt; simp only [List.getElem?_toArray, List.getElem?_cons_zero] at zLa0 zLb0)
          go_meet
          exact ⟨by simp, hb9⟩
    case rest =>
      obtain ⟨hq, hb⟩ := hcut
      subst hq
      clear yT0 yT1 yX0 yX1 yC0 yC1 yC2 yLa0 yLa1 yLa2 yLa3 yLa4 yLa5 yLb0 yLb1 yLb2 yLb3 yLb4 yLb5 yTl yXl yCl yLal yLbl HTo HCc HFC HCk
      have T10 := Lib.hid (T9.out.below hb)
      have X10 := Lib.hid (X9.out.below hb)
      have C10 := Lib.hid (C9.out.below hb)
      have O10 := Lib.hid (O9.out.below hb)
      have P10 := Lib.hid (P9.out.below hb)
      have Q10 := Lib.hid (Q9.out.below hb)
      have R10 := Lib.hid (R9.out.below hb)
      have La10 := Lib.hid (La9.out.below hb)
      have Lb10 := Lib.hid (Lb9.out.below hb)
      have HB10 := Lib.hid (HB9.out.trans (hb.mono HB9.out.size))
      clear hb T9 X9 C9 O9 P9 Q9 R9 La9 Lb9 HB9
      clear P10 Q10 R10 C10
      go_upto_region 16 with fail
      have yT0 := T10.out.cell 0
      have yT1 := T10.out.cell 1
      have yX0 := X10.out.cell 0
      have yX1 := X10.out.cell 1
      have yLa0 := La10.out.cell 0
      have yLa1 := La10.out.cell 1
      have yLa2 := La10.out.cell 2
      have yLa3 := La10.out.cell 3
      have yLa4 := La10.out.cell 4
      have yLa5 := La10.out.cell 5
      have yLb0 := Lb10.out.cell 0
      have yLb1 := Lb10.out.cell 1
      have yLb2 := Lb10.out.cell 2
      have yLb3 := Lb10.out.cell 3
      have yLb4 := Lb10.out.cell 4
      have yLb5 := Lb10.out.cell 5
      simp only [List.getElem?_toArray, List.getElem?_cons_zero, List.getElem?_cons_succ] at yT0 yT1 yX0 yX1 yLa0 yLa1 yLa2 yLa3 yLa4 yLa5 yLb0 yLb1 yLb2 yLb3 yLb4 yLb5
      have yTl := T10.out.lt
      have yXl := X10.out.lt
      have yLal := La10.out.lt
      have yLbl := Lb10.out.lt
      obtain ⟨hv0, hv1, hv2⟩ := HVv.out
      obtain ⟨r, hr, hr1, hr2⟩ := mod_rz hv1 hn1
      have hne : hi - lo + 1 ≠ 0 := by omega
      have HLR := Lib.hid (HLM.out (lo + r) (by omega) (by omega))
      obtain ⟨xc, xf'⟩ := xcell (W := wc)
      refine wp_region_quiet_tail 12 (by kernel_rfl) (by kernel_rfl) ?_
      simp only [List.take_succ_cons, List.take_zero, List.drop_succ_cons, List.drop_zero]
      repeat (first | go_big_quiet_step (fail) | quiet_step (fail))
      refine wpQuiet_nil ?_
      intro wq hbq
      have bn := hbq
      clear hbq xc xf' yT0 yT1 yX0 yX1 yLa0 yLa1 yLa2 yLa3 yLa4 yLa5 yLb0 yLb1 yLb2 yLb3 yLb4 yLb5 yTl yXl yLal yLbl
      have T11 := Lib.hid (T10.out.below bn)
      have X11 := Lib.hid (X10.out.below bn)
      have O11 := Lib.hid (O10.out.below bn)
      have La11 := Lib.hid (La10.out.below bn)
      have Lb11 := Lib.hid (Lb10.out.below bn)
      have HB11 := Lib.hid (HB10.out.trans (bn.mono HB10.out.size))
      clear bn hr hne T10 X10 O10 La10 Lb10 HB10
      go_upto_region 17 with fail
      generalize hmid : lo + r = mid at *
      generalize wq = U at *
      clear hmid
      have HB0 := Lib.hid (HB11.out)
      have HPu := Lib.hid (fun (u : World) (hu : TR.Ok u ⟨A, n, c, B, m, d, hs, ms⟩) => put_tr (kind := kind) (id := id) (lo := mid) (hi := mid) hu HTV.out)
      have HPv := Lib.hid (tcheck_zero.2 HLR.out.1)
      dsimp only [TR.v, vAt, vSp] at HPu
      refine wp_region_preC 11 [(3, 160), (4, 161), (5, 162), (6, 156), (7, 163), (8, 164), (9, 20), (10, 1000)] (fun v => Below U.heap.size U v) (PfP U hs ms kind id mid) (by kernel_rfl) (by kernel_rfl) (Below.refl _ _) (fun v v' h kk => h.trans (kk.mono h.size)) (fun v _ => PfP.init) (fun ls vs v v' _ h kk => h.below kk) ?_
      apply Exists.intro
      refine ⟨?walk, ?loud, ?last⟩
      case walk =>
        intro V hV
        have HTw := T11.out.below hV
        have y0 := HTw.cell 0
        have y1 := HTw.cell 1
        have HXw := X11.out.below hV
        have x0 := HXw.cell 0
        have x1 := HXw.cell 1
        simp only [List.getElem?_toArray, List.getElem?_cons_zero, List.getElem?_cons_succ] at y0 y1 x0 x1
        have yl := HTw.lt
        have xl := HXw.lt
        clear HTw HXw
        obtain ⟨xc, xf'⟩ := xcell (W := V)
        simp only [List.take_succ_cons, List.take_zero, qOf, isLoud, List.any_cons, List.any_nil, Nat.reduceBEq, Bool.or_false, Bool.or_true, Nat.reduceAdd, Bool.false_eq_true, if_true, if_false, beq_self_eq_true, Nat.zero_add]
        repeat (first | go_big_quiet_step (fail) | quiet_step (fail))
        exact wpQuiet_nil rfl
      case loud =>
        rintro pp hpp vs v hC ls hI hls hw o ho
        simp only [List.mem_cons, List.not_mem_nil, or_false] at hpp
        rcases hpp with rfl | rfl | rfl | rfl | rfl | rfl | rfl | rfl
        · simp only [List.getElem?_cons_succ, List.getElem?_cons_zero, Option.some.injEq] at ho
          subst ho
          simp [loudAt, loudUpon, go_sem, putsL, Act.put]
          refine (one_any mid v).mono ?_
          rintro e v' ⟨rfl, hb⟩
          exact ⟨_, rfl, hC.trans (hb.mono hC.size), hI.s3 hb⟩
        · have h3 := hw (3, 160) (by simp) (by kernel_rfl)
          have e3 := hI.p3 h3
          simp only [List.getElem?_cons_succ, List.getElem?_cons_zero, Option.some.injEq] at ho
          subst ho
          simp [loudAt, loudUpon, go_sem, putsL, Act.put, e3]
          refine (HPu.out v (O11.out.below hC)).mono ?_
          rintro e v' ⟨Q1, w1, x1, Q2, w2, x2, rfl, hok, hb⟩
          exact ⟨_, rfl, hC.trans (hb.mono hC.size), hI.s4 hb hok⟩
        · have h4 := hw (4, 161) (by simp) (by kernel_rfl)
          obtain ⟨Q1, w1, x1, Q2, w2, x2, e4, hok⟩ := hI.p4 h4 hls
          simp only [List.getElem?_cons_succ, List.getElem?_cons_zero, Option.some.injEq] at ho
          subst ho
          simp [loudAt, loudUpon, go_sem, putsL, Act.put, e4]
          refine (Find_any _ v hok).mono ?_
          rintro e v' ⟨hb, ⟨k1, _⟩ | ⟨_, k2, _⟩ | ⟨_, _, x, st', en', ma', rfl, hco, hf⟩⟩
          · exact absurd HPv.out k1
          · rw [HLR.out.2.1] at k2; cases k2
          · exact ⟨_, rfl, hC.trans (hb.mono hC.size), hI.s5 hls hb hco hf⟩
        · have h5 := hw (5, 162) (by simp) (by kernel_rfl)
          simp only [List.getElem?_cons_succ, List.getElem?_cons_zero, Option.some.injEq] at ho
          subst ho
          simp [loudAt, loudUpon, go_sem, execOp, putsL, Act.put]
          exact ⟨hC, hI.s6 h5⟩
        · have h6 := hw (6, 156) (by simp) (by kernel_rfl)
          obtain ⟨h5, e6⟩ := hI.p6 h6
          obtain ⟨Q1, w1, x1, Q2, w2, x2, Q3, w3, x3, st', en', ma', e5, _⟩ := hI.p5 h5
          have e8 := e6.trans e5
          simp only [List.getElem?_cons_succ, List.getElem?_cons_zero, Option.some.injEq] at ho
          subst ho
          simp [loudAt, loudUpon, go_sem, execOp, putsL, Act.put, e8]
          exact ⟨hC, hI.s7 h5 hls e5⟩
        · have h6 := hw (6, 156) (by simp) (by kernel_rfl)
          obtain ⟨h5, e6⟩ := hI.p6 h6
          obtain ⟨Q1, w1, x1, Q2, w2, x2, Q3, w3, x3, st', en', ma', e5, _⟩ := hI.p5 h5
          have e8 := e6.trans e5
          simp only [List.getElem?_cons_succ, List.getElem?_cons_zero, Option.some.injEq] at ho
          subst ho
          simp [loudAt, loudUpon, go_sem, execOp, putsL, Act.put, e8]
          exact ⟨hC, hI.s8 h5 e5⟩
        · simp only [List.getElem?_cons_succ, List.getElem?_cons_zero, Option.some.injEq] at ho
          subst ho
          simp [loudAt, loudUpon, go_sem, execOp]
          exact ⟨hC.alloc hC.size _, hI.s9 hls hC.size⟩
        · have h7 := hw (7, 163) (by simp) (by kernel_rfl)
          have h9 := hw (9, 20) (by simp) (by kernel_rfl)
          obtain ⟨h5, a5, b5, e5, e7⟩ := hI.p7 h7
          obtain ⟨Q1, w1, x1, Q2, w2, x2, Q3, w3, x3, st', en', ma', e5', _⟩ := hI.p5 h5
          rw [e5'] at e5
          cases e5
          obtain ⟨gq, p5, q5, r5, e9, hg, hbk, _⟩ := hI.p9 h9
          have f0 := hbk.frozen 0
          have f1 := hbk.frozen 1
          have f2 := hbk.frozen 2
          have b0 := hbk.cell 0
          have b1 := hbk.cell 1
          have b2 := hbk.cell 2
          simp only [List.getElem?_toArray, List.getElem?_cons_zero, List.getElem?_cons_succ] at b0 b1 b2
          have bl := hbk.lt
          simp only [List.getElem?_cons_succ, List.getElem?_cons_zero, Option.some.injEq] at ho
          subst ho
          simp [loudAt, loudUpon, go_sem, execOp, putsL, Act.put, e7, e9, f0, f1, f2, b0, b1, b2]
          exact ⟨below_set3 hC hg _ _ _, hI.s10 h7 h9 e7 e9 _⟩
      case last =>
        rintro ls vs V hV hI hls
        have h8 := hls (8, 164) (by simp)
        have h10 := hls (10, 1000) (by simp)
        obtain ⟨Q1, w1, x1, Q2, w2, x2, Q3, w3, x3, st', en', ma', gq, k1, k2, k3, hf, e8, e9, hbk⟩ := hI.done h8 h10
        have HTo := Lib.hid (fun (u : World) (hu : TR.Ok u ⟨A, n, c, B, m, d, hs, ms⟩) (q1 : SAt encI 1 u Q1 w1 st') (q2 : SAt encI 1 u Q2 w2 en') (q3 : SAt encI 1 u Q3 w3 ma') => told_any ⟨A, n, c, B, m, d, hs, ms⟩ kind id Q1 w1 x1 Q2 w2 x2 Q3 w3 x3 st' en' ma' u hu q1 q2 q3 (show n ≤ 1000000 by omega) (show m ≤ 1000000 by omega))
        dsimp only [TR.v, vAt, vCo] at HTo
        rw [HLR.out.2.2 st' en' ma' hf] at HTo
        dsimp only at HTo
        have HS1 := Lib.hid k1
        have HS2 := Lib.hid k2
        have HS3 := Lib.hid k3
        have HG := Lib.hid hbk
        have HBV := Lib.hid (HB0.out.trans (hV.mono HB0.out.size))
        have HOV := Lib.hid (O11.out.below hV)
        have HTV2 := Lib.hid (T11.out.below hV)
        have HXV2 := Lib.hid (X11.out.below hV)
        simp only [putsL, List.foldl_cons, List.foldl_nil, List.drop_succ_cons, List.drop_zero, Act.put, e8, e9, List.setIfInBounds_toArray, List.set_cons_succ, List.set_cons_zero, List.set_nil]
        generalize vs 3 = v3 at *
        generalize vs 4 = v4 at *
        generalize vs 5 = v5 at *
        generalize vs 6 = v6 at *
        generalize vs 7 = v7 at *
        have y0 := HTV2.out.cell 0
        have y1 := HTV2.out.cell 1
        have x0 := HXV2.out.cell 0
        have x1' := HXV2.out.cell 1
        have b0 := HG.out.cell 0
        have b1 := HG.out.cell 1
        have b2 := HG.out.cell 2
        simp only [List.getElem?_toArray, List.getElem?_cons_zero, List.getElem?_cons_succ] at y0 y1 x0 x1' b0 b1 b2
        have yl := HTV2.out.lt
        have xl := HXV2.out.lt
        have bl := HG.out.lt
        clear hI hls h8 h10 e8 e9 hbk hV k1 k2 k3 hf HLR HLM HPu HPv
        go_upto_region 19 with (go_at_call 52; with_reducible refine (HTo.out _ HOV.out HS1.out HS2.out HS3.out).mono ?_; rintro e w6 ⟨rfl, hb6⟩)
        have HB6 := Lib.hid (HBV.out.trans (hb6.mono HBV.out.size))
        clear hb6 y0 y1 x0 x1' b0 b1 b2 yl xl bl
        go_wp2_with (go_at_call 13; with_reducible refine (HSan.out _).mono ?_; rintro e w7 ⟨rfl, hb7⟩)
        exact bodyPost_ret (v := .bool true) (by simp [results, Tryz.results11, go_sem]) rfl ⟨rfl, HB6.out.trans (hb7.mono HB6.out.size)⟩
open Go.WideShapes Go.ChangeShapes Go.Joins Go.Deep
set_option maxRecDepth 100000 in
theorem flowLimitsHold_lifted (os : Os) (started : os.Started) (H : Type) (enc : TypeId × Value → H) :
    ReturnsInHanded Rows.flowLimitsHoldRow.assume Tryz.checked os 11 .any (Rows.flowLimitsHoldSpec.pre6 enc Tryz.prog Tryz.f11 Rows.flowLimitsHoldRow.domain false) (Rows.flowLimitsHoldSpec.post enc Tryz.prog Tryz.f11 false Rows.flowLimitsHoldRow.fresh Rows.flowLimitsHoldRow.handsOn Rows.flowLimitsHoldRow.again) := by
  refine returnsInHanded_of_change (C := Tryz.checked) (by kernel_rfl) started (by kernel_rfl) Tryz.func11
    (ChangeSpec.witness6 (enc := enc) (C := Tryz.checked) false ⟨#[], #[.agg #[.slice none 0 0, .slice none 0 0], .agg #[.int .i64 0, .int .i64 0], .agg #[.slice none 0 0, .slice none 0 0, .slice none 0 0], .agg #[.int .i64 0, .slice none 0 0, .slice none 0 0, .slice none 0 0, .int .i64 0, .slice none 0 0], .bool false, .int .u16 0], []⟩ 8 (by kernel_rfl) (by kernel_rfl) (by kernel_rfl) (by kernel_rfl)) ?_
  intro W base args ds gs before hval0 hW hcnd _
  have hval : ∀ (j : Nat) t v, Tryz.f11.params[j]? = some t → args[j]? = some v → Value.okWide Tryz.prog W .any base t v := hval0
  have hW' := hW
  obtain ⟨p, q, hA0, hV, rfl, hfz, hnd⟩ := hW
  obtain ⟨rfl, rfl⟩ := trodVars_none hV
  have hA : DataW.TrodAll enc Tryz.prog W 0 (fun _ => true) true [25, 83, 68, 95, 4, 105] args.toList ds p := hA0
  obtain ⟨v0, v1, v2, v3, v4, v5, d0, d1, d2, d3, d4, d5, p0, p1, p2, p3, p4, p5, rfl, rfl, rfl, h0, h1, h2, h3, h4, h5⟩ := trodAll_six hA
  obtain ⟨t, rfl, hT, _, rfl⟩ := open_tr (hval 0 25 v0 rfl rfl) h0
  obtain ⟨kind, id, rfl, _, rfl⟩ := open_at (hval 1 83 v1 rfl rfl) h1
  obtain ⟨A1, n1, c1, A2, n2, c2, A3, n3, c3, st, en, ma, rfl, k1, k2, k3, l1, l2, l3, _, rfl⟩ := open_co (hval 2 68 v2 rfl rfl) h2
  obtain ⟨val, D1, m1, d1, D2, m2, d2, D3, m3, d3, way, D4, m4, d4, lst, len, lma, s, rfl, g1, g2, g3, g4, ⟨e1, e2, e3, e4⟩, _, rfl⟩ := open_li (hval 3 95 v3 rfl rfl) h3
  obtain ⟨gr, rfl, rfl, rfl⟩ := open_bool Tryz.underlying4 (hval 4 4 v4 rfl rfl) h4
  obtain ⟨nn, rfl, rfl, rfl, hwf⟩ := open_int Tryz.underlying105 (hval 5 105 v5 rfl rfl) h5
  refine (flowLimitsHold_walk t kind id A1 n1 c1 A2 n2 c2 A3 n3 c3 st en ma val D1 m1 d1 D2 m2 d2 D3 m3 d3 way D4 m4 d4 lst len lma s gr nn W hT k1 k2 k3 l1 l2 l3 g1 g2 g3 g4 e1 e2 e3 e4 (wf_u16z hwf).1 (wf_u16z hwf).2).mono fun e W' ⟨he, hb⟩ => ⟨_, he, law_post laid_out (by kernel_rfl) rfl Tryz.underlying4 rfl hW' rfl rfl rfl hb⟩

theorem flowLimitsHold : Rows.FlowLimitsHoldSaid :=
  OpenClaim.holds_of_wide 11 Tryz.f11 rfl rfl rfl rfl rfl rfl rfl ⟨rfl, rfl, rfl, rfl, rfl⟩ rfl rfl rfl rfl rfl (by kernel_rfl) Tryz.func11 (by kernel_rfl)
    (of_decide_eq_true (by kernel_rfl)) (by unfold Func.isWrapper; first | (rw [if_pos (by decide +kernel)]; kernel_rfl) | (rw [if_neg (by decide +kernel)]; exact ⟨rfl, rfl⟩))
    (fun os started H enc _ => flowLimitsHold_lifted os started H enc)
#print axioms flowLimitsHold
end Go.Proofs.YtighfmgkoepfkaaGreat
