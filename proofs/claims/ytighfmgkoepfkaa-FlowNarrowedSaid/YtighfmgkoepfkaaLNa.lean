/- The law FlowNarrowed. -/
import Derived.Test.YtighfmgkoepfkaaMX
import Derived.Test.YtighfmgkoepfkaaMI
namespace Go.Proofs.Ytighfmgkoepfkaa
open Go.RowKit

theorem nar_tr {t : TR} {w : World} (h : t.Ok w) : Calls Try.prog 31 #[t.v] w fun e w' => ∃ A n c B m d, e = .returned (.tuple #[.agg #[.slice A n c, .slice B m d], .int .i64 (nwE t.hs t.ms)]) ∧ TR.Ok w' ⟨A, n, c, B, m, d, nwH t.hs t.ms, nwM t.hs t.ms⟩ ∧ n ≤ 9 ∧ m ≤ 24 ∧ Below w.heap.size w w' := by
  refine (Narrowed_any t w h).mono ?_
  rintro e w' ⟨hb, v1, v2, rfl, ho⟩
  obtain ⟨A, c, B, d, rfl, rfl, a1, a2, a3, a4, _, _⟩ := ho.form
  have l1 := nwH_len t.hs t.ms
  have l2 := nwM_len t.hs t.ms
  exact ⟨A, _, c, B, _, d, rfl, ⟨a1, a2, by show (nwH t.hs t.ms).length ≤ _; omega, by show (nwM t.hs t.ms).length ≤ _; omega, a3, a4⟩, l1, l2, hb⟩
set_option maxRecDepth 100000 in
set_option maxHeartbeats 12800000 in
theorem flowNarrowed_walk (t : TR) (A1 : Option Addr) (n1 c1 : Nat) (A2 : Option Addr) (n2 c2 : Nat) (A3 : Option Addr) (n3 c3 : Nat) (st en ma : List Int) (w : World) (h : t.Ok w) (h1 : SAt encI 1 w A1 n1 st) (h2 : SAt encI 1 w A2 n2 en) (h3 : SAt encI 1 w A3 n3 ma) (l1 : n1 ≤ 9223372036854775807) (l2 : n2 ≤ 9223372036854775807) (l3 : n3 ≤ 9223372036854775807) : Calls Try.prog 7 #[t.v, vCo A1 n1 c1 A2 n2 c2 A3 n3 c3] w fun e w' => e = .returned (.bool true) ∧ Below w.heap.size w w' := by
  obtain ⟨A, n, c, B, m, d, hs, ms⟩ := t
  have HSan := Lib.hid (fun u => sanity_any u)
  obtain ⟨fb, hfb⟩ : ∃ b, fewB n m = b := ⟨_, rfl⟩
  have HFew := Lib.hid (fun u => few_any A n c B m d u h.n_le h.m_le)
  rw [hfb] at HFew
  obtain ⟨cb, hcb⟩ : ∃ b, courseB n1 n2 n3 = b := ⟨_, rfl⟩
  have HCob := Lib.hid (fun u => course_law A1 n1 c1 A2 n2 c2 A3 n3 c3 u l1 l2 l3)
  rw [hcb] at HCob
  dsimp only [TR.v] at *
  have HB0 : Hid (Below w.heap.size w ((w.alloc (.cells #[.slice A n c, .slice B m d] 25)).alloc (.cells #[.slice A1 n1 c1, .slice A2 n2 c2, .slice A3 n3 c3] 32))) := Lib.hid (((Below.refl w.heap.size w).alloc (Nat.le_refl _) _).alloc (by simp) _)
  have T0 : Hid (Blk ((w.alloc (.cells #[.slice A n c, .slice B m d] 25)).alloc (.cells #[.slice A1 n1 c1, .slice A2 n2 c2, .slice A3 n3 c3] 32)) w.heap.size 25 #[.slice A n c, .slice B m d]) := Lib.hid ((Blk.at_new 25 #[.slice A n c, .slice B m d] rfl).alloc _)
  have C0 : Hid (Blk ((w.alloc (.cells #[.slice A n c, .slice B m d] 25)).alloc (.cells #[.slice A1 n1 c1, .slice A2 n2 c2, .slice A3 n3 c3] 32)) (w.heap.size + 1) 32 #[.slice A1 n1 c1, .slice A2 n2 c2, .slice A3 n3 c3]) := Lib.hid (Blk.at_new 32 #[.slice A1 n1 c1, .slice A2 n2 c2, .slice A3 n3 c3] (by simp))
  have O0 := Lib.hid ((h).below HB0.out)
  have K0 := Lib.hid ((h1).below HB0.out)
  have L0 := Lib.hid ((h2).below HB0.out)
  have M0 := Lib.hid ((h3).below HB0.out)
  go_enter Try.func7, Try.ntmps7
  go_upto_region 1 with fail
  generalize hV : (w.alloc (.cells #[.slice A n c, .slice B m d] 25)).alloc (.cells #[.slice A1 n1 c1, .slice A2 n2 c2, .slice A3 n3 c3] 32) = V0 at *
  clear hV
  clear h h1 h2 h3 hfb hcb
  cases fb with
  | false =>
    have yT0 := T0.out.cell 0
    have yT1 := T0.out.cell 1
    have yC0 := C0.out.cell 0
    have yC1 := C0.out.cell 1
    have yC2 := C0.out.cell 2
    simp only [List.getElem?_toArray, List.getElem?_cons_zero, List.getElem?_cons_succ] at yT0 yT1 yC0 yC1 yC2
    have yTl := T0.out.lt
    have yCl := C0.out.lt
    go_upto_region 2 with (go_at_call 13; with_reducible refine (HFew.out _).mono ?_; rintro e u1 ⟨rfl, hb1⟩; have T1 := Lib.hid (T0.out.below hb1); have C1 := Lib.hid (C0.out.below hb1); have O1 := Lib.hid (O0.out.below hb1); have K1 := Lib.hid (K0.out.below hb1); have L1 := Lib.hid (L0.out.below hb1); have M1 := Lib.hid (M0.out.below hb1); have HB1 := Lib.hid (HB0.out.trans (hb1.mono HB0.out.size)); clear hb1; have y1T0 := T1.out.cell 0; have y1T1 := T1.out.cell 1; have y1C0 := C1.out.cell 0; have y1C1 := C1.out.cell 1; have y1C2 := C1.out.cell 2; simp only [List.getElem?_toArray, List.getElem?_cons_zero, List.getElem?_cons_succ] at y1T0 y1T1 y1C0 y1C1 y1C2; have y1Tl := T1.out.lt; have y1Cl := C1.out.lt)
    clear yT0 yT1 yC0 yC1 yC2 yTl yCl y1T0 y1T1 y1C0 y1C1 y1C2 y1Tl y1Cl T0 C0 O0 K0 L0 M0 HB0
    have yT0 := T1.out.cell 0
    have yT1 := T1.out.cell 1
    have yC0 := C1.out.cell 0
    have yC1 := C1.out.cell 1
    have yC2 := C1.out.cell 2
    simp only [List.getElem?_toArray, List.getElem?_cons_zero, List.getElem?_cons_succ] at yT0 yT1 yC0 yC1 yC2
    have yTl := T1.out.lt
    have yCl := C1.out.lt
    go_wp2_with (go_at_call 14; with_reducible refine (HSan.out _).mono ?_; rintro e u2 ⟨rfl, hb2⟩; have T2 := Lib.hid (T1.out.below hb2); have C2 := Lib.hid (C1.out.below hb2); have O2 := Lib.hid (O1.out.below hb2); have K2 := Lib.hid (K1.out.below hb2); have L2 := Lib.hid (L1.out.below hb2); have M2 := Lib.hid (M1.out.below hb2); have HB2 := Lib.hid (HB1.out.trans (hb2.mono HB1.out.size)); clear hb2; have y2T0 := T2.out.cell 0; have y2T1 := T2.out.cell 1; have y2C0 := C2.out.cell 0; have y2C1 := C2.out.cell 1; have y2C2 := C2.out.cell 2; simp only [List.getElem?_toArray, List.getElem?_cons_zero, List.getElem?_cons_succ] at y2T0 y2T1 y2C0 y2C1 y2C2; have y2Tl := T2.out.lt; have y2Cl := C2.out.lt)
    exact bodyPost_ret (v := .bool true) (by simp [results, Try.results7, go_sem]) rfl ⟨rfl, HB2.out⟩
  | true =>
  cases cb with
  | false =>
    have yT0 := T0.out.cell 0
    have yT1 := T0.out.cell 1
    have yC0 := C0.out.cell 0
    have yC1 := C0.out.cell 1
    have yC2 := C0.out.cell 2
    simp only [List.getElem?_toArray, List.getElem?_cons_zero, List.getElem?_cons_succ] at yT0 yT1 yC0 yC1 yC2
    have yTl := T0.out.lt
    have yCl := C0.out.lt
    go_upto_region 2 with (first | (go_at_call 13; with_reducible refine (HFew.out _).mono ?_; rintro e u1 ⟨rfl, hb1⟩; have T1 := Lib.hid (T0.out.below hb1); have C1 := Lib.hid (C0.out.below hb1); have O1 := Lib.hid (O0.out.below hb1); have K1 := Lib.hid (K0.out.below hb1); have L1 := Lib.hid (L0.out.below hb1); have M1 := Lib.hid (M0.out.below hb1); have HB1 := Lib.hid (HB0.out.trans (hb1.mono HB0.out.size)); clear hb1; have y1T0 := T1.out.cell 0; have y1T1 := T1.out.cell 1; have y1C0 := C1.out.cell 0; have y1C1 := C1.out.cell 1; have y1C2 := C1.out.cell 2; simp only [List.getElem?_toArray, List.getElem?_cons_zero, List.getElem?_cons_succ] at y1T0 y1T1 y1C0 y1C1 y1C2; have y1Tl := T1.out.lt; have y1Cl := C1.out.lt) | (go_at_call 30; with_reducible refine (HCob.out _).mono ?_; rintro e u2 ⟨rfl, hb2⟩; have T2 := Lib.hid (T1.out.below hb2); have C2 := Lib.hid (C1.out.below hb2); have O2 := Lib.hid (O1.out.below hb2); have K2 := Lib.hid (K1.out.below hb2); have L2 := Lib.hid (L1.out.below hb2); have M2 := Lib.hid (M1.out.below hb2); have HB2 := Lib.hid (HB1.out.trans (hb2.mono HB1.out.size)); clear hb2; have y2T0 := T2.out.cell 0; have y2T1 := T2.out.cell 1; have y2C0 := C2.out.cell 0; have y2C1 := C2.out.cell 1; have y2C2 := C2.out.cell 2; simp only [List.getElem?_toArray, List.getElem?_cons_zero, List.getElem?_cons_succ] at y2T0 y2T1 y2C0 y2C1 y2C2; have y2Tl := T2.out.lt; have y2Cl := C2.out.lt))
    clear yT0 yT1 yC0 yC1 yC2 yTl yCl y1T0 y1T1 y1C0 y1C1 y1C2 y1Tl y1Cl y2T0 y2T1 y2C0 y2C1 y2C2 y2Tl y2Cl T0 C0 O0 K0 L0 M0 T1 C1 O1 K1 L1 M1 HB0 HB1
    have yT0 := T2.out.cell 0
    have yT1 := T2.out.cell 1
    have yC0 := C2.out.cell 0
    have yC1 := C2.out.cell 1
    have yC2 := C2.out.cell 2
    simp only [List.getElem?_toArray, List.getElem?_cons_zero, List.getElem?_cons_succ] at yT0 yT1 yC0 yC1 yC2
    have yTl := T2.out.lt
    have yCl := C2.out.lt
    go_wp2_with (go_at_call 14; with_reducible refine (HSan.out _).mono ?_; rintro e u3 ⟨rfl, hb3⟩; have T3 := Lib.hid (T2.out.below hb3); have C3 := Lib.hid (C2.out.below hb3); have O3 := Lib.hid (O2.out.below hb3); have K3 := Lib.hid (K2.out.below hb3); have L3 := Lib.hid (L2.out.below hb3); have M3 := Lib.hid (M2.out.below hb3); have HB3 := Lib.hid (HB2.out.trans (hb3.mono HB2.out.size)); clear hb3; have y3T0 := T3.out.cell 0; have y3T1 := T3.out.cell 1; have y3C0 := C3.out.cell 0; have y3C1 := C3.out.cell 1; have y3C2 := C3.out.cell 2; simp only [List.getElem?_toArray, List.getElem?_cons_zero, List.getElem?_cons_succ] at y3T0 y3T1 y3C0 y3C1 y3C2; have y3Tl := T3.out.lt; have y3Cl := C3.out.lt)
    exact bodyPost_ret (v := .bool true) (by simp [results, Try.results7, go_sem]) rfl ⟨rfl, HB3.out⟩
  | true =>
  have yT0 := T0.out.cell 0
  have yT1 := T0.out.cell 1
  have yC0 := C0.out.cell 0
  have yC1 := C0.out.cell 1
  have yC2 := C0.out.cell 2
  simp only [List.getElem?_toArray, List.getElem?_cons_zero, List.getElem?_cons_succ] at yT0 yT1 yC0 yC1 yC2
  have yTl := T0.out.lt
  have yCl := C0.out.lt
  go_upto_region 3 with (first | (go_at_call 13; with_reducible refine (HFew.out _).mono ?_; rintro e u1 ⟨rfl, hb1⟩; have T1 := Lib.hid (T0.out.below hb1); have C1 := Lib.hid (C0.out.below hb1); have O1 := Lib.hid (O0.out.below hb1); have K1 := Lib.hid (K0.out.below hb1); have L1 := Lib.hid (L0.out.below hb1); have M1 := Lib.hid (M0.out.below hb1); have HB1 := Lib.hid (HB0.out.trans (hb1.mono HB0.out.size)); clear hb1; have y1T0 := T1.out.cell 0; have y1T1 := T1.out.cell 1; have y1C0 := C1.out.cell 0; have y1C1 := C1.out.cell 1; have y1C2 := C1.out.cell 2; simp only [List.getElem?_toArray, List.getElem?_cons_zero, List.getElem?_cons_succ] at y1T0 y1T1 y1C0 y1C1 y1C2; have y1Tl := T1.out.lt; have y1Cl := C1.out.lt) | (go_at_call 30; with_reducible refine (HCob.out _).mono ?_; rintro e u2 ⟨rfl, hb2⟩; have T2 := Lib.hid (T1.out.below hb2); have C2 := Lib.hid (C1.out.below hb2); have O2 := Lib.hid (O1.out.below hb2); have K2 := Lib.hid (K1.out.below hb2); have L2 := Lib.hid (L1.out.below hb2); have M2 := Lib.hid (M1.out.below hb2); have HB2 := Lib.hid (HB1.out.trans (hb2.mono HB1.out.size)); clear hb2; have y2T0 := T2.out.cell 0; have y2T1 := T2.out.cell 1; have y2C0 := C2.out.cell 0; have y2C1 := C2.out.cell 1; have y2C2 := C2.out.cell 2; simp only [List.getElem?_toArray, List.getElem?_cons_zero, List.getElem?_cons_succ] at y2T0 y2T1 y2C0 y2C1 y2C2; have y2Tl := T2.out.lt; have y2Cl := C2.out.lt))
  clear yT0 yT1 yC0 yC1 yC2 yTl yCl y1T0 y1T1 y1C0 y1C1 y1C2 y1Tl y1Cl y2T0 y2T1 y2C0 y2C1 y2C2 y2Tl y2Cl T0 C0 O0 K0 L0 M0 T1 C1 O1 K1 L1 M1 HB0 HB1
  have HC1 := Lib.hid (fun (u : World) (hu : TR.Ok u ⟨A, n, c, B, m, d, hs, ms⟩) => (fun (q1 : SAt encI 1 u A1 n1 st) (q2 : SAt encI 1 u A2 n2 en) (q3 : SAt encI 1 u A3 n3 ma) => CheckCourse_any ⟨A, n, c, B, m, d, hs, ms⟩ A1 n1 c1 A2 n2 c2 A3 n3 c3 st en ma u hu q1 q2 q3))
  have HN := Lib.hid (fun (u : World) (hu : TR.Ok u ⟨A, n, c, B, m, d, hs, ms⟩) => nar_tr hu)
  dsimp only [TR.v] at HC1 HN
  by_cases hn : nwE hs ms = 0
  case neg =>
    have HNo := Lib.hid (nwE_no hn st en ma)
    generalize ckCo hs ms st en ma = cc at *
    generalize nwE hs ms = ne at *
    have hnb : (ne != 0) = true := by simpa using hn
    have hcb : (cc != 0) = true := by simpa using HNo.out
    clear hn
    have yT0 := T2.out.cell 0
    have yT1 := T2.out.cell 1
    have yC0 := C2.out.cell 0
    have yC1 := C2.out.cell 1
    have yC2 := C2.out.cell 2
    simp only [List.getElem?_toArray, List.getElem?_cons_zero, List.getElem?_cons_succ] at yT0 yT1 yC0 yC1 yC2
    have yTl := T2.out.lt
    have yCl := C2.out.lt
    have HC := Lib.hid (HN.out _ O2.out)
    try dsimp only [TR.v, vCt] at HC
    go_upto_region 5 with (go_at_call 31; with_reducible refine HC.out.mono ?_; rintro e u3 ⟨Q1, w1, x1, Q2, w2, x2, rfl, ho, _, _, hb⟩)
    clear yT0 yT1 yC0 yC1 yC2 yTl yCl
    clear HC
    have bn := hb
    have bq : Below u3.heap.size u3 (u3.alloc (.cells #[.slice Q1 w1 x1, .slice Q2 w2 x2] 25)) := ((Below.refl u3.heap.size u3).alloc (Nat.le_refl _) _)
    have bn := hb.trans (bq.mono hb.size)
    have T3 := Lib.hid (T2.out.below bn)
    have C3 := Lib.hid (C2.out.below bn)
    have O3 := Lib.hid (O2.out.below bn)
    have K3 := Lib.hid (K2.out.below bn)
    have L3 := Lib.hid (L2.out.below bn)
    have M3 := Lib.hid (M2.out.below bn)
    have HB3 := Lib.hid (HB2.out.trans (bn.mono HB2.out.size))
    have Y3 : Hid (Blk (u3.alloc (.cells #[.slice Q1 w1 x1, .slice Q2 w2 x2] 25)) u3.heap.size 25 #[.slice Q1 w1 x1, .slice Q2 w2 x2]) := Lib.hid (Blk.at_new 25 #[.slice Q1 w1 x1, .slice Q2 w2 x2] rfl)
    generalize hV : u3.alloc (.cells #[.slice Q1 w1 x1, .slice Q2 w2 x2] 25) = V3 at *
    generalize hp : u3.heap.size = p3 at *
    clear hV hp bq
    clear hb bn T2 C2 O2 K2 L2 M2 HB2
    clear ho
    have yT0 := T3.out.cell 0
    have yT1 := T3.out.cell 1
    have yC0 := C3.out.cell 0
    have yC1 := C3.out.cell 1
    have yC2 := C3.out.cell 2
    have yY0 := Y3.out.cell 0
    have yY1 := Y3.out.cell 1
    simp only [List.getElem?_toArray, List.getElem?_cons_zero, List.getElem?_cons_succ] at yT0 yT1 yC0 yC1 yC2 yY0 yY1
    have yTl := T3.out.lt
    have yCl := C3.out.lt
    have yYl := Y3.out.lt
    go_wp2_with (first | (go_at_call 14; with_reducible refine (HSan.out _).mono ?_; rintro e u4 ⟨rfl, hb4⟩; have T4 := Lib.hid (T3.out.below hb4); have C4 := Lib.hid (C3.out.below hb4); have O4 := Lib.hid (O3.out.below hb4); have K4 := Lib.hid (K3.out.below hb4); have L4 := Lib.hid (L3.out.below hb4); have M4 := Lib.hid (M3.out.below hb4); have Y4 := Lib.hid (Y3.out.below hb4); have HB4 := Lib.hid (HB3.out.trans (hb4.mono HB3.out.size)); clear hb4; have y4T0 := T4.out.cell 0; have y4T1 := T4.out.cell 1; have y4C0 := C4.out.cell 0; have y4C1 := C4.out.cell 1; have y4C2 := C4.out.cell 2; have y4Y0 := Y4.out.cell 0; have y4Y1 := Y4.out.cell 1; simp only [List.getElem?_toArray, List.getElem?_cons_zero, List.getElem?_cons_succ] at y4T0 y4T1 y4C0 y4C1 y4C2 y4Y0 y4Y1; have y4Tl := T4.out.lt; have y4Cl := C4.out.lt; have y4Yl := Y4.out.lt) | (go_at_call 32; with_reducible refine (HC1.out _ O4.out K4.out L4.out M4.out).mono ?_; rintro e u5 ⟨rfl, hb5⟩; have T5 := Lib.hid (T4.out.below hb5); have C5 := Lib.hid (C4.out.below hb5); have O5 := Lib.hid (O4.out.below hb5); have K5 := Lib.hid (K4.out.below hb5); have L5 := Lib.hid (L4.out.below hb5); have M5 := Lib.hid (M4.out.below hb5); have Y5 := Lib.hid (Y4.out.below hb5); have HB5 := Lib.hid (HB4.out.trans (hb5.mono HB4.out.size)); clear hb5; have y5T0 := T5.out.cell 0; have y5T1 := T5.out.cell 1; have y5C0 := C5.out.cell 0; have y5C1 := C5.out.cell 1; have y5C2 := C5.out.cell 2; have y5Y0 := Y5.out.cell 0; have y5Y1 := Y5.out.cell 1; simp only [List.getElem?_toArray, List.getElem?_cons_zero, List.getElem?_cons_succ] at y5T0 y5T1 y5C0 y5C1 y5C2 y5Y0 y5Y1; have y5Tl := T5.out.lt; have y5Cl := C5.out.lt; have y5Yl := Y5.out.lt))
    exact bodyPost_ret (v := .bool true) (by simp [results, Try.results7, go_sem]) rfl ⟨rfl, HB5.out⟩
  case pos =>
  obtain ⟨hv, ha⟩ := nwE_zero hn
  have hc := tcheck_zero.2 hv
  obtain ⟨_, hnH, hnM⟩ := nwE_of hc ha
  rw [hn, hnH, hnM] at HN
  have HF := Lib.hid (fun (u : World) (hu : TR.Ok u ⟨A, n, c, B, m, d, hs, ms⟩) => fi_yes hu hc ha)
  have hv2 := hv.nar ha
  have hc2 := tcheck_zero.2 hv2
  have ha2 := agr_nar hv ha
  obtain ⟨hn2, hnH2, hnM2⟩ := nwE_of hc2 ha2
  rw [narH_nar hv ha] at hnH2
  rw [narM_nar hv ha] at hnM2
  have HCk := Lib.hid (show ∀ st en ma, ckCo (narH hs ms) (narM hs ms) st en ma = ckCo hs ms st en ma from fun st en ma => by unfold ckCo; rw [hc, hc2, fits_nar hv ha])
  have HCz := Lib.hid (show ∀ st en ma, fitsL hs ms st en ma = true → ckCo hs ms st en ma = 0 from fun st en ma hh => by unfold ckCo; rw [if_neg (by simpa using hc), if_pos hh])
  dsimp only [TR.v] at HF
  have yT0 := T2.out.cell 0
  have yT1 := T2.out.cell 1
  have yC0 := C2.out.cell 0
  have yC1 := C2.out.cell 1
  have yC2 := C2.out.cell 2
  simp only [List.getElem?_toArray, List.getElem?_cons_zero, List.getElem?_cons_succ] at yT0 yT1 yC0 yC1 yC2
  have yTl := T2.out.lt
  have yCl := C2.out.lt
  have HC := Lib.hid (HN.out _ O2.out)
  try dsimp only [TR.v, vCt] at HC
  go_upto_region 6 with (go_at_call 31; with_reducible refine HC.out.mono ?_; rintro e u3 ⟨Q1, w1, x1, Q2, w2, x2, rfl, ho, hl1, hl2, hb⟩)
  clear yT0 yT1 yC0 yC1 yC2 yTl yCl
  clear HC
  have bn := hb
  have bq : Below u3.heap.size u3 (u3.alloc (.cells #[.slice Q1 w1 x1, .slice Q2 w2 x2] 25)) := ((Below.refl u3.heap.size u3).alloc (Nat.le_refl _) _)
  have bn := hb.trans (bq.mono hb.size)
  have T3 := Lib.hid (T2.out.below bn)
  have C3 := Lib.hid (C2.out.below bn)
  have O3 := Lib.hid (O2.out.below bn)
  have K3 := Lib.hid (K2.out.below bn)
  have L3 := Lib.hid (L2.out.below bn)
  have M3 := Lib.hid (M2.out.below bn)
  have HB3 := Lib.hid (HB2.out.trans (bn.mono HB2.out.size))
  have N3 := Lib.hid ((ho).below bq)
  have Y3 : Hid (Blk (u3.alloc (.cells #[.slice Q1 w1 x1, .slice Q2 w2 x2] 25)) u3.heap.size 25 #[.slice Q1 w1 x1, .slice Q2 w2 x2]) := Lib.hid (Blk.at_new 25 #[.slice Q1 w1 x1, .slice Q2 w2 x2] rfl)
  generalize hV : u3.alloc (.cells #[.slice Q1 w1 x1, .slice Q2 w2 x2] 25) = V3 at *
  generalize hp : u3.heap.size = p3 at *
  clear hV hp bq
  clear hb bn T2 C2 O2 K2 L2 M2 HB2
  clear ho
  have HN2 := Lib.hid (fun (u : World) (hu : TR.Ok u ⟨Q1, w1, x1, Q2, w2, x2, narH hs ms, narM hs ms⟩) => nar_tr hu)
  dsimp only [TR.v] at HN2
  rw [hn2, hnH2, hnM2] at HN2
  have yT0 := T3.out.cell 0
  have yT1 := T3.out.cell 1
  have yC0 := C3.out.cell 0
  have yC1 := C3.out.cell 1
  have yC2 := C3.out.cell 2
  have yY0 := Y3.out.cell 0
  have yY1 := Y3.out.cell 1
  simp only [List.getElem?_toArray, List.getElem?_cons_zero, List.getElem?_cons_succ] at yT0 yT1 yC0 yC1 yC2 yY0 yY1
  have yTl := T3.out.lt
  have yCl := C3.out.lt
  have yYl := Y3.out.lt
  have HC := Lib.hid (HN2.out _ N3.out)
  try dsimp only [TR.v, vCt] at HC
  go_upto_region 7 with (go_at_call 31; with_reducible refine HC.out.mono ?_; rintro e u4 ⟨R1, y1, z1, R2, y2, z2, rfl, ho, hl3, hl4, hb⟩)
  clear yT0 yT1 yC0 yC1 yC2 yY0 yY1 yTl yCl yYl
  clear HC
  have bn := hb
  have bq : Below u4.heap.size u4 (u4.alloc (.cells #[.slice R1 y1 z1, .slice R2 y2 z2] 25)) := ((Below.refl u4.heap.size u4).alloc (Nat.le_refl _) _)
  have bn := hb.trans (bq.mono hb.size)
  have T4 := Lib.hid (T3.out.below bn)
  have C4 := Lib.hid (C3.out.below bn)
  have O4 := Lib.hid (O3.out.below bn)
  have K4 := Lib.hid (K3.out.below bn)
  have L4 := Lib.hid (L3.out.below bn)
  have M4 := Lib.hid (M3.out.below bn)
  have Y4 := Lib.hid (Y3.out.below bn)
  have N4 := Lib.hid (N3.out.below bn)
  have HB4 := Lib.hid (HB3.out.trans (bn.mono HB3.out.size))
  have P4 := Lib.hid ((ho).below bq)
  have Z4 : Hid (Blk (u4.alloc (.cells #[.slice R1 y1 z1, .slice R2 y2 z2] 25)) u4.heap.size 25 #[.slice R1 y1 z1, .slice R2 y2 z2]) := Lib.hid (Blk.at_new 25 #[.slice R1 y1 z1, .slice R2 y2 z2] rfl)
  generalize hV : u4.alloc (.cells #[.slice R1 y1 z1, .slice R2 y2 z2] 25) = V4 at *
  generalize hp : u4.heap.size = p4 at *
  clear hV hp bq
  clear hb bn T3 C3 O3 K3 L3 M3 Y3 N3 HB3
  clear ho
  have yT0 := T4.out.cell 0
  have yT1 := T4.out.cell 1
  have yC0 := C4.out.cell 0
  have yC1 := C4.out.cell 1
  have yC2 := C4.out.cell 2
  have yY0 := Y4.out.cell 0
  have yY1 := Y4.out.cell 1
  have yZ0 := Z4.out.cell 0
  have yZ1 := Z4.out.cell 1
  simp only [List.getElem?_toArray, List.getElem?_cons_zero, List.getElem?_cons_succ] at yT0 yT1 yC0 yC1 yC2 yY0 yY1 yZ0 yZ1
  have yTl := T4.out.lt
  have yCl := C4.out.lt
  have yYl := Y4.out.lt
  have yZl := Z4.out.lt
  have HC := Lib.hid (HF.out _ O4.out)
  try dsimp only [TR.v, vCt] at HC
  go_upto_region 8 with (go_at_call 15; with_reducible refine HC.out.mono ?_; rintro e u5 ⟨D1, q1, r1, D2, q2, r2, D3, q3, r3, st2, en2, ma2, rfl, k1, k2, k3, hf, hb⟩)
  clear yT0 yT1 yC0 yC1 yC2 yY0 yY1 yZ0 yZ1 yTl yCl yYl yZl
  clear HC
  have bn := hb
  have bq : Below u5.heap.size u5 (u5.alloc (.cells #[.slice D1 q1 r1, .slice D2 q2 r2, .slice D3 q3 r3] 32)) := ((Below.refl u5.heap.size u5).alloc (Nat.le_refl _) _)
  have bn := hb.trans (bq.mono hb.size)
  have T5 := Lib.hid (T4.out.below bn)
  have C5 := Lib.hid (C4.out.below bn)
  have O5 := Lib.hid (O4.out.below bn)
  have K5 := Lib.hid (K4.out.below bn)
  have L5 := Lib.hid (L4.out.below bn)
  have M5 := Lib.hid (M4.out.below bn)
  have Y5 := Lib.hid (Y4.out.below bn)
  have N5 := Lib.hid (N4.out.below bn)
  have Z5 := Lib.hid (Z4.out.below bn)
  have P5 := Lib.hid (P4.out.below bn)
  have HB5 := Lib.hid (HB4.out.trans (bn.mono HB4.out.size))
  have I5 := Lib.hid ((k1).below bq)
  have J5 := Lib.hid ((k2).below bq)
  have S5 := Lib.hid ((k3).below bq)
  have G5 : Hid (Blk (u5.alloc (.cells #[.slice D1 q1 r1, .slice D2 q2 r2, .slice D3 q3 r3] 32)) u5.heap.size 32 #[.slice D1 q1 r1, .slice D2 q2 r2, .slice D3 q3 r3]) := Lib.hid (Blk.at_new 32 #[.slice D1 q1 r1, .slice D2 q2 r2, .slice D3 q3 r3] rfl)
  generalize hV : u5.alloc (.cells #[.slice D1 q1 r1, .slice D2 q2 r2, .slice D3 q3 r3] 32) = V5 at *
  generalize hp : u5.heap.size = p5 at *
  clear hV hp bq
  clear hb bn T4 C4 O4 K4 L4 M4 Y4 N4 Z4 P4 HB4
  clear k1 k2 k3
  have yT0 := T5.out.cell 0
  have yT1 := T5.out.cell 1
  have yC0 := C5.out.cell 0
  have yC1 := C5.out.cell 1
  have yC2 := C5.out.cell 2
  have yY0 := Y5.out.cell 0
  have yY1 := Y5.out.cell 1
  have yZ0 := Z5.out.cell 0
  have yZ1 := Z5.out.cell 1
  have yG0 := G5.out.cell 0
  have yG1 := G5.out.cell 1
  have yG2 := G5.out.cell 2
  simp only [List.getElem?_toArray, List.getElem?_cons_zero, List.getElem?_cons_succ] at yT0 yT1 yC0 yC1 yC2 yY0 yY1 yZ0 yZ1 yG0 yG1 yG2
  have yTl := T5.out.lt
  have yCl := C5.out.lt
  have yYl := Y5.out.lt
  have yZl := Z5.out.lt
  have yGl := G5.out.lt
  have HS := Lib.hid (fun x : Ext V5 => SameTrade_same Q1 w1 x1 Q2 w2 x2 R1 y1 z1 R2 y2 z2 (narH hs ms) (narM hs ms) x.w (N5.out.h.below x.below) (N5.out.m.below x.below) (P5.out.h.below x.below) (P5.out.m.below x.below) (by omega) (by omega))
  have HD1 := Lib.hid (fun x : Ext V5 => HC1.out x.w (O5.out.below x.below) (K5.out.below x.below) (L5.out.below x.below) (M5.out.below x.below))
  have HD2 := Lib.hid (fun x : Ext V5 => CheckCourse_any ⟨Q1, w1, x1, Q2, w2, x2, narH hs ms, narM hs ms⟩ A1 n1 c1 A2 n2 c2 A3 n3 c3 st en ma x.w (N5.out.below x.below) (K5.out.below x.below) (L5.out.below x.below) (M5.out.below x.below))
  have HD3 := Lib.hid (fun x : Ext V5 => CheckCourse_any ⟨Q1, w1, x1, Q2, w2, x2, narH hs ms, narM hs ms⟩ D1 q1 r1 D2 q2 r2 D3 q3 r3 st2 en2 ma2 x.w (N5.out.below x.below) (I5.out.below x.below) (J5.out.below x.below) (S5.out.below x.below))
  dsimp only [TR.v] at HD2 HD3
  rw [HCk.out] at HD2 HD3
  rw [HCz.out _ _ _ hf] at HD3
  clear hf hl1 hl2 hl3 hl4 hv ha hc hn hnH hnM hv2 hc2 ha2 hn2 hnH2 hnM2
  generalize ckCo hs ms st en ma = cc at *
  have e1 : (cc == cc) = true := by simp
  obtain ⟨xc, xf'⟩ := xcell (W := V5)
  refine wp_region_quiet_tail 29 (by kernel_rfl) (by kernel_rfl) ?_
  simp only [List.take_succ_cons, List.take_zero, List.drop_succ_cons, List.drop_zero]
  repeat (first | go_big_quiet_step ((first | (go_at_call 14; with_reducible refine calls_ext (HSan.out _)) | (go_at_call 27; with_reducible refine calls_ext (HS.out _)) | (go_at_call 32; with_reducible refine calls_ext (HD1.out _)) | (go_at_call 32; with_reducible refine calls_ext (HD2.out _)) | (go_at_call 32; with_reducible refine calls_ext (HD3.out _)))) | quiet_step ((first | (go_at_call 14; with_reducible refine calls_ext (HSan.out _)) | (go_at_call 27; with_reducible refine calls_ext (HS.out _)) | (go_at_call 32; with_reducible refine calls_ext (HD1.out _)) | (go_at_call 32; with_reducible refine calls_ext (HD2.out _)) | (go_at_call 32; with_reducible refine calls_ext (HD3.out _)))))
  refine wpQuiet_nil ?_
  intro wz hbz
  go_wp2
  exact bodyPost_ret (v := .bool true) (by simp [results, Try.results7, go_sem]) rfl ⟨rfl, HB5.out.trans (hbz.mono HB5.out.size)⟩
open Go.WideShapes Go.ChangeShapes Go.Joins Go.Deep
set_option maxRecDepth 100000 in
theorem flowNarrowed_lifted (os : Os) (started : os.Started) (H : Type) (enc : TypeId × Value → H) :
    ReturnsInHanded Rows.flowNarrowedRow.assume Try.checked os 7 .any (Rows.flowNarrowedSpec.pre6 enc Try.prog Try.f7 Rows.flowNarrowedRow.domain false) (Rows.flowNarrowedSpec.post enc Try.prog Try.f7 false Rows.flowNarrowedRow.fresh Rows.flowNarrowedRow.handsOn Rows.flowNarrowedRow.again) := by
  refine returnsInHanded_of_change (C := Try.checked) (by kernel_rfl) started (by kernel_rfl) Try.func7
    (ChangeSpec.witness6 (enc := enc) (C := Try.checked) false ⟨#[], #[.agg #[.slice none 0 0, .slice none 0 0], .agg #[.slice none 0 0, .slice none 0 0, .slice none 0 0]], []⟩ 8 (by kernel_rfl) (by kernel_rfl) (by kernel_rfl) (by kernel_rfl)) ?_
  intro W base args ds gs before hval0 hW hcnd _
  have hval : ∀ (j : Nat) t v, Try.f7.params[j]? = some t → args[j]? = some v → Value.okWide Try.prog W .any base t v := hval0
  have hW' := hW
  obtain ⟨p, q, hA0, hV, rfl, hfz, hnd⟩ := hW
  obtain ⟨rfl, rfl⟩ := trodVars_none hV
  have hA : DataW.TrodAll enc Try.prog W 0 (fun _ => true) true [25, 32] args.toList ds p := hA0
  obtain ⟨v0, v1, d0, d1, p0, p1, rfl, rfl, rfl, h0, h1⟩ := trodAll_two hA
  obtain ⟨t, rfl, hT, _, rfl⟩ := open_tr (hval 0 25 v0 rfl rfl) h0
  obtain ⟨A1, n1, c1, A2, n2, c2, A3, n3, c3, st, en, ma, rfl, k1, k2, k3, l1, l2, l3, _, rfl⟩ := open_co (hval 1 32 v1 rfl rfl) h1
  refine (flowNarrowed_walk t A1 n1 c1 A2 n2 c2 A3 n3 c3 st en ma W hT k1 k2 k3 l1 l2 l3).mono fun e W' ⟨he, hb⟩ => ⟨_, he, law_post laid_out (by kernel_rfl) rfl Try.underlying4 rfl hW' rfl rfl rfl hb⟩

theorem flowNarrowed : Rows.FlowNarrowedSaid :=
  OpenClaim.holds_of_wide 7 Try.f7 rfl rfl rfl rfl rfl rfl rfl ⟨rfl, rfl, rfl, rfl, rfl⟩ rfl rfl rfl rfl rfl (by kernel_rfl) Try.func7 (by kernel_rfl)
    (of_decide_eq_true (by kernel_rfl)) (by unfold Func.isWrapper; first | (rw [if_pos (by decide +kernel)]; kernel_rfl) | (rw [if_neg (by decide +kernel)]; exact ⟨rfl, rfl⟩))
    (fun os started H enc _ => flowNarrowed_lifted os started H enc)
#print axioms flowNarrowed
end Go.Proofs.Ytighfmgkoepfkaa
