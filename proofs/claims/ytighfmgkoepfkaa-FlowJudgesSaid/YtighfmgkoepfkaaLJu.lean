/- The law FlowJudges. -/
import Derived.Test.YtighfmgkoepfkaaMX
import Derived.Test.YtighfmgkoepfkaaMI
namespace Go.Proofs.Ytighfmgkoepfkaa
open Go.RowKit

set_option maxRecDepth 100000 in
set_option maxHeartbeats 12800000 in
theorem flowJudges_walk (t : TR) (A1 : Option Addr) (n1 c1 : Nat) (A2 : Option Addr) (n2 c2 : Nat) (A3 : Option Addr) (n3 c3 : Nat) (st en ma : List Int) (way : Int) (As : Option Addr) (k cs : Nat) (s : List Int) (w : World) (h : t.Ok w) (h1 : SAt encI 1 w A1 n1 st) (h2 : SAt encI 1 w A2 n2 en) (h3 : SAt encI 1 w A3 n3 ma) (hs4 : SAt encI 1 w As k s)
    (l1 : n1 ≤ 9223372036854775807) (l2 : n2 ≤ 9223372036854775807) (l3 : n3 ≤ 9223372036854775807) : Calls Try.prog 11 #[t.v, vCo A1 n1 c1 A2 n2 c2 A3 n3 c3, vCt way As k cs] w fun e w' => e = .returned (.bool true) ∧ Below w.heap.size w w' := by
  obtain ⟨A, n, c, B, m, d, hs, ms⟩ := t
  have HSan := Lib.hid (fun u => sanity_any u)
  obtain ⟨fb, hfb⟩ : ∃ b, fewB n m = b := ⟨_, rfl⟩
  have HFew := Lib.hid (fun u => few_any A n c B m d u h.n_le h.m_le)
  rw [hfb] at HFew
  obtain ⟨cb, hcb⟩ : ∃ b, courseB n1 n2 n3 = b := ⟨_, rfl⟩
  have HCob := Lib.hid (fun u => course_law A1 n1 c1 A2 n2 c2 A3 n3 c3 u l1 l2 l3)
  rw [hcb] at HCob
  have HV := Lib.hid (tcheck_zero (hs := hs) (ms := ms))
  dsimp only [TR.v, vCt] at *
  have HB0 : Hid (Below w.heap.size w (((w.alloc (.cells #[.slice A n c, .slice B m d] 25)).alloc (.cells #[.slice A1 n1 c1, .slice A2 n2 c2, .slice A3 n3 c3] 32)).alloc (.cells #[.int .i64 way, .slice As k cs] 37))) := Lib.hid ((((Below.refl w.heap.size w).alloc (Nat.le_refl _) _).alloc (by simp) _).alloc (by simp; omega) _)
  have T0 : Hid (Blk (((w.alloc (.cells #[.slice A n c, .slice B m d] 25)).alloc (.cells #[.slice A1 n1 c1, .slice A2 n2 c2, .slice A3 n3 c3] 32)).alloc (.cells #[.int .i64 way, .slice As k cs] 37)) w.heap.size 25 #[.slice A n c, .slice B m d]) := Lib.hid (((Blk.at_new 25 #[.slice A n c, .slice B m d] rfl).alloc _).alloc _)
  have C0 : Hid (Blk (((w.alloc (.cells #[.slice A n c, .slice B m d] 25)).alloc (.cells #[.slice A1 n1 c1, .slice A2 n2 c2, .slice A3 n3 c3] 32)).alloc (.cells #[.int .i64 way, .slice As k cs] 37)) (w.heap.size + 1) 32 #[.slice A1 n1 c1, .slice A2 n2 c2, .slice A3 n3 c3]) := Lib.hid ((Blk.at_new 32 #[.slice A1 n1 c1, .slice A2 n2 c2, .slice A3 n3 c3] (by simp)).alloc _)
  have X0 : Hid (Blk (((w.alloc (.cells #[.slice A n c, .slice B m d] 25)).alloc (.cells #[.slice A1 n1 c1, .slice A2 n2 c2, .slice A3 n3 c3] 32)).alloc (.cells #[.int .i64 way, .slice As k cs] 37)) (w.heap.size + 2) 37 #[.int .i64 way, .slice As k cs]) := Lib.hid (Blk.at_new 37 #[.int .i64 way, .slice As k cs] (by simp))
  have O0 := Lib.hid ((h).below HB0.out)
  have K0 := Lib.hid ((h1).below HB0.out)
  have L0 := Lib.hid ((h2).below HB0.out)
  have M0 := Lib.hid ((h3).below HB0.out)
  have S0 := Lib.hid ((hs4).below HB0.out)
  go_enter Try.func11, Try.ntmps11
  go_upto_region 1 with fail
  generalize hV : ((w.alloc (.cells #[.slice A n c, .slice B m d] 25)).alloc (.cells #[.slice A1 n1 c1, .slice A2 n2 c2, .slice A3 n3 c3] 32)).alloc (.cells #[.int .i64 way, .slice As k cs] 37) = V0 at *
  clear hV
  clear h h1 h2 h3 hs4 hfb hcb
  cases fb with
  | false =>
    have yT0 := T0.out.cell 0
    have yT1 := T0.out.cell 1
    have yC0 := C0.out.cell 0
    have yC1 := C0.out.cell 1
    have yC2 := C0.out.cell 2
    have yX0 := X0.out.cell 0
    have yX1 := X0.out.cell 1
    simp only [List.getElem?_toArray, List.getElem?_cons_zero, List.getElem?_cons_succ] at yT0 yT1 yC0 yC1 yC2 yX0 yX1
    have yTl := T0.out.lt
    have yCl := C0.out.lt
    have yXl := X0.out.lt
    go_upto_region 2 with (go_at_call 13; with_reducible refine (HFew.out _).mono ?_; rintro e u1 ⟨rfl, hb1⟩; have T1 := Lib.hid (T0.out.below hb1); have C1 := Lib.hid (C0.out.below hb1); have X1 := Lib.hid (X0.out.below hb1); have O1 := Lib.hid (O0.out.below hb1); have K1 := Lib.hid (K0.out.below hb1); have L1 := Lib.hid (L0.out.below hb1); have M1 := Lib.hid (M0.out.below hb1); have S1 := Lib.hid (S0.out.below hb1); have HB1 := Lib.hid (HB0.out.trans (hb1.mono HB0.out.size)); clear hb1; have y1T0 := T1.out.cell 0; have y1T1 := T1.out.cell 1; have y1C0 := C1.out.cell 0; have y1C1 := C1.out.cell 1; have y1C2 := C1.out.cell 2; have y1X0 := X1.out.cell 0; have y1X1 := X1.out.cell 1; simp only [List.getElem?_toArray, List.getElem?_cons_zero, List.getElem?_cons_succ] at y1T0 y1T1 y1C0 y1C1 y1C2 y1X0 y1X1; have y1Tl := T1.out.lt; have y1Cl := C1.out.lt; have y1Xl := X1.out.lt)
    clear yT0 yT1 yC0 yC1 yC2 yX0 yX1 yTl yCl yXl y1T0 y1T1 y1C0 y1C1 y1C2 y1X0 y1X1 y1Tl y1Cl y1Xl T0 C0 X0 O0 K0 L0 M0 S0 HB0
    have yT0 := T1.out.cell 0
    have yT1 := T1.out.cell 1
    have yC0 := C1.out.cell 0
    have yC1 := C1.out.cell 1
    have yC2 := C1.out.cell 2
    have yX0 := X1.out.cell 0
    have yX1 := X1.out.cell 1
    simp only [List.getElem?_toArray, List.getElem?_cons_zero, List.getElem?_cons_succ] at yT0 yT1 yC0 yC1 yC2 yX0 yX1
    have yTl := T1.out.lt
    have yCl := C1.out.lt
    have yXl := X1.out.lt
    go_wp2_with (go_at_call 14; with_reducible refine (HSan.out _).mono ?_; rintro e u2 ⟨rfl, hb2⟩; have T2 := Lib.hid (T1.out.below hb2); have C2 := Lib.hid (C1.out.below hb2); have X2 := Lib.hid (X1.out.below hb2); have O2 := Lib.hid (O1.out.below hb2); have K2 := Lib.hid (K1.out.below hb2); have L2 := Lib.hid (L1.out.below hb2); have M2 := Lib.hid (M1.out.below hb2); have S2 := Lib.hid (S1.out.below hb2); have HB2 := Lib.hid (HB1.out.trans (hb2.mono HB1.out.size)); clear hb2; have y2T0 := T2.out.cell 0; have y2T1 := T2.out.cell 1; have y2C0 := C2.out.cell 0; have y2C1 := C2.out.cell 1; have y2C2 := C2.out.cell 2; have y2X0 := X2.out.cell 0; have y2X1 := X2.out.cell 1; simp only [List.getElem?_toArray, List.getElem?_cons_zero, List.getElem?_cons_succ] at y2T0 y2T1 y2C0 y2C1 y2C2 y2X0 y2X1; have y2Tl := T2.out.lt; have y2Cl := C2.out.lt; have y2Xl := X2.out.lt)
    exact bodyPost_ret (v := .bool true) (by simp [results, Try.results11, go_sem]) rfl ⟨rfl, HB2.out⟩
  | true =>
  cases cb with
  | false =>
    have yT0 := T0.out.cell 0
    have yT1 := T0.out.cell 1
    have yC0 := C0.out.cell 0
    have yC1 := C0.out.cell 1
    have yC2 := C0.out.cell 2
    have yX0 := X0.out.cell 0
    have yX1 := X0.out.cell 1
    simp only [List.getElem?_toArray, List.getElem?_cons_zero, List.getElem?_cons_succ] at yT0 yT1 yC0 yC1 yC2 yX0 yX1
    have yTl := T0.out.lt
    have yCl := C0.out.lt
    have yXl := X0.out.lt
    go_upto_region 2 with (first | (go_at_call 13; with_reducible refine (HFew.out _).mono ?_; rintro e u1 ⟨rfl, hb1⟩; have T1 := Lib.hid (T0.out.below hb1); have C1 := Lib.hid (C0.out.below hb1); have X1 := Lib.hid (X0.out.below hb1); have O1 := Lib.hid (O0.out.below hb1); have K1 := Lib.hid (K0.out.below hb1); have L1 := Lib.hid (L0.out.below hb1); have M1 := Lib.hid (M0.out.below hb1); have S1 := Lib.hid (S0.out.below hb1); have HB1 := Lib.hid (HB0.out.trans (hb1.mono HB0.out.size)); clear hb1; have y1T0 := T1.out.cell 0; have y1T1 := T1.out.cell 1; have y1C0 := C1.out.cell 0; have y1C1 := C1.out.cell 1; have y1C2 := C1.out.cell 2; have y1X0 := X1.out.cell 0; have y1X1 := X1.out.cell 1; simp only [List.getElem?_toArray, List.getElem?_cons_zero, List.getElem?_cons_succ] at y1T0 y1T1 y1C0 y1C1 y1C2 y1X0 y1X1; have y1Tl := T1.out.lt; have y1Cl := C1.out.lt; have y1Xl := X1.out.lt) | (go_at_call 30; with_reducible refine (HCob.out _).mono ?_; rintro e u2 ⟨rfl, hb2⟩; have T2 := Lib.hid (T1.out.below hb2); have C2 := Lib.hid (C1.out.below hb2); have X2 := Lib.hid (X1.out.below hb2); have O2 := Lib.hid (O1.out.below hb2); have K2 := Lib.hid (K1.out.below hb2); have L2 := Lib.hid (L1.out.below hb2); have M2 := Lib.hid (M1.out.below hb2); have S2 := Lib.hid (S1.out.below hb2); have HB2 := Lib.hid (HB1.out.trans (hb2.mono HB1.out.size)); clear hb2; have y2T0 := T2.out.cell 0; have y2T1 := T2.out.cell 1; have y2C0 := C2.out.cell 0; have y2C1 := C2.out.cell 1; have y2C2 := C2.out.cell 2; have y2X0 := X2.out.cell 0; have y2X1 := X2.out.cell 1; simp only [List.getElem?_toArray, List.getElem?_cons_zero, List.getElem?_cons_succ] at y2T0 y2T1 y2C0 y2C1 y2C2 y2X0 y2X1; have y2Tl := T2.out.lt; have y2Cl := C2.out.lt; have y2Xl := X2.out.lt))
    clear yT0 yT1 yC0 yC1 yC2 yX0 yX1 yTl yCl yXl y1T0 y1T1 y1C0 y1C1 y1C2 y1X0 y1X1 y1Tl y1Cl y1Xl y2T0 y2T1 y2C0 y2C1 y2C2 y2X0 y2X1 y2Tl y2Cl y2Xl T0 C0 X0 O0 K0 L0 M0 S0 T1 C1 X1 O1 K1 L1 M1 S1 HB0 HB1
    have yT0 := T2.out.cell 0
    have yT1 := T2.out.cell 1
    have yC0 := C2.out.cell 0
    have yC1 := C2.out.cell 1
    have yC2 := C2.out.cell 2
    have yX0 := X2.out.cell 0
    have yX1 := X2.out.cell 1
    simp only [List.getElem?_toArray, List.getElem?_cons_zero, List.getElem?_cons_succ] at yT0 yT1 yC0 yC1 yC2 yX0 yX1
    have yTl := T2.out.lt
    have yCl := C2.out.lt
    have yXl := X2.out.lt
    go_wp2_with (go_at_call 14; with_reducible refine (HSan.out _).mono ?_; rintro e u3 ⟨rfl, hb3⟩; have T3 := Lib.hid (T2.out.below hb3); have C3 := Lib.hid (C2.out.below hb3); have X3 := Lib.hid (X2.out.below hb3); have O3 := Lib.hid (O2.out.below hb3); have K3 := Lib.hid (K2.out.below hb3); have L3 := Lib.hid (L2.out.below hb3); have M3 := Lib.hid (M2.out.below hb3); have S3 := Lib.hid (S2.out.below hb3); have HB3 := Lib.hid (HB2.out.trans (hb3.mono HB2.out.size)); clear hb3; have y3T0 := T3.out.cell 0; have y3T1 := T3.out.cell 1; have y3C0 := C3.out.cell 0; have y3C1 := C3.out.cell 1; have y3C2 := C3.out.cell 2; have y3X0 := X3.out.cell 0; have y3X1 := X3.out.cell 1; simp only [List.getElem?_toArray, List.getElem?_cons_zero, List.getElem?_cons_succ] at y3T0 y3T1 y3C0 y3C1 y3C2 y3X0 y3X1; have y3Tl := T3.out.lt; have y3Cl := C3.out.lt; have y3Xl := X3.out.lt)
    exact bodyPost_ret (v := .bool true) (by simp [results, Try.results11, go_sem]) rfl ⟨rfl, HB3.out⟩
  | true =>
  by_cases hk60 : 60 < k
  case pos =>
    have hkb : decide ((60 : Int) < (k : Int)) = true := decide_eq_true (by omega)
    have yT0 := T0.out.cell 0
    have yT1 := T0.out.cell 1
    have yC0 := C0.out.cell 0
    have yC1 := C0.out.cell 1
    have yC2 := C0.out.cell 2
    have yX0 := X0.out.cell 0
    have yX1 := X0.out.cell 1
    simp only [List.getElem?_toArray, List.getElem?_cons_zero, List.getElem?_cons_succ] at yT0 yT1 yC0 yC1 yC2 yX0 yX1
    have yTl := T0.out.lt
    have yCl := C0.out.lt
    have yXl := X0.out.lt
    go_upto_region 2 with (first | (go_at_call 13; with_reducible refine (HFew.out _).mono ?_; rintro e u1 ⟨rfl, hb1⟩; have T1 := Lib.hid (T0.out.below hb1); have C1 := Lib.hid (C0.out.below hb1); have X1 := Lib.hid (X0.out.below hb1); have O1 := Lib.hid (O0.out.below hb1); have K1 := Lib.hid (K0.out.below hb1); have L1 := Lib.hid (L0.out.below hb1); have M1 := Lib.hid (M0.out.below hb1); have S1 := Lib.hid (S0.out.below hb1); have HB1 := Lib.hid (HB0.out.trans (hb1.mono HB0.out.size)); clear hb1; have y1T0 := T1.out.cell 0; have y1T1 := T1.out.cell 1; have y1C0 := C1.out.cell 0; have y1C1 := C1.out.cell 1; have y1C2 := C1.out.cell 2; have y1X0 := X1.out.cell 0; have y1X1 := X1.out.cell 1; simp only [List.getElem?_toArray, List.getElem?_cons_zero, List.getElem?_cons_succ] at y1T0 y1T1 y1C0 y1C1 y1C2 y1X0 y1X1; have y1Tl := T1.out.lt; have y1Cl := C1.out.lt; have y1Xl := X1.out.lt) | (go_at_call 30; with_reducible refine (HCob.out _).mono ?_; rintro e u2 ⟨rfl, hb2⟩; have T2 := Lib.hid (T1.out.below hb2); have C2 := Lib.hid (C1.out.below hb2); have X2 := Lib.hid (X1.out.below hb2); have O2 := Lib.hid (O1.out.below hb2); have K2 := Lib.hid (K1.out.below hb2); have L2 := Lib.hid (L1.out.below hb2); have M2 := Lib.hid (M1.out.below hb2); have S2 := Lib.hid (S1.out.below hb2); have HB2 := Lib.hid (HB1.out.trans (hb2.mono HB1.out.size)); clear hb2; have y2T0 := T2.out.cell 0; have y2T1 := T2.out.cell 1; have y2C0 := C2.out.cell 0; have y2C1 := C2.out.cell 1; have y2C2 := C2.out.cell 2; have y2X0 := X2.out.cell 0; have y2X1 := X2.out.cell 1; simp only [List.getElem?_toArray, List.getElem?_cons_zero, List.getElem?_cons_succ] at y2T0 y2T1 y2C0 y2C1 y2C2 y2X0 y2X1; have y2Tl := T2.out.lt; have y2Cl := C2.out.lt; have y2Xl := X2.out.lt))
    clear yT0 yT1 yC0 yC1 yC2 yX0 yX1 yTl yCl yXl y1T0 y1T1 y1C0 y1C1 y1C2 y1X0 y1X1 y1Tl y1Cl y1Xl y2T0 y2T1 y2C0 y2C1 y2C2 y2X0 y2X1 y2Tl y2Cl y2Xl T0 C0 X0 O0 K0 L0 M0 S0 T1 C1 X1 O1 K1 L1 M1 S1 HB0 HB1
    have yT0 := T2.out.cell 0
    have yT1 := T2.out.cell 1
    have yC0 := C2.out.cell 0
    have yC1 := C2.out.cell 1
    have yC2 := C2.out.cell 2
    have yX0 := X2.out.cell 0
    have yX1 := X2.out.cell 1
    simp only [List.getElem?_toArray, List.getElem?_cons_zero, List.getElem?_cons_succ] at yT0 yT1 yC0 yC1 yC2 yX0 yX1
    have yTl := T2.out.lt
    have yCl := C2.out.lt
    have yXl := X2.out.lt
    go_wp2_with (go_at_call 14; with_reducible refine (HSan.out _).mono ?_; rintro e u3 ⟨rfl, hb3⟩; have T3 := Lib.hid (T2.out.below hb3); have C3 := Lib.hid (C2.out.below hb3); have X3 := Lib.hid (X2.out.below hb3); have O3 := Lib.hid (O2.out.below hb3); have K3 := Lib.hid (K2.out.below hb3); have L3 := Lib.hid (L2.out.below hb3); have M3 := Lib.hid (M2.out.below hb3); have S3 := Lib.hid (S2.out.below hb3); have HB3 := Lib.hid (HB2.out.trans (hb3.mono HB2.out.size)); clear hb3; have y3T0 := T3.out.cell 0; have y3T1 := T3.out.cell 1; have y3C0 := C3.out.cell 0; have y3C1 := C3.out.cell 1; have y3C2 := C3.out.cell 2; have y3X0 := X3.out.cell 0; have y3X1 := X3.out.cell 1; simp only [List.getElem?_toArray, List.getElem?_cons_zero, List.getElem?_cons_succ] at y3T0 y3T1 y3C0 y3C1 y3C2 y3X0 y3X1; have y3Tl := T3.out.lt; have y3Cl := C3.out.lt; have y3Xl := X3.out.lt)
    exact bodyPost_ret (v := .bool true) (by simp [results, Try.results11, go_sem]) rfl ⟨rfl, HB3.out⟩
  case neg =>
  have hkb : decide ((60 : Int) < (k : Int)) = false := decide_eq_false (by omega)
  have hk6 : k ≤ 1000000 := by omega
  have yT0 := T0.out.cell 0
  have yT1 := T0.out.cell 1
  have yC0 := C0.out.cell 0
  have yC1 := C0.out.cell 1
  have yC2 := C0.out.cell 2
  have yX0 := X0.out.cell 0
  have yX1 := X0.out.cell 1
  simp only [List.getElem?_toArray, List.getElem?_cons_zero, List.getElem?_cons_succ] at yT0 yT1 yC0 yC1 yC2 yX0 yX1
  have yTl := T0.out.lt
  have yCl := C0.out.lt
  have yXl := X0.out.lt
  go_upto_region 3 with (first | (go_at_call 13; with_reducible refine (HFew.out _).mono ?_; rintro e u1 ⟨rfl, hb1⟩; have T1 := Lib.hid (T0.out.below hb1); have C1 := Lib.hid (C0.out.below hb1); have X1 := Lib.hid (X0.out.below hb1); have O1 := Lib.hid (O0.out.below hb1); have K1 := Lib.hid (K0.out.below hb1); have L1 := Lib.hid (L0.out.below hb1); have M1 := Lib.hid (M0.out.below hb1); have S1 := Lib.hid (S0.out.below hb1); have HB1 := Lib.hid (HB0.out.trans (hb1.mono HB0.out.size)); clear hb1; have y1T0 := T1.out.cell 0; have y1T1 := T1.out.cell 1; have y1C0 := C1.out.cell 0; have y1C1 := C1.out.cell 1; have y1C2 := C1.out.cell 2; have y1X0 := X1.out.cell 0; have y1X1 := X1.out.cell 1; simp only [List.getElem?_toArray, List.getElem?_cons_zero, List.getElem?_cons_succ] at y1T0 y1T1 y1C0 y1C1 y1C2 y1X0 y1X1; have y1Tl := T1.out.lt; have y1Cl := C1.out.lt; have y1Xl := X1.out.lt) | (go_at_call 30; with_reducible refine (HCob.out _).mono ?_; rintro e u2 ⟨rfl, hb2⟩; have T2 := Lib.hid (T1.out.below hb2); have C2 := Lib.hid (C1.out.below hb2); have X2 := Lib.hid (X1.out.below hb2); have O2 := Lib.hid (O1.out.below hb2); have K2 := Lib.hid (K1.out.below hb2); have L2 := Lib.hid (L1.out.below hb2); have M2 := Lib.hid (M1.out.below hb2); have S2 := Lib.hid (S1.out.below hb2); have HB2 := Lib.hid (HB1.out.trans (hb2.mono HB1.out.size)); clear hb2; have y2T0 := T2.out.cell 0; have y2T1 := T2.out.cell 1; have y2C0 := C2.out.cell 0; have y2C1 := C2.out.cell 1; have y2C2 := C2.out.cell 2; have y2X0 := X2.out.cell 0; have y2X1 := X2.out.cell 1; simp only [List.getElem?_toArray, List.getElem?_cons_zero, List.getElem?_cons_succ] at y2T0 y2T1 y2C0 y2C1 y2C2 y2X0 y2X1; have y2Tl := T2.out.lt; have y2Cl := C2.out.lt; have y2Xl := X2.out.lt))
  clear yT0 yT1 yC0 yC1 yC2 yX0 yX1 yTl yCl yXl y1T0 y1T1 y1C0 y1C1 y1C2 y1X0 y1X1 y1Tl y1Cl y1Xl y2T0 y2T1 y2C0 y2C1 y2C2 y2X0 y2X1 y2Tl y2Cl y2Xl T0 C0 X0 O0 K0 L0 M0 S0 T1 C1 X1 O1 K1 L1 M1 S1 HB0 HB1
  clear hkb
  have HTh := Lib.hid (fun (u : World) (hu : TR.Ok u ⟨A, n, c, B, m, d, hs, ms⟩) => (fun (hq : SAt encI 1 u As k s) => Through_any ⟨A, n, c, B, m, d, hs, ms⟩ way As k cs s u hu hq hk6))
  have HRh := Lib.hid (fun (u : World) (hu : TR.Ok u ⟨A, n, c, B, m, d, hs, ms⟩) => (fun (hq : SAt encI 1 u As k s) => RThrough_any ⟨A, n, c, B, m, d, hs, ms⟩ way As k cs s u hu hq hk6))
  have HC1 := Lib.hid (fun (u : World) (hu : TR.Ok u ⟨A, n, c, B, m, d, hs, ms⟩) => (fun (q1 : SAt encI 1 u A1 n1 st) (q2 : SAt encI 1 u A2 n2 en) (q3 : SAt encI 1 u A3 n3 ma) => CheckCourse_any ⟨A, n, c, B, m, d, hs, ms⟩ A1 n1 c1 A2 n2 c2 A3 n3 c3 st en ma u hu q1 q2 q3))
  have HC2 := Lib.hid (fun (u : World) (hu : TR.Ok u ⟨A, n, c, B, m, d, hs, ms⟩) => (fun (q1 : SAt encI 1 u A1 n1 st) (q2 : SAt encI 1 u A2 n2 en) (q3 : SAt encI 1 u A3 n3 ma) => RCheckCourse_any ⟨A, n, c, B, m, d, hs, ms⟩ A1 n1 c1 A2 n2 c2 A3 n3 c3 st en ma u hu q1 q2 q3))
  have HX1 := Lib.hid (fun (u : World) (hu : TR.Ok u ⟨A, n, c, B, m, d, hs, ms⟩) => (fun (hq : SAt encI 1 u As k s) => CheckCut_any ⟨A, n, c, B, m, d, hs, ms⟩ way As k cs s u hu hq hk6))
  have HX2 := Lib.hid (fun (u : World) (hu : TR.Ok u ⟨A, n, c, B, m, d, hs, ms⟩) => (fun (hq : SAt encI 1 u As k s) => RCheckCut_any ⟨A, n, c, B, m, d, hs, ms⟩ way As k cs s u hu hq hk6))
  dsimp only [TR.v, vCt] at HTh HRh HC1 HC2 HX1 HX2
  generalize (thruL hs ms way s).1 = th at *
  generalize (thruL hs ms way s).2 = te at *
  generalize ckCo hs ms st en ma = cc at *
  generalize ckCut hs ms way s = cx at *
  have yT0 := T2.out.cell 0
  have yT1 := T2.out.cell 1
  have yC0 := C2.out.cell 0
  have yC1 := C2.out.cell 1
  have yC2 := C2.out.cell 2
  have yX0 := X2.out.cell 0
  have yX1 := X2.out.cell 1
  simp only [List.getElem?_toArray, List.getElem?_cons_zero, List.getElem?_cons_succ] at yT0 yT1 yC0 yC1 yC2 yX0 yX1
  have yTl := T2.out.lt
  have yCl := C2.out.lt
  have yXl := X2.out.lt
  have HC := Lib.hid (HTh.out _ O2.out S2.out)
  try dsimp only [TR.v, vCt] at HC
  go_upto_region 4 with (go_at_call 36; with_reducible refine HC.out.mono ?_; rintro e u3 ⟨rfl, hb⟩)
  clear yT0 yT1 yC0 yC1 yC2 yX0 yX1 yTl yCl yXl
  clear HC
  have bn := hb
  have T3 := Lib.hid (T2.out.below bn)
  have C3 := Lib.hid (C2.out.below bn)
  have X3 := Lib.hid (X2.out.below bn)
  have O3 := Lib.hid (O2.out.below bn)
  have K3 := Lib.hid (K2.out.below bn)
  have L3 := Lib.hid (L2.out.below bn)
  have M3 := Lib.hid (M2.out.below bn)
  have S3 := Lib.hid (S2.out.below bn)
  have HB3 := Lib.hid (HB2.out.trans (bn.mono HB2.out.size))
  clear hb bn T2 C2 X2 O2 K2 L2 M2 S2 HB2
  have yT0 := T3.out.cell 0
  have yT1 := T3.out.cell 1
  have yC0 := C3.out.cell 0
  have yC1 := C3.out.cell 1
  have yC2 := C3.out.cell 2
  have yX0 := X3.out.cell 0
  have yX1 := X3.out.cell 1
  simp only [List.getElem?_toArray, List.getElem?_cons_zero, List.getElem?_cons_succ] at yT0 yT1 yC0 yC1 yC2 yX0 yX1
  have yTl := T3.out.lt
  have yCl := C3.out.lt
  have yXl := X3.out.lt
  have HC := Lib.hid (HRh.out _ O3.out S3.out)
  try dsimp only [TR.v, vCt] at HC
  go_upto_region 5 with (go_at_call 37; with_reducible refine HC.out.mono ?_; rintro e u4 ⟨rfl, hb⟩)
  clear yT0 yT1 yC0 yC1 yC2 yX0 yX1 yTl yCl yXl
  clear HC
  have bn := hb
  have T4 := Lib.hid (T3.out.below bn)
  have C4 := Lib.hid (C3.out.below bn)
  have X4 := Lib.hid (X3.out.below bn)
  have O4 := Lib.hid (O3.out.below bn)
  have K4 := Lib.hid (K3.out.below bn)
  have L4 := Lib.hid (L3.out.below bn)
  have M4 := Lib.hid (M3.out.below bn)
  have S4 := Lib.hid (S3.out.below bn)
  have HB4 := Lib.hid (HB3.out.trans (bn.mono HB3.out.size))
  clear hb bn T3 C3 X3 O3 K3 L3 M3 S3 HB3
  have yT0 := T4.out.cell 0
  have yT1 := T4.out.cell 1
  have yC0 := C4.out.cell 0
  have yC1 := C4.out.cell 1
  have yC2 := C4.out.cell 2
  have yX0 := X4.out.cell 0
  have yX1 := X4.out.cell 1
  simp only [List.getElem?_toArray, List.getElem?_cons_zero, List.getElem?_cons_succ] at yT0 yT1 yC0 yC1 yC2 yX0 yX1
  have yTl := T4.out.lt
  have yCl := C4.out.lt
  have yXl := X4.out.lt
  have HD1 := Lib.hid (fun x : Ext u4 => HC1.out x.w (O4.out.below x.below) (K4.out.below x.below) (L4.out.below x.below) (M4.out.below x.below))
  have HD2 := Lib.hid (fun x : Ext u4 => HC2.out x.w (O4.out.below x.below) (K4.out.below x.below) (L4.out.below x.below) (M4.out.below x.below))
  have HD3 := Lib.hid (fun x : Ext u4 => HX1.out x.w (O4.out.below x.below) (S4.out.below x.below))
  have HD4 := Lib.hid (fun x : Ext u4 => HX2.out x.w (O4.out.below x.below) (S4.out.below x.below))
  have e1 : (th == th) = true := by simp
  have e2 : (te == te) = true := by simp
  have e3 : (cc == cc) = true := by simp
  have e4 : (cx == cx) = true := by simp
  obtain ⟨xc, xf'⟩ := xcell (W := u4)
  refine wp_region_quiet_tail 29 (by kernel_rfl) (by kernel_rfl) ?_
  simp only [List.take_succ_cons, List.take_zero, List.drop_succ_cons, List.drop_zero]
  repeat (first | go_big_quiet_step ((first | (go_at_call 14; with_reducible refine calls_ext (HSan.out _)) | (go_at_call 32; with_reducible refine calls_ext (HD1.out _)) | (go_at_call 38; with_reducible refine calls_ext (HD2.out _)) | (go_at_call 34; with_reducible refine calls_ext (HD3.out _)) | (go_at_call 22; with_reducible refine calls_ext (HD4.out _)))) | quiet_step ((first | (go_at_call 14; with_reducible refine calls_ext (HSan.out _)) | (go_at_call 32; with_reducible refine calls_ext (HD1.out _)) | (go_at_call 38; with_reducible refine calls_ext (HD2.out _)) | (go_at_call 34; with_reducible refine calls_ext (HD3.out _)) | (go_at_call 22; with_reducible refine calls_ext (HD4.out _)))))
  refine wpQuiet_nil ?_
  intro wz hbz
  go_wp2
  exact bodyPost_ret (v := .bool true) (by simp [results, Try.results11, go_sem]) rfl ⟨rfl, HB4.out.trans (hbz.mono HB4.out.size)⟩
open Go.WideShapes Go.ChangeShapes Go.Joins Go.Deep
set_option maxRecDepth 100000 in
theorem flowJudges_lifted (os : Os) (started : os.Started) (H : Type) (enc : TypeId × Value → H) :
    ReturnsInHanded Rows.flowJudgesRow.assume Try.checked os 11 .any (Rows.flowJudgesSpec.pre6 enc Try.prog Try.f11 Rows.flowJudgesRow.domain false) (Rows.flowJudgesSpec.post enc Try.prog Try.f11 false Rows.flowJudgesRow.fresh Rows.flowJudgesRow.handsOn Rows.flowJudgesRow.again) := by
  refine returnsInHanded_of_change (C := Try.checked) (by kernel_rfl) started (by kernel_rfl) Try.func11
    (ChangeSpec.witness6 (enc := enc) (C := Try.checked) false ⟨#[], #[.agg #[.slice none 0 0, .slice none 0 0], .agg #[.slice none 0 0, .slice none 0 0, .slice none 0 0], .agg #[.int .i64 0, .slice none 0 0]], []⟩ 8 (by kernel_rfl) (by kernel_rfl) (by kernel_rfl) (by kernel_rfl)) ?_
  intro W base args ds gs before hval0 hW hcnd _
  have hval : ∀ (j : Nat) t v, Try.f11.params[j]? = some t → args[j]? = some v → Value.okWide Try.prog W .any base t v := hval0
  have hW' := hW
  obtain ⟨p, q, hA0, hV, rfl, hfz, hnd⟩ := hW
  obtain ⟨rfl, rfl⟩ := trodVars_none hV
  have hA : DataW.TrodAll enc Try.prog W 0 (fun _ => true) true [25, 32, 37] args.toList ds p := hA0
  obtain ⟨v0, v1, v2, d0, d1, d2, p0, p1, p2, rfl, rfl, rfl, h0, h1, h2⟩ := trodAll_three hA
  obtain ⟨t, rfl, hT, _, rfl⟩ := open_tr (hval 0 25 v0 rfl rfl) h0
  obtain ⟨A1, n1, c1, A2, n2, c2, A3, n3, c3, st, en, ma, rfl, k1, k2, k3, l1, l2, l3, _, rfl⟩ := open_co (hval 1 32 v1 rfl rfl) h1
  obtain ⟨way, As, k, cs, s, rfl, k4, l4, _, _, rfl⟩ := open_cu (hval 2 37 v2 rfl rfl) h2
  refine (flowJudges_walk t A1 n1 c1 A2 n2 c2 A3 n3 c3 st en ma way As k cs s W hT k1 k2 k3 k4 l1 l2 l3).mono fun e W' ⟨he, hb⟩ => ⟨_, he, law_post laid_out (by kernel_rfl) rfl Try.underlying4 rfl hW' rfl rfl rfl hb⟩

theorem flowJudges : Rows.FlowJudgesSaid :=
  OpenClaim.holds_of_wide 11 Try.f11 rfl rfl rfl rfl rfl rfl rfl ⟨rfl, rfl, rfl, rfl, rfl⟩ rfl rfl rfl rfl rfl (by kernel_rfl) Try.func11 (by kernel_rfl)
    (of_decide_eq_true (by kernel_rfl)) (by unfold Func.isWrapper; first | (rw [if_pos (by decide +kernel)]; kernel_rfl) | (rw [if_neg (by decide +kernel)]; exact ⟨rfl, rfl⟩))
    (fun os started H enc _ => flowJudges_lifted os started H enc)
#print axioms flowJudges
end Go.Proofs.Ytighfmgkoepfkaa
