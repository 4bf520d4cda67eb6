/- The law FlowDual. -/
import Derived.Test.YtighfmgkoepfkaaMX
import Derived.Test.YtighfmgkoepfkaaMI
namespace Go.Proofs.Ytighfmgkoepfkaa
open Go.RowKit

set_option maxRecDepth 100000 in
set_option maxHeartbeats 12800000 in
theorem flowDual_walk (t : TR) (A1 : Option Addr) (n1 c1 : Nat) (A2 : Option Addr) (n2 c2 : Nat) (A3 : Option Addr) (n3 c3 : Nat) (st en ma : List Int) (way : Int) (As : Option Addr) (k cs : Nat) (s : List Int) (w : World) (h : t.Ok w) (h1 : SAt encI 1 w A1 n1 st) (h2 : SAt encI 1 w A2 n2 en) (h3 : SAt encI 1 w A3 n3 ma) (hs4 : SAt encI 1 w As k s)
    (l1 : n1 ≤ 9223372036854775807) (l2 : n2 ≤ 9223372036854775807) (l3 : n3 ≤ 9223372036854775807) : Calls Try.prog 9 #[t.v, vCo A1 n1 c1 A2 n2 c2 A3 n3 c3, vCt way As k cs] w fun e w' => e = .returned (.bool true) ∧ Below w.heap.size w w' := by
  obtain ⟨A, n, c, B, m, d, hs, ms⟩ := t
  have HSan := Lib.hid (fun u => sanity_any u)
  obtain ⟨fb, hfb⟩ : ∃ b, fewB n m = b := ⟨_, rfl⟩
  have HFew := Lib.hid (fun u => few_any A n c B m d u h.n_le h.m_le)
  rw [hfb] at HFew
  obtain ⟨cb, hcb⟩ : ∃ b, courseB n1 n2 n3 = b := ⟨_, rfl⟩
  have HCob := Lib.hid (fun u => course_law A1 n1 c1 A2 n2 c2 A3 n3 c3 u l1 l2 l3)
  rw [hcb] at HCob
  have HV := Lib.hid (tcheck_zero (hs := hs) (ms := ms))
  dsimp only [TR.v, vCt] at *
  have HB0 : Hid (Below w.heap.size w (((w.alloc (.cells #[.slice A n c, .slice B m d] 25)).alloc (.cells #[.slice A1 n1 c1, .slice A2 n2 c2, .slice A3 n3 c3] 32)).alloc (.cells #[.int .i64 way, .slice As k cs] 37))) := Lib.hid ((((Below.refl w.heap.size w).alloc (Nat.le_refl _) _).alloc (by simp) _).alloc (by simp; omega) _)
  have T0 : Hid (Blk (((w.alloc (.cells #[.slice A n c, .slice B m d] 25)).alloc (.cells #[.slice A1 n1 c1, .slice A2 n2 c2, .slice A3 n3 c3] 32)).alloc (.cells #[.int .i64 way, .slice As k cs] 37)) w.heap.size 25 #[.slice A n c, .slice B m d]) := Lib.hid (((Blk.at_new 25 #[.slice A n c, .slice B m d] rfl).alloc _).alloc _)
  have C0 : Hid (Blk (((w.alloc (.cells #[.slice A n c, .slice B m d] 25)).alloc (.cells #[.slice A1 n1 c1, .slice A2 n2 c2, .slice A3 n3 c3] 32)).alloc (.cells #[.int .i64 way, .slice As k cs] 37)) (w.heap.size + 1) 32 #[.slice A1 n1 c1, .slice A2 n2 c2, .slice A3 n3 c3]) := Lib.hid ((Blk.at_new 32 #[.slice A1 n1 c1, .slice A2 n2 c2, .slice A3 n3 c3] (by simp)).alloc _)
  have X0 : Hid (Blk (((w.alloc (.cells #[.slice A n c, .slice B m d] 25)).alloc (.cells #[.slice A1 n1 c1, .slice A2 n2 c2, .slice A3 n3 c3] 32)).alloc (.cells #[.int .i64 way, .slice As k cs] 37)) (w.heap.size + 2) 37 #[.int .i64 way, .slice As k cs]) := Lib.hid (Blk.at_new 37 #[.int .i64 way, .slice As k cs] (by simp))
  have O0 := Lib.hid ((h).below HB0.out)
  have K0 := Lib.hid ((h1).below HB0.out)
  have L0 := Lib.hid ((h2).below HB0.out)
  have M0 := Lib.hid ((h3).below HB0.out)
  have S0 := Lib.hid ((hs4).below HB0.out)
  go_enter Try.func9, Try.ntmps9
  go_upto_region 1 with fail
  generalize hV : ((w.alloc (.cells #[.slice A n c, .slice B m d] 25)).alloc (.cells #[.slice A1 n1 c1, .slice A2 n2 c2, .slice A3 n3 c3] 32)).alloc (.cells #[.int .i64 way, .slice As k cs] 37) = V0 at *
  clear hV
  clear h h1 h2 h3 hs4 hfb hcb
  cases fb with
  | false =>
    have yT0 := T0.out.cell 0
    have yT1 := T0.out.cell 1
    have yC0 := C0.out.cell 0
    have yC1 := C0.out.cell 1
    have yC2 := C0.out.cell 2
    have yX0 := X0.out.cell 0
    have yX1 := X0.out.cell 1
    simp only [List.getElem?_toArray, List.getElem?_cons_zero, List.getElem?_cons_succ] at yT0 yT1 yC0 yC1 yC2 yX0 yX1
    have yTl := T0.out.lt
    have yCl := C0.out.lt
    have yXl := X0.out.lt
    go_upto_region 2 with (go_at_call 13; with_reducible refine (HFew.out _).mono ?_; rintro e u1 ⟨rfl, hb1⟩; have T1 := Lib.hid (T0.out.below hb1); have C1 := Lib.hid (C0.out.below hb1); have X1 := Lib.hid (X0.out.below hb1); have O1 := Lib.hid (O0.out.below hb1); have K1 := Lib.hid (K0.out.below hb1); have L1 := Lib.hid (L0.out.below hb1); have M1 := Lib.hid (M0.out.below hb1); have S1 := Lib.hid (S0.out.below hb1); have HB1 := Lib.hid (HB0.out.trans (hb1.mono HB0.out.size)); clear hb1; have y1T0 := T1.out.cell 0; have y1T1 := T1.out.cell 1; have y1C0 := C1.out.cell 0; have y1C1 := C1.out.cell 1; have y1C2 := C1.out.cell 2; have y1X0 := X1.out.cell 0; have y1X1 := X1.out.cell 1; simp only [List.getElem?_toArray, List.getElem?_cons_zero, List.getElem?_cons_succ] at y1T0 y1T1 y1C0 y1C1 y1C2 y1X0 y1X1; have y1Tl := T1.out.lt; have y1Cl := C1.out.lt; have y1Xl := X1.out.lt)
    clear yT0 yT1 yC0 yC1 yC2 yX0 yX1 yTl yCl yXl y1T0 y1T1 y1C0 y1C1 y1C2 y1X0 y1X1 y1Tl y1Cl y1Xl T0 C0 X0 O0 K0 L0 M0 S0 HB0
    have yT0 := T1.out.cell 0
    have yT1 := T1.out.cell 1
    have yC0 := C1.out.cell 0
    have yC1 := C1.out.cell 1
    have yC2 := C1.out.cell 2
    have yX0 := X1.out.cell 0
    have yX1 := X1.out.cell 1
    simp only [List.getElem?_toArray, List.getElem?_cons_zero, List.getElem?_cons_succ] at yT0 yT1 yC0 yC1 yC2 yX0 yX1
    have yTl := T1.out.lt
    have yCl := C1.out.lt
    have yXl := X1.out.lt
    go_wp2_with (go_at_call 14; with_reducible refine (HSan.out _).mono ?_; rintro e u2 ⟨rfl, hb2⟩; have T2 := Lib.hid (T1.out.below hb2); have C2 := Lib.hid (C1.out.below hb2); have X2 := Lib.hid (X1.out.below hb2); have O2 := Lib.hid (O1.out.below hb2); have K2 := Lib.hid (K1.out.below hb2); have L2 := Lib.hid (L1.out.below hb2); have M2 := Lib.hid (M1.out.below hb2); have S2 := Lib.hid (S1.out.below hb2); have HB2 := Lib.hid (HB1.out.trans (hb2.mono HB1.out.size)); clear hb2; have y2T0 := T2.out.cell 0; have y2T1 := T2.out.cell 1; have y2C0 := C2.out.cell 0; have y2C1 := C2.out.cell 1; have y2C2 := C2.out.cell 2; have y2X0 := X2.out.cell 0; have y2X1 := X2.out.cell 1; simp only [List.getElem?_toArray, List.getElem?_cons_zero, List.getElem?_cons_succ] at y2T0 y2T1 y2C0 y2C1 y2C2 y2X0 y2X1; have y2Tl := T2.out.lt; have y2Cl := C2.out.lt; have y2Xl := X2.out.lt)
    exact bodyPost_ret (v := .bool true) (by simp [results, Try.results9, go_sem]) rfl ⟨rfl, HB2.out⟩
  | true =>
  cases cb with
  | false =>
    have yT0 := T0.out.cell 0
    have yT1 := T0.out.cell 1
    have yC0 := C0.out.cell 0
    have yC1 := C0.out.cell 1
    have yC2 := C0.out.cell 2
    have yX0 := X0.out.cell 0
    have yX1 := X0.out.cell 1
    simp only [List.getElem?_toArray, List.getElem?_cons_zero, List.getElem?_cons_succ] at yT0 yT1 yC0 yC1 yC2 yX0 yX1
    have yTl := T0.out.lt
    have yCl := C0.out.lt
    have yXl := X0.out.lt
    go_upto_region 2 with (first | (go_at_call 13; with_reducible refine (HFew.out _).mono ?_; rintro e u1 ⟨rfl, hb1⟩; have T1 := Lib.hid (T0.out.below hb1); have C1 := Lib.hid (C0.out.below hb1); have X1 := Lib.hid (X0.out.below hb1); have O1 := Lib.hid (O0.out.below hb1); have K1 := Lib.hid (K0.out.below hb1); have L1 := Lib.hid (L0.out.below hb1); have M1 := Lib.hid (M0.out.below hb1); have S1 := Lib.hid (S0.out.below hb1); have HB1 := Lib.hid (HB0.out.trans (hb1.mono HB0.out.size)); clear hb1; have y1T0 := T1.out.cell 0; have y1T1 := T1.out.cell 1; have y1C0 := C1.out.cell 0; have y1C1 := C1.out.cell 1; have y1C2 := C1.out.cell 2; have y1X0 := X1.out.cell 0; have y1X1 := X1.out.cell 1; simp only [List.getElem?_toArray, List.getElem?_cons_zero, List.getElem?_cons_succ] at y1T0 y1T1 y1C0 y1C1 y1C2 y1X0 y1X1; have y1Tl := T1.out.lt; have y1Cl := C1.out.lt; have y1Xl := X1.out.lt) | (go_at_call 30; with_reducible refine (HCob.out _).mono ?_; rintro e u2 ⟨rfl, hb2⟩; have T2 := Lib.hid (T1.out.below hb2); have C2 := Lib.hid (C1.out.below hb2); have X2 := Lib.hid (X1.out.below hb2); have O2 := Lib.hid (O1.out.below hb2); have K2 := Lib.hid (K1.out.below hb2); have L2 := Lib.hid (L1.out.below hb2); have M2 := Lib.hid (M1.out.below hb2); have S2 := Lib.hid (S1.out.below hb2); have HB2 := Lib.hid (HB1.out.trans (hb2.mono HB1.out.size)); clear hb2; have y2T0 := T2.out.cell 0; have y2T1 := T2.out.cell 1; have y2C0 := C2.out.cell 0; have y2C1 := C2.out.cell 1; have y2C2 := C2.out.cell 2; have y2X0 := X2.out.cell 0; have y2X1 := X2.out.cell 1; simp only [List.getElem?_toArray, List.getElem?_cons_zero, List.getElem?_cons_succ] at y2T0 y2T1 y2C0 y2C1 y2C2 y2X0 y2X1; have y2Tl := T2.out.lt; have y2Cl := C2.out.lt; have y2Xl := X2.out.lt))
    clear yT0 yT1 yC0 yC1 yC2 yX0 yX1 yTl yCl yXl y1T0 y1T1 y1C0 y1C1 y1C2 y1X0 y1X1 y1Tl y1Cl y1Xl y2T0 y2T1 y2C0 y2C1 y2C2 y2X0 y2X1 y2Tl y2Cl y2Xl T0 C0 X0 O0 K0 L0 M0 S0 T1 C1 X1 O1 K1 L1 M1 S1 HB0 HB1
    have yT0 := T2.out.cell 0
    have yT1 := T2.out.cell 1
    have yC0 := C2.out.cell 0
    have yC1 := C2.out.cell 1
    have yC2 := C2.out.cell 2
    have yX0 := X2.out.cell 0
    have yX1 := X2.out.cell 1
    simp only [List.getElem?_toArray, List.getElem?_cons_zero, List.getElem?_cons_succ] at yT0 yT1 yC0 yC1 yC2 yX0 yX1
    have yTl := T2.out.lt
    have yCl := C2.out.lt
    have yXl := X2.out.lt
    go_wp2_with (go_at_call 14; with_reducible refine (HSan.out _).mono ?_; rintro e u3 ⟨rfl, hb3⟩; have T3 := Lib.hid (T2.out.below hb3); have C3 := Lib.hid (C2.out.below hb3); have X3 := Lib.hid (X2.out.below hb3); have O3 := Lib.hid (O2.out.below hb3); have K3 := Lib.hid (K2.out.below hb3); have L3 := Lib.hid (L2.out.below hb3); have M3 := Lib.hid (M2.out.below hb3); have S3 := Lib.hid (S2.out.below hb3); have HB3 := Lib.hid (HB2.out.trans (hb3.mono HB2.out.size)); clear hb3; have y3T0 := T3.out.cell 0; have y3T1 := T3.out.cell 1; have y3C0 := C3.out.cell 0; have y3C1 := C3.out.cell 1; have y3C2 := C3.out.cell 2; have y3X0 := X3.out.cell 0; have y3X1 := X3.out.cell 1; simp only [List.getElem?_toArray, List.getElem?_cons_zero, List.getElem?_cons_succ] at y3T0 y3T1 y3C0 y3C1 y3C2 y3X0 y3X1; have y3Tl := T3.out.lt; have y3Cl := C3.out.lt; have y3Xl := X3.out.lt)
    exact bodyPost_ret (v := .bool true) (by simp [results, Try.results9, go_sem]) rfl ⟨rfl, HB3.out⟩
  | true =>
  by_cases hk60 : 60 < k
  case pos =>
    have hkb : decide ((60 : Int) < (k : Int)) = true := decide_eq_true (by omega)
    have yT0 := T0.out.cell 0
    have yT1 := T0.out.cell 1
    have yC0 := C0.out.cell 0
    have yC1 := C0.out.cell 1
    have yC2 := C0.out.cell 2
    have yX0 := X0.out.cell 0
    have yX1 := X0.out.cell 1
    simp only [List.getElem?_toArray, List.getElem?_cons_zero, List.getElem?_cons_succ] at yT0 yT1 yC0 yC1 yC2 yX0 yX1
    have yTl := T0.out.lt
    have yCl := C0.out.lt
    have yXl := X0.out.lt
    go_upto_region 2 with (first | (go_at_call 13; with_reducible refine (HFew.out _).mono ?_; rintro e u1 ⟨rfl, hb1⟩; have T1 := Lib.hid (T0.out.below hb1); have C1 := Lib.hid (C0.out.below hb1); have X1 := Lib.hid (X0.out.below hb1); have O1 := Lib.hid (O0.out.below hb1); have K1 := Lib.hid (K0.out.below hb1); have L1 := Lib.hid (L0.out.below hb1); have M1 := Lib.hid (M0.out.below hb1); have S1 := Lib.hid (S0.out.below hb1); have HB1 := Lib.hid (HB0.out.trans (hb1.mono HB0.out.size)); clear hb1; have y1T0 := T1.out.cell 0; have y1T1 := T1.out.cell 1; have y1C0 := C1.out.cell 0; have y1C1 := C1.out.cell 1; have y1C2 := C1.out.cell 2; have y1X0 := X1.out.cell 0; have y1X1 := X1.out.cell 1; simp only [List.getElem?_toArray, List.getElem?_cons_zero, List.getElem?_cons_succ] at y1T0 y1T1 y1C0 y1C1 y1C2 y1X0 y1X1; have y1Tl := T1.out.lt; have y1Cl := C1.out.lt; have y1Xl := X1.out.lt) | (go_at_call 30; with_reducible refine (HCob.out _).mono ?_; rintro e u2 ⟨rfl, hb2⟩; have T2 := Lib.hid (T1.out.below hb2); have C2 := Lib.hid (C1.out.below hb2); have X2 := Lib.hid (X1.out.below hb2); have O2 := Lib.hid (O1.out.below hb2); have K2 := Lib.hid (K1.out.below hb2); have L2 := Lib.hid (L1.out.below hb2); have M2 := Lib.hid (M1.out.below hb2); have S2 := Lib.hid (S1.out.below hb2); have HB2 := Lib.hid (HB1.out.trans (hb2.mono HB1.out.size)); clear hb2; have y2T0 := T2.out.cell 0; have y2T1 := T2.out.cell 1; have y2C0 := C2.out.cell 0; have y2C1 := C2.out.cell 1; have y2C2 := C2.out.cell 2; have y2X0 := X2.out.cell 0; have y2X1 := X2.out.cell 1; simp only [List.getElem?_toArray, List.getElem?_cons_zero, List.getElem?_cons_succ] at y2T0 y2T1 y2C0 y2C1 y2C2 y2X0 y2X1; have y2Tl := T2.out.lt; have y2Cl := C2.out.lt; have y2Xl := X2.out.lt))
    clear yT0 yT1 yC0 yC1 yC2 yX0 yX1 yTl yCl yXl y1T0 y1T1 y1C0 y1C1 y1C2 y1X0 y1X1 y1Tl y1Cl y1Xl y2T0 y2T1 y2C0 y2C1 y2C2 y2X0 y2X1 y2Tl y2Cl y2Xl T0 C0 X0 O0 K0 L0 M0 S0 T1 C1 X1 O1 K1 L1 M1 S1 HB0 HB1
    have yT0 := T2.out.cell 0
    have yT1 := T2.out.cell 1
    have yC0 := C2.out.cell 0
    have yC1 := C2.out.cell 1
    have yC2 := C2.out.cell 2
    have yX0 := X2.out.cell 0
    have yX1 := X2.out.cell 1
    simp only [List.getElem?_toArray, List.getElem?_cons_zero, List.getElem?_cons_succ] at yT0 yT1 yC0 yC1 yC2 yX0 yX1
    have yTl := T2.out.lt
    have yCl := C2.out.lt
    have yXl := X2.out.lt
    go_wp2_with (go_at_call 14; with_reducible refine (HSan.out _).mono ?_; rintro e u3 ⟨rfl, hb3⟩; have T3 := Lib.hid (T2.out.below hb3); have C3 := Lib.hid (C2.out.below hb3); have X3 := Lib.hid (X2.out.below hb3); have O3 := Lib.hid (O2.out.below hb3); have K3 := Lib.hid (K2.out.below hb3); have L3 := Lib.hid (L2.out.below hb3); have M3 := Lib.hid (M2.out.below hb3); have S3 := Lib.hid (S2.out.below hb3); have HB3 := Lib.hid (HB2.out.trans (hb3.mono HB2.out.size)); clear hb3; have y3T0 := T3.out.cell 0; have y3T1 := T3.out.cell 1; have y3C0 := C3.out.cell 0; have y3C1 := C3.out.cell 1; have y3C2 := C3.out.cell 2; have y3X0 := X3.out.cell 0; have y3X1 := X3.out.cell 1; simp only [List.getElem?_toArray, List.getElem?_cons_zero, List.getElem?_cons_succ] at y3T0 y3T1 y3C0 y3C1 y3C2 y3X0 y3X1; have y3Tl := T3.out.lt; have y3Cl := C3.out.lt; have y3Xl := X3.out.lt)
    exact bodyPost_ret (v := .bool true) (by simp [results, Try.results9, go_sem]) rfl ⟨rfl, HB3.out⟩
  case neg =>
  have hkb : decide ((60 : Int) < (k : Int)) = false := decide_eq_false (by omega)
  have hk6 : k ≤ 1000000 := by omega
  have yT0 := T0.out.cell 0
  have yT1 := T0.out.cell 1
  have yC0 := C0.out.cell 0
  have yC1 := C0.out.cell 1
  have yC2 := C0.out.cell 2
  have yX0 := X0.out.cell 0
  have yX1 := X0.out.cell 1
  simp only [List.getElem?_toArray, List.getElem?_cons_zero, List.getElem?_cons_succ] at yT0 yT1 yC0 yC1 yC2 yX0 yX1
  have yTl := T0.out.lt
  have yCl := C0.out.lt
  have yXl := X0.out.lt
  go_upto_region 3 with (first | (go_at_call 13; with_reducible refine (HFew.out _).mono ?_; rintro e u1 ⟨rfl, hb1⟩; have T1 := Lib.hid (T0.out.below hb1); have C1 := Lib.hid (C0.out.below hb1); have X1 := Lib.hid (X0.out.below hb1); have O1 := Lib.hid (O0.out.below hb1); have K1 := Lib.hid (K0.out.below hb1); have L1 := Lib.hid (L0.out.below hb1); have M1 := Lib.hid (M0.out.below hb1); have S1 := Lib.hid (S0.out.below hb1); have HB1 := Lib.hid (HB0.out.trans (hb1.mono HB0.out.size)); clear hb1; have y1T0 := T1.out.cell 0; have y1T1 := T1.out.cell 1; have y1C0 := C1.out.cell 0; have y1C1 := C1.out.cell 1; have y1C2 := C1.out.cell 2; have y1X0 := X1.out.cell 0; have y1X1 := X1.out.cell 1; simp only [List.getElem?_toArray, List.getElem?_cons_zero, List.getElem?_cons_succ] at y1T0 y1T1 y1C0 y1C1 y1C2 y1X0 y1X1; have y1Tl := T1.out.lt; have y1Cl := C1.out.lt; have y1Xl := X1.out.lt) | (go_at_call 30; with_reducible refine (HCob.out _).mono ?_; rintro e u2 ⟨rfl, hb2⟩; have T2 := Lib.hid (T1.out.below hb2); have C2 := Lib.hid (C1.out.below hb2); have X2 := Lib.hid (X1.out.below hb2); have O2 := Lib.hid (O1.out.below hb2); have K2 := Lib.hid (K1.out.below hb2); have L2 := Lib.hid (L1.out.below hb2); have M2 := Lib.hid (M1.out.below hb2); have S2 := Lib.hid (S1.out.below hb2); have HB2 := Lib.hid (HB1.out.trans (hb2.mono HB1.out.size)); clear hb2; have y2T0 := T2.out.cell 0; have y2T1 := T2.out.cell 1; have y2C0 := C2.out.cell 0; have y2C1 := C2.out.cell 1; have y2C2 := C2.out.cell 2; have y2X0 := X2.out.cell 0; have y2X1 := X2.out.cell 1; simp only [List.getElem?_toArray, List.getElem?_cons_zero, List.getElem?_cons_succ] at y2T0 y2T1 y2C0 y2C1 y2C2 y2X0 y2X1; have y2Tl := T2.out.lt; have y2Cl := C2.out.lt; have y2Xl := X2.out.lt))
  clear yT0 yT1 yC0 yC1 yC2 yX0 yX1 yTl yCl yXl y1T0 y1T1 y1C0 y1C1 y1C2 y1X0 y1X1 y1Tl y1Cl y1Xl y2T0 y2T1 y2C0 y2C1 y2C2 y2X0 y2X1 y2Tl y2Cl y2Xl T0 C0 X0 O0 K0 L0 M0 S0 T1 C1 X1 O1 K1 L1 M1 S1 HB0 HB1
  clear hkb
  have HC1 := Lib.hid (fun (u : World) (hu : TR.Ok u ⟨A, n, c, B, m, d, hs, ms⟩) => (fun (q1 : SAt encI 1 u A1 n1 st) (q2 : SAt encI 1 u A2 n2 en) (q3 : SAt encI 1 u A3 n3 ma) => CheckCourse_any ⟨A, n, c, B, m, d, hs, ms⟩ A1 n1 c1 A2 n2 c2 A3 n3 c3 st en ma u hu q1 q2 q3))
  have HX1 := Lib.hid (fun (u : World) (hu : TR.Ok u ⟨A, n, c, B, m, d, hs, ms⟩) => (fun (hq : SAt encI 1 u As k s) => CheckCut_any ⟨A, n, c, B, m, d, hs, ms⟩ way As k cs s u hu hq hk6))
  have HR := Lib.hid (fun (u : World) (hu : TR.Ok u ⟨A, n, c, B, m, d, hs, ms⟩) => Check_any ⟨A, n, c, B, m, d, hs, ms⟩ u hu)
  dsimp only [TR.v, vCt] at HC1 HX1 HR
  by_cases hc : tcheck hs ms = 0
  case neg =>
    have HF := Lib.hid (fun (u : World) (hu : TR.Ok u ⟨A, n, c, B, m, d, hs, ms⟩) => fi_err hu hc)
    have HG := Lib.hid (fun (u : World) (hu : TR.Ok u ⟨A, n, c, B, m, d, hs, ms⟩) => co_err hu hc)
    dsimp only [TR.v] at HF HG
    generalize tcheck hs ms = tc at *
    have htb : (tc != 0) = true := by simpa using hc
    have hte : (tc == tc) = true := by simp
    clear hc
    have yT0 := T2.out.cell 0
    have yT1 := T2.out.cell 1
    have yC0 := C2.out.cell 0
    have yC1 := C2.out.cell 1
    have yC2 := C2.out.cell 2
    have yX0 := X2.out.cell 0
    have yX1 := X2.out.cell 1
    simp only [List.getElem?_toArray, List.getElem?_cons_zero, List.getElem?_cons_succ] at yT0 yT1 yC0 yC1 yC2 yX0 yX1
    have yTl := T2.out.lt
    have yCl := C2.out.lt
    have yXl := X2.out.lt
    have HC := Lib.hid (HF.out _ O2.out)
    try dsimp only [TR.v, vCt] at HC
    go_upto_region 4 with (go_at_call 15; with_reducible refine HC.out.mono ?_; rintro e u3 ⟨rfl, hb⟩)
    clear yT0 yT1 yC0 yC1 yC2 yX0 yX1 yTl yCl yXl
    clear HC
    have bn := hb
    have bq : Below u3.heap.size u3 (u3.alloc (.cells #[.slice none 0 0, .slice none 0 0, .slice none 0 0] 32)) := ((Below.refl u3.heap.size u3).alloc (Nat.le_refl _) _)
    have bn := hb.trans (bq.mono hb.size)
    have T3 := Lib.hid (T2.out.below bn)
    have C3 := Lib.hid (C2.out.below bn)
    have X3 := Lib.hid (X2.out.below bn)
    have O3 := Lib.hid (O2.out.below bn)
    have K3 := Lib.hid (K2.out.below bn)
    have L3 := Lib.hid (L2.out.below bn)
    have M3 := Lib.hid (M2.out.below bn)
    have S3 := Lib.hid (S2.out.below bn)
    have HB3 := Lib.hid (HB2.out.trans (bn.mono HB2.out.size))
    have Y3 : Hid (Blk (u3.alloc (.cells #[.slice none 0 0, .slice none 0 0, .slice none 0 0] 32)) u3.heap.size 32 #[.slice none 0 0, .slice none 0 0, .slice none 0 0]) := Lib.hid (Blk.at_new 32 #[.slice none 0 0, .slice none 0 0, .slice none 0 0] rfl)
    generalize hV : u3.alloc (.cells #[.slice none 0 0, .slice none 0 0, .slice none 0 0] 32) = V3 at *
    generalize hp : u3.heap.size = p3 at *
    clear hV hp bq
    clear hb bn T2 C2 X2 O2 K2 L2 M2 S2 HB2
    have yT0 := T3.out.cell 0
    have yT1 := T3.out.cell 1
    have yC0 := C3.out.cell 0
    have yC1 := C3.out.cell 1
    have yC2 := C3.out.cell 2
    have yX0 := X3.out.cell 0
    have yX1 := X3.out.cell 1
    have yY0 := Y3.out.cell 0
    have yY1 := Y3.out.cell 1
    have yY2 := Y3.out.cell 2
    simp only [List.getElem?_toArray, List.getElem?_cons_zero, List.getElem?_cons_succ] at yT0 yT1 yC0 yC1 yC2 yX0 yX1 yY0 yY1 yY2
    have yTl := T3.out.lt
    have yCl := C3.out.lt
    have yXl := X3.out.lt
    have yYl := Y3.out.lt
    have HC := Lib.hid (HG.out _ O3.out)
    try dsimp only [TR.v, vCt] at HC
    go_upto_region 5 with (go_at_call 19; with_reducible refine HC.out.mono ?_; rintro e u4 ⟨rfl, hb⟩)
    clear yT0 yT1 yC0 yC1 yC2 yX0 yX1 yY0 yY1 yY2 yTl yCl yXl yYl
    clear HC
    have bn := hb
    have bq : Below u4.heap.size u4 (u4.alloc (.cells #[.int .i64 0, .slice none 0 0] 37)) := ((Below.refl u4.heap.size u4).alloc (Nat.le_refl _) _)
    have bn := hb.trans (bq.mono hb.size)
    have T4 := Lib.hid (T3.out.below bn)
    have C4 := Lib.hid (C3.out.below bn)
    have X4 := Lib.hid (X3.out.below bn)
    have O4 := Lib.hid (O3.out.below bn)
    have K4 := Lib.hid (K3.out.below bn)
    have L4 := Lib.hid (L3.out.below bn)
    have M4 := Lib.hid (M3.out.below bn)
    have S4 := Lib.hid (S3.out.below bn)
    have Y4 := Lib.hid (Y3.out.below bn)
    have HB4 := Lib.hid (HB3.out.trans (bn.mono HB3.out.size))
    have Z4 : Hid (Blk (u4.alloc (.cells #[.int .i64 0, .slice none 0 0] 37)) u4.heap.size 37 #[.int .i64 0, .slice none 0 0]) := Lib.hid (Blk.at_new 37 #[.int .i64 0, .slice none 0 0] rfl)
    generalize hV : u4.alloc (.cells #[.int .i64 0, .slice none 0 0] 37) = V4 at *
    generalize hp : u4.heap.size = p4 at *
    clear hV hp bq
    clear hb bn T3 C3 X3 O3 K3 L3 M3 S3 Y3 HB3
    have yT0 := T4.out.cell 0
    have yT1 := T4.out.cell 1
    have yC0 := C4.out.cell 0
    have yC1 := C4.out.cell 1
    have yC2 := C4.out.cell 2
    have yX0 := X4.out.cell 0
    have yX1 := X4.out.cell 1
    have yY0 := Y4.out.cell 0
    have yY1 := Y4.out.cell 1
    have yY2 := Y4.out.cell 2
    have yZ0 := Z4.out.cell 0
    have yZ1 := Z4.out.cell 1
    simp only [List.getElem?_toArray, List.getElem?_cons_zero, List.getElem?_cons_succ] at yT0 yT1 yC0 yC1 yC2 yX0 yX1 yY0 yY1 yY2 yZ0 yZ1
    have yTl := T4.out.lt
    have yCl := C4.out.lt
    have yXl := X4.out.lt
    have yYl := Y4.out.lt
    have yZl := Z4.out.lt
    have HC := Lib.hid (HR.out _ O4.out)
    try dsimp only [TR.v, vCt] at HC
    go_upto_region 6 with (go_at_call 26; with_reducible refine HC.out.mono ?_; rintro e u5 ⟨rfl, hb⟩)
    clear yT0 yT1 yC0 yC1 yC2 yX0 yX1 yY0 yY1 yY2 yZ0 yZ1 yTl yCl yXl yYl yZl
    clear HC
    have bn := hb
    have T5 := Lib.hid (T4.out.below bn)
    have C5 := Lib.hid (C4.out.below bn)
    have X5 := Lib.hid (X4.out.below bn)
    have O5 := Lib.hid (O4.out.below bn)
    have K5 := Lib.hid (K4.out.below bn)
    have L5 := Lib.hid (L4.out.below bn)
    have M5 := Lib.hid (M4.out.below bn)
    have S5 := Lib.hid (S4.out.below bn)
    have Y5 := Lib.hid (Y4.out.below bn)
    have Z5 := Lib.hid (Z4.out.below bn)
    have HB5 := Lib.hid (HB4.out.trans (bn.mono HB4.out.size))
    clear hb bn T4 C4 X4 O4 K4 L4 M4 S4 Y4 Z4 HB4
    have yT0 := T5.out.cell 0
    have yT1 := T5.out.cell 1
    have yC0 := C5.out.cell 0
    have yC1 := C5.out.cell 1
    have yC2 := C5.out.cell 2
    have yX0 := X5.out.cell 0
    have yX1 := X5.out.cell 1
    have yY0 := Y5.out.cell 0
    have yY1 := Y5.out.cell 1
    have yY2 := Y5.out.cell 2
    have yZ0 := Z5.out.cell 0
    have yZ1 := Z5.out.cell 1
    simp only [List.getElem?_toArray, List.getElem?_cons_zero, List.getElem?_cons_succ] at yT0 yT1 yC0 yC1 yC2 yX0 yX1 yY0 yY1 yY2 yZ0 yZ1
    have yTl := T5.out.lt
    have yCl := C5.out.lt
    have yXl := X5.out.lt
    have yYl := Y5.out.lt
    have yZl := Z5.out.lt
    go_wp2_with (go_at_call 14; with_reducible refine (HSan.out _).mono ?_; rintro e u6 ⟨rfl, hb6⟩; have T6 := Lib.hid (T5.out.below hb6); have C6 := Lib.hid (C5.out.below hb6); have X6 := Lib.hid (X5.out.below hb6); have O6 := Lib.hid (O5.out.below hb6); have K6 := Lib.hid (K5.out.below hb6); have L6 := Lib.hid (L5.out.below hb6); have M6 := Lib.hid (M5.out.below hb6); have S6 := Lib.hid (S5.out.below hb6); have Y6 := Lib.hid (Y5.out.below hb6); have Z6 := Lib.hid (Z5.out.below hb6); have HB6 := Lib.hid (HB5.out.trans (hb6.mono HB5.out.size)); clear hb6; have y6T0 := T6.out.cell 0; have y6T1 := T6.out.cell 1; have y6C0 := C6.out.cell 0; have y6C1 := C6.out.cell 1; have y6C2 := C6.out.cell 2; have y6X0 := X6.out.cell 0; have y6X1 := X6.out.cell 1; have y6Y0 := Y6.out.cell 0; have y6Y1 := Y6.out.cell 1; have y6Y2 := Y6.out.cell 2; have y6Z0 := Z6.out.cell 0; have y6Z1 := Z6.out.cell 1; simp only [List.getElem?_toArray, List.getElem?_cons_zero, List.getElem?_cons_succ] at y6T0 y6T1 y6C0 y6C1 y6C2 y6X0 y6X1 y6Y0 y6Y1 y6Y2 y6Z0 y6Z1; have y6Tl := T6.out.lt; have y6Cl := C6.out.lt; have y6Xl := X6.out.lt; have y6Yl := Y6.out.lt; have y6Zl := Z6.out.lt)
    exact bodyPost_ret (v := .bool true) (by simp [results, Try.results9, go_sem]) rfl ⟨rfl, HB6.out⟩
  case pos =>
  have HTV := Lib.hid (HV.out.1 hc)
  rw [hc] at HR
  have HE1 := Lib.hid (show ckCo hs ms st en ma = if fitsL hs ms st en ma = true then 0 else 8 by unfold ckCo; rw [if_neg (by simpa using hc)])
  have HE2 := Lib.hid (show ckCut hs ms way s = if showsL hs ms way s = true then 0 else 8 by unfold ckCut; rw [if_neg (by simpa using hc)])
  cases ha : agrL hs ms with
  | false =>
    have HF := Lib.hid (fun (u : World) (hu : TR.Ok u ⟨A, n, c, B, m, d, hs, ms⟩) => fi_no hu hc ha)
    have HG := Lib.hid (fun (u : World) (hu : TR.Ok u ⟨A, n, c, B, m, d, hs, ms⟩) => co_no hu hc ha)
    have HCk := Lib.hid (show ∀ way s, showsL hs ms way s = true → ckCut hs ms way s = 0 from fun way s hh => by unfold ckCut; rw [if_neg (by simpa using hc), if_pos hh])
    dsimp only [TR.v] at HF HG
    have hfn : (ckCo hs ms st en ma == 0) = false := by
      rw [HE1.out, if_neg (fun hf => by rw [fits_agr HTV.out hf] at ha; cases ha)]; rfl
    generalize ckCo hs ms st en ma = cc at *
    clear hc ha
    have yT0 := T2.out.cell 0
    have yT1 := T2.out.cell 1
    have yC0 := C2.out.cell 0
    have yC1 := C2.out.cell 1
    have yC2 := C2.out.cell 2
    have yX0 := X2.out.cell 0
    have yX1 := X2.out.cell 1
    simp only [List.getElem?_toArray, List.getElem?_cons_zero, List.getElem?_cons_succ] at yT0 yT1 yC0 yC1 yC2 yX0 yX1
    have yTl := T2.out.lt
    have yCl := C2.out.lt
    have yXl := X2.out.lt
    have HC := Lib.hid (HF.out _ O2.out)
    try dsimp only [TR.v, vCt] at HC
    go_upto_region 4 with (go_at_call 15; with_reducible refine HC.out.mono ?_; rintro e u3 ⟨rfl, hb⟩)
    clear yT0 yT1 yC0 yC1 yC2 yX0 yX1 yTl yCl yXl
    clear HC
    have bn := hb
    have bq : Below u3.heap.size u3 (u3.alloc (.cells #[.slice none 0 0, .slice none 0 0, .slice none 0 0] 32)) := ((Below.refl u3.heap.size u3).alloc (Nat.le_refl _) _)
    have bn := hb.trans (bq.mono hb.size)
    have T3 := Lib.hid (T2.out.below bn)
    have C3 := Lib.hid (C2.out.below bn)
    have X3 := Lib.hid (X2.out.below bn)
    have O3 := Lib.hid (O2.out.below bn)
    have K3 := Lib.hid (K2.out.below bn)
    have L3 := Lib.hid (L2.out.below bn)
    have M3 := Lib.hid (M2.out.below bn)
    have S3 := Lib.hid (S2.out.below bn)
    have HB3 := Lib.hid (HB2.out.trans (bn.mono HB2.out.size))
    have Y3 : Hid (Blk (u3.alloc (.cells #[.slice none 0 0, .slice none 0 0, .slice none 0 0] 32)) u3.heap.size 32 #[.slice none 0 0, .slice none 0 0, .slice none 0 0]) := Lib.hid (Blk.at_new 32 #[.slice none 0 0, .slice none 0 0, .slice none 0 0] rfl)
    generalize hV : u3.alloc (.cells #[.slice none 0 0, .slice none 0 0, .slice none 0 0] 32) = V3 at *
    generalize hp : u3.heap.size = p3 at *
    clear hV hp bq
    clear hb bn T2 C2 X2 O2 K2 L2 M2 S2 HB2
    have yT0 := T3.out.cell 0
    have yT1 := T3.out.cell 1
    have yC0 := C3.out.cell 0
    have yC1 := C3.out.cell 1
    have yC2 := C3.out.cell 2
    have yX0 := X3.out.cell 0
    have yX1 := X3.out.cell 1
    have yY0 := Y3.out.cell 0
    have yY1 := Y3.out.cell 1
    have yY2 := Y3.out.cell 2
    simp only [List.getElem?_toArray, List.getElem?_cons_zero, List.getElem?_cons_succ] at yT0 yT1 yC0 yC1 yC2 yX0 yX1 yY0 yY1 yY2
    have yTl := T3.out.lt
    have yCl := C3.out.lt
    have yXl := X3.out.lt
    have yYl := Y3.out.lt
    have HC := Lib.hid (HG.out _ O3.out)
    try dsimp only [TR.v, vCt] at HC
    go_upto_region 5 with (go_at_call 19; with_reducible refine HC.out.mono ?_; rintro e u4 ⟨way2, Bs, kk, cc2, s2, rfl, hS, hk9, hsh, hb⟩)
    clear yT0 yT1 yC0 yC1 yC2 yX0 yX1 yY0 yY1 yY2 yTl yCl yXl yYl
    clear HC
    have bn := hb
    have bq : Below u4.heap.size u4 (u4.alloc (.cells #[.int .i64 way2, .slice Bs kk cc2] 37)) := ((Below.refl u4.heap.size u4).alloc (Nat.le_refl _) _)
    have bn := hb.trans (bq.mono hb.size)
    have T4 := Lib.hid (T3.out.below bn)
    have C4 := Lib.hid (C3.out.below bn)
    have X4 := Lib.hid (X3.out.below bn)
    have O4 := Lib.hid (O3.out.below bn)
    have K4 := Lib.hid (K3.out.below bn)
    have L4 := Lib.hid (L3.out.below bn)
    have M4 := Lib.hid (M3.out.below bn)
    have S4 := Lib.hid (S3.out.below bn)
    have Y4 := Lib.hid (Y3.out.below bn)
    have HB4 := Lib.hid (HB3.out.trans (bn.mono HB3.out.size))
    have Q4 := Lib.hid ((hS).below bq)
    have Z4 : Hid (Blk (u4.alloc (.cells #[.int .i64 way2, .slice Bs kk cc2] 37)) u4.heap.size 37 #[.int .i64 way2, .slice Bs kk cc2]) := Lib.hid (Blk.at_new 37 #[.int .i64 way2, .slice Bs kk cc2] rfl)
    generalize hV : u4.alloc (.cells #[.int .i64 way2, .slice Bs kk cc2] 37) = V4 at *
    generalize hp : u4.heap.size = p4 at *
    clear hV hp bq
    clear hb bn T3 C3 X3 O3 K3 L3 M3 S3 Y3 HB3
    clear hS
    have HQ := Lib.hid (fun (u : World) (hu : TR.Ok u ⟨A, n, c, B, m, d, hs, ms⟩) => (fun (hq : SAt encI 1 u Bs kk s2) => CheckCut_any ⟨A, n, c, B, m, d, hs, ms⟩ way2 Bs kk cc2 s2 u hu hq (by omega)))
    dsimp only [TR.v, vCt] at HQ
    rw [HCk.out way2 s2 hsh] at HQ
    clear hsh
    have yT0 := T4.out.cell 0
    have yT1 := T4.out.cell 1
    have yC0 := C4.out.cell 0
    have yC1 := C4.out.cell 1
    have yC2 := C4.out.cell 2
    have yX0 := X4.out.cell 0
    have yX1 := X4.out.cell 1
    have yY0 := Y4.out.cell 0
    have yY1 := Y4.out.cell 1
    have yY2 := Y4.out.cell 2
    have yZ0 := Z4.out.cell 0
    have yZ1 := Z4.out.cell 1
    simp only [List.getElem?_toArray, List.getElem?_cons_zero, List.getElem?_cons_succ] at yT0 yT1 yC0 yC1 yC2 yX0 yX1 yY0 yY1 yY2 yZ0 yZ1
    have yTl := T4.out.lt
    have yCl := C4.out.lt
    have yXl := X4.out.lt
    have yYl := Y4.out.lt
    have yZl := Z4.out.lt
    have HC := Lib.hid (HR.out _ O4.out)
    try dsimp only [TR.v, vCt] at HC
    go_upto_region 7 with (go_at_call 26; with_reducible refine HC.out.mono ?_; rintro e u5 ⟨rfl, hb⟩)
    clear yT0 yT1 yC0 yC1 yC2 yX0 yX1 yY0 yY1 yY2 yZ0 yZ1 yTl yCl yXl yYl yZl
    clear HC
    have bn := hb
    have T5 := Lib.hid (T4.out.below bn)
    have C5 := Lib.hid (C4.out.below bn)
    have X5 := Lib.hid (X4.out.below bn)
    have O5 := Lib.hid (O4.out.below bn)
    have K5 := Lib.hid (K4.out.below bn)
    have L5 := Lib.hid (L4.out.below bn)
    have M5 := Lib.hid (M4.out.below bn)
    have S5 := Lib.hid (S4.out.below bn)
    have Y5 := Lib.hid (Y4.out.below bn)
    have Z5 := Lib.hid (Z4.out.below bn)
    have Q5 := Lib.hid (Q4.out.below bn)
    have HB5 := Lib.hid (HB4.out.trans (bn.mono HB4.out.size))
    clear hb bn T4 C4 X4 O4 K4 L4 M4 S4 Y4 Z4 Q4 HB4
    have yT0 := T5.out.cell 0
    have yT1 := T5.out.cell 1
    have yC0 := C5.out.cell 0
    have yC1 := C5.out.cell 1
    have yC2 := C5.out.cell 2
    have yX0 := X5.out.cell 0
    have yX1 := X5.out.cell 1
    have yY0 := Y5.out.cell 0
    have yY1 := Y5.out.cell 1
    have yY2 := Y5.out.cell 2
    have yZ0 := Z5.out.cell 0
    have yZ1 := Z5.out.cell 1
    simp only [List.getElem?_toArray, List.getElem?_cons_zero, List.getElem?_cons_succ] at yT0 yT1 yC0 yC1 yC2 yX0 yX1 yY0 yY1 yY2 yZ0 yZ1
    have yTl := T5.out.lt
    have yCl := C5.out.lt
    have yXl := X5.out.lt
    have yYl := Y5.out.lt
    have yZl := Z5.out.lt
    go_upto_region 9 with (go_at_call 34; with_reducible refine (HQ.out _ O5.out Q5.out).mono ?_; rintro e u6 ⟨rfl, hb6⟩; have T6 := Lib.hid (T5.out.below hb6); have C6 := Lib.hid (C5.out.below hb6); have X6 := Lib.hid (X5.out.below hb6); have O6 := Lib.hid (O5.out.below hb6); have K6 := Lib.hid (K5.out.below hb6); have L6 := Lib.hid (L5.out.below hb6); have M6 := Lib.hid (M5.out.below hb6); have S6 := Lib.hid (S5.out.below hb6); have Y6 := Lib.hid (Y5.out.below hb6); have Z6 := Lib.hid (Z5.out.below hb6); have Q6 := Lib.hid (Q5.out.below hb6); have HB6 := Lib.hid (HB5.out.trans (hb6.mono HB5.out.size)); clear hb6; have y6T0 := T6.out.cell 0; have y6T1 := T6.out.cell 1; have y6C0 := C6.out.cell 0; have y6C1 := C6.out.cell 1; have y6C2 := C6.out.cell 2; have y6X0 := X6.out.cell 0; have y6X1 := X6.out.cell 1; have y6Y0 := Y6.out.cell 0; have y6Y1 := Y6.out.cell 1; have y6Y2 := Y6.out.cell 2; have y6Z0 := Z6.out.cell 0; have y6Z1 := Z6.out.cell 1; simp only [List.getElem?_toArray, List.getElem?_cons_zero, List.getElem?_cons_succ] at y6T0 y6T1 y6C0 y6C1 y6C2 y6X0 y6X1 y6Y0 y6Y1 y6Y2 y6Z0 y6Z1; have y6Tl := T6.out.lt; have y6Cl := C6.out.lt; have y6Xl := X6.out.lt; have y6Yl := Y6.out.lt; have y6Zl := Z6.out.lt)
    clear yT0 yT1 yC0 yC1 yC2 yX0 yX1 yY0 yY1 yY2 yZ0 yZ1 yTl yCl yXl yYl yZl y6T0 y6T1 y6C0 y6C1 y6C2 y6X0 y6X1 y6Y0 y6Y1 y6Y2 y6Z0 y6Z1 y6Tl y6Cl y6Xl y6Yl y6Zl T5 C5 X5 O5 K5 L5 M5 S5 Y5 Z5 Q5 HB5
    obtain ⟨cx, hcx⟩ : ∃ x, ckCut hs ms way s = x := ⟨_, rfl⟩
    rw [hcx] at HX1
    clear hcx HE2
    have yT0 := T6.out.cell 0
    have yT1 := T6.out.cell 1
    have yC0 := C6.out.cell 0
    have yC1 := C6.out.cell 1
    have yC2 := C6.out.cell 2
    have yX0 := X6.out.cell 0
    have yX1 := X6.out.cell 1
    have yY0 := Y6.out.cell 0
    have yY1 := Y6.out.cell 1
    have yY2 := Y6.out.cell 2
    have yZ0 := Z6.out.cell 0
    have yZ1 := Z6.out.cell 1
    simp only [List.getElem?_toArray, List.getElem?_cons_zero, List.getElem?_cons_succ] at yT0 yT1 yC0 yC1 yC2 yX0 yX1 yY0 yY1 yY2 yZ0 yZ1
    have yTl := T6.out.lt
    have yCl := C6.out.lt
    have yXl := X6.out.lt
    have yYl := Y6.out.lt
    have yZl := Z6.out.lt
    have HC := Lib.hid (HC1.out _ O6.out K6.out L6.out M6.out)
    try dsimp only [TR.v, vCt] at HC
    go_upto_region 10 with (go_at_call 32; with_reducible refine HC.out.mono ?_; rintro e u7 ⟨rfl, hb⟩)
    clear yT0 yT1 yC0 yC1 yC2 yX0 yX1 yY0 yY1 yY2 yZ0 yZ1 yTl yCl yXl yYl yZl
    clear HC
    have bn := hb
    have T7 := Lib.hid (T6.out.below bn)
    have C7 := Lib.hid (C6.out.below bn)
    have X7 := Lib.hid (X6.out.below bn)
    have O7 := Lib.hid (O6.out.below bn)
    have K7 := Lib.hid (K6.out.below bn)
    have L7 := Lib.hid (L6.out.below bn)
    have M7 := Lib.hid (M6.out.below bn)
    have S7 := Lib.hid (S6.out.below bn)
    have Y7 := Lib.hid (Y6.out.below bn)
    have Z7 := Lib.hid (Z6.out.below bn)
    have Q7 := Lib.hid (Q6.out.below bn)
    have HB7 := Lib.hid (HB6.out.trans (bn.mono HB6.out.size))
    clear hb bn T6 C6 X6 O6 K6 L6 M6 S6 Y6 Z6 Q6 HB6
    have yT0 := T7.out.cell 0
    have yT1 := T7.out.cell 1
    have yC0 := C7.out.cell 0
    have yC1 := C7.out.cell 1
    have yC2 := C7.out.cell 2
    have yX0 := X7.out.cell 0
    have yX1 := X7.out.cell 1
    have yY0 := Y7.out.cell 0
    have yY1 := Y7.out.cell 1
    have yY2 := Y7.out.cell 2
    have yZ0 := Z7.out.cell 0
    have yZ1 := Z7.out.cell 1
    simp only [List.getElem?_toArray, List.getElem?_cons_zero, List.getElem?_cons_succ] at yT0 yT1 yC0 yC1 yC2 yX0 yX1 yY0 yY1 yY2 yZ0 yZ1
    have yTl := T7.out.lt
    have yCl := C7.out.lt
    have yXl := X7.out.lt
    have yYl := Y7.out.lt
    have yZl := Z7.out.lt
    have HC := Lib.hid (HX1.out _ O7.out S7.out)
    try dsimp only [TR.v, vCt] at HC
    go_upto_region 11 with (go_at_call 34; with_reducible refine HC.out.mono ?_; rintro e u8 ⟨rfl, hb⟩)
    clear yT0 yT1 yC0 yC1 yC2 yX0 yX1 yY0 yY1 yY2 yZ0 yZ1 yTl yCl yXl yYl yZl
    clear HC
    have bn := hb
    have T8 := Lib.hid (T7.out.below bn)
    have C8 := Lib.hid (C7.out.below bn)
    have X8 := Lib.hid (X7.out.below bn)
    have O8 := Lib.hid (O7.out.below bn)
    have K8 := Lib.hid (K7.out.below bn)
    have L8 := Lib.hid (L7.out.below bn)
    have M8 := Lib.hid (M7.out.below bn)
    have S8 := Lib.hid (S7.out.below bn)
    have Y8 := Lib.hid (Y7.out.below bn)
    have Z8 := Lib.hid (Z7.out.below bn)
    have Q8 := Lib.hid (Q7.out.below bn)
    have HB8 := Lib.hid (HB7.out.trans (bn.mono HB7.out.size))
    clear hb bn T7 C7 X7 O7 K7 L7 M7 S7 Y7 Z7 Q7 HB7
    cases hcx : (cx == 0)
    case false =>
      have yT0 := T8.out.cell 0
      have yT1 := T8.out.cell 1
      have yC0 := C8.out.cell 0
      have yC1 := C8.out.cell 1
      have yC2 := C8.out.cell 2
      have yX0 := X8.out.cell 0
      have yX1 := X8.out.cell 1
      have yY0 := Y8.out.cell 0
      have yY1 := Y8.out.cell 1
      have yY2 := Y8.out.cell 2
      have yZ0 := Z8.out.cell 0
      have yZ1 := Z8.out.cell 1
      simp only [List.getElem?_toArray, List.getElem?_cons_zero, List.getElem?_cons_succ] at yT0 yT1 yC0 yC1 yC2 yX0 yX1 yY0 yY1 yY2 yZ0 yZ1
      have yTl := T8.out.lt
      have yCl := C8.out.lt
      have yXl := X8.out.lt
      have yYl := Y8.out.lt
      have yZl := Z8.out.lt
      go_wp2_with (go_at_call 14; with_reducible refine (HSan.out _).mono ?_; rintro e u9 ⟨rfl, hb9⟩; have T9 := Lib.hid (T8.out.below hb9); have C9 := Lib.hid (C8.out.below hb9); have X9 := Lib.hid (X8.out.below hb9); have O9 := Lib.hid (O8.out.below hb9); have K9 := Lib.hid (K8.out.below hb9); have L9 := Lib.hid (L8.out.below hb9); have M9 := Lib.hid (M8.out.below hb9); have S9 := Lib.hid (S8.out.below hb9); have Y9 := Lib.hid (Y8.out.below hb9); have Z9 := Lib.hid (Z8.out.below hb9); have Q9 := Lib.hid (Q8.out.below hb9); have HB9 := Lib.hid (HB8.out.trans (hb9.mono HB8.out.size)); clear hb9; have y9T0 := T9.out.cell 0; have y9T1 := T9.out.cell 1; have y9C0 := C9.out.cell 0; have y9C1 := C9.out.cell 1; have y9C2 := C9.out.cell 2; have y9X0 := X9.out.cell 0; have y9X1 := X9.out.cell 1; have y9Y0 := Y9.out.cell 0; have y9Y1 := Y9.out.cell 1; have y9Y2 := Y9.out.cell 2; have y9Z0 := Z9.out.cell 0; have y9Z1 := Z9.out.cell 1; simp only [List.getElem?_toArray, List.getElem?_cons_zero, List.getElem?_cons_succ] at y9T0 y9T1 y9C0 y9C1 y9C2 y9X0 y9X1 y9Y0 y9Y1 y9Y2 y9Z0 y9Z1; have y9Tl := T9.out.lt; have y9Cl := C9.out.lt; have y9Xl := X9.out.lt; have y9Yl := Y9.out.lt; have y9Zl := Z9.out.lt)
      exact bodyPost_ret (v := .bool true) (by simp [results, Try.results9, go_sem]) rfl ⟨rfl, HB9.out⟩
    case true =>
      have yT0 := T8.out.cell 0
      have yT1 := T8.out.cell 1
      have yC0 := C8.out.cell 0
      have yC1 := C8.out.cell 1
      have yC2 := C8.out.cell 2
      have yX0 := X8.out.cell 0
      have yX1 := X8.out.cell 1
      have yY0 := Y8.out.cell 0
      have yY1 := Y8.out.cell 1
      have yY2 := Y8.out.cell 2
      have yZ0 := Z8.out.cell 0
      have yZ1 := Z8.out.cell 1
      simp only [List.getElem?_toArray, List.getElem?_cons_zero, List.getElem?_cons_succ] at yT0 yT1 yC0 yC1 yC2 yX0 yX1 yY0 yY1 yY2 yZ0 yZ1
      have yTl := T8.out.lt
      have yCl := C8.out.lt
      have yXl := X8.out.lt
      have yYl := Y8.out.lt
      have yZl := Z8.out.lt
      go_wp2_with (go_at_call 14; with_reducible refine (HSan.out _).mono ?_; rintro e u9 ⟨rfl, hb9⟩; have T9 := Lib.hid (T8.out.below hb9); have C9 := Lib.hid (C8.out.below hb9); have X9 := Lib.hid (X8.out.below hb9); have O9 := Lib.hid (O8.out.below hb9); have K9 := Lib.hid (K8.out.below hb9); have L9 := Lib.hid (L8.out.below hb9); have M9 := Lib.hid (M8.out.below hb9); have S9 := Lib.hid (S8.out.below hb9); have Y9 := Lib.hid (Y8.out.below hb9); have Z9 := Lib.hid (Z8.out.below hb9); have Q9 := Lib.hid (Q8.out.below hb9); have HB9 := Lib.hid (HB8.out.trans (hb9.mono HB8.out.size)); clear hb9; have y9T0 := T9.out.cell 0; have y9T1 := T9.out.cell 1; have y9C0 := C9.out.cell 0; have y9C1 := C9.out.cell 1; have y9C2 := C9.out.cell 2; have y9X0 := X9.out.cell 0; have y9X1 := X9.out.cell 1; have y9Y0 := Y9.out.cell 0; have y9Y1 := Y9.out.cell 1; have y9Y2 := Y9.out.cell 2; have y9Z0 := Z9.out.cell 0; have y9Z1 := Z9.out.cell 1; simp only [List.getElem?_toArray, List.getElem?_cons_zero, List.getElem?_cons_succ] at y9T0 y9T1 y9C0 y9C1 y9C2 y9X0 y9X1 y9Y0 y9Y1 y9Y2 y9Z0 y9Z1; have y9Tl := T9.out.lt; have y9Cl := C9.out.lt; have y9Xl := X9.out.lt; have y9Yl := Y9.out.lt; have y9Zl := Z9.out.lt)
      exact bodyPost_ret (v := .bool true) (by simp [results, Try.results9, go_sem]) rfl ⟨rfl, HB9.out⟩
  | true =>
    have HF := Lib.hid (fun (u : World) (hu : TR.Ok u ⟨A, n, c, B, m, d, hs, ms⟩) => fi_yes hu hc ha)
    have HG := Lib.hid (fun (u : World) (hu : TR.Ok u ⟨A, n, c, B, m, d, hs, ms⟩) => co_yes hu hc ha)
    have HCk := Lib.hid (show ∀ st en ma, fitsL hs ms st en ma = true → ckCo hs ms st en ma = 0 from fun st en ma hh => by unfold ckCo; rw [if_neg (by simpa using hc), if_pos hh])
    dsimp only [TR.v] at HF HG
    have hsn : (ckCut hs ms way s == 0) = false := by
      rw [HE2.out, if_neg (fun hf => by rw [shows_no_agr HTV.out hf] at ha; cases ha)]; rfl
    generalize ckCut hs ms way s = cx at *
    clear hc ha
    have yT0 := T2.out.cell 0
    have yT1 := T2.out.cell 1
    have yC0 := C2.out.cell 0
    have yC1 := C2.out.cell 1
    have yC2 := C2.out.cell 2
    have yX0 := X2.out.cell 0
    have yX1 := X2.out.cell 1
    simp only [List.getElem?_toArray, List.getElem?_cons_zero, List.getElem?_cons_succ] at yT0 yT1 yC0 yC1 yC2 yX0 yX1
    have yTl := T2.out.lt
    have yCl := C2.out.lt
    have yXl := X2.out.lt
    have HC := Lib.hid (HF.out _ O2.out)
    try dsimp only [TR.v, vCt] at HC
    go_upto_region 4 with (go_at_call 15; with_reducible refine HC.out.mono ?_; rintro e u3 ⟨D1, q1, r1, D2, q2, r2, D3, q3, r3, st2, en2, ma2, rfl, k1, k2, k3, hf, hb⟩)
    clear yT0 yT1 yC0 yC1 yC2 yX0 yX1 yTl yCl yXl
    clear HC
    have bn := hb
    have bq : Below u3.heap.size u3 (u3.alloc (.cells #[.slice D1 q1 r1, .slice D2 q2 r2, .slice D3 q3 r3] 32)) := ((Below.refl u3.heap.size u3).alloc (Nat.le_refl _) _)
    have bn := hb.trans (bq.mono hb.size)
    have T3 := Lib.hid (T2.out.below bn)
    have C3 := Lib.hid (C2.out.below bn)
    have X3 := Lib.hid (X2.out.below bn)
    have O3 := Lib.hid (O2.out.below bn)
    have K3 := Lib.hid (K2.out.below bn)
    have L3 := Lib.hid (L2.out.below bn)
    have M3 := Lib.hid (M2.out.below bn)
    have S3 := Lib.hid (S2.out.below bn)
    have HB3 := Lib.hid (HB2.out.trans (bn.mono HB2.out.size))
    have P3 := Lib.hid ((k1).below bq)
    have Q3 := Lib.hid ((k2).below bq)
    have R3 := Lib.hid ((k3).below bq)
    have Y3 : Hid (Blk (u3.alloc (.cells #[.slice D1 q1 r1, .slice D2 q2 r2, .slice D3 q3 r3] 32)) u3.heap.size 32 #[.slice D1 q1 r1, .slice D2 q2 r2, .slice D3 q3 r3]) := Lib.hid (Blk.at_new 32 #[.slice D1 q1 r1, .slice D2 q2 r2, .slice D3 q3 r3] rfl)
    generalize hV : u3.alloc (.cells #[.slice D1 q1 r1, .slice D2 q2 r2, .slice D3 q3 r3] 32) = V3 at *
    generalize hp : u3.heap.size = p3 at *
    clear hV hp bq
    clear hb bn T2 C2 X2 O2 K2 L2 M2 S2 HB2
    clear k1 k2 k3
    have HQ := Lib.hid (fun (u : World) (hu : TR.Ok u ⟨A, n, c, B, m, d, hs, ms⟩) => (fun (x1 : SAt encI 1 u D1 q1 st2) (x2 : SAt encI 1 u D2 q2 en2) (x3 : SAt encI 1 u D3 q3 ma2) => CheckCourse_any ⟨A, n, c, B, m, d, hs, ms⟩ D1 q1 r1 D2 q2 r2 D3 q3 r3 st2 en2 ma2 u hu x1 x2 x3))
    dsimp only [TR.v] at HQ
    rw [HCk.out st2 en2 ma2 hf] at HQ
    clear hf
    have yT0 := T3.out.cell 0
    have yT1 := T3.out.cell 1
    have yC0 := C3.out.cell 0
    have yC1 := C3.out.cell 1
    have yC2 := C3.out.cell 2
    have yX0 := X3.out.cell 0
    have yX1 := X3.out.cell 1
    have yY0 := Y3.out.cell 0
    have yY1 := Y3.out.cell 1
    have yY2 := Y3.out.cell 2
    simp only [List.getElem?_toArray, List.getElem?_cons_zero, List.getElem?_cons_succ] at yT0 yT1 yC0 yC1 yC2 yX0 yX1 yY0 yY1 yY2
    have yTl := T3.out.lt
    have yCl := C3.out.lt
    have yXl := X3.out.lt
    have yYl := Y3.out.lt
    have HC := Lib.hid (HG.out _ O3.out)
    try dsimp only [TR.v, vCt] at HC
    go_upto_region 5 with (go_at_call 19; with_reducible refine HC.out.mono ?_; rintro e u4 ⟨rfl, hb⟩)
    clear yT0 yT1 yC0 yC1 yC2 yX0 yX1 yY0 yY1 yY2 yTl yCl yXl yYl
    clear HC
    have bn := hb
    have bq : Below u4.heap.size u4 (u4.alloc (.cells #[.int .i64 0, .slice none 0 0] 37)) := ((Below.refl u4.heap.size u4).alloc (Nat.le_refl _) _)
    have bn := hb.trans (bq.mono hb.size)
    have T4 := Lib.hid (T3.out.below bn)
    have C4 := Lib.hid (C3.out.below bn)
    have X4 := Lib.hid (X3.out.below bn)
    have O4 := Lib.hid (O3.out.below bn)
    have K4 := Lib.hid (K3.out.below bn)
    have L4 := Lib.hid (L3.out.below bn)
    have M4 := Lib.hid (M3.out.below bn)
    have S4 := Lib.hid (S3.out.below bn)
    have Y4 := Lib.hid (Y3.out.below bn)
    have P4 := Lib.hid (P3.out.below bn)
    have Q4 := Lib.hid (Q3.out.below bn)
    have R4 := Lib.hid (R3.out.below bn)
    have HB4 := Lib.hid (HB3.out.trans (bn.mono HB3.out.size))
    have Z4 : Hid (Blk (u4.alloc (.cells #[.int .i64 0, .slice none 0 0] 37)) u4.heap.size 37 #[.int .i64 0, .slice none 0 0]) := Lib.hid (Blk.at_new 37 #[.int .i64 0, .slice none 0 0] rfl)
    generalize hV : u4.alloc (.cells #[.int .i64 0, .slice none 0 0] 37) = V4 at *
    generalize hp : u4.heap.size = p4 at *
    clear hV hp bq
    clear hb bn T3 C3 X3 O3 K3 L3 M3 S3 Y3 P3 Q3 R3 HB3
    have yT0 := T4.out.cell 0
    have yT1 := T4.out.cell 1
    have yC0 := C4.out.cell 0
    have yC1 := C4.out.cell 1
    have yC2 := C4.out.cell 2
    have yX0 := X4.out.cell 0
    have yX1 := X4.out.cell 1
    have yY0 := Y4.out.cell 0
    have yY1 := Y4.out.cell 1
    have yY2 := Y4.out.cell 2
    have yZ0 := Z4.out.cell 0
    have yZ1 := Z4.out.cell 1
    simp only [List.getElem?_toArray, List.getElem?_cons_zero, List.getElem?_cons_succ] at yT0 yT1 yC0 yC1 yC2 yX0 yX1 yY0 yY1 yY2 yZ0 yZ1
    have yTl := T4.out.lt
    have yCl := C4.out.lt
    have yXl := X4.out.lt
    have yYl := Y4.out.lt
    have yZl := Z4.out.lt
    have HC := Lib.hid (HR.out _ O4.out)
    try dsimp only [TR.v, vCt] at HC
    go_upto_region 7 with (go_at_call 26; with_reducible refine HC.out.mono ?_; rintro e u5 ⟨rfl, hb⟩)
    clear yT0 yT1 yC0 yC1 yC2 yX0 yX1 yY0 yY1 yY2 yZ0 yZ1 yTl yCl yXl yYl yZl
    clear HC
    have bn := hb
    have T5 := Lib.hid (T4.out.below bn)
    have C5 := Lib.hid (C4.out.below bn)
    have X5 := Lib.hid (X4.out.below bn)
    have O5 := Lib.hid (O4.out.below bn)
    have K5 := Lib.hid (K4.out.below bn)
    have L5 := Lib.hid (L4.out.below bn)
    have M5 := Lib.hid (M4.out.below bn)
    have S5 := Lib.hid (S4.out.below bn)
    have Y5 := Lib.hid (Y4.out.below bn)
    have P5 := Lib.hid (P4.out.below bn)
    have Q5 := Lib.hid (Q4.out.below bn)
    have R5 := Lib.hid (R4.out.below bn)
    have Z5 := Lib.hid (Z4.out.below bn)
    have HB5 := Lib.hid (HB4.out.trans (bn.mono HB4.out.size))
    clear hb bn T4 C4 X4 O4 K4 L4 M4 S4 Y4 P4 Q4 R4 Z4 HB4
    have yT0 := T5.out.cell 0
    have yT1 := T5.out.cell 1
    have yC0 := C5.out.cell 0
    have yC1 := C5.out.cell 1
    have yC2 := C5.out.cell 2
    have yX0 := X5.out.cell 0
    have yX1 := X5.out.cell 1
    have yY0 := Y5.out.cell 0
    have yY1 := Y5.out.cell 1
    have yY2 := Y5.out.cell 2
    have yZ0 := Z5.out.cell 0
    have yZ1 := Z5.out.cell 1
    simp only [List.getElem?_toArray, List.getElem?_cons_zero, List.getElem?_cons_succ] at yT0 yT1 yC0 yC1 yC2 yX0 yX1 yY0 yY1 yY2 yZ0 yZ1
    have yTl := T5.out.lt
    have yCl := C5.out.lt
    have yXl := X5.out.lt
    have yYl := Y5.out.lt
    have yZl := Z5.out.lt
    go_upto_region 9 with (go_at_call 32; with_reducible refine (HQ.out _ O5.out P5.out Q5.out R5.out).mono ?_; rintro e u6 ⟨rfl, hb6⟩; have T6 := Lib.hid (T5.out.below hb6); have C6 := Lib.hid (C5.out.below hb6); have X6 := Lib.hid (X5.out.below hb6); have O6 := Lib.hid (O5.out.below hb6); have K6 := Lib.hid (K5.out.below hb6); have L6 := Lib.hid (L5.out.below hb6); have M6 := Lib.hid (M5.out.below hb6); have S6 := Lib.hid (S5.out.below hb6); have Y6 := Lib.hid (Y5.out.below hb6); have P6 := Lib.hid (P5.out.below hb6); have Q6 := Lib.hid (Q5.out.below hb6); have R6 := Lib.hid (R5.out.below hb6); have Z6 := Lib.hid (Z5.out.below hb6); have HB6 := Lib.hid (HB5.out.trans (hb6.mono HB5.out.size)); clear hb6; have y6T0 := T6.out.cell 0; have y6T1 := T6.out.cell 1; have y6C0 := C6.out.cell 0; have y6C1 := C6.out.cell 1; have y6C2 := C6.out.cell 2; have y6X0 := X6.out.cell 0; have y6X1 := X6.out.cell 1; have y6Y0 := Y6.out.cell 0; have y6Y1 := Y6.out.cell 1; have y6Y2 := Y6.out.cell 2; have y6Z0 := Z6.out.cell 0; have y6Z1 := Z6.out.cell 1; simp only [List.getElem?_toArray, List.getElem?_cons_zero, List.getElem?_cons_succ] at y6T0 y6T1 y6C0 y6C1 y6C2 y6X0 y6X1 y6Y0 y6Y1 y6Y2 y6Z0 y6Z1; have y6Tl := T6.out.lt; have y6Cl := C6.out.lt; have y6Xl := X6.out.lt; have y6Yl := Y6.out.lt; have y6Zl := Z6.out.lt)
    clear yT0 yT1 yC0 yC1 yC2 yX0 yX1 yY0 yY1 yY2 yZ0 yZ1 yTl yCl yXl yYl yZl y6T0 y6T1 y6C0 y6C1 y6C2 y6X0 y6X1 y6Y0 y6Y1 y6Y2 y6Z0 y6Z1 y6Tl y6Cl y6Xl y6Yl y6Zl T5 C5 X5 O5 K5 L5 M5 S5 Y5 P5 Q5 R5 Z5 HB5
    obtain ⟨cc, hcc⟩ : ∃ x, ckCo hs ms st en ma = x := ⟨_, rfl⟩
    rw [hcc] at HC1
    clear hcc HE1
    have yT0 := T6.out.cell 0
    have yT1 := T6.out.cell 1
    have yC0 := C6.out.cell 0
    have yC1 := C6.out.cell 1
    have yC2 := C6.out.cell 2
    have yX0 := X6.out.cell 0
    have yX1 := X6.out.cell 1
    have yY0 := Y6.out.cell 0
    have yY1 := Y6.out.cell 1
    have yY2 := Y6.out.cell 2
    have yZ0 := Z6.out.cell 0
    have yZ1 := Z6.out.cell 1
    simp only [List.getElem?_toArray, List.getElem?_cons_zero, List.getElem?_cons_succ] at yT0 yT1 yC0 yC1 yC2 yX0 yX1 yY0 yY1 yY2 yZ0 yZ1
    have yTl := T6.out.lt
    have yCl := C6.out.lt
    have yXl := X6.out.lt
    have yYl := Y6.out.lt
    have yZl := Z6.out.lt
    have HC := Lib.hid (HC1.out _ O6.out K6.out L6.out M6.out)
    try dsimp only [TR.v, vCt] at HC
    go_upto_region 10 with (go_at_call 32; with_reducible refine HC.out.mono ?_; rintro e u7 ⟨rfl, hb⟩)
    clear yT0 yT1 yC0 yC1 yC2 yX0 yX1 yY0 yY1 yY2 yZ0 yZ1 yTl yCl yXl yYl yZl
    clear HC
    have bn := hb
    have T7 := Lib.hid (T6.out.below bn)
    have C7 := Lib.hid (C6.out.below bn)
    have X7 := Lib.hid (X6.out.below bn)
    have O7 := Lib.hid (O6.out.below bn)
    have K7 := Lib.hid (K6.out.below bn)
    have L7 := Lib.hid (L6.out.below bn)
    have M7 := Lib.hid (M6.out.below bn)
    have S7 := Lib.hid (S6.out.below bn)
    have Y7 := Lib.hid (Y6.out.below bn)
    have P7 := Lib.hid (P6.out.below bn)
    have Q7 := Lib.hid (Q6.out.below bn)
    have R7 := Lib.hid (R6.out.below bn)
    have Z7 := Lib.hid (Z6.out.below bn)
    have HB7 := Lib.hid (HB6.out.trans (bn.mono HB6.out.size))
    clear hb bn T6 C6 X6 O6 K6 L6 M6 S6 Y6 P6 Q6 R6 Z6 HB6
    have yT0 := T7.out.cell 0
    have yT1 := T7.out.cell 1
    have yC0 := C7.out.cell 0
    have yC1 := C7.out.cell 1
    have yC2 := C7.out.cell 2
    have yX0 := X7.out.cell 0
    have yX1 := X7.out.cell 1
    have yY0 := Y7.out.cell 0
    have yY1 := Y7.out.cell 1
    have yY2 := Y7.out.cell 2
    have yZ0 := Z7.out.cell 0
    have yZ1 := Z7.out.cell 1
    simp only [List.getElem?_toArray, List.getElem?_cons_zero, List.getElem?_cons_succ] at yT0 yT1 yC0 yC1 yC2 yX0 yX1 yY0 yY1 yY2 yZ0 yZ1
    have yTl := T7.out.lt
    have yCl := C7.out.lt
    have yXl := X7.out.lt
    have yYl := Y7.out.lt
    have yZl := Z7.out.lt
    have HC := Lib.hid (HX1.out _ O7.out S7.out)
    try dsimp only [TR.v, vCt] at HC
    go_upto_region 11 with (go_at_call 34; with_reducible refine HC.out.mono ?_; rintro e u8 ⟨rfl, hb⟩)
    clear yT0 yT1 yC0 yC1 yC2 yX0 yX1 yY0 yY1 yY2 yZ0 yZ1 yTl yCl yXl yYl yZl
    clear HC
    have bn := hb
    have T8 := Lib.hid (T7.out.below bn)
    have C8 := Lib.hid (C7.out.below bn)
    have X8 := Lib.hid (X7.out.below bn)
    have O8 := Lib.hid (O7.out.below bn)
    have K8 := Lib.hid (K7.out.below bn)
    have L8 := Lib.hid (L7.out.below bn)
    have M8 := Lib.hid (M7.out.below bn)
    have S8 := Lib.hid (S7.out.below bn)
    have Y8 := Lib.hid (Y7.out.below bn)
    have P8 := Lib.hid (P7.out.below bn)
    have Q8 := Lib.hid (Q7.out.below bn)
    have R8 := Lib.hid (R7.out.below bn)
    have Z8 := Lib.hid (Z7.out.below bn)
    have HB8 := Lib.hid (HB7.out.trans (bn.mono HB7.out.size))
    clear hb bn T7 C7 X7 O7 K7 L7 M7 S7 Y7 P7 Q7 R7 Z7 HB7
    cases hcx : (cc == 0)
    case false =>
      have yT0 := T8.out.cell 0
      have yT1 := T8.out.cell 1
      have yC0 := C8.out.cell 0
      have yC1 := C8.out.cell 1
      have yC2 := C8.out.cell 2
      have yX0 := X8.out.cell 0
      have yX1 := X8.out.cell 1
      have yY0 := Y8.out.cell 0
      have yY1 := Y8.out.cell 1
      have yY2 := Y8.out.cell 2
      have yZ0 := Z8.out.cell 0
      have yZ1 := Z8.out.cell 1
      simp only [List.getElem?_toArray, List.getElem?_cons_zero, List.getElem?_cons_succ] at yT0 yT1 yC0 yC1 yC2 yX0 yX1 yY0 yY1 yY2 yZ0 yZ1
      have yTl := T8.out.lt
      have yCl := C8.out.lt
      have yXl := X8.out.lt
      have yYl := Y8.out.lt
      have yZl := Z8.out.lt
      go_wp2_with (go_at_call 14; with_reducible refine (HSan.out _).mono ?_; rintro e u9 ⟨rfl, hb9⟩; have T9 := Lib.hid (T8.out.below hb9); have C9 := Lib.hid (C8.out.below hb9); have X9 := Lib.hid (X8.out.below hb9); have O9 := Lib.hid (O8.out.below hb9); have K9 := Lib.hid (K8.out.below hb9); have L9 := Lib.hid (L8.out.below hb9); have M9 := Lib.hid (M8.out.below hb9); have S9 := Lib.hid (S8.out.below hb9); have Y9 := Lib.hid (Y8.out.below hb9); have P9 := Lib.hid (P8.out.below hb9); have Q9 := Lib.hid (Q8.out.below hb9); have R9 := Lib.hid (R8.out.below hb9); have Z9 := Lib.hid (Z8.out.below hb9); have HB9 := Lib.hid (HB8.out.trans (hb9.mono HB8.out.size)); clear hb9; have y9T0 := T9.out.cell 0; have y9T1 := T9.out.cell 1; have y9C0 := C9.out.cell 0; have y9C1 := C9.out.cell 1; have y9C2 := C9.out.cell 2; have y9X0 := X9.out.cell 0; have y9X1 := X9.out.cell 1; have y9Y0 := Y9.out.cell 0; have y9Y1 := Y9.out.cell 1; have y9Y2 := Y9.out.cell 2; have y9Z0 := Z9.out.cell 0; have y9Z1 := Z9.out.cell 1; simp only [List.getElem?_toArray, List.getElem?_cons_zero, List.getElem?_cons_succ] at y9T0 y9T1 y9C0 y9C1 y9C2 y9X0 y9X1 y9Y0 y9Y1 y9Y2 y9Z0 y9Z1; have y9Tl := T9.out.lt; have y9Cl := C9.out.lt; have y9Xl := X9.out.lt; have y9Yl := Y9.out.lt; have y9Zl := Z9.out.lt)
      exact bodyPost_ret (v := .bool true) (by simp [results, Try.results9, go_sem]) rfl ⟨rfl, HB9.out⟩
    case true =>
      have yT0 := T8.out.cell 0
      have yT1 := T8.out.cell 1
      have yC0 := C8.out.cell 0
      have yC1 := C8.out.cell 1
      have yC2 := C8.out.cell 2
      have yX0 := X8.out.cell 0
      have yX1 := X8.out.cell 1
      have yY0 := Y8.out.cell 0
      have yY1 := Y8.out.cell 1
      have yY2 := Y8.out.cell 2
      have yZ0 := Z8.out.cell 0
      have yZ1 := Z8.out.cell 1
      simp only [List.getElem?_toArray, List.getElem?_cons_zero, List.getElem?_cons_succ] at yT0 yT1 yC0 yC1 yC2 yX0 yX1 yY0 yY1 yY2 yZ0 yZ1
      have yTl := T8.out.lt
      have yCl := C8.out.lt
      have yXl := X8.out.lt
      have yYl := Y8.out.lt
      have yZl := Z8.out.lt
      go_wp2_with (go_at_call 14; with_reducible refine (HSan.out _).mono ?_; rintro e u9 ⟨rfl, hb9⟩; have T9 := Lib.hid (T8.out.below hb9); have C9 := Lib.hid (C8.out.below hb9); have X9 := Lib.hid (X8.out.below hb9); have O9 := Lib.hid (O8.out.below hb9); have K9 := Lib.hid (K8.out.below hb9); have L9 := Lib.hid (L8.out.below hb9); have M9 := Lib.hid (M8.out.below hb9); have S9 := Lib.hid (S8.out.below hb9); have Y9 := Lib.hid (Y8.out.below hb9); have P9 := Lib.hid (P8.out.below hb9); have Q9 := Lib.hid (Q8.out.below hb9); have R9 := Lib.hid (R8.out.below hb9); have Z9 := Lib.hid (Z8.out.below hb9); have HB9 := Lib.hid (HB8.out.trans (hb9.mono HB8.out.size)); clear hb9; have y9T0 := T9.out.cell 0; have y9T1 := T9.out.cell 1; have y9C0 := C9.out.cell 0; have y9C1 := C9.out.cell 1; have y9C2 := C9.out.cell 2; have y9X0 := X9.out.cell 0; have y9X1 := X9.out.cell 1; have y9Y0 := Y9.out.cell 0; have y9Y1 := Y9.out.cell 1; have y9Y2 := Y9.out.cell 2; have y9Z0 := Z9.out.cell 0; have y9Z1 := Z9.out.cell 1; simp only [List.getElem?_toArray, List.getElem?_cons_zero, List.getElem?_cons_succ] at y9T0 y9T1 y9C0 y9C1 y9C2 y9X0 y9X1 y9Y0 y9Y1 y9Y2 y9Z0 y9Z1; have y9Tl := T9.out.lt; have y9Cl := C9.out.lt; have y9Xl := X9.out.lt; have y9Yl := Y9.out.lt; have y9Zl := Z9.out.lt)
      exact bodyPost_ret (v := .bool true) (by simp [results, Try.results9, go_sem]) rfl ⟨rfl, HB9.out⟩
open Go.WideShapes Go.ChangeShapes Go.Joins Go.Deep
set_option maxRecDepth 100000 in
theorem flowDual_lifted (os : Os) (started : os.Started) (H : Type) (enc : TypeId × Value → H) :
    ReturnsInHanded Rows.flowDualRow.assume Try.checked os 9 .any (Rows.flowDualSpec.pre6 enc Try.prog Try.f9 Rows.flowDualRow.domain false) (Rows.flowDualSpec.post enc Try.prog Try.f9 false Rows.flowDualRow.fresh Rows.flowDualRow.handsOn Rows.flowDualRow.again) := by
  refine returnsInHanded_of_change (C := Try.checked) (by kernel_rfl) started (by kernel_rfl) Try.func9
    (ChangeSpec.witness6 (enc := enc) (C := Try.checked) false ⟨#[], #[.agg #[.slice none 0 0, .slice none 0 0], .agg #[.slice none 0 0, .slice none 0 0, .slice none 0 0], .agg #[.int .i64 0, .slice none 0 0]], []⟩ 8 (by kernel_rfl) (by kernel_rfl) (by kernel_rfl) (by kernel_rfl)) ?_
  intro W base args ds gs before hval0 hW hcnd _
  have hval : ∀ (j : Nat) t v, Try.f9.params[j]? = some t → args[j]? = some v → Value.okWide Try.prog W .any base t v := hval0
  have hW' := hW
  obtain ⟨p, q, hA0, hV, rfl, hfz, hnd⟩ := hW
  obtain ⟨rfl, rfl⟩ := trodVars_none hV
  have hA : DataW.TrodAll enc Try.prog W 0 (fun _ => true) true [25, 32, 37] args.toList ds p := hA0
  obtain ⟨v0, v1, v2, d0, d1, d2, p0, p1, p2, rfl, rfl, rfl, h0, h1, h2⟩ := trodAll_three hA
  obtain ⟨t, rfl, hT, _, rfl⟩ := open_tr (hval 0 25 v0 rfl rfl) h0
  obtain ⟨A1, n1, c1, A2, n2, c2, A3, n3, c3, st, en, ma, rfl, k1, k2, k3, l1, l2, l3, _, rfl⟩ := open_co (hval 1 32 v1 rfl rfl) h1
  obtain ⟨way, As, k, cs, s, rfl, k4, l4, _, _, rfl⟩ := open_cu (hval 2 37 v2 rfl rfl) h2
  refine (flowDual_walk t A1 n1 c1 A2 n2 c2 A3 n3 c3 st en ma way As k cs s W hT k1 k2 k3 k4 l1 l2 l3).mono fun e W' ⟨he, hb⟩ => ⟨_, he, law_post laid_out (by kernel_rfl) rfl Try.underlying4 rfl hW' rfl rfl rfl hb⟩

theorem flowDual : Rows.FlowDualSaid :=
  OpenClaim.holds_of_wide 9 Try.f9 rfl rfl rfl rfl rfl rfl rfl ⟨rfl, rfl, rfl, rfl, rfl⟩ rfl rfl rfl rfl rfl (by kernel_rfl) Try.func9 (by kernel_rfl)
    (of_decide_eq_true (by kernel_rfl)) (by unfold Func.isWrapper; first | (rw [if_pos (by decide +kernel)]; kernel_rfl) | (rw [if_neg (by decide +kernel)]; exact ⟨rfl, rfl⟩))
    (fun os started H enc _ => flowDual_lifted os started H enc)
#print axioms flowDual
end Go.Proofs.Ytighfmgkoepfkaa
