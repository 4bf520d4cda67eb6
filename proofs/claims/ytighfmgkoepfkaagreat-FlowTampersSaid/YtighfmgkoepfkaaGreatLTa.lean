/- The law FlowTampers. -/
import Derived.Test.YtighfmgkoepfkaaGreatMTp
import Derived.Test.YtighfmgkoepfkaaGreatMC
import Derived.Test.YtighfmgkoepfkaaGreatMI
import Derived.Deep.DeepCutAuto
namespace Go.Proofs.YtighfmgkoepfkaaGreat
open Go.RowKit

set_option maxRecDepth 100000 in
set_option maxHeartbeats 12800000 in
theorem flowTampers_walk (t : TR) (kind id : Int) (xw xa xb xway : Int) (B5 : Option Addr) (m5 d5 : Nat) (xs : List Int) (gr : Bool) (val : Int) (D1 : Option Addr) (m1 d1 : Nat) (D2 : Option Addr) (m2 d2 : Nat) (D3 : Option Addr) (m3 d3 : Nat) (way : Int) (D4 : Option Addr) (m4 d4 : Nat) (lst len lma s : List Int) (w : World) (h : t.Ok w) (gx : SAt encI 1 w B5 m5 xs) (g1 : SAt encI 1 w D1 m1 lst) (g2 : SAt encI 1 w D2 m2 len) (g3 : SAt encI 1 w D3 m3 lma) (g4 : SAt encI 1 w D4 m4 s) (e1 : m1 ≤ 9223372036854775807) (e2 : m2 ≤ 9223372036854775807) (e3 : m3 ≤ 9223372036854775807) : Calls Tryz.prog 10 #[t.v, vAt kind id, vBe xw xa xb xway B5 m5 d5, .bool gr, vLim val D1 m1 d1 D2 m2 d2 D3 m3 d3 way D4 m4 d4] w fun e w' => e = .returned (.bool true) ∧ Below w.heap.size w w' := by
  obtain ⟨A, n, c, B, m, d, hs, ms⟩ := t
  have HSan := Lib.hid (fun u => sanity_any u)
  obtain ⟨fb, hfb⟩ : ∃ b, fewB n m = b := ⟨_, rfl⟩
  have HFew := Lib.hid (fun u => few_any A n c B m d u h.n_le h.m_le)
  rw [hfb] at HFew
  obtain ⟨cb, hcb⟩ : ∃ b, courseB m1 m2 m3 = b := ⟨_, rfl⟩
  have HCob := Lib.hid (fun u => course_law D1 m1 d1 D2 m2 d2 D3 m3 d3 u e1 e2 e3)
  rw [hcb] at HCob
  have HOw := Lib.hid h
  have HEw := Lib.hid g1
  have HGw := Lib.hid g2
  have HHw := Lib.hid g3
  have HSw := Lib.hid g4
  have HZw := Lib.hid gx
  dsimp only [TR.v, vAt, vBe, vLim] at *
  have HB0 : Hid (Below w.heap.size w ((((w.alloc (.cells #[.slice A n c, .slice B m d] 25)).alloc (.cells #[.int .i64 kind, .int .i64 id] 83)).alloc (.cells #[.int .i64 xw, .int .i64 xa, .int .i64 xb, .int .i64 xway, .slice B5 m5 d5] 101)).alloc (.cells #[.int .i64 val, .slice D1 m1 d1, .slice D2 m2 d2, .slice D3 m3 d3, .int .i64 way, .slice D4 m4 d4] 95))) := Lib.hid (((((Below.refl w.heap.size w).alloc (Nat.le_refl _) _).alloc (by simp) _).alloc (by simp; omega) _).alloc (by simp; omega) _)
  have T0 : Hid (Blk ((((w.alloc (.cells #[.slice A n c, .slice B m d] 25)).alloc (.cells #[.int .i64 kind, .int .i64 id] 83)).alloc (.cells #[.int .i64 xw, .int .i64 xa, .int .i64 xb, .int .i64 xway, .slice B5 m5 d5] 101)).alloc (.cells #[.int .i64 val, .slice D1 m1 d1, .slice D2 m2 d2, .slice D3 m3 d3, .int .i64 way, .slice D4 m4 d4] 95)) w.heap.size 25 #[.slice A n c, .slice B m d]) := Lib.hid ((((Blk.at_new 25 #[.slice A n c, .slice B m d] rfl).alloc _).alloc _).alloc _)
  have X0 : Hid (Blk ((((w.alloc (.cells #[.slice A n c, .slice B m d] 25)).alloc (.cells #[.int .i64 kind, .int .i64 id] 83)).alloc (.cells #[.int .i64 xw, .int .i64 xa, .int .i64 xb, .int .i64 xway, .slice B5 m5 d5] 101)).alloc (.cells #[.int .i64 val, .slice D1 m1 d1, .slice D2 m2 d2, .slice D3 m3 d3, .int .i64 way, .slice D4 m4 d4] 95)) (w.heap.size + 1) 83 #[.int .i64 kind, .int .i64 id]) := Lib.hid (((Blk.at_new 83 #[.int .i64 kind, .int .i64 id] (by simp)).alloc _).alloc _)
  have Y0 : Hid (Blk ((((w.alloc (.cells #[.slice A n c, .slice B m d] 25)).alloc (.cells #[.int .i64 kind, .int .i64 id] 83)).alloc (.cells #[.int .i64 xw, .int .i64 xa, .int .i64 xb, .int .i64 xway, .slice B5 m5 d5] 101)).alloc (.cells #[.int .i64 val, .slice D1 m1 d1, .slice D2 m2 d2, .slice D3 m3 d3, .int .i64 way, .slice D4 m4 d4] 95)) (w.heap.size + 2) 101 #[.int .i64 xw, .int .i64 xa, .int .i64 xb, .int .i64 xway, .slice B5 m5 d5]) := Lib.hid ((Blk.at_new 101 #[.int .i64 xw, .int .i64 xa, .int .i64 xb, .int .i64 xway, .slice B5 m5 d5] (by simp)).alloc _)
  have M0 : Hid (Blk ((((w.alloc (.cells #[.slice A n c, .slice B m d] 25)).alloc (.cells #[.int .i64 kind, .int .i64 id] 83)).alloc (.cells #[.int .i64 xw, .int .i64 xa, .int .i64 xb, .int .i64 xway, .slice B5 m5 d5] 101)).alloc (.cells #[.int .i64 val, .slice D1 m1 d1, .slice D2 m2 d2, .slice D3 m3 d3, .int .i64 way, .slice D4 m4 d4] 95)) (w.heap.size + 3) 95 #[.int .i64 val, .slice D1 m1 d1, .slice D2 m2 d2, .slice D3 m3 d3, .int .i64 way, .slice D4 m4 d4]) := Lib.hid (Blk.at_new 95 #[.int .i64 val, .slice D1 m1 d1, .slice D2 m2 d2, .slice D3 m3 d3, .int .i64 way, .slice D4 m4 d4] (by simp))
  have O0 := Lib.hid ((h).below HB0.out)
  have E0 := Lib.hid ((g1).below HB0.out)
  have G0 := Lib.hid ((g2).below HB0.out)
  have H0 := Lib.hid ((g3).below HB0.out)
  have S0 := Lib.hid ((g4).below HB0.out)
  have Z0 := Lib.hid ((gx).below HB0.out)
  go_enter Tryz.func10, Tryz.ntmps10
  go_upto_region 1 with fail
  generalize hV : (((w.alloc (.cells #[.slice A n c, .slice B m d] 25)).alloc (.cells #[.int .i64 kind, .int .i64 id] 83)).alloc (.cells #[.int .i64 xw, .int .i64 xa, .int .i64 xb, .int .i64 xway, .slice B5 m5 d5] 101)).alloc (.cells #[.int .i64 val, .slice D1 m1 d1, .slice D2 m2 d2, .slice D3 m3 d3, .int .i64 way, .slice D4 m4 d4] 95) = V0 at *
  clear hV
  clear h hfb hcb e1 e2 e3 g1 g2 g3 g4 gx
  cases fb with
  | false =>
    have yT0 := T0.out.cell 0
    have yT1 := T0.out.cell 1
    have yX0 := X0.out.cell 0
    have yX1 := X0.out.cell 1
    have yY0 := Y0.out.cell 0
    have yY1 := Y0.out.cell 1
    have yY2 := Y0.out.cell 2
    have yY3 := Y0.out.cell 3
    have yY4 := Y0.out.cell 4
    have yM0 := M0.out.cell 0
    have yM1 := M0.out.cell 1
    have yM2 := M0.out.cell 2
    have yM3 := M0.out.cell 3
    have yM4 := M0.out.cell 4
    have yM5 := M0.out.cell 5
    simp only [List.getElem?_toArray, List.getElem?_cons_zero, List.getElem?_cons_succ] at yT0 yT1 yX0 yX1 yY0 yY1 yY2 yY3 yY4 yM0 yM1 yM2 yM3 yM4 yM5
    have yTl := T0.out.lt
    have yXl := X0.out.lt
    have yYl := Y0.out.lt
    have yMl := M0.out.lt
    go_upto_region 2 with (go_at_call 12; with_reducible refine (HFew.out _).mono ?_; rintro e u1 ⟨rfl, hb1⟩; have T1 := Lib.hid (T0.out.below hb1); have X1 := Lib.hid (X0.out.below hb1); have Y1 := Lib.hid (Y0.out.below hb1); have M1 := Lib.hid (M0.out.below hb1); have O1 := Lib.hid (O0.out.below hb1); have E1 := Lib.hid (E0.out.below hb1); have G1 := Lib.hid (G0.out.below hb1); have H1 := Lib.hid (H0.out.below hb1); have S1 := Lib.hid (S0.out.below hb1); have Z1 := Lib.hid (Z0.out.below hb1); have HB1 := Lib.hid (HB0.out.trans (hb1.mono HB0.out.size)); clear hb1; have y1T0 := T1.out.cell 0; have y1T1 := T1.out.cell 1; have y1X0 := X1.out.cell 0; have y1X1 := X1.out.cell 1; have y1Y0 := Y1.out.cell 0; have y1Y1 := Y1.out.cell 1; have y1Y2 := Y1.out.cell 2; have y1Y3 := Y1.out.cell 3; have y1Y4 := Y1.out.cell 4; have y1M0 := M1.out.cell 0; have y1M1 := M1.out.cell 1; have y1M2 := M1.out.cell 2; have y1M3 := M1.out.cell 3; have y1M4 := M1.out.cell 4; have y1M5 := M1.out.cell 5; simp only [List.getElem?_toArray, List.getElem?_cons_zero, List.getElem?_cons_succ] at y1T0 y1T1 y1X0 y1X1 y1Y0 y1Y1 y1Y2 y1Y3 y1Y4 y1M0 y1M1 y1M2 y1M3 y1M4 y1M5; have y1Tl := T1.out.lt; have y1Xl := X1.out.lt; have y1Yl := Y1.out.lt; have y1Ml := M1.out.lt)
    clear yT0 yT1 yX0 yX1 yY0 yY1 yY2 yY3 yY4 yM0 yM1 yM2 yM3 yM4 yM5 yTl yXl yYl yMl y1T0 y1T1 y1X0 y1X1 y1Y0 y1Y1 y1Y2 y1Y3 y1Y4 y1M0 y1M1 y1M2 y1M3 y1M4 y1M5 y1Tl y1Xl y1Yl y1Ml T0 X0 Y0 M0 O0 E0 G0 H0 S0 Z0 HB0
    have yT0 := T1.out.cell 0
    have yT1 := T1.out.cell 1
    have yX0 := X1.out.cell 0
    have yX1 := X1.out.cell 1
    have yY0 := Y1.out.cell 0
    have yY1 := Y1.out.cell 1
    have yY2 := Y1.out.cell 2
    have yY3 := Y1.out.cell 3
    have yY4 := Y1.out.cell 4
    have yM0 := M1.out.cell 0
    have yM1 := M1.out.cell 1
    have yM2 := M1.out.cell 2
    have yM3 := M1.out.cell 3
    have yM4 := M1.out.cell 4
    have yM5 := M1.out.cell 5
    simp only [List.getElem?_toArray, List.getElem?_cons_zero, List.getElem?_cons_succ] at yT0 yT1 yX0 yX1 yY0 yY1 yY2 yY3 yY4 yM0 yM1 yM2 yM3 yM4 yM5
    have yTl := T1.out.lt
    have yXl := X1.out.lt
    have yYl := Y1.out.lt
    have yMl := M1.out.lt
    go_wp2_with (go_at_call 13; with_reducible refine (HSan.out _).mono ?_; rintro e u2 ⟨rfl, hb2⟩; have T2 := Lib.hid (T1.out.below hb2); have X2 := Lib.hid (X1.out.below hb2); have Y2 := Lib.hid (Y1.out.below hb2); have M2 := Lib.hid (M1.out.below hb2); have O2 := Lib.hid (O1.out.below hb2); have E2 := Lib.hid (E1.out.below hb2); have G2 := Lib.hid (G1.out.below hb2); have H2 := Lib.hid (H1.out.below hb2); have S2 := Lib.hid (S1.out.below hb2); have Z2 := Lib.hid (Z1.out.below hb2); have HB2 := Lib.hid (HB1.out.trans (hb2.mono HB1.out.size)); clear hb2; have y2T0 := T2.out.cell 0; have y2T1 := T2.out.cell 1; have y2X0 := X2.out.cell 0; have y2X1 := X2.out.cell 1; have y2Y0 := Y2.out.cell 0; have y2Y1 := Y2.out.cell 1; have y2Y2 := Y2.out.cell 2; have y2Y3 := Y2.out.cell 3; have y2Y4 := Y2.out.cell 4; have y2M0 := M2.out.cell 0; have y2M1 := M2.out.cell 1; have y2M2 := M2.out.cell 2; have y2M3 := M2.out.cell 3; have y2M4 := M2.out.cell 4; have y2M5 := M2.out.cell 5; simp only [List.getElem?_toArray, List.getElem?_cons_zero, List.getElem?_cons_succ] at y2T0 y2T1 y2X0 y2X1 y2Y0 y2Y1 y2Y2 y2Y3 y2Y4 y2M0 y2M1 y2M2 y2M3 y2M4 y2M5; have y2Tl := T2.out.lt; have y2Xl := X2.out.lt; have y2Yl := Y2.out.lt; have y2Ml := M2.out.lt)
    exact bodyPost_ret (v := .bool true) (by simp [results, Tryz.results10, go_sem]) rfl ⟨rfl, HB2.out⟩
  | true =>
  cases cb with
  | false =>
    have yT0 := T0.out.cell 0
    have yT1 := T0.out.cell 1
    have yX0 := X0.out.cell 0
    have yX1 := X0.out.cell 1
    have yY0 := Y0.out.cell 0
    have yY1 := Y0.out.cell 1
    have yY2 := Y0.out.cell 2
    have yY3 := Y0.out.cell 3
    have yY4 := Y0.out.cell 4
    have yM0 := M0.out.cell 0
    have yM1 := M0.out.cell 1
    have yM2 := M0.out.cell 2
    have yM3 := M0.out.cell 3
    have yM4 := M0.out.cell 4
    have yM5 := M0.out.cell 5
    simp only [List.getElem?_toArray, List.getElem?_cons_zero, List.getElem?_cons_succ] at yT0 yT1 yX0 yX1 yY0 yY1 yY2 yY3 yY4 yM0 yM1 yM2 yM3 yM4 yM5
    have yTl := T0.out.lt
    have yXl := X0.out.lt
    have yYl := Y0.out.lt
    have yMl := M0.out.lt
    go_upto_region 2 with (first | (go_at_call 12; with_reducible refine (HFew.out _).mono ?_; rintro e u1 ⟨rfl, hb1⟩; have T1 := Lib.hid (T0.out.below hb1); have X1 := Lib.hid (X0.out.below hb1); have Y1 := Lib.hid (Y0.out.below hb1); have M1 := Lib.hid (M0.out.below hb1); have O1 := Lib.hid (O0.out.below hb1); have E1 := Lib.hid (E0.out.below hb1); have G1 := Lib.hid (G0.out.below hb1); have H1 := Lib.hid (H0.out.below hb1); have S1 := Lib.hid (S0.out.below hb1); have Z1 := Lib.hid (Z0.out.below hb1); have HB1 := Lib.hid (HB0.out.trans (hb1.mono HB0.out.size)); clear hb1; have y1T0 := T1.out.cell 0; have y1T1 := T1.out.cell 1; have y1X0 := X1.out.cell 0; have y1X1 := X1.out.cell 1; have y1Y0 := Y1.out.cell 0; have y1Y1 := Y1.out.cell 1; have y1Y2 := Y1.out.cell 2; have y1Y3 := Y1.out.cell 3; have y1Y4 := Y1.out.cell 4; have y1M0 := M1.out.cell 0; have y1M1 := M1.out.cell 1; have y1M2 := M1.out.cell 2; have y1M3 := M1.out.cell 3; have y1M4 := M1.out.cell 4; have y1M5 := M1.out.cell 5; simp only [List.getElem?_toArray, List.getElem?_cons_zero, List.getElem?_cons_succ] at y1T0 y1T1 y1X0 y1X1 y1Y0 y1Y1 y1Y2 y1Y3 y1Y4 y1M0 y1M1 y1M2 y1M3 y1M4 y1M5; have y1Tl := T1.out.lt; have y1Xl := X1.out.lt; have y1Yl := Y1.out.lt; have y1Ml := M1.out.lt) | (go_at_call 50; with_reducible refine (HCob.out _).mono ?_; rintro e u2 ⟨rfl, hb2⟩; have T2 := Lib.hid (T1.out.below hb2); have X2 := Lib.hid (X1.out.below hb2); have Y2 := Lib.hid (Y1.out.below hb2); have M2 := Lib.hid (M1.out.below hb2); have O2 := Lib.hid (O1.out.below hb2); have E2 := Lib.hid (E1.out.below hb2); have G2 := Lib.hid (G1.out.below hb2); have H2 := Lib.hid (H1.out.below hb2); have S2 := Lib.hid (S1.out.below hb2); have Z2 := Lib.hid (Z1.out.below hb2); have HB2 := Lib.hid (HB1.out.trans (hb2.mono HB1.out.size)); clear hb2; have y2T0 := T2.out.cell 0; have y2T1 := T2.out.cell 1; have y2X0 := X2.out.cell 0; have y2X1 := X2.out.cell 1; have y2Y0 := Y2.out.cell 0; have y2Y1 := Y2.out.cell 1; have y2Y2 := Y2.out.cell 2; have y2Y3 := Y2.out.cell 3; have y2Y4 := Y2.out.cell 4; have y2M0 := M2.out.cell 0; have y2M1 := M2.out.cell 1; have y2M2 := M2.out.cell 2; have y2M3 := M2.out.cell 3; have y2M4 := M2.out.cell 4; have y2M5 := M2.out.cell 5; simp only [List.getElem?_toArray, List.getElem?_cons_zero, List.getElem?_cons_succ] at y2T0 y2T1 y2X0 y2X1 y2Y0 y2Y1 y2Y2 y2Y3 y2Y4 y2M0 y2M1 y2M2 y2M3 y2M4 y2M5; have y2Tl := T2.out.lt; have y2Xl := X2.out.lt; have y2Yl := Y2.out.lt; have y2Ml := M2.out.lt))
    clear yT0 yT1 yX0 yX1 yY0 yY1 yY2 yY3 yY4 yM0 yM1 yM2 yM3 yM4 yM5 yTl yXl yYl yMl y1T0 y1T1 y1X0 y1X1 y1Y0 y1Y1 y1Y2 y1Y3 y1Y4 y1M0 y1M1 y1M2 y1M3 y1M4 y1M5 y1Tl y1Xl y1Yl y1Ml y2T0 y2T1 y2X0 y2X1 y2Y0 y2Y1 y2Y2 y2Y3 y2Y4 y2M0 y2M1 y2M2 y2M3 y2M4 y2M5 y2Tl y2Xl y2Yl y2Ml T0 X0 Y0 M0 O0 E0 G0 H0 S0 Z0 T1 X1 Y1 M1 O1 E1 G1 H1 S1 Z1 HB0 HB1
    have yT0 := T2.out.cell 0
    have yT1 := T2.out.cell 1
    have yX0 := X2.out.cell 0
    have yX1 := X2.out.cell 1
    have yY0 := Y2.out.cell 0
    have yY1 := Y2.out.cell 1
    have yY2 := Y2.out.cell 2
    have yY3 := Y2.out.cell 3
    have yY4 := Y2.out.cell 4
    have yM0 := M2.out.cell 0
    have yM1 := M2.out.cell 1
    have yM2 := M2.out.cell 2
    have yM3 := M2.out.cell 3
    have yM4 := M2.out.cell 4
    have yM5 := M2.out.cell 5
    simp only [List.getElem?_toArray, List.getElem?_cons_zero, List.getElem?_cons_succ] at yT0 yT1 yX0 yX1 yY0 yY1 yY2 yY3 yY4 yM0 yM1 yM2 yM3 yM4 yM5
    have yTl := T2.out.lt
    have yXl := X2.out.lt
    have yYl := Y2.out.lt
    have yMl := M2.out.lt
    go_wp2_with (go_at_call 13; with_reducible refine (HSan.out _).mono ?_; rintro e u3 ⟨rfl, hb3⟩; have T3 := Lib.hid (T2.out.below hb3); have X3 := Lib.hid (X2.out.below hb3); have Y3 := Lib.hid (Y2.out.below hb3); have M3 := Lib.hid (M2.out.below hb3); have O3 := Lib.hid (O2.out.below hb3); have E3 := Lib.hid (E2.out.below hb3); have G3 := Lib.hid (G2.out.below hb3); have H3 := Lib.hid (H2.out.below hb3); have S3 := Lib.hid (S2.out.below hb3); have Z3 := Lib.hid (Z2.out.below hb3); have HB3 := Lib.hid (HB2.out.trans (hb3.mono HB2.out.size)); clear hb3; have y3T0 := T3.out.cell 0; have y3T1 := T3.out.cell 1; have y3X0 := X3.out.cell 0; have y3X1 := X3.out.cell 1; have y3Y0 := Y3.out.cell 0; have y3Y1 := Y3.out.cell 1; have y3Y2 := Y3.out.cell 2; have y3Y3 := Y3.out.cell 3; have y3Y4 := Y3.out.cell 4; have y3M0 := M3.out.cell 0; have y3M1 := M3.out.cell 1; have y3M2 := M3.out.cell 2; have y3M3 := M3.out.cell 3; have y3M4 := M3.out.cell 4; have y3M5 := M3.out.cell 5; simp only [List.getElem?_toArray, List.getElem?_cons_zero, List.getElem?_cons_succ] at y3T0 y3T1 y3X0 y3X1 y3Y0 y3Y1 y3Y2 y3Y3 y3Y4 y3M0 y3M1 y3M2 y3M3 y3M4 y3M5; have y3Tl := T3.out.lt; have y3Xl := X3.out.lt; have y3Yl := Y3.out.lt; have y3Ml := M3.out.lt)
    exact bodyPost_ret (v := .bool true) (by simp [results, Tryz.results10, go_sem]) rfl ⟨rfl, HB3.out⟩
  | true =>
  by_cases hk60 : 60 < m4
  case pos =>
    have hkb : decide ((60 : Int) < (m4 : Int)) = true := decide_eq_true (by omega)
    have yT0 := T0.out.cell 0
    have yT1 := T0.out.cell 1
    have yX0 := X0.out.cell 0
    have yX1 := X0.out.cell 1
    have yY0 := Y0.out.cell 0
    have yY1 := Y0.out.cell 1
    have yY2 := Y0.out.cell 2
    have yY3 := Y0.out.cell 3
    have yY4 := Y0.out.cell 4
    have yM0 := M0.out.cell 0
    have yM1 := M0.out.cell 1
    have yM2 := M0.out.cell 2
    have yM3 := M0.out.cell 3
    have yM4 := M0.out.cell 4
    have yM5 := M0.out.cell 5
    simp only [List.getElem?_toArray, List.getElem?_cons_zero, List.getElem?_cons_succ] at yT0 yT1 yX0 yX1 yY0 yY1 yY2 yY3 yY4 yM0 yM1 yM2 yM3 yM4 yM5
    have yTl := T0.out.lt
    have yXl := X0.out.lt
    have yYl := Y0.out.lt
    have yMl := M0.out.lt
    go_upto_region 2 with (first | (go_at_call 12; with_reducible refine (HFew.out _).mono ?_; rintro e u1 ⟨rfl, hb1⟩; have T1 := Lib.hid (T0.out.below hb1); have X1 := Lib.hid (X0.out.below hb1); have Y1 := Lib.hid (Y0.out.below hb1); have M1 := Lib.hid (M0.out.below hb1); have O1 := Lib.hid (O0.out.below hb1); have E1 := Lib.hid (E0.out.below hb1); have G1 := Lib.hid (G0.out.below hb1); have H1 := Lib.hid (H0.out.below hb1); have S1 := Lib.hid (S0.out.below hb1); have Z1 := Lib.hid (Z0.out.below hb1); have HB1 := Lib.hid (HB0.out.trans (hb1.mono HB0.out.size)); clear hb1; have y1T0 := T1.out.cell 0; have y1T1 := T1.out.cell 1; have y1X0 := X1.out.cell 0; have y1X1 := X1.out.cell 1; have y1Y0 := Y1.out.cell 0; have y1Y1 := Y1.out.cell 1; have y1Y2 := Y1.out.cell 2; have y1Y3 := Y1.out.cell 3; have y1Y4 := Y1.out.cell 4; have y1M0 := M1.out.cell 0; have y1M1 := M1.out.cell 1; have y1M2 := M1.out.cell 2; have y1M3 := M1.out.cell 3; have y1M4 := M1.out.cell 4; have y1M5 := M1.out.cell 5; simp only [List.getElem?_toArray, List.getElem?_cons_zero, List.getElem?_cons_succ] at y1T0 y1T1 y1X0 y1X1 y1Y0 y1Y1 y1Y2 y1Y3 y1Y4 y1M0 y1M1 y1M2 y1M3 y1M4 y1M5; have y1Tl := T1.out.lt; have y1Xl := X1.out.lt; have y1Yl := Y1.out.lt; have y1Ml := M1.out.lt) | (go_at_call 50; with_reducible refine (HCob.out _).mono ?_; rintro e u2 ⟨rfl, hb2⟩; have T2 := Lib.hid (T1.out.below hb2); have X2 := Lib.hid (X1.out.below hb2); have Y2 := Lib.hid (Y1.out.below hb2); have M2 := Lib.hid (M1.out.below hb2); have O2 := Lib.hid (O1.out.below hb2); have E2 := Lib.hid (E1.out.below hb2); have G2 := Lib.hid (G1.out.below hb2); have H2 := Lib.hid (H1.out.below hb2); have S2 := Lib.hid (S1.out.below hb2); have Z2 := Lib.hid (Z1.out.below hb2); have HB2 := Lib.hid (HB1.out.trans (hb2.mono HB1.out.size)); clear hb2; have y2T0 := T2.out.cell 0; have y2T1 := T2.out.cell 1; have y2X0 := X2.out.cell 0; have y2X1 := X2.out.cell 1; have y2Y0 := Y2.out.cell 0; have y2Y1 := Y2.out.cell 1; have y2Y2 := Y2.out.cell 2; have y2Y3 := Y2.out.cell 3; have y2Y4 := Y2.out.cell 4; have y2M0 := M2.out.cell 0; have y2M1 := M2.out.cell 1; have y2M2 := M2.out.cell 2; have y2M3 := M2.out.cell 3; have y2M4 := M2.out.cell 4; have y2M5 := M2.out.cell 5; simp only [List.getElem?_toArray, List.getElem?_cons_zero, List.getElem?_cons_succ] at y2T0 y2T1 y2X0 y2X1 y2Y0 y2Y1 y2Y2 y2Y3 y2Y4 y2M0 y2M1 y2M2 y2M3 y2M4 y2M5; have y2Tl := T2.out.lt; have y2Xl := X2.out.lt; have y2Yl := Y2.out.lt; have y2Ml := M2.out.lt))
    clear yT0 yT1 yX0 yX1 yY0 yY1 yY2 yY3 yY4 yM0 yM1 yM2 yM3 yM4 yM5 yTl yXl yYl yMl y1T0 y1T1 y1X0 y1X1 y1Y0 y1Y1 y1Y2 y1Y3 y1Y4 y1M0 y1M1 y1M2 y1M3 y1M4 y1M5 y1Tl y1Xl y1Yl y1Ml y2T0 y2T1 y2X0 y2X1 y2Y0 y2Y1 y2Y2 y2Y3 y2Y4 y2M0 y2M1 y2M2 y2M3 y2M4 y2M5 y2Tl y2Xl y2Yl y2Ml T0 X0 Y0 M0 O0 E0 G0 H0 S0 Z0 T1 X1 Y1 M1 O1 E1 G1 H1 S1 Z1 HB0 HB1
    have yT0 := T2.out.cell 0
    have yT1 := T2.out.cell 1
    have yX0 := X2.out.cell 0
    have yX1 := X2.out.cell 1
    have yY0 := Y2.out.cell 0
    have yY1 := Y2.out.cell 1
    have yY2 := Y2.out.cell 2
    have yY3 := Y2.out.cell 3
    have yY4 := Y2.out.cell 4
    have yM0 := M2.out.cell 0
    have yM1 := M2.out.cell 1
    have yM2 := M2.out.cell 2
    have yM3 := M2.out.cell 3
    have yM4 := M2.out.cell 4
    have yM5 := M2.out.cell 5
    simp only [List.getElem?_toArray, List.getElem?_cons_zero, List.getElem?_cons_succ] at yT0 yT1 yX0 yX1 yY0 yY1 yY2 yY3 yY4 yM0 yM1 yM2 yM3 yM4 yM5
    have yTl := T2.out.lt
    have yXl := X2.out.lt
    have yYl := Y2.out.lt
    have yMl := M2.out.lt
    go_wp2_with (go_at_call 13; with_reducible refine (HSan.out _).mono ?_; rintro e u3 ⟨rfl, hb3⟩; have T3 := Lib.hid (T2.out.below hb3); have X3 := Lib.hid (X2.out.below hb3); have Y3 := Lib.hid (Y2.out.below hb3); have M3 := Lib.hid (M2.out.below hb3); have O3 := Lib.hid (O2.out.below hb3); have E3 := Lib.hid (E2.out.below hb3); have G3 := Lib.hid (G2.out.below hb3); have H3 := Lib.hid (H2.out.below hb3); have S3 := Lib.hid (S2.out.below hb3); have Z3 := Lib.hid (Z2.out.below hb3); have HB3 := Lib.hid (HB2.out.trans (hb3.mono HB2.out.size)); clear hb3; have y3T0 := T3.out.cell 0; have y3T1 := T3.out.cell 1; have y3X0 := X3.out.cell 0; have y3X1 := X3.out.cell 1; have y3Y0 := Y3.out.cell 0; have y3Y1 := Y3.out.cell 1; have y3Y2 := Y3.out.cell 2; have y3Y3 := Y3.out.cell 3; have y3Y4 := Y3.out.cell 4; have y3M0 := M3.out.cell 0; have y3M1 := M3.out.cell 1; have y3M2 := M3.out.cell 2; have y3M3 := M3.out.cell 3; have y3M4 := M3.out.cell 4; have y3M5 := M3.out.cell 5; simp only [List.getElem?_toArray, List.getElem?_cons_zero, List.getElem?_cons_succ] at y3T0 y3T1 y3X0 y3X1 y3Y0 y3Y1 y3Y2 y3Y3 y3Y4 y3M0 y3M1 y3M2 y3M3 y3M4 y3M5; have y3Tl := T3.out.lt; have y3Xl := X3.out.lt; have y3Yl := Y3.out.lt; have y3Ml := M3.out.lt)
    exact bodyPost_ret (v := .bool true) (by simp [results, Tryz.results10, go_sem]) rfl ⟨rfl, HB3.out⟩
  case neg =>
  have hkb : decide ((60 : Int) < (m4 : Int)) = false := decide_eq_false (by omega)
  by_cases hk602 : 60 < m5
  case pos =>
    have hkb2 : decide ((60 : Int) < (m5 : Int)) = true := decide_eq_true (by omega)
    have yT0 := T0.out.cell 0
    have yT1 := T0.out.cell 1
    have yX0 := X0.out.cell 0
    have yX1 := X0.out.cell 1
    have yY0 := Y0.out.cell 0
    have yY1 := Y0.out.cell 1
    have yY2 := Y0.out.cell 2
    have yY3 := Y0.out.cell 3
    have yY4 := Y0.out.cell 4
    have yM0 := M0.out.cell 0
    have yM1 := M0.out.cell 1
    have yM2 := M0.out.cell 2
    have yM3 := M0.out.cell 3
    have yM4 := M0.out.cell 4
    have yM5 := M0.out.cell 5
    simp only [List.getElem?_toArray, List.getElem?_cons_zero, List.getElem?_cons_succ] at yT0 yT1 yX0 yX1 yY0 yY1 yY2 yY3 yY4 yM0 yM1 yM2 yM3 yM4 yM5
    have yTl := T0.out.lt
    have yXl := X0.out.lt
    have yYl := Y0.out.lt
    have yMl := M0.out.lt
    go_upto_region 2 with (first | (go_at_call 12; with_reducible refine (HFew.out _).mono ?_; rintro e u1 ⟨rfl, hb1⟩; have T1 := Lib.hid (T0.out.below hb1); have X1 := Lib.hid (X0.out.below hb1); have Y1 := Lib.hid (Y0.out.below hb1); have M1 := Lib.hid (M0.out.below hb1); have O1 := Lib.hid (O0.out.below hb1); have E1 := Lib.hid (E0.out.below hb1); have G1 := Lib.hid (G0.out.below hb1); have H1 := Lib.hid (H0.out.below hb1); have S1 := Lib.hid (S0.out.below hb1); have Z1 := Lib.hid (Z0.out.below hb1); have HB1 := Lib.hid (HB0.out.trans (hb1.mono HB0.out.size)); clear hb1; have y1T0 := T1.out.cell 0; have y1T1 := T1.out.cell 1; have y1X0 := X1.out.cell 0; have y1X1 := X1.out.cell 1; have y1Y0 := Y1.out.cell 0; have y1Y1 := Y1.out.cell 1; have y1Y2 := Y1.out.cell 2; have y1Y3 := Y1.out.cell 3; have y1Y4 := Y1.out.cell 4; have y1M0 := M1.out.cell 0; have y1M1 := M1.out.cell 1; have y1M2 := M1.out.cell 2; have y1M3 := M1.out.cell 3; have y1M4 := M1.out.cell 4; have y1M5 := M1.out.cell 5; simp only [List.getElem?_toArray, List.getElem?_cons_zero, List.getElem?_cons_succ] at y1T0 y1T1 y1X0 y1X1 y1Y0 y1Y1 y1Y2 y1Y3 y1Y4 y1M0 y1M1 y1M2 y1M3 y1M4 y1M5; have y1Tl := T1.out.lt; have y1Xl := X1.out.lt; have y1Yl := Y1.out.lt; have y1Ml := M1.out.lt) | (go_at_call 50; with_reducible refine (HCob.out _).mono ?_; rintro e u2 ⟨rfl, hb2⟩; have T2 := Lib.hid (T1.out.below hb2); have X2 := Lib.hid (X1.out.below hb2); have Y2 := Lib.hid (Y1.out.below hb2); have M2 := Lib.hid (M1.out.below hb2); have O2 := Lib.hid (O1.out.below hb2); have E2 := Lib.hid (E1.out.below hb2); have G2 := Lib.hid (G1.out.below hb2); have H2 := Lib.hid (H1.out.below hb2); have S2 := Lib.hid (S1.out.below hb2); have Z2 := Lib.hid (Z1.out.below hb2); have HB2 := Lib.hid (HB1.out.trans (hb2.mono HB1.out.size)); clear hb2; have y2T0 := T2.out.cell 0; have y2T1 := T2.out.cell 1; have y2X0 := X2.out.cell 0; have y2X1 := X2.out.cell 1; have y2Y0 := Y2.out.cell 0; have y2Y1 := Y2.out.cell 1; have y2Y2 := Y2.out.cell 2; have y2Y3 := Y2.out.cell 3; have y2Y4 := Y2.out.cell 4; have y2M0 := M2.out.cell 0; have y2M1 := M2.out.cell 1; have y2M2 := M2.out.cell 2; have y2M3 := M2.out.cell 3; have y2M4 := M2.out.cell 4; have y2M5 := M2.out.cell 5; simp only [List.getElem?_toArray, List.getElem?_cons_zero, List.getElem?_cons_succ] at y2T0 y2T1 y2X0 y2X1 y2Y0 y2Y1 y2Y2 y2Y3 y2Y4 y2M0 y2M1 y2M2 y2M3 y2M4 y2M5; have y2Tl := T2.out.lt; have y2Xl := X2.out.lt; have y2Yl := Y2.out.lt; have y2Ml := M2.out.lt))
    clear yT0 yT1 yX0 yX1 yY0 yY1 yY2 yY3 yY4 yM0 yM1 yM2 yM3 yM4 yM5 yTl yXl yYl yMl y1T0 y1T1 y1X0 y1X1 y1Y0 y1Y1 y1Y2 y1Y3 y1Y4 y1M0 y1M1 y1M2 y1M3 y1M4 y1M5 y1Tl y1Xl y1Yl y1Ml y2T0 y2T1 y2X0 y2X1 y2Y0 y2Y1 y2Y2 y2Y3 y2Y4 y2M0 y2M1 y2M2 y2M3 y2M4 y2M5 y2Tl y2Xl y2Yl y2Ml T0 X0 Y0 M0 O0 E0 G0 H0 S0 Z0 T1 X1 Y1 M1 O1 E1 G1 H1 S1 Z1 HB0 HB1
    have yT0 := T2.out.cell 0
    have yT1 := T2.out.cell 1
    have yX0 := X2.out.cell 0
    have yX1 := X2.out.cell 1
    have yY0 := Y2.out.cell 0
    have yY1 := Y2.out.cell 1
    have yY2 := Y2.out.cell 2
    have yY3 := Y2.out.cell 3
    have yY4 := Y2.out.cell 4
    have yM0 := M2.out.cell 0
    have yM1 := M2.out.cell 1
    have yM2 := M2.out.cell 2
    have yM3 := M2.out.cell 3
    have yM4 := M2.out.cell 4
    have yM5 := M2.out.cell 5
    simp only [List.getElem?_toArray, List.getElem?_cons_zero, List.getElem?_cons_succ] at yT0 yT1 yX0 yX1 yY0 yY1 yY2 yY3 yY4 yM0 yM1 yM2 yM3 yM4 yM5
    have yTl := T2.out.lt
    have yXl := X2.out.lt
    have yYl := Y2.out.lt
    have yMl := M2.out.lt
    go_wp2_with (go_at_call 13; with_reducible refine (HSan.out _).mono ?_; rintro e u3 ⟨rfl, hb3⟩; have T3 := Lib.hid (T2.out.below hb3); have X3 := Lib.hid (X2.out.below hb3); have Y3 := Lib.hid (Y2.out.below hb3); have M3 := Lib.hid (M2.out.below hb3); have O3 := Lib.hid (O2.out.below hb3); have E3 := Lib.hid (E2.out.below hb3); have G3 := Lib.hid (G2.out.below hb3); have H3 := Lib.hid (H2.out.below hb3); have S3 := Lib.hid (S2.out.below hb3); have Z3 := Lib.hid (Z2.out.below hb3); have HB3 := Lib.hid (HB2.out.trans (hb3.mono HB2.out.size)); clear hb3; have y3T0 := T3.out.cell 0; have y3T1 := T3.out.cell 1; have y3X0 := X3.out.cell 0; have y3X1 := X3.out.cell 1; have y3Y0 := Y3.out.cell 0; have y3Y1 := Y3.out.cell 1; have y3Y2 := Y3.out.cell 2; have y3Y3 := Y3.out.cell 3; have y3Y4 := Y3.out.cell 4; have y3M0 := M3.out.cell 0; have y3M1 := M3.out.cell 1; have y3M2 := M3.out.cell 2; have y3M3 := M3.out.cell 3; have y3M4 := M3.out.cell 4; have y3M5 := M3.out.cell 5; simp only [List.getElem?_toArray, List.getElem?_cons_zero, List.getElem?_cons_succ] at y3T0 y3T1 y3X0 y3X1 y3Y0 y3Y1 y3Y2 y3Y3 y3Y4 y3M0 y3M1 y3M2 y3M3 y3M4 y3M5; have y3Tl := T3.out.lt; have y3Xl := X3.out.lt; have y3Yl := Y3.out.lt; have y3Ml := M3.out.lt)
    exact bodyPost_ret (v := .bool true) (by simp [results, Tryz.results10, go_sem]) rfl ⟨rfl, HB3.out⟩
  case neg =>
  have hkb2 : decide ((60 : Int) < (m5 : Int)) = false := decide_eq_false (by omega)
  have yT0 := T0.out.cell 0
  have yT1 := T0.out.cell 1
  have yX0 := X0.out.cell 0
  have yX1 := X0.out.cell 1
  have yY0 := Y0.out.cell 0
  have yY1 := Y0.out.cell 1
  have yY2 := Y0.out.cell 2
  have yY3 := Y0.out.cell 3
  have yY4 := Y0.out.cell 4
  have yM0 := M0.out.cell 0
  have yM1 := M0.out.cell 1
  have yM2 := M0.out.cell 2
  have yM3 := M0.out.cell 3
  have yM4 := M0.out.cell 4
  have yM5 := M0.out.cell 5
  simp only [List.getElem?_toArray, List.getElem?_cons_zero, List.getElem?_cons_succ] at yT0 yT1 yX0 yX1 yY0 yY1 yY2 yY3 yY4 yM0 yM1 yM2 yM3 yM4 yM5
  have yTl := T0.out.lt
  have yXl := X0.out.lt
  have yYl := Y0.out.lt
  have yMl := M0.out.lt
  go_upto_region 3 with (first | (go_at_call 12; with_reducible refine (HFew.out _).mono ?_; rintro e u1 ⟨rfl, hb1⟩; have T1 := Lib.hid (T0.out.below hb1); have X1 := Lib.hid (X0.out.below hb1); have Y1 := Lib.hid (Y0.out.below hb1); have M1 := Lib.hid (M0.out.below hb1); have O1 := Lib.hid (O0.out.below hb1); have E1 := Lib.hid (E0.out.below hb1); have G1 := Lib.hid (G0.out.below hb1); have H1 := Lib.hid (H0.out.below hb1); have S1 := Lib.hid (S0.out.below hb1); have Z1 := Lib.hid (Z0.out.below hb1); have HB1 := Lib.hid (HB0.out.trans (hb1.mono HB0.out.size)); clear hb1; have y1T0 := T1.out.cell 0; have y1T1 := T1.out.cell 1; have y1X0 := X1.out.cell 0; have y1X1 := X1.out.cell 1; have y1Y0 := Y1.out.cell 0; have y1Y1 := Y1.out.cell 1; have y1Y2 := Y1.out.cell 2; have y1Y3 := Y1.out.cell 3; have y1Y4 := Y1.out.cell 4; have y1M0 := M1.out.cell 0; have y1M1 := M1.out.cell 1; have y1M2 := M1.out.cell 2; have y1M3 := M1.out.cell 3; have y1M4 := M1.out.cell 4; have y1M5 := M1.out.cell 5; simp only [List.getElem?_toArray, List.getElem?_cons_zero, List.getElem?_cons_succ] at y1T0 y1T1 y1X0 y1X1 y1Y0 y1Y1 y1Y2 y1Y3 y1Y4 y1M0 y1M1 y1M2 y1M3 y1M4 y1M5; have y1Tl := T1.out.lt; have y1Xl := X1.out.lt; have y1Yl := Y1.out.lt; have y1Ml := M1.out.lt) | (go_at_call 50; with_reducible refine (HCob.out _).mono ?_; rintro e u2 ⟨rfl, hb2⟩; have T2 := Lib.hid (T1.out.below hb2); have X2 := Lib.hid (X1.out.below hb2); have Y2 := Lib.hid (Y1.out.below hb2); have M2 := Lib.hid (M1.out.below hb2); have O2 := Lib.hid (O1.out.below hb2); have E2 := Lib.hid (E1.out.below hb2); have G2 := Lib.hid (G1.out.below hb2); have H2 := Lib.hid (H1.out.below hb2); have S2 := Lib.hid (S1.out.below hb2); have Z2 := Lib.hid (Z1.out.below hb2); have HB2 := Lib.hid (HB1.out.trans (hb2.mono HB1.out.size)); clear hb2; have y2T0 := T2.out.cell 0; have y2T1 := T2.out.cell 1; have y2X0 := X2.out.cell 0; have y2X1 := X2.out.cell 1; have y2Y0 := Y2.out.cell 0; have y2Y1 := Y2.out.cell 1; have y2Y2 := Y2.out.cell 2; have y2Y3 := Y2.out.cell 3; have y2Y4 := Y2.out.cell 4; have y2M0 := M2.out.cell 0; have y2M1 := M2.out.cell 1; have y2M2 := M2.out.cell 2; have y2M3 := M2.out.cell 3; have y2M4 := M2.out.cell 4; have y2M5 := M2.out.cell 5; simp only [List.getElem?_toArray, List.getElem?_cons_zero, List.getElem?_cons_succ] at y2T0 y2T1 y2X0 y2X1 y2Y0 y2Y1 y2Y2 y2Y3 y2Y4 y2M0 y2M1 y2M2 y2M3 y2M4 y2M5; have y2Tl := T2.out.lt; have y2Xl := X2.out.lt; have y2Yl := Y2.out.lt; have y2Ml := M2.out.lt))
  clear yT0 yT1 yX0 yX1 yY0 yY1 yY2 yY3 yY4 yM0 yM1 yM2 yM3 yM4 yM5 yTl yXl yYl yMl y1T0 y1T1 y1X0 y1X1 y1Y0 y1Y1 y1Y2 y1Y3 y1Y4 y1M0 y1M1 y1M2 y1M3 y1M4 y1M5 y1Tl y1Xl y1Yl y1Ml y2T0 y2T1 y2X0 y2X1 y2Y0 y2Y1 y2Y2 y2Y3 y2Y4 y2M0 y2M1 y2M2 y2M3 y2M4 y2M5 y2Tl y2Xl y2Yl y2Ml T0 X0 Y0 M0 O0 E0 G0 H0 S0 Z0 T1 X1 Y1 M1 O1 E1 G1 H1 S1 Z1 HB0 HB1
  clear hkb
  clear hkb2
  have HLt := Lib.hid (fun (u : World) (hu : TR.Ok u ⟨A, n, c, B, m, d, hs, ms⟩) => (Least_any ⟨A, n, c, B, m, d, hs, ms⟩ kind id u hu).mono fun e w' h => ask_all h)
  have HGt := Lib.hid (fun (u : World) (hu : TR.Ok u ⟨A, n, c, B, m, d, hs, ms⟩) => (Greatest_any ⟨A, n, c, B, m, d, hs, ms⟩ kind id u hu).mono fun e w' h => ask_far h)
  have HFl := Lib.hid (fun (b : Bool) (st' en' ma' : List Int) (way' : Int) (s' : List Int) (k : LimF hs ms (placeN hs ms kind id) b st' en' ma' way' s') => (show st'.length = en'.length from by have := fits_len k.ok.fits; omega))
  obtain ⟨lo, hlo⟩ : ∃ x, asV hs ms kind id false = x := ⟨_, rfl⟩
  obtain ⟨hi, hhi⟩ : ∃ x, asV hs ms kind id true = x := ⟨_, rfl⟩
  obtain ⟨ae, hae⟩ : ∃ x, asE hs ms kind id = x := ⟨_, rfl⟩
  rw [hlo] at HLt
  rw [hhi] at HGt
  rw [hae] at HLt HGt
  clear hlo hhi hae
  dsimp only [TR.v, vAt, vLi] at HLt HGt
  have yT0 := T2.out.cell 0
  have yT1 := T2.out.cell 1
  have yX0 := X2.out.cell 0
  have yX1 := X2.out.cell 1
  have yY0 := Y2.out.cell 0
  have yY1 := Y2.out.cell 1
  have yY2 := Y2.out.cell 2
  have yY3 := Y2.out.cell 3
  have yY4 := Y2.out.cell 4
  have yM0 := M2.out.cell 0
  have yM1 := M2.out.cell 1
  have yM2 := M2.out.cell 2
  have yM3 := M2.out.cell 3
  have yM4 := M2.out.cell 4
  have yM5 := M2.out.cell 5
  simp only [List.getElem?_toArray, List.getElem?_cons_zero, List.getElem?_cons_succ] at yT0 yT1 yX0 yX1 yY0 yY1 yY2 yY3 yY4 yM0 yM1 yM2 yM3 yM4 yM5
  have yTl := T2.out.lt
  have yXl := X2.out.lt
  have yYl := Y2.out.lt
  have yMl := M2.out.lt
  have HC := Lib.hid (HLt.out _ O2.out)
  try dsimp only [TR.v, vCt] at HC
  go_upto_region 4 with (go_at_call 46; (with_reducible refine HC.out.mono ?_); rintro e u3 ⟨J1, jn1, jc1, J2, jn2, jc2, J3, jn3, jc3, jw, J4, jn4, jc4, jst, jen, jma, js, rfl, k1, k2, k3, k4, kb, _, kf, kz, hb⟩)
  clear yT0 yT1 yX0 yX1 yY0 yY1 yY2 yY3 yY4 yM0 yM1 yM2 yM3 yM4 yM5 yTl yXl yYl yMl
  clear HC
  have bn := hb
  have bq : Below u3.heap.size u3 (u3.alloc (.cells #[.int .i64 lo, .slice J1 jn1 jc1, .slice J2 jn2 jc2, .slice J3 jn3 jc3, .int .i64 jw, .slice J4 jn4 jc4] 95)) := ((Below.refl u3.heap.size u3).alloc (Nat.le_refl _) _)
  have bn := hb.trans (bq.mono hb.size)
  have T3 := Lib.hid (T2.out.below bn)
  have X3 := Lib.hid (X2.out.below bn)
  have Y3 := Lib.hid (Y2.out.below bn)
  have M3 := Lib.hid (M2.out.below bn)
  have O3 := Lib.hid (O2.out.below bn)
  have E3 := Lib.hid (E2.out.below bn)
  have G3 := Lib.hid (G2.out.below bn)
  have H3 := Lib.hid (H2.out.below bn)
  have S3 := Lib.hid (S2.out.below bn)
  have Z3 := Lib.hid (Z2.out.below bn)
  have HB3 := Lib.hid (HB2.out.trans (bn.mono HB2.out.size))
  have KAj3 := Lib.hid ((k1).below bq)
  have KBj3 := Lib.hid ((k2).below bq)
  have KCj3 := Lib.hid ((k3).below bq)
  have KDj3 := Lib.hid ((k4).below bq)
  have HPp := Lib.hid (show w.heap.size + 3 < u3.heap.size from Nat.lt_of_lt_of_le M2.out.lt hb.size)
  have La3 : Hid (Blk (u3.alloc (.cells #[.int .i64 lo, .slice J1 jn1 jc1, .slice J2 jn2 jc2, .slice J3 jn3 jc3, .int .i64 jw, .slice J4 jn4 jc4] 95)) u3.heap.size 95 #[.int .i64 lo, .slice J1 jn1 jc1, .slice J2 jn2 jc2, .slice J3 jn3 jc3, .int .i64 jw, .slice J4 jn4 jc4]) := Lib.hid (Blk.at_new 95 #[.int .i64 lo, .slice J1 jn1 jc1, .slice J2 jn2 jc2, .slice J3 jn3 jc3, .int .i64 jw, .slice J4 jn4 jc4] rfl)
  generalize hV : u3.alloc (.cells #[.int .i64 lo, .slice J1 jn1 jc1, .slice J2 jn2 jc2, .slice J3 jn3 jc3, .int .i64 jw, .slice J4 jn4 jc4] 95) = V3 at *
  generalize hp : u3.heap.size = p3 at *
  clear hV hp bq
  clear hb bn T2 X2 Y2 M2 O2 E2 G2 H2 S2 Z2 HB2
  have HNj := Lib.hid (show jn1 = jn2 from by
    by_cases q : ae = 0
    · have := HFl.out _ _ _ _ _ _ (kf q).1
      rw [k1.len, k2.len] at this
      exact this
    · have := (kz q).1
      omega)
  have HBj := Lib.hid kb
  clear k1 k2 k3 k4 kb kf kz
  cases gr with
  | false =>
    go_upto_region 6 with fail
    obtain ⟨hb1, hb2, hb3, hb4⟩ := HBj.out
    have HBe := Lib.hid (bent_any lo J1 jn1 jc1 J2 jn2 jc2 J3 jn3 jc3 jw J4 jn4 jc4 jst jen jma js xw xa xb xway B5 m5 d5 xs V3 KAj3.out KBj3.out KCj3.out KDj3.out Z3.out (by omega) (by omega) (by omega) (by omega) (by omega))
    dsimp only [vLim, vBe] at HBe
    have yT0 := T3.out.cell 0
    have yT1 := T3.out.cell 1
    have yX0 := X3.out.cell 0
    have yX1 := X3.out.cell 1
    have yY0 := Y3.out.cell 0
    have yY1 := Y3.out.cell 1
    have yY2 := Y3.out.cell 2
    have yY3 := Y3.out.cell 3
    have yY4 := Y3.out.cell 4
    have yM0 := M3.out.cell 0
    have yM1 := M3.out.cell 1
    have yM2 := M3.out.cell 2
    have yM3 := M3.out.cell 3
    have yM4 := M3.out.cell 4
    have yM5 := M3.out.cell 5
    have yLa0 := La3.out.cell 0
    have yLa1 := La3.out.cell 1
    have yLa2 := La3.out.cell 2
    have yLa3 := La3.out.cell 3
    have yLa4 := La3.out.cell 4
    have yLa5 := La3.out.cell 5
    simp only [List.getElem?_toArray, List.getElem?_cons_zero, List.getElem?_cons_succ] at yT0 yT1 yX0 yX1 yY0 yY1 yY2 yY3 yY4 yM0 yM1 yM2 yM3 yM4 yM5 yLa0 yLa1 yLa2 yLa3 yLa4 yLa5
    have yTl := T3.out.lt
    have yXl := X3.out.lt
    have yYl := Y3.out.lt
    have yMl := M3.out.lt
    have yLal := La3.out.lt
    go_cut [63] (fun q wx => q = .bool false ∧ wx = V3)
    case first =>
      by_cases hae : ae = 0
      case pos =>
        have haeb : (ae == 0) = true := by simpa using hae
        have hnb : ((jn1 : Int) != (jn2 : Int)) = false := by have := HNj.out; simp; omega
        have hnc : (jn1 != jn2) = false := by have := HNj.out; simp; omega
        go_wp2_with fail
        go_meet
        exact ⟨by simp, rfl⟩
      case neg =>
        have haeb : (ae == 0) = false := by simpa using hae
        have hnb : ((jn1 : Int) != (jn2 : Int)) = false := by have := HNj.out; simp; omega
        have hnc : (jn1 != jn2) = false := by have := HNj.out; simp; omega
        go_wp2_with fail
        go_meet
        exact ⟨by simp, rfl⟩
    case rest =>
      obtain ⟨hq, hb⟩ := hcut
      subst hq
      subst hb
      clear yT0 yT1 yX0 yX1 yY0 yY1 yY2 yY3 yY4 yM0 yM1 yM2 yM3 yM4 yM5 yLa0 yLa1 yLa2 yLa3 yLa4 yLa5 yTl yXl yYl yMl yLal
      have yT0 := T3.out.cell 0
      have yT1 := T3.out.cell 1
      have yX0 := X3.out.cell 0
      have yX1 := X3.out.cell 1
      have yY0 := Y3.out.cell 0
      have yY1 := Y3.out.cell 1
      have yY2 := Y3.out.cell 2
      have yY3 := Y3.out.cell 3
      have yY4 := Y3.out.cell 4
      have yM0 := M3.out.cell 0
      have yM1 := M3.out.cell 1
      have yM2 := M3.out.cell 2
      have yM3 := M3.out.cell 3
      have yM4 := M3.out.cell 4
      have yM5 := M3.out.cell 5
      have yLa0 := La3.out.cell 0
      have yLa1 := La3.out.cell 1
      have yLa2 := La3.out.cell 2
      have yLa3 := La3.out.cell 3
      have yLa4 := La3.out.cell 4
      have yLa5 := La3.out.cell 5
      simp only [List.getElem?_toArray, List.getElem?_cons_zero, List.getElem?_cons_succ] at yT0 yT1 yX0 yX1 yY0 yY1 yY2 yY3 yY4 yM0 yM1 yM2 yM3 yM4 yM5 yLa0 yLa1 yLa2 yLa3 yLa4 yLa5
      have yTl := T3.out.lt
      have yXl := X3.out.lt
      have yYl := Y3.out.lt
      have yMl := M3.out.lt
      have yLal := La3.out.lt
      have HC := Lib.hid (HBe.out)
      go_upto_region 9 with (go_at_call 51; (with_reducible refine HC.out.mono ?_); rintro e u4 ⟨bv, R1, rn1, rc1, R2, rn2, rc2, R3, rn3, rc3, rw_, R4, rn4, rc4, rst, ren, rma, rs, rfl, k1, k2, k3, k4, k5, hb⟩)
      clear yT0 yT1 yX0 yX1 yY0 yY1 yY2 yY3 yY4 yM0 yM1 yM2 yM3 yM4 yM5 yLa0 yLa1 yLa2 yLa3 yLa4 yLa5 yTl yXl yYl yMl yLal
      clear HC
      have bn := hb
      have bq : Below u4.heap.size u4 (u4.alloc (.cells #[.int .i64 bv, .slice R1 rn1 rc1, .slice R2 rn2 rc2, .slice R3 rn3 rc3, .int .i64 rw_, .slice R4 rn4 rc4] 95)) := ((Below.refl u4.heap.size u4).alloc (Nat.le_refl _) _)
      have bn := hb.trans (bq.mono hb.size)
      have T4 := Lib.hid (T3.out.below bn)
      have X4 := Lib.hid (X3.out.below bn)
      have Y4 := Lib.hid (Y3.out.below bn)
      have M4 := Lib.hid (M3.out.below bn)
      have O4 := Lib.hid (O3.out.below bn)
      have E4 := Lib.hid (E3.out.below bn)
      have G4 := Lib.hid (G3.out.below bn)
      have H4 := Lib.hid (H3.out.below bn)
      have S4 := Lib.hid (S3.out.below bn)
      have Z4 := Lib.hid (Z3.out.below bn)
      have La4 := Lib.hid (La3.out.below bn)
      have KAj4 := Lib.hid (KAj3.out.below bn)
      have KBj4 := Lib.hid (KBj3.out.below bn)
      have KCj4 := Lib.hid (KCj3.out.below bn)
      have KDj4 := Lib.hid (KDj3.out.below bn)
      have HB4 := Lib.hid (HB3.out.trans (bn.mono HB3.out.size))
      have RA4 := Lib.hid ((k1).below bq)
      have RB4 := Lib.hid ((k2).below bq)
      have RC4 := Lib.hid ((k3).below bq)
      have RD4 := Lib.hid ((k4).below bq)
      have Ka4 : Hid (Blk (u4.alloc (.cells #[.int .i64 bv, .slice R1 rn1 rc1, .slice R2 rn2 rc2, .slice R3 rn3 rc3, .int .i64 rw_, .slice R4 rn4 rc4] 95)) u4.heap.size 95 #[.int .i64 bv, .slice R1 rn1 rc1, .slice R2 rn2 rc2, .slice R3 rn3 rc3, .int .i64 rw_, .slice R4 rn4 rc4]) := Lib.hid (Blk.at_new 95 #[.int .i64 bv, .slice R1 rn1 rc1, .slice R2 rn2 rc2, .slice R3 rn3 rc3, .int .i64 rw_, .slice R4 rn4 rc4] rfl)
      generalize hV : u4.alloc (.cells #[.int .i64 bv, .slice R1 rn1 rc1, .slice R2 rn2 rc2, .slice R3 rn3 rc3, .int .i64 rw_, .slice R4 rn4 rc4] 95) = V4 at *
      generalize hp : u4.heap.size = p4 at *
      clear hV hp bq
      clear hb bn T3 X3 Y3 M3 O3 E3 G3 H3 S3 Z3 La3 KAj3 KBj3 KCj3 KDj3 HB3
      clear k1 k2 k3 k4 HBe
      have HC1 := Lib.hid (fun (v : World) (hv : Below V4.heap.size V4 v) => CheckLimit_any ⟨A, n, c, B, m, d, hs, ms⟩ kind id bv R1 rn1 rc1 R2 rn2 rc2 R3 rn3 rc3 rw_ R4 rn4 rc4 rst ren rma rs false v (O4.out.below hv) (RA4.out.below hv) (RB4.out.below hv) (RC4.out.below hv) (RD4.out.below hv) k5)
      have HC2 := Lib.hid (fun (v : World) (hv : Below V4.heap.size V4 v) => CheckLimit_any ⟨A, n, c, B, m, d, hs, ms⟩ kind id bv R1 rn1 rc1 R2 rn2 rc2 R3 rn3 rc3 rw_ R4 rn4 rc4 rst ren rma rs true v (O4.out.below hv) (RA4.out.below hv) (RB4.out.below hv) (RC4.out.below hv) (RD4.out.below hv) k5)
      have HC3 := Lib.hid (fun (v : World) (hv : Below V4.heap.size V4 v) => CheckLimit_any ⟨A, n, c, B, m, d, hs, ms⟩ kind id val D1 m1 d1 D2 m2 d2 D3 m3 d3 way D4 m4 d4 lst len lma s false v (O4.out.below hv) (E4.out.below hv) (G4.out.below hv) (H4.out.below hv) (S4.out.below hv) (by omega))
      have HD1_ := Lib.hid (fun (v : World) (hv : Below V4.heap.size V4 v) => RCheckLimit_any ⟨A, n, c, B, m, d, hs, ms⟩ kind id bv R1 rn1 rc1 R2 rn2 rc2 R3 rn3 rc3 rw_ R4 rn4 rc4 rst ren rma rs false v (O4.out.below hv) (RA4.out.below hv) (RB4.out.below hv) (RC4.out.below hv) (RD4.out.below hv) k5)
      have HD2_ := Lib.hid (fun (v : World) (hv : Below V4.heap.size V4 v) => RCheckLimit_any ⟨A, n, c, B, m, d, hs, ms⟩ kind id bv R1 rn1 rc1 R2 rn2 rc2 R3 rn3 rc3 rw_ R4 rn4 rc4 rst ren rma rs true v (O4.out.below hv) (RA4.out.below hv) (RB4.out.below hv) (RC4.out.below hv) (RD4.out.below hv) k5)
      have HD3_ := Lib.hid (fun (v : World) (hv : Below V4.heap.size V4 v) => RCheckLimit_any ⟨A, n, c, B, m, d, hs, ms⟩ kind id val D1 m1 d1 D2 m2 d2 D3 m3 d3 way D4 m4 d4 lst len lma s false v (O4.out.below hv) (E4.out.below hv) (G4.out.below hv) (H4.out.below hv) (S4.out.below hv) (by omega))
      obtain ⟨r1, hr1⟩ : ∃ x, ckLi hs ms kind id bv rst ren rma rw_ rs false = x := ⟨_, rfl⟩
      rw [hr1] at HC1 HD1_
      clear hr1
      obtain ⟨r2, hr2⟩ : ∃ x, ckLi hs ms kind id bv rst ren rma rw_ rs true = x := ⟨_, rfl⟩
      rw [hr2] at HC2 HD2_
      clear hr2
      obtain ⟨r3, hr3⟩ : ∃ x, ckLi hs ms kind id val lst len lma way s false = x := ⟨_, rfl⟩
      rw [hr3] at HC3 HD3_
      clear hr3
      dsimp only [TR.v, vAt, vLim] at HC1 HC2 HC3 HD1_ HD2_ HD3_
      have yT0 := T4.out.cell 0
      have yT1 := T4.out.cell 1
      have yX0 := X4.out.cell 0
      have yX1 := X4.out.cell 1
      have yY0 := Y4.out.cell 0
      have yY1 := Y4.out.cell 1
      have yY2 := Y4.out.cell 2
      have yY3 := Y4.out.cell 3
      have yY4 := Y4.out.cell 4
      have yM0 := M4.out.cell 0
      have yM1 := M4.out.cell 1
      have yM2 := M4.out.cell 2
      have yM3 := M4.out.cell 3
      have yM4 := M4.out.cell 4
      have yM5 := M4.out.cell 5
      have yLa0 := La4.out.cell 0
      have yLa1 := La4.out.cell 1
      have yLa2 := La4.out.cell 2
      have yLa3 := La4.out.cell 3
      have yLa4 := La4.out.cell 4
      have yLa5 := La4.out.cell 5
      have yKa0 := Ka4.out.cell 0
      have yKa1 := Ka4.out.cell 1
      have yKa2 := Ka4.out.cell 2
      have yKa3 := Ka4.out.cell 3
      have yKa4 := Ka4.out.cell 4
      have yKa5 := Ka4.out.cell 5
      simp only [List.getElem?_toArray, List.getElem?_cons_zero, List.getElem?_cons_succ] at yT0 yT1 yX0 yX1 yY0 yY1 yY2 yY3 yY4 yM0 yM1 yM2 yM3 yM4 yM5 yLa0 yLa1 yLa2 yLa3 yLa4 yLa5 yKa0 yKa1 yKa2 yKa3 yKa4 yKa5
      have yTl := T4.out.lt
      have yXl := X4.out.lt
      have yYl := Y4.out.lt
      have yMl := M4.out.lt
      have yLal := La4.out.lt
      have yKal := Ka4.out.lt
      obtain ⟨xc, xf'⟩ := xcell (W := V4)
      refine wp_region_quiet_tail 43 (by kernel_rfl) (by kernel_rfl) ?_
      simp only [List.take_succ_cons, List.take_zero, List.drop_succ_cons, List.drop_zero]
      repeat (first | go_big_quiet_step (first | (go_at_call 13; with_reducible refine calls_ext (HSan.out _)) | (go_at_call 49; with_reducible refine calls_ext (HC1.out _ ?_); exact Ext.below _) | (go_at_call 49; with_reducible refine calls_ext (HC2.out _ ?_); exact Ext.below _) | (go_at_call 49; with_reducible refine calls_ext (HC3.out _ ?_); exact Ext.below _) | (go_at_call 48; with_reducible refine calls_ext (HD1_.out _ ?_); exact Ext.below _) | (go_at_call 48; with_reducible refine calls_ext (HD2_.out _ ?_); exact Ext.below _) | (go_at_call 48; with_reducible refine calls_ext (HD3_.out _ ?_); exact Ext.below _)) | quiet_step (first | (go_at_call 13; with_reducible refine calls_ext (HSan.out _)) | (go_at_call 49; with_reducible refine calls_ext (HC1.out _ ?_); exact Ext.below _) | (go_at_call 49; with_reducible refine calls_ext (HC2.out _ ?_); exact Ext.below _) | (go_at_call 49; with_reducible refine calls_ext (HC3.out _ ?_); exact Ext.below _) | (go_at_call 48; with_reducible refine calls_ext (HD1_.out _ ?_); exact Ext.below _) | (go_at_call 48; with_reducible refine calls_ext (HD2_.out _ ?_); exact Ext.below _) | (go_at_call 48; with_reducible refine calls_ext (HD3_.out _ ?_); exact Ext.below _)))
      refine wpQuiet_nil ?_
      intro wz hbz
      go_wp2
      exact bodyPost_ret (v := .bool true) (by simp [results, Tryz.results10, go_sem]) rfl ⟨rfl, HB4.out.trans (hbz.mono HB4.out.size)⟩
  | true =>
    have yT0 := T3.out.cell 0
    have yT1 := T3.out.cell 1
    have yX0 := X3.out.cell 0
    have yX1 := X3.out.cell 1
    have yY0 := Y3.out.cell 0
    have yY1 := Y3.out.cell 1
    have yY2 := Y3.out.cell 2
    have yY3 := Y3.out.cell 3
    have yY4 := Y3.out.cell 4
    have yM0 := M3.out.cell 0
    have yM1 := M3.out.cell 1
    have yM2 := M3.out.cell 2
    have yM3 := M3.out.cell 3
    have yM4 := M3.out.cell 4
    have yM5 := M3.out.cell 5
    have yLa0 := La3.out.cell 0
    have yLa1 := La3.out.cell 1
    have yLa2 := La3.out.cell 2
    have yLa3 := La3.out.cell 3
    have yLa4 := La3.out.cell 4
    have yLa5 := La3.out.cell 5
    simp only [List.getElem?_toArray, List.getElem?_cons_zero, List.getElem?_cons_succ] at yT0 yT1 yX0 yX1 yY0 yY1 yY2 yY3 yY4 yM0 yM1 yM2 yM3 yM4 yM5 yLa0 yLa1 yLa2 yLa3 yLa4 yLa5
    have yTl := T3.out.lt
    have yXl := X3.out.lt
    have yYl := Y3.out.lt
    have yMl := M3.out.lt
    have yLal := La3.out.lt
    have HC := Lib.hid (HGt.out _ O3.out)
    go_upto_region 6 with (go_at_call 47; go_loud (with_reducible refine HC.out.mono ?_); go_loud (rintro e u9 ⟨I1, in1, ic1, I2, in2, ic2, I3, in3, ic3, iw, I4, in4, ic4, ist, ien, ima, is, rfl, k1, k2, k3, k4, kb, _, kf, kz, kfar, hb⟩); have zL := La3.out.below hb; have z0 := zL.cell 0; have z1 := zL.cell 1; have z2 := zL.cell 2; have z3 := zL.cell 3; have z4 := zL.cell 4; have z5 := zL.cell 5; simp only [List.getElem?_toArray, List.getElem?_cons_zero, List.getElem?_cons_succ] at z0 z1 z2 z3 z4 z5; have zl := zL.lt; have zf0 := zL.frozen 0; have zf1 := zL.frozen 1; have zf2 := zL.frozen 2; have zf3 := zL.frozen 3; have zf4 := zL.frozen 4; have zf5 := zL.frozen 5)
    clear yT0 yT1 yX0 yX1 yY0 yY1 yY2 yY3 yY4 yM0 yM1 yM2 yM3 yM4 yM5 yLa0 yLa1 yLa2 yLa3 yLa4 yLa5 yTl yXl yYl yMl yLal HC z0 z1 z2 z3 z4 z5 zl zf0 zf1 zf2 zf3 zf4 zf5
    have HNi := Lib.hid (show in1 = in2 from by
      by_cases q : ae = 0
      · have := HFl.out _ _ _ _ _ _ (kf q).1
        rw [k1.len, k2.len] at this
        exact this
      · have := (kz q).1
        omega)
    have HBi := Lib.hid kb

    have hpp := HPp.out
    have hll := La3.out.lt
    have hgr := grown_set6 u9 p3 (.int .i64 hi) (.slice I1 in1 ic1) (.slice I2 in2 ic2) (.slice I3 in3 ic3) (.int .i64 iw) (.slice I4 in4 ic4)
    obtain ⟨far1, far2, far3, far4⟩ := kfar
    have T4 := Lib.hid ((T3.out.below hb).grown hgr (fun e => by have e2 := Option.some.inj e; omega))
    have X4 := Lib.hid ((X3.out.below hb).grown hgr (fun e => by have e2 := Option.some.inj e; omega))
    have Y4 := Lib.hid ((Y3.out.below hb).grown hgr (fun e => by have e2 := Option.some.inj e; omega))
    have M4 := Lib.hid ((M3.out.below hb).grown hgr (fun e => by have e2 := Option.some.inj e; omega))
    have O4 := Lib.hid (HOw.out.farq (O3.out.below hb) hgr (fun r hr => by have e2 := Option.some.inj hr; omega))
    have E4 := Lib.hid (HEw.out.farq (E3.out.below hb) hgr (fun r hr => by have e2 := Option.some.inj hr; omega))
    have G4 := Lib.hid (HGw.out.farq (G3.out.below hb) hgr (fun r hr => by have e2 := Option.some.inj hr; omega))
    have H4 := Lib.hid (HHw.out.farq (H3.out.below hb) hgr (fun r hr => by have e2 := Option.some.inj hr; omega))
    have S4 := Lib.hid (HSw.out.farq (S3.out.below hb) hgr (fun r hr => by have e2 := Option.some.inj hr; omega))
    have Z4 := Lib.hid (HZw.out.farq (Z3.out.below hb) hgr (fun r hr => by have e2 := Option.some.inj hr; omega))
    have La4 := Lib.hid (blk_set6 zL (.int .i64 hi) (.slice I1 in1 ic1) (.slice I2 in2 ic2) (.slice I3 in3 ic3) (.int .i64 iw) (.slice I4 in4 ic4))
    have KAi4 := Lib.hid (k1.grown hgr (fun b hb9 e => by have := far1 b hb9; have e2 := Option.some.inj e; omega))
    have KBi4 := Lib.hid (k2.grown hgr (fun b hb9 e => by have := far2 b hb9; have e2 := Option.some.inj e; omega))
    have KCi4 := Lib.hid (k3.grown hgr (fun b hb9 e => by have := far3 b hb9; have e2 := Option.some.inj e; omega))
    have KDi4 := Lib.hid (k4.grown hgr (fun b hb9 e => by have := far4 b hb9; have e2 := Option.some.inj e; omega))
    have HB4 := Lib.hid (below_set6 (HB3.out.trans (hb.mono HB3.out.size)) (g := p3) (by omega) (.int .i64 hi) (.slice I1 in1 ic1) (.slice I2 in2 ic2) (.slice I3 in3 ic3) (.int .i64 iw) (.slice I4 in4 ic4))
    generalize hV : (((((u9.setCell ⟨p3, 0, none⟩ (.int .i64 hi)).setCell ⟨p3, 1, none⟩ (.slice I1 in1 ic1)).setCell ⟨p3, 2, none⟩ (.slice I2 in2 ic2)).setCell ⟨p3, 3, none⟩ (.slice I3 in3 ic3)).setCell ⟨p3, 4, none⟩ (.int .i64 iw)).setCell ⟨p3, 5, none⟩ (.slice I4 in4 ic4) = V9 at *
    clear hV hgr hb zL k1 k2 k3 k4 kb kf kz far1 far2 far3 far4 hpp hll HBj HNj T3 X3 Y3 M3 O3 E3 G3 H3 S3 Z3 La3 KAj3 KBj3 KCj3 KDj3 HB3
    obtain ⟨hb1, hb2, hb3, hb4⟩ := HBi.out
    have HBe := Lib.hid (bent_any hi I1 in1 ic1 I2 in2 ic2 I3 in3 ic3 iw I4 in4 ic4 ist ien ima is xw xa xb xway B5 m5 d5 xs V9 KAi4.out KBi4.out KCi4.out KDi4.out Z4.out (by omega) (by omega) (by omega) (by omega) (by omega))
    dsimp only [vLim, vBe] at HBe
    have yT0 := T4.out.cell 0
    have yT1 := T4.out.cell 1
    have yX0 := X4.out.cell 0
    have yX1 := X4.out.cell 1
    have yY0 := Y4.out.cell 0
    have yY1 := Y4.out.cell 1
    have yY2 := Y4.out.cell 2
    have yY3 := Y4.out.cell 3
    have yY4 := Y4.out.cell 4
    have yM0 := M4.out.cell 0
    have yM1 := M4.out.cell 1
    have yM2 := M4.out.cell 2
    have yM3 := M4.out.cell 3
    have yM4 := M4.out.cell 4
    have yM5 := M4.out.cell 5
    have yLa0 := La4.out.cell 0
    have yLa1 := La4.out.cell 1
    have yLa2 := La4.out.cell 2
    have yLa3 := La4.out.cell 3
    have yLa4 := La4.out.cell 4
    have yLa5 := La4.out.cell 5
    simp only [List.getElem?_toArray, List.getElem?_cons_zero, List.getElem?_cons_succ] at yT0 yT1 yX0 yX1 yY0 yY1 yY2 yY3 yY4 yM0 yM1 yM2 yM3 yM4 yM5 yLa0 yLa1 yLa2 yLa3 yLa4 yLa5
    have yTl := T4.out.lt
    have yXl := X4.out.lt
    have yYl := Y4.out.lt
    have yMl := M4.out.lt
    have yLal := La4.out.lt
    go_cut [63] (fun q wx => q = .bool false ∧ wx = V9)
    case first =>
      by_cases hae : ae = 0
      case pos =>
        have haeb : (ae == 0) = true := by simpa using hae
        have hnb : ((in1 : Int) != (in2 : Int)) = false := by have := HNi.out; simp; omega
        have hnc : (in1 != in2) = false := by have := HNi.out; simp; omega
        go_wp2_with fail
        go_meet
        exact ⟨by simp, rfl⟩
      case neg =>
        have haeb : (ae == 0) = false := by simpa using hae
        have hnb : ((in1 : Int) != (in2 : Int)) = false := by have := HNi.out; simp; omega
        have hnc : (in1 != in2) = false := by have := HNi.out; simp; omega
        go_wp2_with fail
        go_meet
        exact ⟨by simp, rfl⟩
    case rest =>
      obtain ⟨hq, hb⟩ := hcut
      subst hq
      subst hb
      clear yT0 yT1 yX0 yX1 yY0 yY1 yY2 yY3 yY4 yM0 yM1 yM2 yM3 yM4 yM5 yLa0 yLa1 yLa2 yLa3 yLa4 yLa5 yTl yXl yYl yMl yLal
      have yT0 := T4.out.cell 0
      have yT1 := T4.out.cell 1
      have yX0 := X4.out.cell 0
      have yX1 := X4.out.cell 1
      have yY0 := Y4.out.cell 0
      have yY1 := Y4.out.cell 1
      have yY2 := Y4.out.cell 2
      have yY3 := Y4.out.cell 3
      have yY4 := Y4.out.cell 4
      have yM0 := M4.out.cell 0
      have yM1 := M4.out.cell 1
      have yM2 := M4.out.cell 2
      have yM3 := M4.out.cell 3
      have yM4 := M4.out.cell 4
      have yM5 := M4.out.cell 5
      have yLa0 := La4.out.cell 0
      have yLa1 := La4.out.cell 1
      have yLa2 := La4.out.cell 2
      have yLa3 := La4.out.cell 3
      have yLa4 := La4.out.cell 4
      have yLa5 := La4.out.cell 5
      simp only [List.getElem?_toArray, List.getElem?_cons_zero, List.getElem?_cons_succ] at yT0 yT1 yX0 yX1 yY0 yY1 yY2 yY3 yY4 yM0 yM1 yM2 yM3 yM4 yM5 yLa0 yLa1 yLa2 yLa3 yLa4 yLa5
      have yTl := T4.out.lt
      have yXl := X4.out.lt
      have yYl := Y4.out.lt
      have yMl := M4.out.lt
      have yLal := La4.out.lt
      have HC := Lib.hid (HBe.out)
      go_upto_region 9 with (go_at_call 51; (with_reducible refine HC.out.mono ?_); rintro e u5 ⟨bv, R1, rn1, rc1, R2, rn2, rc2, R3, rn3, rc3, rw_, R4, rn4, rc4, rst, ren, rma, rs, rfl, k1, k2, k3, k4, k5, hb⟩)
      clear yT0 yT1 yX0 yX1 yY0 yY1 yY2 yY3 yY4 yM0 yM1 yM2 yM3 yM4 yM5 yLa0 yLa1 yLa2 yLa3 yLa4 yLa5 yTl yXl yYl yMl yLal
      clear HC
      have bn := hb
      have bq : Below u5.heap.size u5 (u5.alloc (.cells #[.int .i64 bv, .slice R1 rn1 rc1, .slice R2 rn2 rc2, .slice R3 rn3 rc3, .int .i64 rw_, .slice R4 rn4 rc4] 95)) := ((Below.refl u5.heap.size u5).alloc (Nat.le_refl _) _)
      have bn := hb.trans (bq.mono hb.size)
      have T5 := Lib.hid (T4.out.below bn)
      have X5 := Lib.hid (X4.out.below bn)
      have Y5 := Lib.hid (Y4.out.below bn)
      have M5 := Lib.hid (M4.out.below bn)
      have O5 := Lib.hid (O4.out.below bn)
      have E5 := Lib.hid (E4.out.below bn)
      have G5 := Lib.hid (G4.out.below bn)
      have H5 := Lib.hid (H4.out.below bn)
      have S5 := Lib.hid (S4.out.below bn)
      have Z5 := Lib.hid (Z4.out.below bn)
      have La5 := Lib.hid (La4.out.below bn)
      have KAi5 := Lib.hid (KAi4.out.below bn)
      have KBi5 := Lib.hid (KBi4.out.below bn)
      have KCi5 := Lib.hid (KCi4.out.below bn)
      have KDi5 := Lib.hid (KDi4.out.below bn)
      have HB5 := Lib.hid (HB4.out.trans (bn.mono HB4.out.size))
      have RA5 := Lib.hid ((k1).below bq)
      have RB5 := Lib.hid ((k2).below bq)
      have RC5 := Lib.hid ((k3).below bq)
      have RD5 := Lib.hid ((k4).below bq)
      have Ka5 : Hid (Blk (u5.alloc (.cells #[.int .i64 bv, .slice R1 rn1 rc1, .slice R2 rn2 rc2, .slice R3 rn3 rc3, .int .i64 rw_, .slice R4 rn4 rc4] 95)) u5.heap.size 95 #[.int .i64 bv, .slice R1 rn1 rc1, .slice R2 rn2 rc2, .slice R3 rn3 rc3, .int .i64 rw_, .slice R4 rn4 rc4]) := Lib.hid (Blk.at_new 95 #[.int .i64 bv, .slice R1 rn1 rc1, .slice R2 rn2 rc2, .slice R3 rn3 rc3, .int .i64 rw_, .slice R4 rn4 rc4] rfl)
      generalize hV : u5.alloc (.cells #[.int .i64 bv, .slice R1 rn1 rc1, .slice R2 rn2 rc2, .slice R3 rn3 rc3, .int .i64 rw_, .slice R4 rn4 rc4] 95) = V5 at *
      generalize hp : u5.heap.size = p5 at *
      clear hV hp bq
      clear hb bn T4 X4 Y4 M4 O4 E4 G4 H4 S4 Z4 La4 KAi4 KBi4 KCi4 KDi4 HB4
      clear k1 k2 k3 k4 HBe
      have HC1 := Lib.hid (fun (v : World) (hv : Below V5.heap.size V5 v) => CheckLimit_any ⟨A, n, c, B, m, d, hs, ms⟩ kind id bv R1 rn1 rc1 R2 rn2 rc2 R3 rn3 rc3 rw_ R4 rn4 rc4 rst ren rma rs true v (O5.out.below hv) (RA5.out.below hv) (RB5.out.below hv) (RC5.out.below hv) (RD5.out.below hv) k5)
      have HC2 := Lib.hid (fun (v : World) (hv : Below V5.heap.size V5 v) => CheckLimit_any ⟨A, n, c, B, m, d, hs, ms⟩ kind id bv R1 rn1 rc1 R2 rn2 rc2 R3 rn3 rc3 rw_ R4 rn4 rc4 rst ren rma rs false v (O5.out.below hv) (RA5.out.below hv) (RB5.out.below hv) (RC5.out.below hv) (RD5.out.below hv) k5)
      have HC3 := Lib.hid (fun (v : World) (hv : Below V5.heap.size V5 v) => CheckLimit_any ⟨A, n, c, B, m, d, hs, ms⟩ kind id val D1 m1 d1 D2 m2 d2 D3 m3 d3 way D4 m4 d4 lst len lma s true v (O5.out.below hv) (E5.out.below hv) (G5.out.below hv) (H5.out.below hv) (S5.out.below hv) (by omega))
      have HD1_ := Lib.hid (fun (v : World) (hv : Below V5.heap.size V5 v) => RCheckLimit_any ⟨A, n, c, B, m, d, hs, ms⟩ kind id bv R1 rn1 rc1 R2 rn2 rc2 R3 rn3 rc3 rw_ R4 rn4 rc4 rst ren rma rs true v (O5.out.below hv) (RA5.out.below hv) (RB5.out.below hv) (RC5.out.below hv) (RD5.out.below hv) k5)
      have HD2_ := Lib.hid (fun (v : World) (hv : Below V5.heap.size V5 v) => RCheckLimit_any ⟨A, n, c, B, m, d, hs, ms⟩ kind id bv R1 rn1 rc1 R2 rn2 rc2 R3 rn3 rc3 rw_ R4 rn4 rc4 rst ren rma rs false v (O5.out.below hv) (RA5.out.below hv) (RB5.out.below hv) (RC5.out.below hv) (RD5.out.below hv) k5)
      have HD3_ := Lib.hid (fun (v : World) (hv : Below V5.heap.size V5 v) => RCheckLimit_any ⟨A, n, c, B, m, d, hs, ms⟩ kind id val D1 m1 d1 D2 m2 d2 D3 m3 d3 way D4 m4 d4 lst len lma s true v (O5.out.below hv) (E5.out.below hv) (G5.out.below hv) (H5.out.below hv) (S5.out.below hv) (by omega))
      obtain ⟨r1, hr1⟩ : ∃ x, ckLi hs ms kind id bv rst ren rma rw_ rs true = x := ⟨_, rfl⟩
      rw [hr1] at HC1 HD1_
      clear hr1
      obtain ⟨r2, hr2⟩ : ∃ x, ckLi hs ms kind id bv rst ren rma rw_ rs false = x := ⟨_, rfl⟩
      rw [hr2] at HC2 HD2_
      clear hr2
      obtain ⟨r3, hr3⟩ : ∃ x, ckLi hs ms kind id val lst len lma way s true = x := ⟨_, rfl⟩
      rw [hr3] at HC3 HD3_
      clear hr3
      dsimp only [TR.v, vAt, vLim] at HC1 HC2 HC3 HD1_ HD2_ HD3_
      have yT0 := T5.out.cell 0
      have yT1 := T5.out.cell 1
      have yX0 := X5.out.cell 0
      have yX1 := X5.out.cell 1
      have yY0 := Y5.out.cell 0
      have yY1 := Y5.out.cell 1
      have yY2 := Y5.out.cell 2
      have yY3 := Y5.out.cell 3
      have yY4 := Y5.out.cell 4
      have yM0 := M5.out.cell 0
      have yM1 := M5.out.cell 1
      have yM2 := M5.out.cell 2
      have yM3 := M5.out.cell 3
      have yM4 := M5.out.cell 4
      have yM5 := M5.out.cell 5
      have yLa0 := La5.out.cell 0
      have yLa1 := La5.out.cell 1
      have yLa2 := La5.out.cell 2
      have yLa3 := La5.out.cell 3
      have yLa4 := La5.out.cell 4
      have yLa5 := La5.out.cell 5
      have yKa0 := Ka5.out.cell 0
      have yKa1 := Ka5.out.cell 1
      have yKa2 := Ka5.out.cell 2
      have yKa3 := Ka5.out.cell 3
      have yKa4 := Ka5.out.cell 4
      have yKa5 := Ka5.out.cell 5
      simp only [List.getElem?_toArray, List.getElem?_cons_zero, List.getElem?_cons_succ] at yT0 yT1 yX0 yX1 yY0 yY1 yY2 yY3 yY4 yM0 yM1 yM2 yM3 yM4 yM5 yLa0 yLa1 yLa2 yLa3 yLa4 yLa5 yKa0 yKa1 yKa2 yKa3 yKa4 yKa5
      have yTl := T5.out.lt
      have yXl := X5.out.lt
      have yYl := Y5.out.lt
      have yMl := M5.out.lt
      have yLal := La5.out.lt
      have yKal := Ka5.out.lt
      obtain ⟨xc, xf'⟩ := xcell (W := V5)
      refine wp_region_quiet_tail 43 (by kernel_rfl) (by kernel_rfl) ?_
      simp only [List.take_succ_cons, List.take_zero, List.drop_succ_cons, List.drop_zero]
      repeat (first | go_big_quiet_step (first | (go_at_call 13; with_reducible refine calls_ext (HSan.out _)) | (go_at_call 49; with_reducible refine calls_ext (HC1.out _ ?_); exact Ext.below _) | (go_at_call 49; with_reducible refine calls_ext (HC2.out _ ?_); exact Ext.below _) | (go_at_call 49; with_reducible refine calls_ext (HC3.out _ ?_); exact Ext.below _) | (go_at_call 48; with_reducible refine calls_ext (HD1_.out _ ?_); exact Ext.below _) | (go_at_call 48; with_reducible refine calls_ext (HD2_.out _ ?_); exact Ext.below _) | (go_at_call 48; with_reducible refine calls_ext (HD3_.out _ ?_); exact Ext.below _)) | quiet_step (first | (go_at_call 13; with_reducible refine calls_ext (HSan.out _)) | (go_at_call 49; with_reducible refine calls_ext (HC1.out _ ?_); exact Ext.below _) | (go_at_call 49; with_reducible refine calls_ext (HC2.out _ ?_); exact Ext.below _) | (go_at_call 49; with_reducible refine calls_ext (HC3.out _ ?_); exact Ext.below _) | (go_at_call 48; with_reducible refine calls_ext (HD1_.out _ ?_); exact Ext.below _) | (go_at_call 48; with_reducible refine calls_ext (HD2_.out _ ?_); exact Ext.below _) | (go_at_call 48; with_reducible refine calls_ext (HD3_.out _ ?_); exact Ext.below _)))
      refine wpQuiet_nil ?_
      intro wz hbz
      go_wp2
      exact bodyPost_ret (v := .bool true) (by simp [results, Tryz.results10, go_sem]) rfl ⟨rfl, HB5.out.trans (hbz.mono HB5.out.size)⟩
open Go.WideShapes Go.ChangeShapes Go.Joins Go.Deep
set_option maxRecDepth 100000 in
theorem flowTampers_lifted (os : Os) (started : os.Started) (H : Type) (enc : TypeId × Value → H) :
    ReturnsInHanded Rows.flowTampersRow.assume Tryz.checked os 10 .any (Rows.flowTampersSpec.pre6 enc Tryz.prog Tryz.f10 Rows.flowTampersRow.domain false) (Rows.flowTampersSpec.post enc Tryz.prog Tryz.f10 false Rows.flowTampersRow.fresh Rows.flowTampersRow.handsOn Rows.flowTampersRow.again) := by
  refine returnsInHanded_of_change (C := Tryz.checked) (by kernel_rfl) started (by kernel_rfl) Tryz.func10
    (ChangeSpec.witness6 (enc := enc) (C := Tryz.checked) false ⟨#[], #[.agg #[.slice none 0 0, .slice none 0 0], .agg #[.int .i64 0, .int .i64 0], .agg #[.int .i64 0, .int .i64 0, .int .i64 0, .int .i64 0, .slice none 0 0], .bool false, .agg #[.int .i64 0, .slice none 0 0, .slice none 0 0, .slice none 0 0, .int .i64 0, .slice none 0 0]], []⟩ 8 (by kernel_rfl) (by kernel_rfl) (by kernel_rfl) (by kernel_rfl)) ?_
  intro W base args ds gs before hval0 hW hcnd _
  have hval : ∀ (j : Nat) t v, Tryz.f10.params[j]? = some t → args[j]? = some v → Value.okWide Tryz.prog W .any base t v := hval0
  have hW' := hW
  obtain ⟨p, q, hA0, hV, rfl, hfz, hnd⟩ := hW
  obtain ⟨rfl, rfl⟩ := trodVars_none hV
  have hA : DataW.TrodAll enc Tryz.prog W 0 (fun _ => true) true [25, 83, 101, 4, 95] args.toList ds p := hA0
  obtain ⟨v0, v1, v2, v3, v4, d0, d1, d2, d3, d4, p0, p1, p2, p3, p4, rfl, rfl, rfl, h0, h1, h2, h3, h4⟩ := trodAll_five hA
  obtain ⟨t, rfl, hT, _, rfl⟩ := open_tr (hval 0 25 v0 rfl rfl) h0
  obtain ⟨kind, id, rfl, _, rfl⟩ := open_at (hval 1 83 v1 rfl rfl) h1
  obtain ⟨xw, xa, xb, xway, B5, m5, d5, xs, rfl, gx, lx, _, rfl⟩ := open_be (hval 2 101 v2 rfl rfl) h2
  obtain ⟨gr, rfl, rfl, rfl⟩ := open_bool Tryz.underlying4 (hval 3 4 v3 rfl rfl) h3
  obtain ⟨val, D1, m1, d1, D2, m2, d2, D3, m3, d3, way, D4, m4, d4, lst, len, lma, s, rfl, g1, g2, g3, g4, ⟨e1, e2, e3, e4⟩, _, rfl⟩ := open_li (hval 4 95 v4 rfl rfl) h4
  refine (flowTampers_walk t kind id xw xa xb xway B5 m5 d5 xs gr val D1 m1 d1 D2 m2 d2 D3 m3 d3 way D4 m4 d4 lst len lma s W hT gx g1 g2 g3 g4 e1 e2 e3).mono fun e W' ⟨he, hb⟩ => ⟨_, he, law_post laid_out (by kernel_rfl) rfl Tryz.underlying4 rfl hW' rfl rfl rfl hb⟩

theorem flowTampers : Rows.FlowTampersSaid :=
  OpenClaim.holds_of_wide 10 Tryz.f10 rfl rfl rfl rfl rfl rfl rfl ⟨rfl, rfl, rfl, rfl, rfl⟩ rfl rfl rfl rfl rfl (by kernel_rfl) Tryz.func10 (by kernel_rfl)
    (of_decide_eq_true (by kernel_rfl)) (by unfold Func.isWrapper; first | (rw [if_pos (by decide +kernel)]; kernel_rfl) | (rw [if_neg (by decide +kernel)]; exact ⟨rfl, rfl⟩))
    (fun os started H enc _ => flowTampers_lifted os started H enc)
#print axioms flowTampers
end Go.Proofs.YtighfmgkoepfkaaGreat
