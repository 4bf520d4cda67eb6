/- The law FlowLimits. -/
import Derived.Test.YtighfmgkoepfkaaGreatML
import Derived.Test.YtighfmgkoepfkaaGreatMC
import Derived.Test.YtighfmgkoepfkaaGreatMR
import Derived.Test.YtighfmgkoepfkaaGreatMI
namespace Go.Proofs.YtighfmgkoepfkaaGreat
open Go.RowKit

set_option maxRecDepth 100000 in
set_option maxHeartbeats 12800000 in
theorem flowLimits_walk (t : TR) (kind id : Int) (w : World) (h : t.Ok w) : Calls Tryz.prog 9 #[t.v, vAt kind id] w fun e w' => e = .returned (.bool true) ∧ Below w.heap.size w w' := by
  obtain ⟨A, n, c, B, m, d, hs, ms⟩ := t
  have HSan := Lib.hid (fun u => sanity_any u)
  obtain ⟨fb, hfb⟩ : ∃ b, fewB n m = b := ⟨_, rfl⟩
  have HFew := Lib.hid (fun u => few_any A n c B m d u h.n_le h.m_le)
  rw [hfb] at HFew
  dsimp only [TR.v, vAt] at *
  have HB0 : Hid (Below w.heap.size w ((w.alloc (.cells #[.slice A n c, .slice B m d] 25)).alloc (.cells #[.int .i64 kind, .int .i64 id] 83))) := Lib.hid (((Below.refl w.heap.size w).alloc (Nat.le_refl _) _).alloc (by simp) _)
  have T0 : Hid (Blk ((w.alloc (.cells #[.slice A n c, .slice B m d] 25)).alloc (.cells #[.int .i64 kind, .int .i64 id] 83)) w.heap.size 25 #[.slice A n c, .slice B m d]) := Lib.hid ((Blk.at_new 25 #[.slice A n c, .slice B m d] rfl).alloc _)
  have X0 : Hid (Blk ((w.alloc (.cells #[.slice A n c, .slice B m d] 25)).alloc (.cells #[.int .i64 kind, .int .i64 id] 83)) (w.heap.size + 1) 83 #[.int .i64 kind, .int .i64 id]) := Lib.hid (Blk.at_new 83 #[.int .i64 kind, .int .i64 id] (by simp))
  have O0 := Lib.hid ((h).below HB0.out)
  go_enter Tryz.func9, Tryz.ntmps9
  go_upto_region 1 with fail
  generalize hV : (w.alloc (.cells #[.slice A n c, .slice B m d] 25)).alloc (.cells #[.int .i64 kind, .int .i64 id] 83) = V0 at *
  clear hV
  clear h hfb
  cases fb with
  | false =>
    have yT0 := T0.out.cell 0
    have yT1 := T0.out.cell 1
    have yX0 := X0.out.cell 0
    have yX1 := X0.out.cell 1
    simp only [List.getElem?_toArray, List.getElem?_cons_zero, List.getElem?_cons_succ] at yT0 yT1 yX0 yX1
    have yTl := T0.out.lt
    have yXl := X0.out.lt
    go_upto_region 2 with (go_at_call 12; with_reducible refine (HFew.out _).mono ?_; rintro e u1 ⟨rfl, hb1⟩; have T1 := Lib.hid (T0.out.below hb1); have X1 := Lib.hid (X0.out.below hb1); have O1 := Lib.hid (O0.out.below hb1); have HB1 := Lib.hid (HB0.out.trans (hb1.mono HB0.out.size)); clear hb1; have y1T0 := T1.out.cell 0; have y1T1 := T1.out.cell 1; have y1X0 := X1.out.cell 0; have y1X1 := X1.out.cell 1; simp only [List.getElem?_toArray, List.getElem?_cons_zero, List.getElem?_cons_succ] at y1T0 y1T1 y1X0 y1X1; have y1Tl := T1.out.lt; have y1Xl := X1.out.lt)
    clear yT0 yT1 yX0 yX1 yTl yXl y1T0 y1T1 y1X0 y1X1 y1Tl y1Xl T0 X0 O0 HB0
    have yT0 := T1.out.cell 0
    have yT1 := T1.out.cell 1
    have yX0 := X1.out.cell 0
    have yX1 := X1.out.cell 1
    simp only [List.getElem?_toArray, List.getElem?_cons_zero, List.getElem?_cons_succ] at yT0 yT1 yX0 yX1
    have yTl := T1.out.lt
    have yXl := X1.out.lt
    go_wp2_with (go_at_call 13; with_reducible refine (HSan.out _).mono ?_; rintro e u2 ⟨rfl, hb2⟩; have T2 := Lib.hid (T1.out.below hb2); have X2 := Lib.hid (X1.out.below hb2); have O2 := Lib.hid (O1.out.below hb2); have HB2 := Lib.hid (HB1.out.trans (hb2.mono HB1.out.size)); clear hb2; have y2T0 := T2.out.cell 0; have y2T1 := T2.out.cell 1; have y2X0 := X2.out.cell 0; have y2X1 := X2.out.cell 1; simp only [List.getElem?_toArray, List.getElem?_cons_zero, List.getElem?_cons_succ] at y2T0 y2T1 y2X0 y2X1; have y2Tl := T2.out.lt; have y2Xl := X2.out.lt)
    exact bodyPost_ret (v := .bool true) (by simp [results, Tryz.results9, go_sem]) rfl ⟨rfl, HB2.out⟩
  | true =>
  have yT0 := T0.out.cell 0
  have yT1 := T0.out.cell 1
  have yX0 := X0.out.cell 0
  have yX1 := X0.out.cell 1
  simp only [List.getElem?_toArray, List.getElem?_cons_zero, List.getElem?_cons_succ] at yT0 yT1 yX0 yX1
  have yTl := T0.out.lt
  have yXl := X0.out.lt
  go_upto_region 3 with (go_at_call 12; with_reducible refine (HFew.out _).mono ?_; rintro e u1 ⟨rfl, hb1⟩; have T1 := Lib.hid (T0.out.below hb1); have X1 := Lib.hid (X0.out.below hb1); have O1 := Lib.hid (O0.out.below hb1); have HB1 := Lib.hid (HB0.out.trans (hb1.mono HB0.out.size)); clear hb1; have y1T0 := T1.out.cell 0; have y1T1 := T1.out.cell 1; have y1X0 := X1.out.cell 0; have y1X1 := X1.out.cell 1; simp only [List.getElem?_toArray, List.getElem?_cons_zero, List.getElem?_cons_succ] at y1T0 y1T1 y1X0 y1X1; have y1Tl := T1.out.lt; have y1Xl := X1.out.lt)
  clear yT0 yT1 yX0 yX1 yTl yXl y1T0 y1T1 y1X0 y1X1 y1Tl y1Xl T0 X0 O0 HB0
  have HLs := Lib.hid (fun (u : World) (hu : TR.Ok u ⟨A, n, c, B, m, d, hs, ms⟩) => Limits_any ⟨A, n, c, B, m, d, hs, ms⟩ kind id u hu)
  have HLt := Lib.hid (fun (u : World) (hu : TR.Ok u ⟨A, n, c, B, m, d, hs, ms⟩) => (Least_any ⟨A, n, c, B, m, d, hs, ms⟩ kind id u hu).mono fun e w' h => ask_all h)
  have HGt := Lib.hid (fun (u : World) (hu : TR.Ok u ⟨A, n, c, B, m, d, hs, ms⟩) => (Greatest_any ⟨A, n, c, B, m, d, hs, ms⟩ kind id u hu).mono fun e w' h => ask_all h)
  have HOw := Lib.hid (fun (q : asE hs ms kind id = 0) (b : Bool) (st' en' ma' : List Int) (way' : Int) (s' : List Int) (k : LimF hs ms (placeN hs ms kind id) b st' en' ma' way' s') (e : valAt st' en' ma' (placeN hs ms kind id) = asV hs ms kind id b) => ckLi_own q k e)
  obtain ⟨lo, hlo⟩ : ∃ x, asV hs ms kind id false = x := ⟨_, rfl⟩
  obtain ⟨hi, hhi⟩ : ∃ x, asV hs ms kind id true = x := ⟨_, rfl⟩
  obtain ⟨ae, hae⟩ : ∃ x, asE hs ms kind id = x := ⟨_, rfl⟩
  have HOl := Lib.hid (fun q => HOw.out q false)
  have HOh := Lib.hid (fun q => HOw.out q true)
  clear HOw
  rw [hlo] at HLt HOl HLs
  rw [hhi] at HGt HOh HLs
  rw [hae] at HLt HGt HOl HOh HLs
  clear hlo hhi hae
  dsimp only [TR.v, vAt, vLi] at HLt HGt HLs
  have yT0 := T1.out.cell 0
  have yT1 := T1.out.cell 1
  have yX0 := X1.out.cell 0
  have yX1 := X1.out.cell 1
  simp only [List.getElem?_toArray, List.getElem?_cons_zero, List.getElem?_cons_succ] at yT0 yT1 yX0 yX1
  have yTl := T1.out.lt
  have yXl := X1.out.lt
  have HC := Lib.hid (HLs.out _ O1.out)
  try dsimp only [TR.v, vCt] at HC
  go_upto_region 4 with (go_at_call 45; with_reducible refine HC.out.mono ?_; rintro e u2 ⟨rfl, hb⟩)
  clear yT0 yT1 yX0 yX1 yTl yXl
  clear HC
  have bn := hb
  have bq : Below u2.heap.size u2 (u2.alloc (.cells #[.int .i64 lo, .int .i64 hi, .int .i64 ae] 90)) := ((Below.refl u2.heap.size u2).alloc (Nat.le_refl _) _)
  have bn := hb.trans (bq.mono hb.size)
  have T2 := Lib.hid (T1.out.below bn)
  have X2 := Lib.hid (X1.out.below bn)
  have O2 := Lib.hid (O1.out.below bn)
  have HB2 := Lib.hid (HB1.out.trans (bn.mono HB1.out.size))
  have M2 : Hid (Blk (u2.alloc (.cells #[.int .i64 lo, .int .i64 hi, .int .i64 ae] 90)) u2.heap.size 90 #[.int .i64 lo, .int .i64 hi, .int .i64 ae]) := Lib.hid (Blk.at_new 90 #[.int .i64 lo, .int .i64 hi, .int .i64 ae] rfl)
  generalize hV : u2.alloc (.cells #[.int .i64 lo, .int .i64 hi, .int .i64 ae] 90) = V2 at *
  generalize hp : u2.heap.size = p2 at *
  clear hV hp bq
  clear hb bn T1 X1 O1 HB1
  have yT0 := T2.out.cell 0
  have yT1 := T2.out.cell 1
  have yX0 := X2.out.cell 0
  have yX1 := X2.out.cell 1
  have yM0 := M2.out.cell 0
  have yM1 := M2.out.cell 1
  have yM2 := M2.out.cell 2
  simp only [List.getElem?_toArray, List.getElem?_cons_zero, List.getElem?_cons_succ] at yT0 yT1 yX0 yX1 yM0 yM1 yM2
  have yTl := T2.out.lt
  have yXl := X2.out.lt
  have yMl := M2.out.lt
  have HC := Lib.hid (HLt.out _ O2.out)
  try dsimp only [TR.v, vCt] at HC
  go_upto_region 5 with (go_at_call 46; with_reducible refine HC.out.mono ?_; rintro e u3 ⟨J1, jn1, jc1, J2, jn2, jc2, J3, jn3, jc3, jw, J4, jn4, jc4, jst, jen, jma, js, rfl, k1, k2, k3, k4, kb, _, kf, kz, hb⟩)
  clear yT0 yT1 yX0 yX1 yM0 yM1 yM2 yTl yXl yMl
  clear HC
  have bn := hb
  have bq : Below u3.heap.size u3 (u3.alloc (.cells #[.int .i64 lo, .slice J1 jn1 jc1, .slice J2 jn2 jc2, .slice J3 jn3 jc3, .int .i64 jw, .slice J4 jn4 jc4] 95)) := ((Below.refl u3.heap.size u3).alloc (Nat.le_refl _) _)
  have bn := hb.trans (bq.mono hb.size)
  have T3 := Lib.hid (T2.out.below bn)
  have X3 := Lib.hid (X2.out.below bn)
  have O3 := Lib.hid (O2.out.below bn)
  have M3 := Lib.hid (M2.out.below bn)
  have HB3 := Lib.hid (HB2.out.trans (bn.mono HB2.out.size))
  have KAj3 := Lib.hid ((k1).below bq)
  have KBj3 := Lib.hid ((k2).below bq)
  have KCj3 := Lib.hid ((k3).below bq)
  have KDj3 := Lib.hid ((k4).below bq)
  have La3 : Hid (Blk (u3.alloc (.cells #[.int .i64 lo, .slice J1 jn1 jc1, .slice J2 jn2 jc2, .slice J3 jn3 jc3, .int .i64 jw, .slice J4 jn4 jc4] 95)) u3.heap.size 95 #[.int .i64 lo, .slice J1 jn1 jc1, .slice J2 jn2 jc2, .slice J3 jn3 jc3, .int .i64 jw, .slice J4 jn4 jc4]) := Lib.hid (Blk.at_new 95 #[.int .i64 lo, .slice J1 jn1 jc1, .slice J2 jn2 jc2, .slice J3 jn3 jc3, .int .i64 jw, .slice J4 jn4 jc4] rfl)
  generalize hV : u3.alloc (.cells #[.int .i64 lo, .slice J1 jn1 jc1, .slice J2 jn2 jc2, .slice J3 jn3 jc3, .int .i64 jw, .slice J4 jn4 jc4] 95) = V3 at *
  generalize hp : u3.heap.size = p3 at *
  clear hV hp bq
  clear hb bn T2 X2 O2 M2 HB2
  have HBj := Lib.hid (show jn4 ≤ 1000000 by omega)
  have HUj := Lib.hid kf
  have HWj := Lib.hid kz
  clear k1 k2 k3 k4 kb kf kz
  have yT0 := T3.out.cell 0
  have yT1 := T3.out.cell 1
  have yX0 := X3.out.cell 0
  have yX1 := X3.out.cell 1
  have yM0 := M3.out.cell 0
  have yM1 := M3.out.cell 1
  have yM2 := M3.out.cell 2
  have yLa0 := La3.out.cell 0
  have yLa1 := La3.out.cell 1
  have yLa2 := La3.out.cell 2
  have yLa3 := La3.out.cell 3
  have yLa4 := La3.out.cell 4
  have yLa5 := La3.out.cell 5
  simp only [List.getElem?_toArray, List.getElem?_cons_zero, List.getElem?_cons_succ] at yT0 yT1 yX0 yX1 yM0 yM1 yM2 yLa0 yLa1 yLa2 yLa3 yLa4 yLa5
  have yTl := T3.out.lt
  have yXl := X3.out.lt
  have yMl := M3.out.lt
  have yLal := La3.out.lt
  have HC := Lib.hid (HGt.out _ O3.out)
  try dsimp only [TR.v, vCt] at HC
  go_upto_region 6 with (go_at_call 47; with_reducible refine HC.out.mono ?_; rintro e u4 ⟨I1, in1, ic1, I2, in2, ic2, I3, in3, ic3, iw, I4, in4, ic4, ist, ien, ima, is, rfl, k1, k2, k3, k4, kb, _, kf, kz, hb⟩)
  clear yT0 yT1 yX0 yX1 yM0 yM1 yM2 yLa0 yLa1 yLa2 yLa3 yLa4 yLa5 yTl yXl yMl yLal
  clear HC
  have bn := hb
  have bq : Below u4.heap.size u4 (u4.alloc (.cells #[.int .i64 hi, .slice I1 in1 ic1, .slice I2 in2 ic2, .slice I3 in3 ic3, .int .i64 iw, .slice I4 in4 ic4] 95)) := ((Below.refl u4.heap.size u4).alloc (Nat.le_refl _) _)
  have bn := hb.trans (bq.mono hb.size)
  have T4 := Lib.hid (T3.out.below bn)
  have X4 := Lib.hid (X3.out.below bn)
  have O4 := Lib.hid (O3.out.below bn)
  have M4 := Lib.hid (M3.out.below bn)
  have La4 := Lib.hid (La3.out.below bn)
  have KAj4 := Lib.hid (KAj3.out.below bn)
  have KBj4 := Lib.hid (KBj3.out.below bn)
  have KCj4 := Lib.hid (KCj3.out.below bn)
  have KDj4 := Lib.hid (KDj3.out.below bn)
  have HB4 := Lib.hid (HB3.out.trans (bn.mono HB3.out.size))
  have KAi4 := Lib.hid ((k1).below bq)
  have KBi4 := Lib.hid ((k2).below bq)
  have KCi4 := Lib.hid ((k3).below bq)
  have KDi4 := Lib.hid ((k4).below bq)
  have Lb4 : Hid (Blk (u4.alloc (.cells #[.int .i64 hi, .slice I1 in1 ic1, .slice I2 in2 ic2, .slice I3 in3 ic3, .int .i64 iw, .slice I4 in4 ic4] 95)) u4.heap.size 95 #[.int .i64 hi, .slice I1 in1 ic1, .slice I2 in2 ic2, .slice I3 in3 ic3, .int .i64 iw, .slice I4 in4 ic4]) := Lib.hid (Blk.at_new 95 #[.int .i64 hi, .slice I1 in1 ic1, .slice I2 in2 ic2, .slice I3 in3 ic3, .int .i64 iw, .slice I4 in4 ic4] rfl)
  generalize hV : u4.alloc (.cells #[.int .i64 hi, .slice I1 in1 ic1, .slice I2 in2 ic2, .slice I3 in3 ic3, .int .i64 iw, .slice I4 in4 ic4] 95) = V4 at *
  generalize hp : u4.heap.size = p4 at *
  clear hV hp bq
  clear hb bn T3 X3 O3 M3 La3 KAj3 KBj3 KCj3 KDj3 HB3
  have HBi := Lib.hid (show in4 ≤ 1000000 by omega)
  have HUi := Lib.hid kf
  have HWi := Lib.hid kz
  clear k1 k2 k3 k4 kb kf kz
  by_cases h1 : ae = 0
  case neg =>
    have h1b : (ae != 0) = true := by simpa using h1
    obtain ⟨⟨_, _, _, hz4⟩, _, hlo⟩ := HWj.out h1
    obtain ⟨⟨_, _, _, hy4⟩, _, hhi⟩ := HWi.out h1
    clear h1 HUj HUi HBj HBi HWj HWi HOl HOh HLs HLt HGt KAj4 KBj4 KCj4 KDj4 KAi4 KBi4 KCi4 KDi4
    subst hz4 hy4 hlo hhi
    have yT0 := T4.out.cell 0
    have yT1 := T4.out.cell 1
    have yX0 := X4.out.cell 0
    have yX1 := X4.out.cell 1
    have yM0 := M4.out.cell 0
    have yM1 := M4.out.cell 1
    have yM2 := M4.out.cell 2
    have yLa0 := La4.out.cell 0
    have yLa1 := La4.out.cell 1
    have yLa2 := La4.out.cell 2
    have yLa3 := La4.out.cell 3
    have yLa4 := La4.out.cell 4
    have yLa5 := La4.out.cell 5
    have yLb0 := Lb4.out.cell 0
    have yLb1 := Lb4.out.cell 1
    have yLb2 := Lb4.out.cell 2
    have yLb3 := Lb4.out.cell 3
    have yLb4 := Lb4.out.cell 4
    have yLb5 := Lb4.out.cell 5
    simp only [List.getElem?_toArray, List.getElem?_cons_zero, List.getElem?_cons_succ] at yT0 yT1 yX0 yX1 yM0 yM1 yM2 yLa0 yLa1 yLa2 yLa3 yLa4 yLa5 yLb0 yLb1 yLb2 yLb3 yLb4 yLb5
    have yTl := T4.out.lt
    have yXl := X4.out.lt
    have yMl := M4.out.lt
    have yLal := La4.out.lt
    have yLbl := Lb4.out.lt
    go_wp2_with (go_at_call 13; with_reducible refine (HSan.out _).mono ?_; rintro e u5 ⟨rfl, hb5⟩; have T5 := Lib.hid (T4.out.below hb5); have X5 := Lib.hid (X4.out.below hb5); have O5 := Lib.hid (O4.out.below hb5); have M5 := Lib.hid (M4.out.below hb5); have La5 := Lib.hid (La4.out.below hb5); have Lb5 := Lib.hid (Lb4.out.below hb5); have HB5 := Lib.hid (HB4.out.trans (hb5.mono HB4.out.size)); clear hb5; have y5T0 := T5.out.cell 0; have y5T1 := T5.out.cell 1; have y5X0 := X5.out.cell 0; have y5X1 := X5.out.cell 1; have y5M0 := M5.out.cell 0; have y5M1 := M5.out.cell 1; have y5M2 := M5.out.cell 2; have y5La0 := La5.out.cell 0; have y5La1 := La5.out.cell 1; have y5La2 := La5.out.cell 2; have y5La3 := La5.out.cell 3; have y5La4 := La5.out.cell 4; have y5La5 := La5.out.cell 5; have y5Lb0 := Lb5.out.cell 0; have y5Lb1 := Lb5.out.cell 1; have y5Lb2 := Lb5.out.cell 2; have y5Lb3 := Lb5.out.cell 3; have y5Lb4 := Lb5.out.cell 4; have y5Lb5 := Lb5.out.cell 5; simp only [List.getElem?_toArray, List.getElem?_cons_zero, List.getElem?_cons_succ] at y5T0 y5T1 y5X0 y5X1 y5M0 y5M1 y5M2 y5La0 y5La1 y5La2 y5La3 y5La4 y5La5 y5Lb0 y5Lb1 y5Lb2 y5Lb3 y5Lb4 y5Lb5; have y5Tl := T5.out.lt; have y5Xl := X5.out.lt; have y5Ml := M5.out.lt; have y5Lal := La5.out.lt; have y5Lbl := Lb5.out.lt)
    exact bodyPost_ret (v := .bool true) (by simp [results, Tryz.results9, go_sem]) rfl ⟨rfl, HB5.out⟩
  case pos =>
  have h1b : (ae != 0) = false := by simpa using h1
  obtain ⟨x1, x2⟩ := HUj.out h1
  obtain ⟨y1, y2⟩ := HUi.out h1
  have HZf := Lib.hid (HOl.out h1 _ _ _ _ _ x1 x2)
  have HZg := Lib.hid (HOh.out h1 _ _ _ _ _ y1 y2)
  have HCf := Lib.hid (fun (u : World) (hu : TR.Ok u ⟨A, n, c, B, m, d, hs, ms⟩) (q1 : SAt encI 1 u J1 jn1 jst) (q2 : SAt encI 1 u J2 jn2 jen) (q3 : SAt encI 1 u J3 jn3 jma) (q4 : SAt encI 1 u J4 jn4 js) => CheckLimit_any ⟨A, n, c, B, m, d, hs, ms⟩ kind id lo J1 jn1 jc1 J2 jn2 jc2 J3 jn3 jc3 jw J4 jn4 jc4 jst jen jma js false u hu q1 q2 q3 q4 HBj.out)
  have HCg := Lib.hid (fun (u : World) (hu : TR.Ok u ⟨A, n, c, B, m, d, hs, ms⟩) (q1 : SAt encI 1 u I1 in1 ist) (q2 : SAt encI 1 u I2 in2 ien) (q3 : SAt encI 1 u I3 in3 ima) (q4 : SAt encI 1 u I4 in4 is) => CheckLimit_any ⟨A, n, c, B, m, d, hs, ms⟩ kind id hi I1 in1 ic1 I2 in2 ic2 I3 in3 ic3 iw I4 in4 ic4 ist ien ima is true u hu q1 q2 q3 q4 HBi.out)
  have HRf := Lib.hid (fun (u : World) (hu : TR.Ok u ⟨A, n, c, B, m, d, hs, ms⟩) (q1 : SAt encI 1 u J1 jn1 jst) (q2 : SAt encI 1 u J2 jn2 jen) (q3 : SAt encI 1 u J3 jn3 jma) (q4 : SAt encI 1 u J4 jn4 js) => RCheckLimit_any ⟨A, n, c, B, m, d, hs, ms⟩ kind id lo J1 jn1 jc1 J2 jn2 jc2 J3 jn3 jc3 jw J4 jn4 jc4 jst jen jma js false u hu q1 q2 q3 q4 HBj.out)
  have HRg := Lib.hid (fun (u : World) (hu : TR.Ok u ⟨A, n, c, B, m, d, hs, ms⟩) (q1 : SAt encI 1 u I1 in1 ist) (q2 : SAt encI 1 u I2 in2 ien) (q3 : SAt encI 1 u I3 in3 ima) (q4 : SAt encI 1 u I4 in4 is) => RCheckLimit_any ⟨A, n, c, B, m, d, hs, ms⟩ kind id hi I1 in1 ic1 I2 in2 ic2 I3 in3 ic3 iw I4 in4 ic4 ist ien ima is true u hu q1 q2 q3 q4 HBi.out)
  rw [HZf.out] at HCf HRf
  rw [HZg.out] at HCg HRg
  dsimp only [TR.v, vAt, vLim] at HCf HCg HRf HRg
  clear x1 x2 y1 y2 HUj HUi HZf HZg HOl HOh HWj HWi h1
  have yT0 := T4.out.cell 0
  have yT1 := T4.out.cell 1
  have yX0 := X4.out.cell 0
  have yX1 := X4.out.cell 1
  have yM0 := M4.out.cell 0
  have yM1 := M4.out.cell 1
  have yM2 := M4.out.cell 2
  have yLa0 := La4.out.cell 0
  have yLa1 := La4.out.cell 1
  have yLa2 := La4.out.cell 2
  have yLa3 := La4.out.cell 3
  have yLa4 := La4.out.cell 4
  have yLa5 := La4.out.cell 5
  have yLb0 := Lb4.out.cell 0
  have yLb1 := Lb4.out.cell 1
  have yLb2 := Lb4.out.cell 2
  have yLb3 := Lb4.out.cell 3
  have yLb4 := Lb4.out.cell 4
  have yLb5 := Lb4.out.cell 5
  simp only [List.getElem?_toArray, List.getElem?_cons_zero, List.getElem?_cons_succ] at yT0 yT1 yX0 yX1 yM0 yM1 yM2 yLa0 yLa1 yLa2 yLa3 yLa4 yLa5 yLb0 yLb1 yLb2 yLb3 yLb4 yLb5
  have yTl := T4.out.lt
  have yXl := X4.out.lt
  have yMl := M4.out.lt
  have yLal := La4.out.lt
  have yLbl := Lb4.out.lt
  go_upto_region 12 with (first | (go_at_call 48; with_reducible refine (HRf.out _ O4.out KAj4.out KBj4.out KCj4.out KDj4.out).mono ?_; rintro e u5 ⟨rfl, hb5⟩; have T5 := Lib.hid (T4.out.below hb5); have X5 := Lib.hid (X4.out.below hb5); have O5 := Lib.hid (O4.out.below hb5); have M5 := Lib.hid (M4.out.below hb5); have La5 := Lib.hid (La4.out.below hb5); have KAj5 := Lib.hid (KAj4.out.below hb5); have KBj5 := Lib.hid (KBj4.out.below hb5); have KCj5 := Lib.hid (KCj4.out.below hb5); have KDj5 := Lib.hid (KDj4.out.below hb5); have Lb5 := Lib.hid (Lb4.out.below hb5); have KAi5 := Lib.hid (KAi4.out.below hb5); have KBi5 := Lib.hid (KBi4.out.below hb5); have KCi5 := Lib.hid (KCi4.out.below hb5); have KDi5 := Lib.hid (KDi4.out.below hb5); have HB5 := Lib.hid (HB4.out.trans (hb5.mono HB4.out.size)); clear hb5; have y5T0 := T5.out.cell 0; have y5T1 := T5.out.cell 1; have y5X0 := X5.out.cell 0; have y5X1 := X5.out.cell 1; have y5M0 := M5.out.cell 0; have y5M1 := M5.out.cell 1; have y5M2 := M5.out.cell 2; have y5La0 := La5.out.cell 0; have y5La1 := La5.out.cell 1; have y5La2 := La5.out.cell 2; have y5La3 := La5.out.cell 3; have y5La4 := La5.out.cell 4; have y5La5 := La5.out.cell 5; have y5Lb0 := Lb5.out.cell 0; have y5Lb1 := Lb5.out.cell 1; have y5Lb2 := Lb5.out.cell 2; have y5Lb3 := Lb5.out.cell 3; have y5Lb4 := Lb5.out.cell 4; have y5Lb5 := Lb5.out.cell 5; simp only [List.getElem?_toArray, List.getElem?_cons_zero, List.getElem?_cons_succ] at y5T0 y5T1 y5X0 y5X1 y5M0 y5M1 y5M2 y5La0 y5La1 y5La2 y5La3 y5La4 y5La5 y5Lb0 y5Lb1 y5Lb2 y5Lb3 y5Lb4 y5Lb5; have y5Tl := T5.out.lt; have y5Xl := X5.out.lt; have y5Ml := M5.out.lt; have y5Lal := La5.out.lt; have y5Lbl := Lb5.out.lt) | (go_at_call 48; with_reducible refine (HRg.out _ O5.out KAi5.out KBi5.out KCi5.out KDi5.out).mono ?_; rintro e u6 ⟨rfl, hb6⟩; have T6 := Lib.hid (T5.out.below hb6); have X6 := Lib.hid (X5.out.below hb6); have O6 := Lib.hid (O5.out.below hb6); have M6 := Lib.hid (M5.out.below hb6); have La6 := Lib.hid (La5.out.below hb6); have KAj6 := Lib.hid (KAj5.out.below hb6); have KBj6 := Lib.hid (KBj5.out.below hb6); have KCj6 := Lib.hid (KCj5.out.below hb6); have KDj6 := Lib.hid (KDj5.out.below hb6); have Lb6 := Lib.hid (Lb5.out.below hb6); have KAi6 := Lib.hid (KAi5.out.below hb6); have KBi6 := Lib.hid (KBi5.out.below hb6); have KCi6 := Lib.hid (KCi5.out.below hb6); have KDi6 := Lib.hid (KDi5.out.below hb6); have HB6 := Lib.hid (HB5.out.trans (hb6.mono HB5.out.size)); clear hb6; have y6T0 := T6.out.cell 0; have y6T1 := T6.out.cell 1; have y6X0 := X6.out.cell 0; have y6X1 := X6.out.cell 1; have y6M0 := M6.out.cell 0; have y6M1 := M6.out.cell 1; have y6M2 := M6.out.cell 2; have y6La0 := La6.out.cell 0; have y6La1 := La6.out.cell 1; have y6La2 := La6.out.cell 2; have y6La3 := La6.out.cell 3; have y6La4 := La6.out.cell 4; have y6La5 := La6.out.cell 5; have y6Lb0 := Lb6.out.cell 0; have y6Lb1 := Lb6.out.cell 1; have y6Lb2 := Lb6.out.cell 2; have y6Lb3 := Lb6.out.cell 3; have y6Lb4 := Lb6.out.cell 4; have y6Lb5 := Lb6.out.cell 5; simp only [List.getElem?_toArray, List.getElem?_cons_zero, List.getElem?_cons_succ] at y6T0 y6T1 y6X0 y6X1 y6M0 y6M1 y6M2 y6La0 y6La1 y6La2 y6La3 y6La4 y6La5 y6Lb0 y6Lb1 y6Lb2 y6Lb3 y6Lb4 y6Lb5; have y6Tl := T6.out.lt; have y6Xl := X6.out.lt; have y6Ml := M6.out.lt; have y6Lal := La6.out.lt; have y6Lbl := Lb6.out.lt))
  clear yT0 yT1 yX0 yX1 yM0 yM1 yM2 yLa0 yLa1 yLa2 yLa3 yLa4 yLa5 yLb0 yLb1 yLb2 yLb3 yLb4 yLb5 yTl yXl yMl yLal yLbl y5T0 y5T1 y5X0 y5X1 y5M0 y5M1 y5M2 y5La0 y5La1 y5La2 y5La3 y5La4 y5La5 y5Lb0 y5Lb1 y5Lb2 y5Lb3 y5Lb4 y5Lb5 y5Tl y5Xl y5Ml y5Lal y5Lbl y6T0 y6T1 y6X0 y6X1 y6M0 y6M1 y6M2 y6La0 y6La1 y6La2 y6La3 y6La4 y6La5 y6Lb0 y6Lb1 y6Lb2 y6Lb3 y6Lb4 y6Lb5 y6Tl y6Xl y6Ml y6Lal y6Lbl T4 X4 O4 M4 La4 KAj4 KBj4 KCj4 KDj4 Lb4 KAi4 KBi4 KCi4 KDi4 T5 X5 O5 M5 La5 KAj5 KBj5 KCj5 KDj5 Lb5 KAi5 KBi5 KCi5 KDi5 HB4 HB5
  have yT0 := T6.out.cell 0
  have yT1 := T6.out.cell 1
  have yX0 := X6.out.cell 0
  have yX1 := X6.out.cell 1
  have yM0 := M6.out.cell 0
  have yM1 := M6.out.cell 1
  have yM2 := M6.out.cell 2
  have yLa0 := La6.out.cell 0
  have yLa1 := La6.out.cell 1
  have yLa2 := La6.out.cell 2
  have yLa3 := La6.out.cell 3
  have yLa4 := La6.out.cell 4
  have yLa5 := La6.out.cell 5
  have yLb0 := Lb6.out.cell 0
  have yLb1 := Lb6.out.cell 1
  have yLb2 := Lb6.out.cell 2
  have yLb3 := Lb6.out.cell 3
  have yLb4 := Lb6.out.cell 4
  have yLb5 := Lb6.out.cell 5
  simp only [List.getElem?_toArray, List.getElem?_cons_zero, List.getElem?_cons_succ] at yT0 yT1 yX0 yX1 yM0 yM1 yM2 yLa0 yLa1 yLa2 yLa3 yLa4 yLa5 yLb0 yLb1 yLb2 yLb3 yLb4 yLb5
  have yTl := T6.out.lt
  have yXl := X6.out.lt
  have yMl := M6.out.lt
  have yLal := La6.out.lt
  have yLbl := Lb6.out.lt
  go_wp2_with (first | (go_at_call 13; with_reducible refine (HSan.out _).mono ?_; rintro e u7 ⟨rfl, hb7⟩; have T7 := Lib.hid (T6.out.below hb7); have X7 := Lib.hid (X6.out.below hb7); have O7 := Lib.hid (O6.out.below hb7); have M7 := Lib.hid (M6.out.below hb7); have La7 := Lib.hid (La6.out.below hb7); have KAj7 := Lib.hid (KAj6.out.below hb7); have KBj7 := Lib.hid (KBj6.out.below hb7); have KCj7 := Lib.hid (KCj6.out.below hb7); have KDj7 := Lib.hid (KDj6.out.below hb7); have Lb7 := Lib.hid (Lb6.out.below hb7); have KAi7 := Lib.hid (KAi6.out.below hb7); have KBi7 := Lib.hid (KBi6.out.below hb7); have KCi7 := Lib.hid (KCi6.out.below hb7); have KDi7 := Lib.hid (KDi6.out.below hb7); have HB7 := Lib.hid (HB6.out.trans (hb7.mono HB6.out.size)); clear hb7; have y7T0 := T7.out.cell 0; have y7T1 := T7.out.cell 1; have y7X0 := X7.out.cell 0; have y7X1 := X7.out.cell 1; have y7M0 := M7.out.cell 0; have y7M1 := M7.out.cell 1; have y7M2 := M7.out.cell 2; have y7La0 := La7.out.cell 0; have y7La1 := La7.out.cell 1; have y7La2 := La7.out.cell 2; have y7La3 := La7.out.cell 3; have y7La4 := La7.out.cell 4; have y7La5 := La7.out.cell 5; have y7Lb0 := Lb7.out.cell 0; have y7Lb1 := Lb7.out.cell 1; have y7Lb2 := Lb7.out.cell 2; have y7Lb3 := Lb7.out.cell 3; have y7Lb4 := Lb7.out.cell 4; have y7Lb5 := Lb7.out.cell 5; simp only [List.getElem?_toArray, List.getElem?_cons_zero, List.getElem?_cons_succ] at y7T0 y7T1 y7X0 y7X1 y7M0 y7M1 y7M2 y7La0 y7La1 y7La2 y7La3 y7La4 y7La5 y7Lb0 y7Lb1 y7Lb2 y7Lb3 y7Lb4 y7Lb5; have y7Tl := T7.out.lt; have y7Xl := X7.out.lt; have y7Ml := M7.out.lt; have y7Lal := La7.out.lt; have y7Lbl := Lb7.out.lt) | (go_at_call 49; with_reducible refine (HCf.out _ O7.out KAj7.out KBj7.out KCj7.out KDj7.out).mono ?_; rintro e u8 ⟨rfl, hb8⟩; have T8 := Lib.hid (T7.out.below hb8); have X8 := Lib.hid (X7.out.below hb8); have O8 := Lib.hid (O7.out.below hb8); have M8 := Lib.hid (M7.out.below hb8); have La8 := Lib.hid (La7.out.below hb8); have KAj8 := Lib.hid (KAj7.out.below hb8); have KBj8 := Lib.hid (KBj7.out.below hb8); have KCj8 := Lib.hid (KCj7.out.below hb8); have KDj8 := Lib.hid (KDj7.out.below hb8); have Lb8 := Lib.hid (Lb7.out.below hb8); have KAi8 := Lib.hid (KAi7.out.below hb8); have KBi8 := Lib.hid (KBi7.out.below hb8); have KCi8 := Lib.hid (KCi7.out.below hb8); have KDi8 := Lib.hid (KDi7.out.below hb8); have HB8 := Lib.hid (HB7.out.trans (hb8.mono HB7.out.size)); clear hb8; have y8T0 := T8.out.cell 0; have y8T1 := T8.out.cell 1; have y8X0 := X8.out.cell 0; have y8X1 := X8.out.cell 1; have y8M0 := M8.out.cell 0; have y8M1 := M8.out.cell 1; have y8M2 := M8.out.cell 2; have y8La0 := La8.out.cell 0; have y8La1 := La8.out.cell 1; have y8La2 := La8.out.cell 2; have y8La3 := La8.out.cell 3; have y8La4 := La8.out.cell 4; have y8La5 := La8.out.cell 5; have y8Lb0 := Lb8.out.cell 0; have y8Lb1 := Lb8.out.cell 1; have y8Lb2 := Lb8.out.cell 2; have y8Lb3 := Lb8.out.cell 3; have y8Lb4 := Lb8.out.cell 4; have y8Lb5 := Lb8.out.cell 5; simp only [List.getElem?_toArray, List.getElem?_cons_zero, List.getElem?_cons_succ] at y8T0 y8T1 y8X0 y8X1 y8M0 y8M1 y8M2 y8La0 y8La1 y8La2 y8La3 y8La4 y8La5 y8Lb0 y8Lb1 y8Lb2 y8Lb3 y8Lb4 y8Lb5; have y8Tl := T8.out.lt; have y8Xl := X8.out.lt; have y8Ml := M8.out.lt; have y8Lal := La8.out.lt; have y8Lbl := Lb8.out.lt) | (go_at_call 49; with_reducible refine (HCg.out _ O8.out KAi8.out KBi8.out KCi8.out KDi8.out).mono ?_; rintro e u9 ⟨rfl, hb9⟩; have T9 := Lib.hid (T8.out.below hb9); have X9 := Lib.hid (X8.out.below hb9); have O9 := Lib.hid (O8.out.below hb9); have M9 := Lib.hid (M8.out.below hb9); have La9 := Lib.hid (La8.out.below hb9); have KAj9 := Lib.hid (KAj8.out.below hb9); have KBj9 := Lib.hid (KBj8.out.below hb9); have KCj9 := Lib.hid (KCj8.out.below hb9); have KDj9 := Lib.hid (KDj8.out.below hb9); have Lb9 := Lib.hid (Lb8.out.below hb9); have KAi9 := Lib.hid (KAi8.out.below hb9); have KBi9 := Lib.hid (KBi8.out.below hb9); have KCi9 := Lib.hid (KCi8.out.below hb9); have KDi9 := Lib.hid (KDi8.out.below hb9); have HB9 := Lib.hid (HB8.out.trans (hb9.mono HB8.out.size)); clear hb9; have y9T0 := T9.out.cell 0; have y9T1 := T9.out.cell 1; have y9X0 := X9.out.cell 0; have y9X1 := X9.out.cell 1; have y9M0 := M9.out.cell 0; have y9M1 := M9.out.cell 1; have y9M2 := M9.out.cell 2; have y9La0 := La9.out.cell 0; have y9La1 := La9.out.cell 1; have y9La2 := La9.out.cell 2; have y9La3 := La9.out.cell 3; have y9La4 := La9.out.cell 4; have y9La5 := La9.out.cell 5; have y9Lb0 := Lb9.out.cell 0; have y9Lb1 := Lb9.out.cell 1; have y9Lb2 := Lb9.out.cell 2; have y9Lb3 := Lb9.out.cell 3; have y9Lb4 := Lb9.out.cell 4; have y9Lb5 := Lb9.out.cell 5; simp only [List.getElem?_toArray, List.getElem?_cons_zero, List.getElem?_cons_succ] at y9T0 y9T1 y9X0 y9X1 y9M0 y9M1 y9M2 y9La0 y9La1 y9La2 y9La3 y9La4 y9La5 y9Lb0 y9Lb1 y9Lb2 y9Lb3 y9Lb4 y9Lb5; have y9Tl := T9.out.lt; have y9Xl := X9.out.lt; have y9Ml := M9.out.lt; have y9Lal := La9.out.lt; have y9Lbl := Lb9.out.lt))
  exact bodyPost_ret (v := .bool true) (by simp [results, Tryz.results9, go_sem]) rfl ⟨rfl, HB9.out⟩
open Go.WideShapes Go.ChangeShapes Go.Joins Go.Deep
set_option maxRecDepth 100000 in
theorem flowLimits_lifted (os : Os) (started : os.Started) (H : Type) (enc : TypeId × Value → H) :
    ReturnsInHanded Rows.flowLimitsRow.assume Tryz.checked os 9 .any (Rows.flowLimitsSpec.pre6 enc Tryz.prog Tryz.f9 Rows.flowLimitsRow.domain false) (Rows.flowLimitsSpec.post enc Tryz.prog Tryz.f9 false Rows.flowLimitsRow.fresh Rows.flowLimitsRow.handsOn Rows.flowLimitsRow.again) := by
  refine returnsInHanded_of_change (C := Tryz.checked) (by kernel_rfl) started (by kernel_rfl) Tryz.func9
    (ChangeSpec.witness6 (enc := enc) (C := Tryz.checked) false ⟨#[], #[.agg #[.slice none 0 0, .slice none 0 0], .agg #[.int .i64 0, .int .i64 0]], []⟩ 8 (by kernel_rfl) (by kernel_rfl) (by kernel_rfl) (by kernel_rfl)) ?_
  intro W base args ds gs before hval0 hW hcnd _
  have hval : ∀ (j : Nat) t v, Tryz.f9.params[j]? = some t → args[j]? = some v → Value.okWide Tryz.prog W .any base t v := hval0
  have hW' := hW
  obtain ⟨p, q, hA0, hV, rfl, hfz, hnd⟩ := hW
  obtain ⟨rfl, rfl⟩ := trodVars_none hV
  have hA : DataW.TrodAll enc Tryz.prog W 0 (fun _ => true) true [25, 83] args.toList ds p := hA0
  obtain ⟨v0, v1, d0, d1, p0, p1, rfl, rfl, rfl, h0, h1⟩ := trodAll_two hA
  obtain ⟨t, rfl, hT, _, rfl⟩ := open_tr (hval 0 25 v0 rfl rfl) h0
  obtain ⟨kind, id, rfl, _, rfl⟩ := open_at (hval 1 83 v1 rfl rfl) h1
  refine (flowLimits_walk t kind id W hT).mono fun e W' ⟨he, hb⟩ => ⟨_, he, law_post laid_out (by kernel_rfl) rfl Tryz.underlying4 rfl hW' rfl rfl rfl hb⟩

theorem flowLimits : Rows.FlowLimitsSaid :=
  OpenClaim.holds_of_wide 9 Tryz.f9 rfl rfl rfl rfl rfl rfl rfl ⟨rfl, rfl, rfl, rfl, rfl⟩ rfl rfl rfl rfl rfl (by kernel_rfl) Tryz.func9 (by kernel_rfl)
    (of_decide_eq_true (by kernel_rfl)) (by unfold Func.isWrapper; first | (rw [if_pos (by decide +kernel)]; kernel_rfl) | (rw [if_neg (by decide +kernel)]; exact ⟨rfl, rfl⟩))
    (fun os started H enc _ => flowLimits_lifted os started H enc)
#print axioms flowLimits
end Go.Proofs.YtighfmgkoepfkaaGreat
