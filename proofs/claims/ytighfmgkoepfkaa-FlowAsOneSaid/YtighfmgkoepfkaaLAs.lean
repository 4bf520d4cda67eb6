/- The law FlowAsOne. -/
import Derived.Test.YtighfmgkoepfkaaMK
import Derived.Test.YtighfmgkoepfkaaMI
namespace Go.Proofs.Ytighfmgkoepfkaa
open Go.RowKit

set_option maxRecDepth 100000 in
set_option maxHeartbeats 12800000 in
theorem flowAsOne_walk (t : TR) (ida idb kind id : Int) (w : World) (h : t.Ok w) : Calls Try.prog 10 #[t.v, .int .i64 ida, .int .i64 idb, vAt kind id] w fun e w' => e = .returned (.bool true) ∧ Below w.heap.size w w' := by
  obtain ⟨A, n, c, B, m, d, hs, ms⟩ := t
  have HSan := Lib.hid (fun u => sanity_any u)
  obtain ⟨fb, hfb⟩ : ∃ b, fewB n m = b := ⟨_, rfl⟩
  have HFew := Lib.hid (fun u => few_any A n c B m d u h.n_le h.m_le)
  rw [hfb] at HFew
  dsimp only [TR.v, vAt] at *
  have HB0 : Hid (Below w.heap.size w ((w.alloc (.cells #[.slice A n c, .slice B m d] 25)).alloc (.cells #[.int .i64 kind, .int .i64 id] 27))) := Lib.hid (((Below.refl w.heap.size w).alloc (Nat.le_refl _) _).alloc (by simp) _)
  have T0 : Hid (Blk ((w.alloc (.cells #[.slice A n c, .slice B m d] 25)).alloc (.cells #[.int .i64 kind, .int .i64 id] 27)) w.heap.size 25 #[.slice A n c, .slice B m d]) := Lib.hid ((Blk.at_new 25 #[.slice A n c, .slice B m d] rfl).alloc _)
  have X0 : Hid (Blk ((w.alloc (.cells #[.slice A n c, .slice B m d] 25)).alloc (.cells #[.int .i64 kind, .int .i64 id] 27)) (w.heap.size + 1) 27 #[.int .i64 kind, .int .i64 id]) := Lib.hid (Blk.at_new 27 #[.int .i64 kind, .int .i64 id] (by simp))
  have O0 := Lib.hid ((h).below HB0.out)
  go_enter Try.func10, Try.ntmps10
  go_upto_region 1 with fail
  generalize hV : (w.alloc (.cells #[.slice A n c, .slice B m d] 25)).alloc (.cells #[.int .i64 kind, .int .i64 id] 27) = V0 at *
  clear hV
  clear h hfb
  cases fb with
  | false =>
    have yT0 := T0.out.cell 0
    have yT1 := T0.out.cell 1
    have yX0 := X0.out.cell 0
    have yX1 := X0.out.cell 1
    simp only [List.getElem?_toArray, List.getElem?_cons_zero, List.getElem?_cons_succ] at yT0 yT1 yX0 yX1
    have yTl := T0.out.lt
    have yXl := X0.out.lt
    go_upto_region 2 with (go_at_call 13; with_reducible refine (HFew.out _).mono ?_; rintro e u1 ⟨rfl, hb1⟩; have T1 := Lib.hid (T0.out.below hb1); have X1 := Lib.hid (X0.out.below hb1); have O1 := Lib.hid (O0.out.below hb1); have HB1 := Lib.hid (HB0.out.trans (hb1.mono HB0.out.size)); clear hb1; have y1T0 := T1.out.cell 0; have y1T1 := T1.out.cell 1; have y1X0 := X1.out.cell 0; have y1X1 := X1.out.cell 1; simp only [List.getElem?_toArray, List.getElem?_cons_zero, List.getElem?_cons_succ] at y1T0 y1T1 y1X0 y1X1; have y1Tl := T1.out.lt; have y1Xl := X1.out.lt)
    clear yT0 yT1 yX0 yX1 yTl yXl y1T0 y1T1 y1X0 y1X1 y1Tl y1Xl T0 X0 O0 HB0
    have yT0 := T1.out.cell 0
    have yT1 := T1.out.cell 1
    have yX0 := X1.out.cell 0
    have yX1 := X1.out.cell 1
    simp only [List.getElem?_toArray, List.getElem?_cons_zero, List.getElem?_cons_succ] at yT0 yT1 yX0 yX1
    have yTl := T1.out.lt
    have yXl := X1.out.lt
    go_wp2_with (go_at_call 14; with_reducible refine (HSan.out _).mono ?_; rintro e u2 ⟨rfl, hb2⟩; have T2 := Lib.hid (T1.out.below hb2); have X2 := Lib.hid (X1.out.below hb2); have O2 := Lib.hid (O1.out.below hb2); have HB2 := Lib.hid (HB1.out.trans (hb2.mono HB1.out.size)); clear hb2; have y2T0 := T2.out.cell 0; have y2T1 := T2.out.cell 1; have y2X0 := X2.out.cell 0; have y2X1 := X2.out.cell 1; simp only [List.getElem?_toArray, List.getElem?_cons_zero, List.getElem?_cons_succ] at y2T0 y2T1 y2X0 y2X1; have y2Tl := T2.out.lt; have y2Xl := X2.out.lt)
    exact bodyPost_ret (v := .bool true) (by simp [results, Try.results10, go_sem]) rfl ⟨rfl, HB2.out⟩
  | true =>
  have yT0 := T0.out.cell 0
  have yT1 := T0.out.cell 1
  have yX0 := X0.out.cell 0
  have yX1 := X0.out.cell 1
  simp only [List.getElem?_toArray, List.getElem?_cons_zero, List.getElem?_cons_succ] at yT0 yT1 yX0 yX1
  have yTl := T0.out.lt
  have yXl := X0.out.lt
  go_upto_region 3 with (go_at_call 13; with_reducible refine (HFew.out _).mono ?_; rintro e u1 ⟨rfl, hb1⟩; have T1 := Lib.hid (T0.out.below hb1); have X1 := Lib.hid (X0.out.below hb1); have O1 := Lib.hid (O0.out.below hb1); have HB1 := Lib.hid (HB0.out.trans (hb1.mono HB0.out.size)); clear hb1; have y1T0 := T1.out.cell 0; have y1T1 := T1.out.cell 1; have y1X0 := X1.out.cell 0; have y1X1 := X1.out.cell 1; simp only [List.getElem?_toArray, List.getElem?_cons_zero, List.getElem?_cons_succ] at y1T0 y1T1 y1X0 y1X1; have y1Tl := T1.out.lt; have y1Xl := X1.out.lt)
  clear yT0 yT1 yX0 yX1 yTl yXl y1T0 y1T1 y1X0 y1X1 y1Tl y1Xl T0 X0 O0 HB0
  have HMg := Lib.hid (fun (u : World) (hu : TR.Ok u ⟨A, n, c, B, m, d, hs, ms⟩) => mg_tr hu ida idb)
  have HFt := Lib.hid (fun (u : World) (hu : TR.Ok u ⟨A, n, c, B, m, d, hs, ms⟩) => fi_all hu)
  have HLt := Lib.hid (fun (u : World) (hu : TR.Ok u ⟨A, n, c, B, m, d, hs, ms⟩) => (Least_any ⟨A, n, c, B, m, d, hs, ms⟩ kind id u hu).mono fun e w' h => ask_all h)
  have HGt := Lib.hid (fun (u : World) (hu : TR.Ok u ⟨A, n, c, B, m, d, hs, ms⟩) => (Greatest_any ⟨A, n, c, B, m, d, hs, ms⟩ kind id u hu).mono fun e w' h => ask_all h)
  dsimp only [TR.v, vAt, vCo, vLi] at HMg HFt HLt HGt
  have yT0 := T1.out.cell 0
  have yT1 := T1.out.cell 1
  have yX0 := X1.out.cell 0
  have yX1 := X1.out.cell 1
  simp only [List.getElem?_toArray, List.getElem?_cons_zero, List.getElem?_cons_succ] at yT0 yT1 yX0 yX1
  have yTl := T1.out.lt
  have yXl := X1.out.lt
  have HC := Lib.hid (HMg.out _ O1.out)
  try dsimp only [TR.v, vCt] at HC
  go_upto_region 4 with (go_at_call 35; with_reducible refine HC.out.mono ?_; rintro e u2 ⟨Q1, w1, x1, Q2, w2, x2, rfl, ho, hb⟩)
  clear yT0 yT1 yX0 yX1 yTl yXl
  clear HC
  have bn := hb
  have bq : Below u2.heap.size u2 (u2.alloc (.cells #[.slice Q1 w1 x1, .slice Q2 w2 x2] 25)) := ((Below.refl u2.heap.size u2).alloc (Nat.le_refl _) _)
  have bn := hb.trans (bq.mono hb.size)
  have T2 := Lib.hid (T1.out.below bn)
  have X2 := Lib.hid (X1.out.below bn)
  have O2 := Lib.hid (O1.out.below bn)
  have HB2 := Lib.hid (HB1.out.trans (bn.mono HB1.out.size))
  have N2 := Lib.hid ((ho).below bq)
  have M2 : Hid (Blk (u2.alloc (.cells #[.slice Q1 w1 x1, .slice Q2 w2 x2] 25)) u2.heap.size 25 #[.slice Q1 w1 x1, .slice Q2 w2 x2]) := Lib.hid (Blk.at_new 25 #[.slice Q1 w1 x1, .slice Q2 w2 x2] rfl)
  generalize hV : u2.alloc (.cells #[.slice Q1 w1 x1, .slice Q2 w2 x2] 25) = V2 at *
  generalize hp : u2.heap.size = p2 at *
  clear hV hp bq
  clear hb bn T1 X1 O1 HB1
  clear ho
  by_cases hme : mgE hs ms ida idb = 0
  case neg =>
    generalize mgE hs ms ida idb = me at *
    have hmb : (me != 0) = true := by simpa using hme
    clear hme
    have yT0 := T2.out.cell 0
    have yT1 := T2.out.cell 1
    have yX0 := X2.out.cell 0
    have yX1 := X2.out.cell 1
    have yM0 := M2.out.cell 0
    have yM1 := M2.out.cell 1
    simp only [List.getElem?_toArray, List.getElem?_cons_zero, List.getElem?_cons_succ] at yT0 yT1 yX0 yX1 yM0 yM1
    have yTl := T2.out.lt
    have yXl := X2.out.lt
    have yMl := M2.out.lt
    go_wp2_with (go_at_call 14; with_reducible refine (HSan.out _).mono ?_; rintro e u3 ⟨rfl, hb3⟩; have T3 := Lib.hid (T2.out.below hb3); have X3 := Lib.hid (X2.out.below hb3); have O3 := Lib.hid (O2.out.below hb3); have M3 := Lib.hid (M2.out.below hb3); have N3 := Lib.hid (N2.out.below hb3); have HB3 := Lib.hid (HB2.out.trans (hb3.mono HB2.out.size)); clear hb3; have y3T0 := T3.out.cell 0; have y3T1 := T3.out.cell 1; have y3X0 := X3.out.cell 0; have y3X1 := X3.out.cell 1; have y3M0 := M3.out.cell 0; have y3M1 := M3.out.cell 1; simp only [List.getElem?_toArray, List.getElem?_cons_zero, List.getElem?_cons_succ] at y3T0 y3T1 y3X0 y3X1 y3M0 y3M1; have y3Tl := T3.out.lt; have y3Xl := X3.out.lt; have y3Ml := M3.out.lt)
    exact bodyPost_ret (v := .bool true) (by simp [results, Try.results10, go_sem]) rfl ⟨rfl, HB3.out⟩
  case pos =>
  have HAs := Lib.hid (as_one hme)
  rw [hme]
  clear hme
  generalize mgH hs ms ida idb = mh at *
  generalize mgM hs ms ida idb = mm at *
  have HFm := Lib.hid (fun (u : World) (hu : TR.Ok u ⟨Q1, w1, x1, Q2, w2, x2, mh, mm⟩) => fi_all hu)
  have HLm := Lib.hid (fun (u : World) (hu : TR.Ok u ⟨Q1, w1, x1, Q2, w2, x2, mh, mm⟩) => (Least_any ⟨Q1, w1, x1, Q2, w2, x2, mh, mm⟩ kind id u hu).mono fun e w' h => ask_all h)
  have HGm := Lib.hid (fun (u : World) (hu : TR.Ok u ⟨Q1, w1, x1, Q2, w2, x2, mh, mm⟩) => (Greatest_any ⟨Q1, w1, x1, Q2, w2, x2, mh, mm⟩ kind id u hu).mono fun e w' h => ask_all h)
  dsimp only [TR.v, vAt, vCo, vLi] at HFm HLm HGm
  obtain ⟨fE, hfE⟩ : ∃ x, nwE hs ms = x := ⟨_, rfl⟩
  obtain ⟨gE, hgE⟩ : ∃ x, nwE mh mm = x := ⟨_, rfl⟩
  rw [hfE, hgE] at HAs
  rw [hfE] at HFt
  rw [hgE] at HFm
  clear hfE hgE
  have yT0 := T2.out.cell 0
  have yT1 := T2.out.cell 1
  have yX0 := X2.out.cell 0
  have yX1 := X2.out.cell 1
  have yM0 := M2.out.cell 0
  have yM1 := M2.out.cell 1
  simp only [List.getElem?_toArray, List.getElem?_cons_zero, List.getElem?_cons_succ] at yT0 yT1 yX0 yX1 yM0 yM1
  have yTl := T2.out.lt
  have yXl := X2.out.lt
  have yMl := M2.out.lt
  have HC := Lib.hid (HFt.out _ O2.out)
  try dsimp only [TR.v, vCt] at HC
  go_upto_region 7 with (go_at_call 15; with_reducible refine HC.out.mono ?_; rintro e u3 ⟨D1, dn1, dc1, D2, dn2, dc2, D3, dn3, dc3, dst, den, dma, rfl, k1, k2, k3, hf, hb⟩)
  clear yT0 yT1 yX0 yX1 yM0 yM1 yTl yXl yMl
  clear HC
  have bn := hb
  have bq : Below u3.heap.size u3 (u3.alloc (.cells #[.slice D1 dn1 dc1, .slice D2 dn2 dc2, .slice D3 dn3 dc3] 32)) := ((Below.refl u3.heap.size u3).alloc (Nat.le_refl _) _)
  have bn := hb.trans (bq.mono hb.size)
  have T3 := Lib.hid (T2.out.below bn)
  have X3 := Lib.hid (X2.out.below bn)
  have O3 := Lib.hid (O2.out.below bn)
  have M3 := Lib.hid (M2.out.below bn)
  have N3 := Lib.hid (N2.out.below bn)
  have HB3 := Lib.hid (HB2.out.trans (bn.mono HB2.out.size))
  have Ca3 : Hid (Blk (u3.alloc (.cells #[.slice D1 dn1 dc1, .slice D2 dn2 dc2, .slice D3 dn3 dc3] 32)) u3.heap.size 32 #[.slice D1 dn1 dc1, .slice D2 dn2 dc2, .slice D3 dn3 dc3]) := Lib.hid (Blk.at_new 32 #[.slice D1 dn1 dc1, .slice D2 dn2 dc2, .slice D3 dn3 dc3] rfl)
  generalize hV : u3.alloc (.cells #[.slice D1 dn1 dc1, .slice D2 dn2 dc2, .slice D3 dn3 dc3] 32) = V3 at *
  generalize hp : u3.heap.size = p3 at *
  clear hV hp bq
  clear hb bn T2 X2 O2 M2 N2 HB2
  clear k1 k2 k3 hf
  have yT0 := T3.out.cell 0
  have yT1 := T3.out.cell 1
  have yX0 := X3.out.cell 0
  have yX1 := X3.out.cell 1
  have yM0 := M3.out.cell 0
  have yM1 := M3.out.cell 1
  have yCa0 := Ca3.out.cell 0
  have yCa1 := Ca3.out.cell 1
  have yCa2 := Ca3.out.cell 2
  simp only [List.getElem?_toArray, List.getElem?_cons_zero, List.getElem?_cons_succ] at yT0 yT1 yX0 yX1 yM0 yM1 yCa0 yCa1 yCa2
  have yTl := T3.out.lt
  have yXl := X3.out.lt
  have yMl := M3.out.lt
  have yCal := Ca3.out.lt
  have HC := Lib.hid (HFm.out _ N3.out)
  try dsimp only [TR.v, vCt] at HC
  go_upto_region 8 with (go_at_call 15; with_reducible refine HC.out.mono ?_; rintro e u4 ⟨E1, en1, ec1, E2, en2, ec2, E3, en3, ec3, est, een, ema, rfl, k1, k2, k3, hf, hb⟩)
  clear yT0 yT1 yX0 yX1 yM0 yM1 yCa0 yCa1 yCa2 yTl yXl yMl yCal
  clear HC
  have bn := hb
  have bq : Below u4.heap.size u4 (u4.alloc (.cells #[.slice E1 en1 ec1, .slice E2 en2 ec2, .slice E3 en3 ec3] 32)) := ((Below.refl u4.heap.size u4).alloc (Nat.le_refl _) _)
  have bn := hb.trans (bq.mono hb.size)
  have T4 := Lib.hid (T3.out.below bn)
  have X4 := Lib.hid (X3.out.below bn)
  have O4 := Lib.hid (O3.out.below bn)
  have M4 := Lib.hid (M3.out.below bn)
  have N4 := Lib.hid (N3.out.below bn)
  have Ca4 := Lib.hid (Ca3.out.below bn)
  have HB4 := Lib.hid (HB3.out.trans (bn.mono HB3.out.size))
  have Cb4 : Hid (Blk (u4.alloc (.cells #[.slice E1 en1 ec1, .slice E2 en2 ec2, .slice E3 en3 ec3] 32)) u4.heap.size 32 #[.slice E1 en1 ec1, .slice E2 en2 ec2, .slice E3 en3 ec3]) := Lib.hid (Blk.at_new 32 #[.slice E1 en1 ec1, .slice E2 en2 ec2, .slice E3 en3 ec3] rfl)
  generalize hV : u4.alloc (.cells #[.slice E1 en1 ec1, .slice E2 en2 ec2, .slice E3 en3 ec3] 32) = V4 at *
  generalize hp : u4.heap.size = p4 at *
  clear hV hp bq
  clear hb bn T3 X3 O3 M3 N3 Ca3 HB3
  clear k1 k2 k3 hf
  by_cases hf : fE = 0
  case neg =>
    have hfb : (fE == 0) = false := by simpa using hf
    clear hf
    by_cases ck : kind = 1
    case pos =>
      have ckb : (kind != 1) = false := by simpa using ck
      have HK := Lib.hid (show kind ≠ 1 → id ≠ ida ∧ id ≠ idb from fun q => absurd ck q)
      clear ck
      have HAz := Lib.hid (HAs.out.2 kind id HK.out)
      obtain ⟨lo, hlo⟩ : ∃ x, asV hs ms kind id false = x := ⟨_, rfl⟩
      obtain ⟨hi, hhi⟩ : ∃ x, asV hs ms kind id true = x := ⟨_, rfl⟩
      obtain ⟨lo', hlo'⟩ : ∃ x, asV mh mm kind id false = x := ⟨_, rfl⟩
      obtain ⟨hi', hhi'⟩ : ∃ x, asV mh mm kind id true = x := ⟨_, rfl⟩
      obtain ⟨hE, hhE⟩ : ∃ x, asE hs ms kind id = x := ⟨_, rfl⟩
      obtain ⟨jE, hjE⟩ : ∃ x, asE mh mm kind id = x := ⟨_, rfl⟩
      rw [hlo, hhi, hlo', hhi', hhE, hjE] at HAz
      rw [hlo, hhE] at HLt
      rw [hhi, hhE] at HGt
      rw [hlo', hjE] at HLm
      rw [hhi', hjE] at HGm
      clear hlo hhi hlo' hhi' hhE hjE HAs HK
      have yT0 := T4.out.cell 0
      have yT1 := T4.out.cell 1
      have yX0 := X4.out.cell 0
      have yX1 := X4.out.cell 1
      have yM0 := M4.out.cell 0
      have yM1 := M4.out.cell 1
      have yCa0 := Ca4.out.cell 0
      have yCa1 := Ca4.out.cell 1
      have yCa2 := Ca4.out.cell 2
      have yCb0 := Cb4.out.cell 0
      have yCb1 := Cb4.out.cell 1
      have yCb2 := Cb4.out.cell 2
      simp only [List.getElem?_toArray, List.getElem?_cons_zero, List.getElem?_cons_succ] at yT0 yT1 yX0 yX1 yM0 yM1 yCa0 yCa1 yCa2 yCb0 yCb1 yCb2
      have yTl := T4.out.lt
      have yXl := X4.out.lt
      have yMl := M4.out.lt
      have yCal := Ca4.out.lt
      have yCbl := Cb4.out.lt
      have HC := Lib.hid (HLt.out _ O4.out)
      try dsimp only [TR.v, vCt] at HC
      go_upto_region 13 with (go_at_call 16; with_reducible refine HC.out.mono ?_; rintro e u5 ⟨A1, an1, ac1, A2, an2, ac2, A3, an3, ac3, aw, A4, an4, ac4, _, _, _, _, rfl, _, _, _, _, _, _, _, _, hb⟩)
      clear yT0 yT1 yX0 yX1 yM0 yM1 yCa0 yCa1 yCa2 yCb0 yCb1 yCb2 yTl yXl yMl yCal yCbl
      clear HC
      have bn := hb
      have bq : Below u5.heap.size u5 (u5.alloc (.cells #[.int .i64 lo, .slice A1 an1 ac1, .slice A2 an2 ac2, .slice A3 an3 ac3, .int .i64 aw, .slice A4 an4 ac4] 39)) := ((Below.refl u5.heap.size u5).alloc (Nat.le_refl _) _)
      have bn := hb.trans (bq.mono hb.size)
      have T5 := Lib.hid (T4.out.below bn)
      have X5 := Lib.hid (X4.out.below bn)
      have O5 := Lib.hid (O4.out.below bn)
      have M5 := Lib.hid (M4.out.below bn)
      have N5 := Lib.hid (N4.out.below bn)
      have Ca5 := Lib.hid (Ca4.out.below bn)
      have Cb5 := Lib.hid (Cb4.out.below bn)
      have HB5 := Lib.hid (HB4.out.trans (bn.mono HB4.out.size))
      have La5 : Hid (Blk (u5.alloc (.cells #[.int .i64 lo, .slice A1 an1 ac1, .slice A2 an2 ac2, .slice A3 an3 ac3, .int .i64 aw, .slice A4 an4 ac4] 39)) u5.heap.size 39 #[.int .i64 lo, .slice A1 an1 ac1, .slice A2 an2 ac2, .slice A3 an3 ac3, .int .i64 aw, .slice A4 an4 ac4]) := Lib.hid (Blk.at_new 39 #[.int .i64 lo, .slice A1 an1 ac1, .slice A2 an2 ac2, .slice A3 an3 ac3, .int .i64 aw, .slice A4 an4 ac4] rfl)
      generalize hV : u5.alloc (.cells #[.int .i64 lo, .slice A1 an1 ac1, .slice A2 an2 ac2, .slice A3 an3 ac3, .int .i64 aw, .slice A4 an4 ac4] 39) = V5 at *
      generalize hp : u5.heap.size = p5 at *
      clear hV hp bq
      clear hb bn T4 X4 O4 M4 N4 Ca4 Cb4 HB4
      have yT0 := T5.out.cell 0
      have yT1 := T5.out.cell 1
      have yX0 := X5.out.cell 0
      have yX1 := X5.out.cell 1
      have yM0 := M5.out.cell 0
      have yM1 := M5.out.cell 1
      have yCa0 := Ca5.out.cell 0
      have yCa1 := Ca5.out.cell 1
      have yCa2 := Ca5.out.cell 2
      have yCb0 := Cb5.out.cell 0
      have yCb1 := Cb5.out.cell 1
      have yCb2 := Cb5.out.cell 2
      have yLa0 := La5.out.cell 0
      have yLa1 := La5.out.cell 1
      have yLa2 := La5.out.cell 2
      have yLa3 := La5.out.cell 3
      have yLa4 := La5.out.cell 4
      have yLa5 := La5.out.cell 5
      simp only [List.getElem?_toArray, List.getElem?_cons_zero, List.getElem?_cons_succ] at yT0 yT1 yX0 yX1 yM0 yM1 yCa0 yCa1 yCa2 yCb0 yCb1 yCb2 yLa0 yLa1 yLa2 yLa3 yLa4 yLa5
      have yTl := T5.out.lt
      have yXl := X5.out.lt
      have yMl := M5.out.lt
      have yCal := Ca5.out.lt
      have yCbl := Cb5.out.lt
      have yLal := La5.out.lt
      have HC := Lib.hid (HGt.out _ O5.out)
      try dsimp only [TR.v, vCt] at HC
      go_upto_region 14 with (go_at_call 17; with_reducible refine HC.out.mono ?_; rintro e u6 ⟨B1, bn1, bc1, B2, bn2, bc2, B3, bn3, bc3, bw, B4, bn4, bc4, _, _, _, _, rfl, _, _, _, _, _, _, _, _, hb⟩)
      clear yT0 yT1 yX0 yX1 yM0 yM1 yCa0 yCa1 yCa2 yCb0 yCb1 yCb2 yLa0 yLa1 yLa2 yLa3 yLa4 yLa5 yTl yXl yMl yCal yCbl yLal
      clear HC
      have bn := hb
      have bq : Below u6.heap.size u6 (u6.alloc (.cells #[.int .i64 hi, .slice B1 bn1 bc1, .slice B2 bn2 bc2, .slice B3 bn3 bc3, .int .i64 bw, .slice B4 bn4 bc4] 39)) := ((Below.refl u6.heap.size u6).alloc (Nat.le_refl _) _)
      have bn := hb.trans (bq.mono hb.size)
      have T6 := Lib.hid (T5.out.below bn)
      have X6 := Lib.hid (X5.out.below bn)
      have O6 := Lib.hid (O5.out.below bn)
      have M6 := Lib.hid (M5.out.below bn)
      have N6 := Lib.hid (N5.out.below bn)
      have Ca6 := Lib.hid (Ca5.out.below bn)
      have Cb6 := Lib.hid (Cb5.out.below bn)
      have La6 := Lib.hid (La5.out.below bn)
      have HB6 := Lib.hid (HB5.out.trans (bn.mono HB5.out.size))
      have Lb6 : Hid (Blk (u6.alloc (.cells #[.int .i64 hi, .slice B1 bn1 bc1, .slice B2 bn2 bc2, .slice B3 bn3 bc3, .int .i64 bw, .slice B4 bn4 bc4] 39)) u6.heap.size 39 #[.int .i64 hi, .slice B1 bn1 bc1, .slice B2 bn2 bc2, .slice B3 bn3 bc3, .int .i64 bw, .slice B4 bn4 bc4]) := Lib.hid (Blk.at_new 39 #[.int .i64 hi, .slice B1 bn1 bc1, .slice B2 bn2 bc2, .slice B3 bn3 bc3, .int .i64 bw, .slice B4 bn4 bc4] rfl)
      generalize hV : u6.alloc (.cells #[.int .i64 hi, .slice B1 bn1 bc1, .slice B2 bn2 bc2, .slice B3 bn3 bc3, .int .i64 bw, .slice B4 bn4 bc4] 39) = V6 at *
      generalize hp : u6.heap.size = p6 at *
      clear hV hp bq
      clear hb bn T5 X5 O5 M5 N5 Ca5 Cb5 La5 HB5
      have yT0 := T6.out.cell 0
      have yT1 := T6.out.cell 1
      have yX0 := X6.out.cell 0
      have yX1 := X6.out.cell 1
      have yM0 := M6.out.cell 0
      have yM1 := M6.out.cell 1
      have yCa0 := Ca6.out.cell 0
      have yCa1 := Ca6.out.cell 1
      have yCa2 := Ca6.out.cell 2
      have yCb0 := Cb6.out.cell 0
      have yCb1 := Cb6.out.cell 1
      have yCb2 := Cb6.out.cell 2
      have yLa0 := La6.out.cell 0
      have yLa1 := La6.out.cell 1
      have yLa2 := La6.out.cell 2
      have yLa3 := La6.out.cell 3
      have yLa4 := La6.out.cell 4
      have yLa5 := La6.out.cell 5
      have yLb0 := Lb6.out.cell 0
      have yLb1 := Lb6.out.cell 1
      have yLb2 := Lb6.out.cell 2
      have yLb3 := Lb6.out.cell 3
      have yLb4 := Lb6.out.cell 4
      have yLb5 := Lb6.out.cell 5
      simp only [List.getElem?_toArray, List.getElem?_cons_zero, List.getElem?_cons_succ] at yT0 yT1 yX0 yX1 yM0 yM1 yCa0 yCa1 yCa2 yCb0 yCb1 yCb2 yLa0 yLa1 yLa2 yLa3 yLa4 yLa5 yLb0 yLb1 yLb2 yLb3 yLb4 yLb5
      have yTl := T6.out.lt
      have yXl := X6.out.lt
      have yMl := M6.out.lt
      have yCal := Ca6.out.lt
      have yCbl := Cb6.out.lt
      have yLal := La6.out.lt
      have yLbl := Lb6.out.lt
      have HC := Lib.hid (HLm.out _ N6.out)
      try dsimp only [TR.v, vCt] at HC
      go_upto_region 15 with (go_at_call 16; with_reducible refine HC.out.mono ?_; rintro e u7 ⟨F1, fn1, fc1, F2, fn2, fc2, F3, fn3, fc3, fw, F4, fn4, fc4, _, _, _, _, rfl, _, _, _, _, _, _, _, _, hb⟩)
      clear yT0 yT1 yX0 yX1 yM0 yM1 yCa0 yCa1 yCa2 yCb0 yCb1 yCb2 yLa0 yLa1 yLa2 yLa3 yLa4 yLa5 yLb0 yLb1 yLb2 yLb3 yLb4 yLb5 yTl yXl yMl yCal yCbl yLal yLbl
      clear HC
      have bn := hb
      have bq : Below u7.heap.size u7 (u7.alloc (.cells #[.int .i64 lo', .slice F1 fn1 fc1, .slice F2 fn2 fc2, .slice F3 fn3 fc3, .int .i64 fw, .slice F4 fn4 fc4] 39)) := ((Below.refl u7.heap.size u7).alloc (Nat.le_refl _) _)
      have bn := hb.trans (bq.mono hb.size)
      have T7 := Lib.hid (T6.out.below bn)
      have X7 := Lib.hid (X6.out.below bn)
      have O7 := Lib.hid (O6.out.below bn)
      have M7 := Lib.hid (M6.out.below bn)
      have N7 := Lib.hid (N6.out.below bn)
      have Ca7 := Lib.hid (Ca6.out.below bn)
      have Cb7 := Lib.hid (Cb6.out.below bn)
      have La7 := Lib.hid (La6.out.below bn)
      have Lb7 := Lib.hid (Lb6.out.below bn)
      have HB7 := Lib.hid (HB6.out.trans (bn.mono HB6.out.size))
      have Lc7 : Hid (Blk (u7.alloc (.cells #[.int .i64 lo', .slice F1 fn1 fc1, .slice F2 fn2 fc2, .slice F3 fn3 fc3, .int .i64 fw, .slice F4 fn4 fc4] 39)) u7.heap.size 39 #[.int .i64 lo', .slice F1 fn1 fc1, .slice F2 fn2 fc2, .slice F3 fn3 fc3, .int .i64 fw, .slice F4 fn4 fc4]) := Lib.hid (Blk.at_new 39 #[.int .i64 lo', .slice F1 fn1 fc1, .slice F2 fn2 fc2, .slice F3 fn3 fc3, .int .i64 fw, .slice F4 fn4 fc4] rfl)
      generalize hV : u7.alloc (.cells #[.int .i64 lo', .slice F1 fn1 fc1, .slice F2 fn2 fc2, .slice F3 fn3 fc3, .int .i64 fw, .slice F4 fn4 fc4] 39) = V7 at *
      generalize hp : u7.heap.size = p7 at *
      clear hV hp bq
      clear hb bn T6 X6 O6 M6 N6 Ca6 Cb6 La6 Lb6 HB6
      have yT0 := T7.out.cell 0
      have yT1 := T7.out.cell 1
      have yX0 := X7.out.cell 0
      have yX1 := X7.out.cell 1
      have yM0 := M7.out.cell 0
      have yM1 := M7.out.cell 1
      have yCa0 := Ca7.out.cell 0
      have yCa1 := Ca7.out.cell 1
      have yCa2 := Ca7.out.cell 2
      have yCb0 := Cb7.out.cell 0
      have yCb1 := Cb7.out.cell 1
      have yCb2 := Cb7.out.cell 2
      have yLa0 := La7.out.cell 0
      have yLa1 := La7.out.cell 1
      have yLa2 := La7.out.cell 2
      have yLa3 := La7.out.cell 3
      have yLa4 := La7.out.cell 4
      have yLa5 := La7.out.cell 5
      have yLb0 := Lb7.out.cell 0
      have yLb1 := Lb7.out.cell 1
      have yLb2 := Lb7.out.cell 2
      have yLb3 := Lb7.out.cell 3
      have yLb4 := Lb7.out.cell 4
      have yLb5 := Lb7.out.cell 5
      have yLc0 := Lc7.out.cell 0
      have yLc1 := Lc7.out.cell 1
      have yLc2 := Lc7.out.cell 2
      have yLc3 := Lc7.out.cell 3
      have yLc4 := Lc7.out.cell 4
      have yLc5 := Lc7.out.cell 5
      simp only [List.getElem?_toArray, List.getElem?_cons_zero, List.getElem?_cons_succ] at yT0 yT1 yX0 yX1 yM0 yM1 yCa0 yCa1 yCa2 yCb0 yCb1 yCb2 yLa0 yLa1 yLa2 yLa3 yLa4 yLa5 yLb0 yLb1 yLb2 yLb3 yLb4 yLb5 yLc0 yLc1 yLc2 yLc3 yLc4 yLc5
      have yTl := T7.out.lt
      have yXl := X7.out.lt
      have yMl := M7.out.lt
      have yCal := Ca7.out.lt
      have yCbl := Cb7.out.lt
      have yLal := La7.out.lt
      have yLbl := Lb7.out.lt
      have yLcl := Lc7.out.lt
      have HC := Lib.hid (HGm.out _ N7.out)
      try dsimp only [TR.v, vCt] at HC
      go_upto_region 16 with (go_at_call 17; with_reducible refine HC.out.mono ?_; rintro e u8 ⟨G1, gn1, gc1, G2, gn2, gc2, G3, gn3, gc3, gw, G4, gn4, gc4, _, _, _, _, rfl, _, _, _, _, _, _, _, _, hb⟩)
      clear yT0 yT1 yX0 yX1 yM0 yM1 yCa0 yCa1 yCa2 yCb0 yCb1 yCb2 yLa0 yLa1 yLa2 yLa3 yLa4 yLa5 yLb0 yLb1 yLb2 yLb3 yLb4 yLb5 yLc0 yLc1 yLc2 yLc3 yLc4 yLc5 yTl yXl yMl yCal yCbl yLal yLbl yLcl
      clear HC
      have bn := hb
      have bq : Below u8.heap.size u8 (u8.alloc (.cells #[.int .i64 hi', .slice G1 gn1 gc1, .slice G2 gn2 gc2, .slice G3 gn3 gc3, .int .i64 gw, .slice G4 gn4 gc4] 39)) := ((Below.refl u8.heap.size u8).alloc (Nat.le_refl _) _)
      have bn := hb.trans (bq.mono hb.size)
      have T8 := Lib.hid (T7.out.below bn)
      have X8 := Lib.hid (X7.out.below bn)
      have O8 := Lib.hid (O7.out.below bn)
      have M8 := Lib.hid (M7.out.below bn)
      have N8 := Lib.hid (N7.out.below bn)
      have Ca8 := Lib.hid (Ca7.out.below bn)
      have Cb8 := Lib.hid (Cb7.out.below bn)
      have La8 := Lib.hid (La7.out.below bn)
      have Lb8 := Lib.hid (Lb7.out.below bn)
      have Lc8 := Lib.hid (Lc7.out.below bn)
      have HB8 := Lib.hid (HB7.out.trans (bn.mono HB7.out.size))
      have Ld8 : Hid (Blk (u8.alloc (.cells #[.int .i64 hi', .slice G1 gn1 gc1, .slice G2 gn2 gc2, .slice G3 gn3 gc3, .int .i64 gw, .slice G4 gn4 gc4] 39)) u8.heap.size 39 #[.int .i64 hi', .slice G1 gn1 gc1, .slice G2 gn2 gc2, .slice G3 gn3 gc3, .int .i64 gw, .slice G4 gn4 gc4]) := Lib.hid (Blk.at_new 39 #[.int .i64 hi', .slice G1 gn1 gc1, .slice G2 gn2 gc2, .slice G3 gn3 gc3, .int .i64 gw, .slice G4 gn4 gc4] rfl)
      generalize hV : u8.alloc (.cells #[.int .i64 hi', .slice G1 gn1 gc1, .slice G2 gn2 gc2, .slice G3 gn3 gc3, .int .i64 gw, .slice G4 gn4 gc4] 39) = V8 at *
      generalize hp : u8.heap.size = p8 at *
      clear hV hp bq
      clear hb bn T7 X7 O7 M7 N7 Ca7 Cb7 La7 Lb7 Lc7 HB7
      by_cases h1 : hE = 0
      case neg =>
        have h1b : (hE != 0) = true := by simpa using h1
        clear h1
        have yT0 := T8.out.cell 0
        have yT1 := T8.out.cell 1
        have yX0 := X8.out.cell 0
        have yX1 := X8.out.cell 1
        have yM0 := M8.out.cell 0
        have yM1 := M8.out.cell 1
        have yCa0 := Ca8.out.cell 0
        have yCa1 := Ca8.out.cell 1
        have yCa2 := Ca8.out.cell 2
        have yCb0 := Cb8.out.cell 0
        have yCb1 := Cb8.out.cell 1
        have yCb2 := Cb8.out.cell 2
        have yLa0 := La8.out.cell 0
        have yLa1 := La8.out.cell 1
        have yLa2 := La8.out.cell 2
        have yLa3 := La8.out.cell 3
        have yLa4 := La8.out.cell 4
        have yLa5 := La8.out.cell 5
        have yLb0 := Lb8.out.cell 0
        have yLb1 := Lb8.out.cell 1
        have yLb2 := Lb8.out.cell 2
        have yLb3 := Lb8.out.cell 3
        have yLb4 := Lb8.out.cell 4
        have yLb5 := Lb8.out.cell 5
        have yLc0 := Lc8.out.cell 0
        have yLc1 := Lc8.out.cell 1
        have yLc2 := Lc8.out.cell 2
        have yLc3 := Lc8.out.cell 3
        have yLc4 := Lc8.out.cell 4
        have yLc5 := Lc8.out.cell 5
        have yLd0 := Ld8.out.cell 0
        have yLd1 := Ld8.out.cell 1
        have yLd2 := Ld8.out.cell 2
        have yLd3 := Ld8.out.cell 3
        have yLd4 := Ld8.out.cell 4
        have yLd5 := Ld8.out.cell 5
        simp only [List.getElem?_toArray, List.getElem?_cons_zero, List.getElem?_cons_succ] at yT0 yT1 yX0 yX1 yM0 yM1 yCa0 yCa1 yCa2 yCb0 yCb1 yCb2 yLa0 yLa1 yLa2 yLa3 yLa4 yLa5 yLb0 yLb1 yLb2 yLb3 yLb4 yLb5 yLc0 yLc1 yLc2 yLc3 yLc4 yLc5 yLd0 yLd1 yLd2 yLd3 yLd4 yLd5
        have yTl := T8.out.lt
        have yXl := X8.out.lt
        have yMl := M8.out.lt
        have yCal := Ca8.out.lt
        have yCbl := Cb8.out.lt
        have yLal := La8.out.lt
        have yLbl := Lb8.out.lt
        have yLcl := Lc8.out.lt
        have yLdl := Ld8.out.lt
        go_wp2_with (go_at_call 14; with_reducible refine (HSan.out _).mono ?_; rintro e u9 ⟨rfl, hb9⟩; have T9 := Lib.hid (T8.out.below hb9); have X9 := Lib.hid (X8.out.below hb9); have O9 := Lib.hid (O8.out.below hb9); have M9 := Lib.hid (M8.out.below hb9); have N9 := Lib.hid (N8.out.below hb9); have Ca9 := Lib.hid (Ca8.out.below hb9); have Cb9 := Lib.hid (Cb8.out.below hb9); have La9 := Lib.hid (La8.out.below hb9); have Lb9 := Lib.hid (Lb8.out.below hb9); have Lc9 := Lib.hid (Lc8.out.below hb9); have Ld9 := Lib.hid (Ld8.out.below hb9); have HB9 := Lib.hid (HB8.out.trans (hb9.mono HB8.out.size)); clear hb9; have y9T0 := T9.out.cell 0; have y9T1 := T9.out.cell 1; have y9X0 := X9.out.cell 0; have y9X1 := X9.out.cell 1; have y9M0 := M9.out.cell 0; have y9M1 := M9.out.cell 1; have y9Ca0 := Ca9.out.cell 0; have y9Ca1 := Ca9.out.cell 1; have y9Ca2 := Ca9.out.cell 2; have y9Cb0 := Cb9.out.cell 0; have y9Cb1 := Cb9.out.cell 1; have y9Cb2 := Cb9.out.cell 2; have y9La0 := La9.out.cell 0; have y9La1 := La9.out.cell 1; have y9La2 := La9.out.cell 2; have y9La3 := La9.out.cell 3; have y9La4 := La9.out.cell 4; have y9La5 := La9.out.cell 5; have y9Lb0 := Lb9.out.cell 0; have y9Lb1 := Lb9.out.cell 1; have y9Lb2 := Lb9.out.cell 2; have y9Lb3 := Lb9.out.cell 3; have y9Lb4 := Lb9.out.cell 4; have y9Lb5 := Lb9.out.cell 5; have y9Lc0 := Lc9.out.cell 0; have y9Lc1 := Lc9.out.cell 1; have y9Lc2 := Lc9.out.cell 2; have y9Lc3 := Lc9.out.cell 3; have y9Lc4 := Lc9.out.cell 4; have y9Lc5 := Lc9.out.cell 5; have y9Ld0 := Ld9.out.cell 0; have y9Ld1 := Ld9.out.cell 1; have y9Ld2 := Ld9.out.cell 2; have y9Ld3 := Ld9.out.cell 3; have y9Ld4 := Ld9.out.cell 4; have y9Ld5 := Ld9.out.cell 5; simp only [List.getElem?_toArray, List.getElem?_cons_zero, List.getElem?_cons_succ] at y9T0 y9T1 y9X0 y9X1 y9M0 y9M1 y9Ca0 y9Ca1 y9Ca2 y9Cb0 y9Cb1 y9Cb2 y9La0 y9La1 y9La2 y9La3 y9La4 y9La5 y9Lb0 y9Lb1 y9Lb2 y9Lb3 y9Lb4 y9Lb5 y9Lc0 y9Lc1 y9Lc2 y9Lc3 y9Lc4 y9Lc5 y9Ld0 y9Ld1 y9Ld2 y9Ld3 y9Ld4 y9Ld5; have y9Tl := T9.out.lt; have y9Xl := X9.out.lt; have y9Ml := M9.out.lt; have y9Cal := Ca9.out.lt; have y9Cbl := Cb9.out.lt; have y9Lal := La9.out.lt; have y9Lbl := Lb9.out.lt; have y9Lcl := Lc9.out.lt; have y9Ldl := Ld9.out.lt)
        exact bodyPost_ret (v := .bool true) (by simp [results, Try.results10, go_sem]) rfl ⟨rfl, HB9.out⟩
      case pos =>
      have h1b : (hE != 0) = false := by simpa using h1
      have h1c : (hE == 0) = true := by simpa using h1
      by_cases h2 : jE = 5
      case pos =>
        have h2b : (jE == 5) = true := by simpa using h2
        clear h2 h1
        have yT0 := T8.out.cell 0
        have yT1 := T8.out.cell 1
        have yX0 := X8.out.cell 0
        have yX1 := X8.out.cell 1
        have yM0 := M8.out.cell 0
        have yM1 := M8.out.cell 1
        have yCa0 := Ca8.out.cell 0
        have yCa1 := Ca8.out.cell 1
        have yCa2 := Ca8.out.cell 2
        have yCb0 := Cb8.out.cell 0
        have yCb1 := Cb8.out.cell 1
        have yCb2 := Cb8.out.cell 2
        have yLa0 := La8.out.cell 0
        have yLa1 := La8.out.cell 1
        have yLa2 := La8.out.cell 2
        have yLa3 := La8.out.cell 3
        have yLa4 := La8.out.cell 4
        have yLa5 := La8.out.cell 5
        have yLb0 := Lb8.out.cell 0
        have yLb1 := Lb8.out.cell 1
        have yLb2 := Lb8.out.cell 2
        have yLb3 := Lb8.out.cell 3
        have yLb4 := Lb8.out.cell 4
        have yLb5 := Lb8.out.cell 5
        have yLc0 := Lc8.out.cell 0
        have yLc1 := Lc8.out.cell 1
        have yLc2 := Lc8.out.cell 2
        have yLc3 := Lc8.out.cell 3
        have yLc4 := Lc8.out.cell 4
        have yLc5 := Lc8.out.cell 5
        have yLd0 := Ld8.out.cell 0
        have yLd1 := Ld8.out.cell 1
        have yLd2 := Ld8.out.cell 2
        have yLd3 := Ld8.out.cell 3
        have yLd4 := Ld8.out.cell 4
        have yLd5 := Ld8.out.cell 5
        simp only [List.getElem?_toArray, List.getElem?_cons_zero, List.getElem?_cons_succ] at yT0 yT1 yX0 yX1 yM0 yM1 yCa0 yCa1 yCa2 yCb0 yCb1 yCb2 yLa0 yLa1 yLa2 yLa3 yLa4 yLa5 yLb0 yLb1 yLb2 yLb3 yLb4 yLb5 yLc0 yLc1 yLc2 yLc3 yLc4 yLc5 yLd0 yLd1 yLd2 yLd3 yLd4 yLd5
        have yTl := T8.out.lt
        have yXl := X8.out.lt
        have yMl := M8.out.lt
        have yCal := Ca8.out.lt
        have yCbl := Cb8.out.lt
        have yLal := La8.out.lt
        have yLbl := Lb8.out.lt
        have yLcl := Lc8.out.lt
        have yLdl := Ld8.out.lt
        go_wp2_with (go_at_call 14; with_reducible refine (HSan.out _).mono ?_; rintro e u9 ⟨rfl, hb9⟩; have T9 := Lib.hid (T8.out.below hb9); have X9 := Lib.hid (X8.out.below hb9); have O9 := Lib.hid (O8.out.below hb9); have M9 := Lib.hid (M8.out.below hb9); have N9 := Lib.hid (N8.out.below hb9); have Ca9 := Lib.hid (Ca8.out.below hb9); have Cb9 := Lib.hid (Cb8.out.below hb9); have La9 := Lib.hid (La8.out.below hb9); have Lb9 := Lib.hid (Lb8.out.below hb9); have Lc9 := Lib.hid (Lc8.out.below hb9); have Ld9 := Lib.hid (Ld8.out.below hb9); have HB9 := Lib.hid (HB8.out.trans (hb9.mono HB8.out.size)); clear hb9; have y9T0 := T9.out.cell 0; have y9T1 := T9.out.cell 1; have y9X0 := X9.out.cell 0; have y9X1 := X9.out.cell 1; have y9M0 := M9.out.cell 0; have y9M1 := M9.out.cell 1; have y9Ca0 := Ca9.out.cell 0; have y9Ca1 := Ca9.out.cell 1; have y9Ca2 := Ca9.out.cell 2; have y9Cb0 := Cb9.out.cell 0; have y9Cb1 := Cb9.out.cell 1; have y9Cb2 := Cb9.out.cell 2; have y9La0 := La9.out.cell 0; have y9La1 := La9.out.cell 1; have y9La2 := La9.out.cell 2; have y9La3 := La9.out.cell 3; have y9La4 := La9.out.cell 4; have y9La5 := La9.out.cell 5; have y9Lb0 := Lb9.out.cell 0; have y9Lb1 := Lb9.out.cell 1; have y9Lb2 := Lb9.out.cell 2; have y9Lb3 := Lb9.out.cell 3; have y9Lb4 := Lb9.out.cell 4; have y9Lb5 := Lb9.out.cell 5; have y9Lc0 := Lc9.out.cell 0; have y9Lc1 := Lc9.out.cell 1; have y9Lc2 := Lc9.out.cell 2; have y9Lc3 := Lc9.out.cell 3; have y9Lc4 := Lc9.out.cell 4; have y9Lc5 := Lc9.out.cell 5; have y9Ld0 := Ld9.out.cell 0; have y9Ld1 := Ld9.out.cell 1; have y9Ld2 := Ld9.out.cell 2; have y9Ld3 := Ld9.out.cell 3; have y9Ld4 := Ld9.out.cell 4; have y9Ld5 := Ld9.out.cell 5; simp only [List.getElem?_toArray, List.getElem?_cons_zero, List.getElem?_cons_succ] at y9T0 y9T1 y9X0 y9X1 y9M0 y9M1 y9Ca0 y9Ca1 y9Ca2 y9Cb0 y9Cb1 y9Cb2 y9La0 y9La1 y9La2 y9La3 y9La4 y9La5 y9Lb0 y9Lb1 y9Lb2 y9Lb3 y9Lb4 y9Lb5 y9Lc0 y9Lc1 y9Lc2 y9Lc3 y9Lc4 y9Lc5 y9Ld0 y9Ld1 y9Ld2 y9Ld3 y9Ld4 y9Ld5; have y9Tl := T9.out.lt; have y9Xl := X9.out.lt; have y9Ml := M9.out.lt; have y9Cal := Ca9.out.lt; have y9Cbl := Cb9.out.lt; have y9Lal := La9.out.lt; have y9Lbl := Lb9.out.lt; have y9Lcl := Lc9.out.lt; have y9Ldl := Ld9.out.lt)
        exact bodyPost_ret (v := .bool true) (by simp [results, Try.results10, go_sem]) rfl ⟨rfl, HB9.out⟩
      case neg =>
        have h2b : (jE == 5) = false := by simpa using h2
        obtain ⟨h3, h4, h5⟩ := HAz.out h1 h2
        have h3b : (jE == 0) = true := by simpa using h3
        have h4b : decide (lo' ≤ lo) = true := decide_eq_true h4
        have h5b : decide (hi ≤ hi') = true := decide_eq_true h5
        clear h1 h2 h3 h4 h5
        have yT0 := T8.out.cell 0
        have yT1 := T8.out.cell 1
        have yX0 := X8.out.cell 0
        have yX1 := X8.out.cell 1
        have yM0 := M8.out.cell 0
        have yM1 := M8.out.cell 1
        have yCa0 := Ca8.out.cell 0
        have yCa1 := Ca8.out.cell 1
        have yCa2 := Ca8.out.cell 2
        have yCb0 := Cb8.out.cell 0
        have yCb1 := Cb8.out.cell 1
        have yCb2 := Cb8.out.cell 2
        have yLa0 := La8.out.cell 0
        have yLa1 := La8.out.cell 1
        have yLa2 := La8.out.cell 2
        have yLa3 := La8.out.cell 3
        have yLa4 := La8.out.cell 4
        have yLa5 := La8.out.cell 5
        have yLb0 := Lb8.out.cell 0
        have yLb1 := Lb8.out.cell 1
        have yLb2 := Lb8.out.cell 2
        have yLb3 := Lb8.out.cell 3
        have yLb4 := Lb8.out.cell 4
        have yLb5 := Lb8.out.cell 5
        have yLc0 := Lc8.out.cell 0
        have yLc1 := Lc8.out.cell 1
        have yLc2 := Lc8.out.cell 2
        have yLc3 := Lc8.out.cell 3
        have yLc4 := Lc8.out.cell 4
        have yLc5 := Lc8.out.cell 5
        have yLd0 := Ld8.out.cell 0
        have yLd1 := Ld8.out.cell 1
        have yLd2 := Ld8.out.cell 2
        have yLd3 := Ld8.out.cell 3
        have yLd4 := Ld8.out.cell 4
        have yLd5 := Ld8.out.cell 5
        simp only [List.getElem?_toArray, List.getElem?_cons_zero, List.getElem?_cons_succ] at yT0 yT1 yX0 yX1 yM0 yM1 yCa0 yCa1 yCa2 yCb0 yCb1 yCb2 yLa0 yLa1 yLa2 yLa3 yLa4 yLa5 yLb0 yLb1 yLb2 yLb3 yLb4 yLb5 yLc0 yLc1 yLc2 yLc3 yLc4 yLc5 yLd0 yLd1 yLd2 yLd3 yLd4 yLd5
        have yTl := T8.out.lt
        have yXl := X8.out.lt
        have yMl := M8.out.lt
        have yCal := Ca8.out.lt
        have yCbl := Cb8.out.lt
        have yLal := La8.out.lt
        have yLbl := Lb8.out.lt
        have yLcl := Lc8.out.lt
        have yLdl := Ld8.out.lt
        go_wp2_with (go_at_call 14; with_reducible refine (HSan.out _).mono ?_; rintro e u9 ⟨rfl, hb9⟩; have T9 := Lib.hid (T8.out.below hb9); have X9 := Lib.hid (X8.out.below hb9); have O9 := Lib.hid (O8.out.below hb9); have M9 := Lib.hid (M8.out.below hb9); have N9 := Lib.hid (N8.out.below hb9); have Ca9 := Lib.hid (Ca8.out.below hb9); have Cb9 := Lib.hid (Cb8.out.below hb9); have La9 := Lib.hid (La8.out.below hb9); have Lb9 := Lib.hid (Lb8.out.below hb9); have Lc9 := Lib.hid (Lc8.out.below hb9); have Ld9 := Lib.hid (Ld8.out.below hb9); have HB9 := Lib.hid (HB8.out.trans (hb9.mono HB8.out.size)); clear hb9; have y9T0 := T9.out.cell 0; have y9T1 := T9.out.cell 1; have y9X0 := X9.out.cell 0; have y9X1 := X9.out.cell 1; have y9M0 := M9.out.cell 0; have y9M1 := M9.out.cell 1; have y9Ca0 := Ca9.out.cell 0; have y9Ca1 := Ca9.out.cell 1; have y9Ca2 := Ca9.out.cell 2; have y9Cb0 := Cb9.out.cell 0; have y9Cb1 := Cb9.out.cell 1; have y9Cb2 := Cb9.out.cell 2; have y9La0 := La9.out.cell 0; have y9La1 := La9.out.cell 1; have y9La2 := La9.out.cell 2; have y9La3 := La9.out.cell 3; have y9La4 := La9.out.cell 4; have y9La5 := La9.out.cell 5; have y9Lb0 := Lb9.out.cell 0; have y9Lb1 := Lb9.out.cell 1; have y9Lb2 := Lb9.out.cell 2; have y9Lb3 := Lb9.out.cell 3; have y9Lb4 := Lb9.out.cell 4; have y9Lb5 := Lb9.out.cell 5; have y9Lc0 := Lc9.out.cell 0; have y9Lc1 := Lc9.out.cell 1; have y9Lc2 := Lc9.out.cell 2; have y9Lc3 := Lc9.out.cell 3; have y9Lc4 := Lc9.out.cell 4; have y9Lc5 := Lc9.out.cell 5; have y9Ld0 := Ld9.out.cell 0; have y9Ld1 := Ld9.out.cell 1; have y9Ld2 := Ld9.out.cell 2; have y9Ld3 := Ld9.out.cell 3; have y9Ld4 := Ld9.out.cell 4; have y9Ld5 := Ld9.out.cell 5; simp only [List.getElem?_toArray, List.getElem?_cons_zero, List.getElem?_cons_succ] at y9T0 y9T1 y9X0 y9X1 y9M0 y9M1 y9Ca0 y9Ca1 y9Ca2 y9Cb0 y9Cb1 y9Cb2 y9La0 y9La1 y9La2 y9La3 y9La4 y9La5 y9Lb0 y9Lb1 y9Lb2 y9Lb3 y9Lb4 y9Lb5 y9Lc0 y9Lc1 y9Lc2 y9Lc3 y9Lc4 y9Lc5 y9Ld0 y9Ld1 y9Ld2 y9Ld3 y9Ld4 y9Ld5; have y9Tl := T9.out.lt; have y9Xl := X9.out.lt; have y9Ml := M9.out.lt; have y9Cal := Ca9.out.lt; have y9Cbl := Cb9.out.lt; have y9Lal := La9.out.lt; have y9Lbl := Lb9.out.lt; have y9Lcl := Lc9.out.lt; have y9Ldl := Ld9.out.lt)
        exact bodyPost_ret (v := .bool true) (by simp [results, Try.results10, go_sem]) rfl ⟨rfl, HB9.out⟩
    case neg =>
    have ckb : (kind != 1) = true := by simpa using ck
    by_cases c1 : id = ida
    case pos =>
      have c1b : (id == ida) = true := by simpa using c1
      clear c1 ck
      have yT0 := T4.out.cell 0
      have yT1 := T4.out.cell 1
      have yX0 := X4.out.cell 0
      have yX1 := X4.out.cell 1
      have yM0 := M4.out.cell 0
      have yM1 := M4.out.cell 1
      have yCa0 := Ca4.out.cell 0
      have yCa1 := Ca4.out.cell 1
      have yCa2 := Ca4.out.cell 2
      have yCb0 := Cb4.out.cell 0
      have yCb1 := Cb4.out.cell 1
      have yCb2 := Cb4.out.cell 2
      simp only [List.getElem?_toArray, List.getElem?_cons_zero, List.getElem?_cons_succ] at yT0 yT1 yX0 yX1 yM0 yM1 yCa0 yCa1 yCa2 yCb0 yCb1 yCb2
      have yTl := T4.out.lt
      have yXl := X4.out.lt
      have yMl := M4.out.lt
      have yCal := Ca4.out.lt
      have yCbl := Cb4.out.lt
      go_wp2_with (go_at_call 14; with_reducible refine (HSan.out _).mono ?_; rintro e u5 ⟨rfl, hb5⟩; have T5 := Lib.hid (T4.out.below hb5); have X5 := Lib.hid (X4.out.below hb5); have O5 := Lib.hid (O4.out.below hb5); have M5 := Lib.hid (M4.out.below hb5); have N5 := Lib.hid (N4.out.below hb5); have Ca5 := Lib.hid (Ca4.out.below hb5); have Cb5 := Lib.hid (Cb4.out.below hb5); have HB5 := Lib.hid (HB4.out.trans (hb5.mono HB4.out.size)); clear hb5; have y5T0 := T5.out.cell 0; have y5T1 := T5.out.cell 1; have y5X0 := X5.out.cell 0; have y5X1 := X5.out.cell 1; have y5M0 := M5.out.cell 0; have y5M1 := M5.out.cell 1; have y5Ca0 := Ca5.out.cell 0; have y5Ca1 := Ca5.out.cell 1; have y5Ca2 := Ca5.out.cell 2; have y5Cb0 := Cb5.out.cell 0; have y5Cb1 := Cb5.out.cell 1; have y5Cb2 := Cb5.out.cell 2; simp only [List.getElem?_toArray, List.getElem?_cons_zero, List.getElem?_cons_succ] at y5T0 y5T1 y5X0 y5X1 y5M0 y5M1 y5Ca0 y5Ca1 y5Ca2 y5Cb0 y5Cb1 y5Cb2; have y5Tl := T5.out.lt; have y5Xl := X5.out.lt; have y5Ml := M5.out.lt; have y5Cal := Ca5.out.lt; have y5Cbl := Cb5.out.lt)
      exact bodyPost_ret (v := .bool true) (by simp [results, Try.results10, go_sem]) rfl ⟨rfl, HB5.out⟩
    case neg =>
    have c1b : (id == ida) = false := by simpa using c1
    by_cases c2 : id = idb
    case pos =>
      have c2b : (id == idb) = true := by simpa using c2
      clear c1 c2 ck
      have yT0 := T4.out.cell 0
      have yT1 := T4.out.cell 1
      have yX0 := X4.out.cell 0
      have yX1 := X4.out.cell 1
      have yM0 := M4.out.cell 0
      have yM1 := M4.out.cell 1
      have yCa0 := Ca4.out.cell 0
      have yCa1 := Ca4.out.cell 1
      have yCa2 := Ca4.out.cell 2
      have yCb0 := Cb4.out.cell 0
      have yCb1 := Cb4.out.cell 1
      have yCb2 := Cb4.out.cell 2
      simp only [List.getElem?_toArray, List.getElem?_cons_zero, List.getElem?_cons_succ] at yT0 yT1 yX0 yX1 yM0 yM1 yCa0 yCa1 yCa2 yCb0 yCb1 yCb2
      have yTl := T4.out.lt
      have yXl := X4.out.lt
      have yMl := M4.out.lt
      have yCal := Ca4.out.lt
      have yCbl := Cb4.out.lt
      go_wp2_with (go_at_call 14; with_reducible refine (HSan.out _).mono ?_; rintro e u5 ⟨rfl, hb5⟩; have T5 := Lib.hid (T4.out.below hb5); have X5 := Lib.hid (X4.out.below hb5); have O5 := Lib.hid (O4.out.below hb5); have M5 := Lib.hid (M4.out.below hb5); have N5 := Lib.hid (N4.out.below hb5); have Ca5 := Lib.hid (Ca4.out.below hb5); have Cb5 := Lib.hid (Cb4.out.below hb5); have HB5 := Lib.hid (HB4.out.trans (hb5.mono HB4.out.size)); clear hb5; have y5T0 := T5.out.cell 0; have y5T1 := T5.out.cell 1; have y5X0 := X5.out.cell 0; have y5X1 := X5.out.cell 1; have y5M0 := M5.out.cell 0; have y5M1 := M5.out.cell 1; have y5Ca0 := Ca5.out.cell 0; have y5Ca1 := Ca5.out.cell 1; have y5Ca2 := Ca5.out.cell 2; have y5Cb0 := Cb5.out.cell 0; have y5Cb1 := Cb5.out.cell 1; have y5Cb2 := Cb5.out.cell 2; simp only [List.getElem?_toArray, List.getElem?_cons_zero, List.getElem?_cons_succ] at y5T0 y5T1 y5X0 y5X1 y5M0 y5M1 y5Ca0 y5Ca1 y5Ca2 y5Cb0 y5Cb1 y5Cb2; have y5Tl := T5.out.lt; have y5Xl := X5.out.lt; have y5Ml := M5.out.lt; have y5Cal := Ca5.out.lt; have y5Cbl := Cb5.out.lt)
      exact bodyPost_ret (v := .bool true) (by simp [results, Try.results10, go_sem]) rfl ⟨rfl, HB5.out⟩
    case neg =>
      have c2b : (id == idb) = false := by simpa using c2
      have HK := Lib.hid (show kind ≠ 1 → id ≠ ida ∧ id ≠ idb from fun _ => ⟨c1, c2⟩)
      clear c1 c2 ck
      have HAz := Lib.hid (HAs.out.2 kind id HK.out)
      obtain ⟨lo, hlo⟩ : ∃ x, asV hs ms kind id false = x := ⟨_, rfl⟩
      obtain ⟨hi, hhi⟩ : ∃ x, asV hs ms kind id true = x := ⟨_, rfl⟩
      obtain ⟨lo', hlo'⟩ : ∃ x, asV mh mm kind id false = x := ⟨_, rfl⟩
      obtain ⟨hi', hhi'⟩ : ∃ x, asV mh mm kind id true = x := ⟨_, rfl⟩
      obtain ⟨hE, hhE⟩ : ∃ x, asE hs ms kind id = x := ⟨_, rfl⟩
      obtain ⟨jE, hjE⟩ : ∃ x, asE mh mm kind id = x := ⟨_, rfl⟩
      rw [hlo, hhi, hlo', hhi', hhE, hjE] at HAz
      rw [hlo, hhE] at HLt
      rw [hhi, hhE] at HGt
      rw [hlo', hjE] at HLm
      rw [hhi', hjE] at HGm
      clear hlo hhi hlo' hhi' hhE hjE HAs HK
      have yT0 := T4.out.cell 0
      have yT1 := T4.out.cell 1
      have yX0 := X4.out.cell 0
      have yX1 := X4.out.cell 1
      have yM0 := M4.out.cell 0
      have yM1 := M4.out.cell 1
      have yCa0 := Ca4.out.cell 0
      have yCa1 := Ca4.out.cell 1
      have yCa2 := Ca4.out.cell 2
      have yCb0 := Cb4.out.cell 0
      have yCb1 := Cb4.out.cell 1
      have yCb2 := Cb4.out.cell 2
      simp only [List.getElem?_toArray, List.getElem?_cons_zero, List.getElem?_cons_succ] at yT0 yT1 yX0 yX1 yM0 yM1 yCa0 yCa1 yCa2 yCb0 yCb1 yCb2
      have yTl := T4.out.lt
      have yXl := X4.out.lt
      have yMl := M4.out.lt
      have yCal := Ca4.out.lt
      have yCbl := Cb4.out.lt
      have HC := Lib.hid (HLt.out _ O4.out)
      try dsimp only [TR.v, vCt] at HC
      go_upto_region 13 with (go_at_call 16; with_reducible refine HC.out.mono ?_; rintro e u5 ⟨A1, an1, ac1, A2, an2, ac2, A3, an3, ac3, aw, A4, an4, ac4, _, _, _, _, rfl, _, _, _, _, _, _, _, _, hb⟩)
      clear yT0 yT1 yX0 yX1 yM0 yM1 yCa0 yCa1 yCa2 yCb0 yCb1 yCb2 yTl yXl yMl yCal yCbl
      clear HC
      have bn := hb
      have bq : Below u5.heap.size u5 (u5.alloc (.cells #[.int .i64 lo, .slice A1 an1 ac1, .slice A2 an2 ac2, .slice A3 an3 ac3, .int .i64 aw, .slice A4 an4 ac4] 39)) := ((Below.refl u5.heap.size u5).alloc (Nat.le_refl _) _)
      have bn := hb.trans (bq.mono hb.size)
      have T5 := Lib.hid (T4.out.below bn)
      have X5 := Lib.hid (X4.out.below bn)
      have O5 := Lib.hid (O4.out.below bn)
      have M5 := Lib.hid (M4.out.below bn)
      have N5 := Lib.hid (N4.out.below bn)
      have Ca5 := Lib.hid (Ca4.out.below bn)
      have Cb5 := Lib.hid (Cb4.out.below bn)
      have HB5 := Lib.hid (HB4.out.trans (bn.mono HB4.out.size))
      have La5 : Hid (Blk (u5.alloc (.cells #[.int .i64 lo, .slice A1 an1 ac1, .slice A2 an2 ac2, .slice A3 an3 ac3, .int .i64 aw, .slice A4 an4 ac4] 39)) u5.heap.size 39 #[.int .i64 lo, .slice A1 an1 ac1, .slice A2 an2 ac2, .slice A3 an3 ac3, .int .i64 aw, .slice A4 an4 ac4]) := Lib.hid (Blk.at_new 39 #[.int .i64 lo, .slice A1 an1 ac1, .slice A2 an2 ac2, .slice A3 an3 ac3, .int .i64 aw, .slice A4 an4 ac4] rfl)
      generalize hV : u5.alloc (.cells #[.int .i64 lo, .slice A1 an1 ac1, .slice A2 an2 ac2, .slice A3 an3 ac3, .int .i64 aw, .slice A4 an4 ac4] 39) = V5 at *
      generalize hp : u5.heap.size = p5 at *
      clear hV hp bq
      clear hb bn T4 X4 O4 M4 N4 Ca4 Cb4 HB4
      have yT0 := T5.out.cell 0
      have yT1 := T5.out.cell 1
      have yX0 := X5.out.cell 0
      have yX1 := X5.out.cell 1
      have yM0 := M5.out.cell 0
      have yM1 := M5.out.cell 1
      have yCa0 := Ca5.out.cell 0
      have yCa1 := Ca5.out.cell 1
      have yCa2 := Ca5.out.cell 2
      have yCb0 := Cb5.out.cell 0
      have yCb1 := Cb5.out.cell 1
      have yCb2 := Cb5.out.cell 2
      have yLa0 := La5.out.cell 0
      have yLa1 := La5.out.cell 1
      have yLa2 := La5.out.cell 2
      have yLa3 := La5.out.cell 3
      have yLa4 := La5.out.cell 4
      have yLa5 := La5.out.cell 5
      simp only [List.getElem?_toArray, List.getElem?_cons_zero, List.getElem?_cons_succ] at yT0 yT1 yX0 yX1 yM0 yM1 yCa0 yCa1 yCa2 yCb0 yCb1 yCb2 yLa0 yLa1 yLa2 yLa3 yLa4 yLa5
      have yTl := T5.out.lt
      have yXl := X5.out.lt
      have yMl := M5.out.lt
      have yCal := Ca5.out.lt
      have yCbl := Cb5.out.lt
      have yLal := La5.out.lt
      have HC := Lib.hid (HGt.out _ O5.out)
      try dsimp only [TR.v, vCt] at HC
      go_upto_region 14 with (go_at_call 17; with_reducible refine HC.out.mono ?_; rintro e u6 ⟨B1, bn1, bc1, B2, bn2, bc2, B3, bn3, bc3, bw, B4, bn4, bc4, _, _, _, _, rfl, _, _, _, _, _, _, _, _, hb⟩)
      clear yT0 yT1 yX0 yX1 yM0 yM1 yCa0 yCa1 yCa2 yCb0 yCb1 yCb2 yLa0 yLa1 yLa2 yLa3 yLa4 yLa5 yTl yXl yMl yCal yCbl yLal
      clear HC
      have bn := hb
      have bq : Below u6.heap.size u6 (u6.alloc (.cells #[.int .i64 hi, .slice B1 bn1 bc1, .slice B2 bn2 bc2, .slice B3 bn3 bc3, .int .i64 bw, .slice B4 bn4 bc4] 39)) := ((Below.refl u6.heap.size u6).alloc (Nat.le_refl _) _)
      have bn := hb.trans (bq.mono hb.size)
      have T6 := Lib.hid (T5.out.below bn)
      have X6 := Lib.hid (X5.out.below bn)
      have O6 := Lib.hid (O5.out.below bn)
      have M6 := Lib.hid (M5.out.below bn)
      have N6 := Lib.hid (N5.out.below bn)
      have Ca6 := Lib.hid (Ca5.out.below bn)
      have Cb6 := Lib.hid (Cb5.out.below bn)
      have La6 := Lib.hid (La5.out.below bn)
      have HB6 := Lib.hid (HB5.out.trans (bn.mono HB5.out.size))
      have Lb6 : Hid (Blk (u6.alloc (.cells #[.int .i64 hi, .slice B1 bn1 bc1, .slice B2 bn2 bc2, .slice B3 bn3 bc3, .int .i64 bw, .slice B4 bn4 bc4] 39)) u6.heap.size 39 #[.int .i64 hi, .slice B1 bn1 bc1, .slice B2 bn2 bc2, .slice B3 bn3 bc3, .int .i64 bw, .slice B4 bn4 bc4]) := Lib.hid (Blk.at_new 39 #[.int .i64 hi, .slice B1 bn1 bc1, .slice B2 bn2 bc2, .slice B3 bn3 bc3, .int .i64 bw, .slice B4 bn4 bc4] rfl)
      generalize hV : u6.alloc (.cells #[.int .i64 hi, .slice B1 bn1 bc1, .slice B2 bn2 bc2, .slice B3 bn3 bc3, .int .i64 bw, .slice B4 bn4 bc4] 39) = V6 at *
      generalize hp : u6.heap.size = p6 at *
      clear hV hp bq
      clear hb bn T5 X5 O5 M5 N5 Ca5 Cb5 La5 HB5
      have yT0 := T6.out.cell 0
      have yT1 := T6.out.cell 1
      have yX0 := X6.out.cell 0
      have yX1 := X6.out.cell 1
      have yM0 := M6.out.cell 0
      have yM1 := M6.out.cell 1
      have yCa0 := Ca6.out.cell 0
      have yCa1 := Ca6.out.cell 1
      have yCa2 := Ca6.out.cell 2
      have yCb0 := Cb6.out.cell 0
      have yCb1 := Cb6.out.cell 1
      have yCb2 := Cb6.out.cell 2
      have yLa0 := La6.out.cell 0
      have yLa1 := La6.out.cell 1
      have yLa2 := La6.out.cell 2
      have yLa3 := La6.out.cell 3
      have yLa4 := La6.out.cell 4
      have yLa5 := La6.out.cell 5
      have yLb0 := Lb6.out.cell 0
      have yLb1 := Lb6.out.cell 1
      have yLb2 := Lb6.out.cell 2
      have yLb3 := Lb6.out.cell 3
      have yLb4 := Lb6.out.cell 4
      have yLb5 := Lb6.out.cell 5
      simp only [List.getElem?_toArray, List.getElem?_cons_zero, List.getElem?_cons_succ] at yT0 yT1 yX0 yX1 yM0 yM1 yCa0 yCa1 yCa2 yCb0 yCb1 yCb2 yLa0 yLa1 yLa2 yLa3 yLa4 yLa5 yLb0 yLb1 yLb2 yLb3 yLb4 yLb5
      have yTl := T6.out.lt
      have yXl := X6.out.lt
      have yMl := M6.out.lt
      have yCal := Ca6.out.lt
      have yCbl := Cb6.out.lt
      have yLal := La6.out.lt
      have yLbl := Lb6.out.lt
      have HC := Lib.hid (HLm.out _ N6.out)
      try dsimp only [TR.v, vCt] at HC
      go_upto_region 15 with (go_at_call 16; with_reducible refine HC.out.mono ?_; rintro e u7 ⟨F1, fn1, fc1, F2, fn2, fc2, F3, fn3, fc3, fw, F4, fn4, fc4, _, _, _, _, rfl, _, _, _, _, _, _, _, _, hb⟩)
      clear yT0 yT1 yX0 yX1 yM0 yM1 yCa0 yCa1 yCa2 yCb0 yCb1 yCb2 yLa0 yLa1 yLa2 yLa3 yLa4 yLa5 yLb0 yLb1 yLb2 yLb3 yLb4 yLb5 yTl yXl yMl yCal yCbl yLal yLbl
      clear HC
      have bn := hb
      have bq : Below u7.heap.size u7 (u7.alloc (.cells #[.int .i64 lo', .slice F1 fn1 fc1, .slice F2 fn2 fc2, .slice F3 fn3 fc3, .int .i64 fw, .slice F4 fn4 fc4] 39)) := ((Below.refl u7.heap.size u7).alloc (Nat.le_refl _) _)
      have bn := hb.trans (bq.mono hb.size)
      have T7 := Lib.hid (T6.out.below bn)
      have X7 := Lib.hid (X6.out.below bn)
      have O7 := Lib.hid (O6.out.below bn)
      have M7 := Lib.hid (M6.out.below bn)
      have N7 := Lib.hid (N6.out.below bn)
      have Ca7 := Lib.hid (Ca6.out.below bn)
      have Cb7 := Lib.hid (Cb6.out.below bn)
      have La7 := Lib.hid (La6.out.below bn)
      have Lb7 := Lib.hid (Lb6.out.below bn)
      have HB7 := Lib.hid (HB6.out.trans (bn.mono HB6.out.size))
      have Lc7 : Hid (Blk (u7.alloc (.cells #[.int .i64 lo', .slice F1 fn1 fc1, .slice F2 fn2 fc2, .slice F3 fn3 fc3, .int .i64 fw, .slice F4 fn4 fc4] 39)) u7.heap.size 39 #[.int .i64 lo', .slice F1 fn1 fc1, .slice F2 fn2 fc2, .slice F3 fn3 fc3, .int .i64 fw, .slice F4 fn4 fc4]) := Lib.hid (Blk.at_new 39 #[.int .i64 lo', .slice F1 fn1 fc1, .slice F2 fn2 fc2, .slice F3 fn3 fc3, .int .i64 fw, .slice F4 fn4 fc4] rfl)
      generalize hV : u7.alloc (.cells #[.int .i64 lo', .slice F1 fn1 fc1, .slice F2 fn2 fc2, .slice F3 fn3 fc3, .int .i64 fw, .slice F4 fn4 fc4] 39) = V7 at *
      generalize hp : u7.heap.size = p7 at *
      clear hV hp bq
      clear hb bn T6 X6 O6 M6 N6 Ca6 Cb6 La6 Lb6 HB6
      have yT0 := T7.out.cell 0
      have yT1 := T7.out.cell 1
      have yX0 := X7.out.cell 0
      have yX1 := X7.out.cell 1
      have yM0 := M7.out.cell 0
      have yM1 := M7.out.cell 1
      have yCa0 := Ca7.out.cell 0
      have yCa1 := Ca7.out.cell 1
      have yCa2 := Ca7.out.cell 2
      have yCb0 := Cb7.out.cell 0
      have yCb1 := Cb7.out.cell 1
      have yCb2 := Cb7.out.cell 2
      have yLa0 := La7.out.cell 0
      have yLa1 := La7.out.cell 1
      have yLa2 := La7.out.cell 2
      have yLa3 := La7.out.cell 3
      have yLa4 := La7.out.cell 4
      have yLa5 := La7.out.cell 5
      have yLb0 := Lb7.out.cell 0
      have yLb1 := Lb7.out.cell 1
      have yLb2 := Lb7.out.cell 2
      have yLb3 := Lb7.out.cell 3
      have yLb4 := Lb7.out.cell 4
      have yLb5 := Lb7.out.cell 5
      have yLc0 := Lc7.out.cell 0
      have yLc1 := Lc7.out.cell 1
      have yLc2 := Lc7.out.cell 2
      have yLc3 := Lc7.out.cell 3
      have yLc4 := Lc7.out.cell 4
      have yLc5 := Lc7.out.cell 5
      simp only [List.getElem?_toArray, List.getElem?_cons_zero, List.getElem?_cons_succ] at yT0 yT1 yX0 yX1 yM0 yM1 yCa0 yCa1 yCa2 yCb0 yCb1 yCb2 yLa0 yLa1 yLa2 yLa3 yLa4 yLa5 yLb0 yLb1 yLb2 yLb3 yLb4 yLb5 yLc0 yLc1 yLc2 yLc3 yLc4 yLc5
      have yTl := T7.out.lt
      have yXl := X7.out.lt
      have yMl := M7.out.lt
      have yCal := Ca7.out.lt
      have yCbl := Cb7.out.lt
      have yLal := La7.out.lt
      have yLbl := Lb7.out.lt
      have yLcl := Lc7.out.lt
      have HC := Lib.hid (HGm.out _ N7.out)
      try dsimp only [TR.v, vCt] at HC
      go_upto_region 16 with (go_at_call 17; with_reducible refine HC.out.mono ?_; rintro e u8 ⟨G1, gn1, gc1, G2, gn2, gc2, G3, gn3, gc3, gw, G4, gn4, gc4, _, _, _, _, rfl, _, _, _, _, _, _, _, _, hb⟩)
      clear yT0 yT1 yX0 yX1 yM0 yM1 yCa0 yCa1 yCa2 yCb0 yCb1 yCb2 yLa0 yLa1 yLa2 yLa3 yLa4 yLa5 yLb0 yLb1 yLb2 yLb3 yLb4 yLb5 yLc0 yLc1 yLc2 yLc3 yLc4 yLc5 yTl yXl yMl yCal yCbl yLal yLbl yLcl
      clear HC
      have bn := hb
      have bq : Below u8.heap.size u8 (u8.alloc (.cells #[.int .i64 hi', .slice G1 gn1 gc1, .slice G2 gn2 gc2, .slice G3 gn3 gc3, .int .i64 gw, .slice G4 gn4 gc4] 39)) := ((Below.refl u8.heap.size u8).alloc (Nat.le_refl _) _)
      have bn := hb.trans (bq.mono hb.size)
      have T8 := Lib.hid (T7.out.below bn)
      have X8 := Lib.hid (X7.out.below bn)
      have O8 := Lib.hid (O7.out.below bn)
      have M8 := Lib.hid (M7.out.below bn)
      have N8 := Lib.hid (N7.out.below bn)
      have Ca8 := Lib.hid (Ca7.out.below bn)
      have Cb8 := Lib.hid (Cb7.out.below bn)
      have La8 := Lib.hid (La7.out.below bn)
      have Lb8 := Lib.hid (Lb7.out.below bn)
      have Lc8 := Lib.hid (Lc7.out.below bn)
      have HB8 := Lib.hid (HB7.out.trans (bn.mono HB7.out.size))
      have Ld8 : Hid (Blk (u8.alloc (.cells #[.int .i64 hi', .slice G1 gn1 gc1, .slice G2 gn2 gc2, .slice G3 gn3 gc3, .int .i64 gw, .slice G4 gn4 gc4] 39)) u8.heap.size 39 #[.int .i64 hi', .slice G1 gn1 gc1, .slice G2 gn2 gc2, .slice G3 gn3 gc3, .int .i64 gw, .slice G4 gn4 gc4]) := Lib.hid (Blk.at_new 39 #[.int .i64 hi', .slice G1 gn1 gc1, .slice G2 gn2 gc2, .slice G3 gn3 gc3, .int .i64 gw, .slice G4 gn4 gc4] rfl)
      generalize hV : u8.alloc (.cells #[.int .i64 hi', .slice G1 gn1 gc1, .slice G2 gn2 gc2, .slice G3 gn3 gc3, .int .i64 gw, .slice G4 gn4 gc4] 39) = V8 at *
      generalize hp : u8.heap.size = p8 at *
      clear hV hp bq
      clear hb bn T7 X7 O7 M7 N7 Ca7 Cb7 La7 Lb7 Lc7 HB7
      by_cases h1 : hE = 0
      case neg =>
        have h1b : (hE != 0) = true := by simpa using h1
        clear h1
        have yT0 := T8.out.cell 0
        have yT1 := T8.out.cell 1
        have yX0 := X8.out.cell 0
        have yX1 := X8.out.cell 1
        have yM0 := M8.out.cell 0
        have yM1 := M8.out.cell 1
        have yCa0 := Ca8.out.cell 0
        have yCa1 := Ca8.out.cell 1
        have yCa2 := Ca8.out.cell 2
        have yCb0 := Cb8.out.cell 0
        have yCb1 := Cb8.out.cell 1
        have yCb2 := Cb8.out.cell 2
        have yLa0 := La8.out.cell 0
        have yLa1 := La8.out.cell 1
        have yLa2 := La8.out.cell 2
        have yLa3 := La8.out.cell 3
        have yLa4 := La8.out.cell 4
        have yLa5 := La8.out.cell 5
        have yLb0 := Lb8.out.cell 0
        have yLb1 := Lb8.out.cell 1
        have yLb2 := Lb8.out.cell 2
        have yLb3 := Lb8.out.cell 3
        have yLb4 := Lb8.out.cell 4
        have yLb5 := Lb8.out.cell 5
        have yLc0 := Lc8.out.cell 0
        have yLc1 := Lc8.out.cell 1
        have yLc2 := Lc8.out.cell 2
        have yLc3 := Lc8.out.cell 3
        have yLc4 := Lc8.out.cell 4
        have yLc5 := Lc8.out.cell 5
        have yLd0 := Ld8.out.cell 0
        have yLd1 := Ld8.out.cell 1
        have yLd2 := Ld8.out.cell 2
        have yLd3 := Ld8.out.cell 3
        have yLd4 := Ld8.out.cell 4
        have yLd5 := Ld8.out.cell 5
        simp only [List.getElem?_toArray, List.getElem?_cons_zero, List.getElem?_cons_succ] at yT0 yT1 yX0 yX1 yM0 yM1 yCa0 yCa1 yCa2 yCb0 yCb1 yCb2 yLa0 yLa1 yLa2 yLa3 yLa4 yLa5 yLb0 yLb1 yLb2 yLb3 yLb4 yLb5 yLc0 yLc1 yLc2 yLc3 yLc4 yLc5 yLd0 yLd1 yLd2 yLd3 yLd4 yLd5
        have yTl := T8.out.lt
        have yXl := X8.out.lt
        have yMl := M8.out.lt
        have yCal := Ca8.out.lt
        have yCbl := Cb8.out.lt
        have yLal := La8.out.lt
        have yLbl := Lb8.out.lt
        have yLcl := Lc8.out.lt
        have yLdl := Ld8.out.lt
        go_wp2_with (go_at_call 14; with_reducible refine (HSan.out _).mono ?_; rintro e u9 ⟨rfl, hb9⟩; have T9 := Lib.hid (T8.out.below hb9); have X9 := Lib.hid (X8.out.below hb9); have O9 := Lib.hid (O8.out.below hb9); have M9 := Lib.hid (M8.out.below hb9); have N9 := Lib.hid (N8.out.below hb9); have Ca9 := Lib.hid (Ca8.out.below hb9); have Cb9 := Lib.hid (Cb8.out.below hb9); have La9 := Lib.hid (La8.out.below hb9); have Lb9 := Lib.hid (Lb8.out.below hb9); have Lc9 := Lib.hid (Lc8.out.below hb9); have Ld9 := Lib.hid (Ld8.out.below hb9); have HB9 := Lib.hid (HB8.out.trans (hb9.mono HB8.out.size)); clear hb9; have y9T0 := T9.out.cell 0; have y9T1 := T9.out.cell 1; have y9X0 := X9.out.cell 0; have y9X1 := X9.out.cell 1; have y9M0 := M9.out.cell 0; have y9M1 := M9.out.cell 1; have y9Ca0 := Ca9.out.cell 0; have y9Ca1 := Ca9.out.cell 1; have y9Ca2 := Ca9.out.cell 2; have y9Cb0 := Cb9.out.cell 0; have y9Cb1 := Cb9.out.cell 1; have y9Cb2 := Cb9.out.cell 2; have y9La0 := La9.out.cell 0; have y9La1 := La9.out.cell 1; have y9La2 := La9.out.cell 2; have y9La3 := La9.out.cell 3; have y9La4 := La9.out.cell 4; have y9La5 := La9.out.cell 5; have y9Lb0 := Lb9.out.cell 0; have y9Lb1 := Lb9.out.cell 1; have y9Lb2 := Lb9.out.cell 2; have y9Lb3 := Lb9.out.cell 3; have y9Lb4 := Lb9.out.cell 4; have y9Lb5 := Lb9.out.cell 5; have y9Lc0 := Lc9.out.cell 0; have y9Lc1 := Lc9.out.cell 1; have y9Lc2 := Lc9.out.cell 2; have y9Lc3 := Lc9.out.cell 3; have y9Lc4 := Lc9.out.cell 4; have y9Lc5 := Lc9.out.cell 5; have y9Ld0 := Ld9.out.cell 0; have y9Ld1 := Ld9.out.cell 1; have y9Ld2 := Ld9.out.cell 2; have y9Ld3 := Ld9.out.cell 3; have y9Ld4 := Ld9.out.cell 4; have y9Ld5 := Ld9.out.cell 5; simp only [List.getElem?_toArray, List.getElem?_cons_zero, List.getElem?_cons_succ] at y9T0 y9T1 y9X0 y9X1 y9M0 y9M1 y9Ca0 y9Ca1 y9Ca2 y9Cb0 y9Cb1 y9Cb2 y9La0 y9La1 y9La2 y9La3 y9La4 y9La5 y9Lb0 y9Lb1 y9Lb2 y9Lb3 y9Lb4 y9Lb5 y9Lc0 y9Lc1 y9Lc2 y9Lc3 y9Lc4 y9Lc5 y9Ld0 y9Ld1 y9Ld2 y9Ld3 y9Ld4 y9Ld5; have y9Tl := T9.out.lt; have y9Xl := X9.out.lt; have y9Ml := M9.out.lt; have y9Cal := Ca9.out.lt; have y9Cbl := Cb9.out.lt; have y9Lal := La9.out.lt; have y9Lbl := Lb9.out.lt; have y9Lcl := Lc9.out.lt; have y9Ldl := Ld9.out.lt)
        exact bodyPost_ret (v := .bool true) (by simp [results, Try.results10, go_sem]) rfl ⟨rfl, HB9.out⟩
      case pos =>
      have h1b : (hE != 0) = false := by simpa using h1
      have h1c : (hE == 0) = true := by simpa using h1
      by_cases h2 : jE = 5
      case pos =>
        have h2b : (jE == 5) = true := by simpa using h2
        clear h2 h1
        have yT0 := T8.out.cell 0
        have yT1 := T8.out.cell 1
        have yX0 := X8.out.cell 0
        have yX1 := X8.out.cell 1
        have yM0 := M8.out.cell 0
        have yM1 := M8.out.cell 1
        have yCa0 := Ca8.out.cell 0
        have yCa1 := Ca8.out.cell 1
        have yCa2 := Ca8.out.cell 2
        have yCb0 := Cb8.out.cell 0
        have yCb1 := Cb8.out.cell 1
        have yCb2 := Cb8.out.cell 2
        have yLa0 := La8.out.cell 0
        have yLa1 := La8.out.cell 1
        have yLa2 := La8.out.cell 2
        have yLa3 := La8.out.cell 3
        have yLa4 := La8.out.cell 4
        have yLa5 := La8.out.cell 5
        have yLb0 := Lb8.out.cell 0
        have yLb1 := Lb8.out.cell 1
        have yLb2 := Lb8.out.cell 2
        have yLb3 := Lb8.out.cell 3
        have yLb4 := Lb8.out.cell 4
        have yLb5 := Lb8.out.cell 5
        have yLc0 := Lc8.out.cell 0
        have yLc1 := Lc8.out.cell 1
        have yLc2 := Lc8.out.cell 2
        have yLc3 := Lc8.out.cell 3
        have yLc4 := Lc8.out.cell 4
        have yLc5 := Lc8.out.cell 5
        have yLd0 := Ld8.out.cell 0
        have yLd1 := Ld8.out.cell 1
        have yLd2 := Ld8.out.cell 2
        have yLd3 := Ld8.out.cell 3
        have yLd4 := Ld8.out.cell 4
        have yLd5 := Ld8.out.cell 5
        simp only [List.getElem?_toArray, List.getElem?_cons_zero, List.getElem?_cons_succ] at yT0 yT1 yX0 yX1 yM0 yM1 yCa0 yCa1 yCa2 yCb0 yCb1 yCb2 yLa0 yLa1 yLa2 yLa3 yLa4 yLa5 yLb0 yLb1 yLb2 yLb3 yLb4 yLb5 yLc0 yLc1 yLc2 yLc3 yLc4 yLc5 yLd0 yLd1 yLd2 yLd3 yLd4 yLd5
        have yTl := T8.out.lt
        have yXl := X8.out.lt
        have yMl := M8.out.lt
        have yCal := Ca8.out.lt
        have yCbl := Cb8.out.lt
        have yLal := La8.out.lt
        have yLbl := Lb8.out.lt
        have yLcl := Lc8.out.lt
        have yLdl := Ld8.out.lt
        go_wp2_with (go_at_call 14; with_reducible refine (HSan.out _).mono ?_; rintro e u9 ⟨rfl, hb9⟩; have T9 := Lib.hid (T8.out.below hb9); have X9 := Lib.hid (X8.out.below hb9); have O9 := Lib.hid (O8.out.below hb9); have M9 := Lib.hid (M8.out.below hb9); have N9 := Lib.hid (N8.out.below hb9); have Ca9 := Lib.hid (Ca8.out.below hb9); have Cb9 := Lib.hid (Cb8.out.below hb9); have La9 := Lib.hid (La8.out.below hb9); have Lb9 := Lib.hid (Lb8.out.below hb9); have Lc9 := Lib.hid (Lc8.out.below hb9); have Ld9 := Lib.hid (Ld8.out.below hb9); have HB9 := Lib.hid (HB8.out.trans (hb9.mono HB8.out.size)); clear hb9; have y9T0 := T9.out.cell 0; have y9T1 := T9.out.cell 1; have y9X0 := X9.out.cell 0; have y9X1 := X9.out.cell 1; have y9M0 := M9.out.cell 0; have y9M1 := M9.out.cell 1; have y9Ca0 := Ca9.out.cell 0; have y9Ca1 := Ca9.out.cell 1; have y9Ca2 := Ca9.out.cell 2; have y9Cb0 := Cb9.out.cell 0; have y9Cb1 := Cb9.out.cell 1; have y9Cb2 := Cb9.out.cell 2; have y9La0 := La9.out.cell 0; have y9La1 := La9.out.cell 1; have y9La2 := La9.out.cell 2; have y9La3 := La9.out.cell 3; have y9La4 := La9.out.cell 4; have y9La5 := La9.out.cell 5; have y9Lb0 := Lb9.out.cell 0; have y9Lb1 := Lb9.out.cell 1; have y9Lb2 := Lb9.out.cell 2; have y9Lb3 := Lb9.out.cell 3; have y9Lb4 := Lb9.out.cell 4; have y9Lb5 := Lb9.out.cell 5; have y9Lc0 := Lc9.out.cell 0; have y9Lc1 := Lc9.out.cell 1; have y9Lc2 := Lc9.out.cell 2; have y9Lc3 := Lc9.out.cell 3; have y9Lc4 := Lc9.out.cell 4; have y9Lc5 := Lc9.out.cell 5; have y9Ld0 := Ld9.out.cell 0; have y9Ld1 := Ld9.out.cell 1; have y9Ld2 := Ld9.out.cell 2; have y9Ld3 := Ld9.out.cell 3; have y9Ld4 := Ld9.out.cell 4; have y9Ld5 := Ld9.out.cell 5; simp only [List.getElem?_toArray, List.getElem?_cons_zero, List.getElem?_cons_succ] at y9T0 y9T1 y9X0 y9X1 y9M0 y9M1 y9Ca0 y9Ca1 y9Ca2 y9Cb0 y9Cb1 y9Cb2 y9La0 y9La1 y9La2 y9La3 y9La4 y9La5 y9Lb0 y9Lb1 y9Lb2 y9Lb3 y9Lb4 y9Lb5 y9Lc0 y9Lc1 y9Lc2 y9Lc3 y9Lc4 y9Lc5 y9Ld0 y9Ld1 y9Ld2 y9Ld3 y9Ld4 y9Ld5; have y9Tl := T9.out.lt; have y9Xl := X9.out.lt; have y9Ml := M9.out.lt; have y9Cal := Ca9.out.lt; have y9Cbl := Cb9.out.lt; have y9Lal := La9.out.lt; have y9Lbl := Lb9.out.lt; have y9Lcl := Lc9.out.lt; have y9Ldl := Ld9.out.lt)
        exact bodyPost_ret (v := .bool true) (by simp [results, Try.results10, go_sem]) rfl ⟨rfl, HB9.out⟩
      case neg =>
        have h2b : (jE == 5) = false := by simpa using h2
        obtain ⟨h3, h4, h5⟩ := HAz.out h1 h2
        have h3b : (jE == 0) = true := by simpa using h3
        have h4b : decide (lo' ≤ lo) = true := decide_eq_true h4
        have h5b : decide (hi ≤ hi') = true := decide_eq_true h5
        clear h1 h2 h3 h4 h5
        have yT0 := T8.out.cell 0
        have yT1 := T8.out.cell 1
        have yX0 := X8.out.cell 0
        have yX1 := X8.out.cell 1
        have yM0 := M8.out.cell 0
        have yM1 := M8.out.cell 1
        have yCa0 := Ca8.out.cell 0
        have yCa1 := Ca8.out.cell 1
        have yCa2 := Ca8.out.cell 2
        have yCb0 := Cb8.out.cell 0
        have yCb1 := Cb8.out.cell 1
        have yCb2 := Cb8.out.cell 2
        have yLa0 := La8.out.cell 0
        have yLa1 := La8.out.cell 1
        have yLa2 := La8.out.cell 2
        have yLa3 := La8.out.cell 3
        have yLa4 := La8.out.cell 4
        have yLa5 := La8.out.cell 5
        have yLb0 := Lb8.out.cell 0
        have yLb1 := Lb8.out.cell 1
        have yLb2 := Lb8.out.cell 2
        have yLb3 := Lb8.out.cell 3
        have yLb4 := Lb8.out.cell 4
        have yLb5 := Lb8.out.cell 5
        have yLc0 := Lc8.out.cell 0
        have yLc1 := Lc8.out.cell 1
        have yLc2 := Lc8.out.cell 2
        have yLc3 := Lc8.out.cell 3
        have yLc4 := Lc8.out.cell 4
        have yLc5 := Lc8.out.cell 5
        have yLd0 := Ld8.out.cell 0
        have yLd1 := Ld8.out.cell 1
        have yLd2 := Ld8.out.cell 2
        have yLd3 := Ld8.out.cell 3
        have yLd4 := Ld8.out.cell 4
        have yLd5 := Ld8.out.cell 5
        simp only [List.getElem?_toArray, List.getElem?_cons_zero, List.getElem?_cons_succ] at yT0 yT1 yX0 yX1 yM0 yM1 yCa0 yCa1 yCa2 yCb0 yCb1 yCb2 yLa0 yLa1 yLa2 yLa3 yLa4 yLa5 yLb0 yLb1 yLb2 yLb3 yLb4 yLb5 yLc0 yLc1 yLc2 yLc3 yLc4 yLc5 yLd0 yLd1 yLd2 yLd3 yLd4 yLd5
        have yTl := T8.out.lt
        have yXl := X8.out.lt
        have yMl := M8.out.lt
        have yCal := Ca8.out.lt
        have yCbl := Cb8.out.lt
        have yLal := La8.out.lt
        have yLbl := Lb8.out.lt
        have yLcl := Lc8.out.lt
        have yLdl := Ld8.out.lt
        go_wp2_with (go_at_call 14; with_reducible refine (HSan.out _).mono ?_; rintro e u9 ⟨rfl, hb9⟩; have T9 := Lib.hid (T8.out.below hb9); have X9 := Lib.hid (X8.out.below hb9); have O9 := Lib.hid (O8.out.below hb9); have M9 := Lib.hid (M8.out.below hb9); have N9 := Lib.hid (N8.out.below hb9); have Ca9 := Lib.hid (Ca8.out.below hb9); have Cb9 := Lib.hid (Cb8.out.below hb9); have La9 := Lib.hid (La8.out.below hb9); have Lb9 := Lib.hid (Lb8.out.below hb9); have Lc9 := Lib.hid (Lc8.out.below hb9); have Ld9 := Lib.hid (Ld8.out.below hb9); have HB9 := Lib.hid (HB8.out.trans (hb9.mono HB8.out.size)); clear hb9; have y9T0 := T9.out.cell 0; have y9T1 := T9.out.cell 1; have y9X0 := X9.out.cell 0; have y9X1 := X9.out.cell 1; have y9M0 := M9.out.cell 0; have y9M1 := M9.out.cell 1; have y9Ca0 := Ca9.out.cell 0; have y9Ca1 := Ca9.out.cell 1; have y9Ca2 := Ca9.out.cell 2; have y9Cb0 := Cb9.out.cell 0; have y9Cb1 := Cb9.out.cell 1; have y9Cb2 := Cb9.out.cell 2; have y9La0 := La9.out.cell 0; have y9La1 := La9.out.cell 1; have y9La2 := La9.out.cell 2; have y9La3 := La9.out.cell 3; have y9La4 := La9.out.cell 4; have y9La5 := La9.out.cell 5; have y9Lb0 := Lb9.out.cell 0; have y9Lb1 := Lb9.out.cell 1; have y9Lb2 := Lb9.out.cell 2; have y9Lb3 := Lb9.out.cell 3; have y9Lb4 := Lb9.out.cell 4; have y9Lb5 := Lb9.out.cell 5; have y9Lc0 := Lc9.out.cell 0; have y9Lc1 := Lc9.out.cell 1; have y9Lc2 := Lc9.out.cell 2; have y9Lc3 := Lc9.out.cell 3; have y9Lc4 := Lc9.out.cell 4; have y9Lc5 := Lc9.out.cell 5; have y9Ld0 := Ld9.out.cell 0; have y9Ld1 := Ld9.out.cell 1; have y9Ld2 := Ld9.out.cell 2; have y9Ld3 := Ld9.out.cell 3; have y9Ld4 := Ld9.out.cell 4; have y9Ld5 := Ld9.out.cell 5; simp only [List.getElem?_toArray, List.getElem?_cons_zero, List.getElem?_cons_succ] at y9T0 y9T1 y9X0 y9X1 y9M0 y9M1 y9Ca0 y9Ca1 y9Ca2 y9Cb0 y9Cb1 y9Cb2 y9La0 y9La1 y9La2 y9La3 y9La4 y9La5 y9Lb0 y9Lb1 y9Lb2 y9Lb3 y9Lb4 y9Lb5 y9Lc0 y9Lc1 y9Lc2 y9Lc3 y9Lc4 y9Lc5 y9Ld0 y9Ld1 y9Ld2 y9Ld3 y9Ld4 y9Ld5; have y9Tl := T9.out.lt; have y9Xl := X9.out.lt; have y9Ml := M9.out.lt; have y9Cal := Ca9.out.lt; have y9Cbl := Cb9.out.lt; have y9Lal := La9.out.lt; have y9Lbl := Lb9.out.lt; have y9Lcl := Lc9.out.lt; have y9Ldl := Ld9.out.lt)
        exact bodyPost_ret (v := .bool true) (by simp [results, Try.results10, go_sem]) rfl ⟨rfl, HB9.out⟩
  case pos =>
    have hg0 := HAs.out.1 hf
    have hfb : (fE == 0) = true := by simpa using hf
    have hgb : (gE != 0) = false := by simpa using hg0
    clear hf hg0
    by_cases ck : kind = 1
    case pos =>
      have ckb : (kind != 1) = false := by simpa using ck
      have HK := Lib.hid (show kind ≠ 1 → id ≠ ida ∧ id ≠ idb from fun q => absurd ck q)
      clear ck
      have HAz := Lib.hid (HAs.out.2 kind id HK.out)
      obtain ⟨lo, hlo⟩ : ∃ x, asV hs ms kind id false = x := ⟨_, rfl⟩
      obtain ⟨hi, hhi⟩ : ∃ x, asV hs ms kind id true = x := ⟨_, rfl⟩
      obtain ⟨lo', hlo'⟩ : ∃ x, asV mh mm kind id false = x := ⟨_, rfl⟩
      obtain ⟨hi', hhi'⟩ : ∃ x, asV mh mm kind id true = x := ⟨_, rfl⟩
      obtain ⟨hE, hhE⟩ : ∃ x, asE hs ms kind id = x := ⟨_, rfl⟩
      obtain ⟨jE, hjE⟩ : ∃ x, asE mh mm kind id = x := ⟨_, rfl⟩
      rw [hlo, hhi, hlo', hhi', hhE, hjE] at HAz
      rw [hlo, hhE] at HLt
      rw [hhi, hhE] at HGt
      rw [hlo', hjE] at HLm
      rw [hhi', hjE] at HGm
      clear hlo hhi hlo' hhi' hhE hjE HAs HK
      have yT0 := T4.out.cell 0
      have yT1 := T4.out.cell 1
      have yX0 := X4.out.cell 0
      have yX1 := X4.out.cell 1
      have yM0 := M4.out.cell 0
      have yM1 := M4.out.cell 1
      have yCa0 := Ca4.out.cell 0
      have yCa1 := Ca4.out.cell 1
      have yCa2 := Ca4.out.cell 2
      have yCb0 := Cb4.out.cell 0
      have yCb1 := Cb4.out.cell 1
      have yCb2 := Cb4.out.cell 2
      simp only [List.getElem?_toArray, List.getElem?_cons_zero, List.getElem?_cons_succ] at yT0 yT1 yX0 yX1 yM0 yM1 yCa0 yCa1 yCa2 yCb0 yCb1 yCb2
      have yTl := T4.out.lt
      have yXl := X4.out.lt
      have yMl := M4.out.lt
      have yCal := Ca4.out.lt
      have yCbl := Cb4.out.lt
      have HC := Lib.hid (HLt.out _ O4.out)
      try dsimp only [TR.v, vCt] at HC
      go_upto_region 13 with (go_at_call 16; with_reducible refine HC.out.mono ?_; rintro e u5 ⟨A1, an1, ac1, A2, an2, ac2, A3, an3, ac3, aw, A4, an4, ac4, _, _, _, _, rfl, _, _, _, _, _, _, _, _, hb⟩)
      clear yT0 yT1 yX0 yX1 yM0 yM1 yCa0 yCa1 yCa2 yCb0 yCb1 yCb2 yTl yXl yMl yCal yCbl
      clear HC
      have bn := hb
      have bq : Below u5.heap.size u5 (u5.alloc (.cells #[.int .i64 lo, .slice A1 an1 ac1, .slice A2 an2 ac2, .slice A3 an3 ac3, .int .i64 aw, .slice A4 an4 ac4] 39)) := ((Below.refl u5.heap.size u5).alloc (Nat.le_refl _) _)
      have bn := hb.trans (bq.mono hb.size)
      have T5 := Lib.hid (T4.out.below bn)
      have X5 := Lib.hid (X4.out.below bn)
      have O5 := Lib.hid (O4.out.below bn)
      have M5 := Lib.hid (M4.out.below bn)
      have N5 := Lib.hid (N4.out.below bn)
      have Ca5 := Lib.hid (Ca4.out.below bn)
      have Cb5 := Lib.hid (Cb4.out.below bn)
      have HB5 := Lib.hid (HB4.out.trans (bn.mono HB4.out.size))
      have La5 : Hid (Blk (u5.alloc (.cells #[.int .i64 lo, .slice A1 an1 ac1, .slice A2 an2 ac2, .slice A3 an3 ac3, .int .i64 aw, .slice A4 an4 ac4] 39)) u5.heap.size 39 #[.int .i64 lo, .slice A1 an1 ac1, .slice A2 an2 ac2, .slice A3 an3 ac3, .int .i64 aw, .slice A4 an4 ac4]) := Lib.hid (Blk.at_new 39 #[.int .i64 lo, .slice A1 an1 ac1, .slice A2 an2 ac2, .slice A3 an3 ac3, .int .i64 aw, .slice A4 an4 ac4] rfl)
      generalize hV : u5.alloc (.cells #[.int .i64 lo, .slice A1 an1 ac1, .slice A2 an2 ac2, .slice A3 an3 ac3, .int .i64 aw, .slice A4 an4 ac4] 39) = V5 at *
      generalize hp : u5.heap.size = p5 at *
      clear hV hp bq
      clear hb bn T4 X4 O4 M4 N4 Ca4 Cb4 HB4
      have yT0 := T5.out.cell 0
      have yT1 := T5.out.cell 1
      have yX0 := X5.out.cell 0
      have yX1 := X5.out.cell 1
      have yM0 := M5.out.cell 0
      have yM1 := M5.out.cell 1
      have yCa0 := Ca5.out.cell 0
      have yCa1 := Ca5.out.cell 1
      have yCa2 := Ca5.out.cell 2
      have yCb0 := Cb5.out.cell 0
      have yCb1 := Cb5.out.cell 1
      have yCb2 := Cb5.out.cell 2
      have yLa0 := La5.out.cell 0
      have yLa1 := La5.out.cell 1
      have yLa2 := La5.out.cell 2
      have yLa3 := La5.out.cell 3
      have yLa4 := La5.out.cell 4
      have yLa5 := La5.out.cell 5
      simp only [List.getElem?_toArray, List.getElem?_cons_zero, List.getElem?_cons_succ] at yT0 yT1 yX0 yX1 yM0 yM1 yCa0 yCa1 yCa2 yCb0 yCb1 yCb2 yLa0 yLa1 yLa2 yLa3 yLa4 yLa5
      have yTl := T5.out.lt
      have yXl := X5.out.lt
      have yMl := M5.out.lt
      have yCal := Ca5.out.lt
      have yCbl := Cb5.out.lt
      have yLal := La5.out.lt
      have HC := Lib.hid (HGt.out _ O5.out)
      try dsimp only [TR.v, vCt] at HC
      go_upto_region 14 with (go_at_call 17; with_reducible refine HC.out.mono ?_; rintro e u6 ⟨B1, bn1, bc1, B2, bn2, bc2, B3, bn3, bc3, bw, B4, bn4, bc4, _, _, _, _, rfl, _, _, _, _, _, _, _, _, hb⟩)
      clear yT0 yT1 yX0 yX1 yM0 yM1 yCa0 yCa1 yCa2 yCb0 yCb1 yCb2 yLa0 yLa1 yLa2 yLa3 yLa4 yLa5 yTl yXl yMl yCal yCbl yLal
      clear HC
      have bn := hb
      have bq : Below u6.heap.size u6 (u6.alloc (.cells #[.int .i64 hi, .slice B1 bn1 bc1, .slice B2 bn2 bc2, .slice B3 bn3 bc3, .int .i64 bw, .slice B4 bn4 bc4] 39)) := ((Below.refl u6.heap.size u6).alloc (Nat.le_refl _) _)
      have bn := hb.trans (bq.mono hb.size)
      have T6 := Lib.hid (T5.out.below bn)
      have X6 := Lib.hid (X5.out.below bn)
      have O6 := Lib.hid (O5.out.below bn)
      have M6 := Lib.hid (M5.out.below bn)
      have N6 := Lib.hid (N5.out.below bn)
      have Ca6 := Lib.hid (Ca5.out.below bn)
      have Cb6 := Lib.hid (Cb5.out.below bn)
      have La6 := Lib.hid (La5.out.below bn)
      have HB6 := Lib.hid (HB5.out.trans (bn.mono HB5.out.size))
      have Lb6 : Hid (Blk (u6.alloc (.cells #[.int .i64 hi, .slice B1 bn1 bc1, .slice B2 bn2 bc2, .slice B3 bn3 bc3, .int .i64 bw, .slice B4 bn4 bc4] 39)) u6.heap.size 39 #[.int .i64 hi, .slice B1 bn1 bc1, .slice B2 bn2 bc2, .slice B3 bn3 bc3, .int .i64 bw, .slice B4 bn4 bc4]) := Lib.hid (Blk.at_new 39 #[.int .i64 hi, .slice B1 bn1 bc1, .slice B2 bn2 bc2, .slice B3 bn3 bc3, .int .i64 bw, .slice B4 bn4 bc4] rfl)
      generalize hV : u6.alloc (.cells #[.int .i64 hi, .slice B1 bn1 bc1, .slice B2 bn2 bc2, .slice B3 bn3 bc3, .int .i64 bw, .slice B4 bn4 bc4] 39) = V6 at *
      generalize hp : u6.heap.size = p6 at *
      clear hV hp bq
      clear hb bn T5 X5 O5 M5 N5 Ca5 Cb5 La5 HB5
      have yT0 := T6.out.cell 0
      have yT1 := T6.out.cell 1
      have yX0 := X6.out.cell 0
      have yX1 := X6.out.cell 1
      have yM0 := M6.out.cell 0
      have yM1 := M6.out.cell 1
      have yCa0 := Ca6.out.cell 0
      have yCa1 := Ca6.out.cell 1
      have yCa2 := Ca6.out.cell 2
      have yCb0 := Cb6.out.cell 0
      have yCb1 := Cb6.out.cell 1
      have yCb2 := Cb6.out.cell 2
      have yLa0 := La6.out.cell 0
      have yLa1 := La6.out.cell 1
      have yLa2 := La6.out.cell 2
      have yLa3 := La6.out.cell 3
      have yLa4 := La6.out.cell 4
      have yLa5 := La6.out.cell 5
      have yLb0 := Lb6.out.cell 0
      have yLb1 := Lb6.out.cell 1
      have yLb2 := Lb6.out.cell 2
      have yLb3 := Lb6.out.cell 3
      have yLb4 := Lb6.out.cell 4
      have yLb5 := Lb6.out.cell 5
      simp only [List.getElem?_toArray, List.getElem?_cons_zero, List.getElem?_cons_succ] at yT0 yT1 yX0 yX1 yM0 yM1 yCa0 yCa1 yCa2 yCb0 yCb1 yCb2 yLa0 yLa1 yLa2 yLa3 yLa4 yLa5 yLb0 yLb1 yLb2 yLb3 yLb4 yLb5
      have yTl := T6.out.lt
      have yXl := X6.out.lt
      have yMl := M6.out.lt
      have yCal := Ca6.out.lt
      have yCbl := Cb6.out.lt
      have yLal := La6.out.lt
      have yLbl := Lb6.out.lt
      have HC := Lib.hid (HLm.out _ N6.out)
      try dsimp only [TR.v, vCt] at HC
      go_upto_region 15 with (go_at_call 16; with_reducible refine HC.out.mono ?_; rintro e u7 ⟨F1, fn1, fc1, F2, fn2, fc2, F3, fn3, fc3, fw, F4, fn4, fc4, _, _, _, _, rfl, _, _, _, _, _, _, _, _, hb⟩)
      clear yT0 yT1 yX0 yX1 yM0 yM1 yCa0 yCa1 yCa2 yCb0 yCb1 yCb2 yLa0 yLa1 yLa2 yLa3 yLa4 yLa5 yLb0 yLb1 yLb2 yLb3 yLb4 yLb5 yTl yXl yMl yCal yCbl yLal yLbl
      clear HC
      have bn := hb
      have bq : Below u7.heap.size u7 (u7.alloc (.cells #[.int .i64 lo', .slice F1 fn1 fc1, .slice F2 fn2 fc2, .slice F3 fn3 fc3, .int .i64 fw, .slice F4 fn4 fc4] 39)) := ((Below.refl u7.heap.size u7).alloc (Nat.le_refl _) _)
      have bn := hb.trans (bq.mono hb.size)
      have T7 := Lib.hid (T6.out.below bn)
      have X7 := Lib.hid (X6.out.below bn)
      have O7 := Lib.hid (O6.out.below bn)
      have M7 := Lib.hid (M6.out.below bn)
      have N7 := Lib.hid (N6.out.below bn)
      have Ca7 := Lib.hid (Ca6.out.below bn)
      have Cb7 := Lib.hid (Cb6.out.below bn)
      have La7 := Lib.hid (La6.out.below bn)
      have Lb7 := Lib.hid (Lb6.out.below bn)
      have HB7 := Lib.hid (HB6.out.trans (bn.mono HB6.out.size))
      have Lc7 : Hid (Blk (u7.alloc (.cells #[.int .i64 lo', .slice F1 fn1 fc1, .slice F2 fn2 fc2, .slice F3 fn3 fc3, .int .i64 fw, .slice F4 fn4 fc4] 39)) u7.heap.size 39 #[.int .i64 lo', .slice F1 fn1 fc1, .slice F2 fn2 fc2, .slice F3 fn3 fc3, .int .i64 fw, .slice F4 fn4 fc4]) := Lib.hid (Blk.at_new 39 #[.int .i64 lo', .slice F1 fn1 fc1, .slice F2 fn2 fc2, .slice F3 fn3 fc3, .int .i64 fw, .slice F4 fn4 fc4] rfl)
      generalize hV : u7.alloc (.cells #[.int .i64 lo', .slice F1 fn1 fc1, .slice F2 fn2 fc2, .slice F3 fn3 fc3, .int .i64 fw, .slice F4 fn4 fc4] 39) = V7 at *
      generalize hp : u7.heap.size = p7 at *
      clear hV hp bq
      clear hb bn T6 X6 O6 M6 N6 Ca6 Cb6 La6 Lb6 HB6
      have yT0 := T7.out.cell 0
      have yT1 := T7.out.cell 1
      have yX0 := X7.out.cell 0
      have yX1 := X7.out.cell 1
      have yM0 := M7.out.cell 0
      have yM1 := M7.out.cell 1
      have yCa0 := Ca7.out.cell 0
      have yCa1 := Ca7.out.cell 1
      have yCa2 := Ca7.out.cell 2
      have yCb0 := Cb7.out.cell 0
      have yCb1 := Cb7.out.cell 1
      have yCb2 := Cb7.out.cell 2
      have yLa0 := La7.out.cell 0
      have yLa1 := La7.out.cell 1
      have yLa2 := La7.out.cell 2
      have yLa3 := La7.out.cell 3
      have yLa4 := La7.out.cell 4
      have yLa5 := La7.out.cell 5
      have yLb0 := Lb7.out.cell 0
      have yLb1 := Lb7.out.cell 1
      have yLb2 := Lb7.out.cell 2
      have yLb3 := Lb7.out.cell 3
      have yLb4 := Lb7.out.cell 4
      have yLb5 := Lb7.out.cell 5
      have yLc0 := Lc7.out.cell 0
      have yLc1 := Lc7.out.cell 1
      have yLc2 := Lc7.out.cell 2
      have yLc3 := Lc7.out.cell 3
      have yLc4 := Lc7.out.cell 4
      have yLc5 := Lc7.out.cell 5
      simp only [List.getElem?_toArray, List.getElem?_cons_zero, List.getElem?_cons_succ] at yT0 yT1 yX0 yX1 yM0 yM1 yCa0 yCa1 yCa2 yCb0 yCb1 yCb2 yLa0 yLa1 yLa2 yLa3 yLa4 yLa5 yLb0 yLb1 yLb2 yLb3 yLb4 yLb5 yLc0 yLc1 yLc2 yLc3 yLc4 yLc5
      have yTl := T7.out.lt
      have yXl := X7.out.lt
      have yMl := M7.out.lt
      have yCal := Ca7.out.lt
      have yCbl := Cb7.out.lt
      have yLal := La7.out.lt
      have yLbl := Lb7.out.lt
      have yLcl := Lc7.out.lt
      have HC := Lib.hid (HGm.out _ N7.out)
      try dsimp only [TR.v, vCt] at HC
      go_upto_region 16 with (go_at_call 17; with_reducible refine HC.out.mono ?_; rintro e u8 ⟨G1, gn1, gc1, G2, gn2, gc2, G3, gn3, gc3, gw, G4, gn4, gc4, _, _, _, _, rfl, _, _, _, _, _, _, _, _, hb⟩)
      clear yT0 yT1 yX0 yX1 yM0 yM1 yCa0 yCa1 yCa2 yCb0 yCb1 yCb2 yLa0 yLa1 yLa2 yLa3 yLa4 yLa5 yLb0 yLb1 yLb2 yLb3 yLb4 yLb5 yLc0 yLc1 yLc2 yLc3 yLc4 yLc5 yTl yXl yMl yCal yCbl yLal yLbl yLcl
      clear HC
      have bn := hb
      have bq : Below u8.heap.size u8 (u8.alloc (.cells #[.int .i64 hi', .slice G1 gn1 gc1, .slice G2 gn2 gc2, .slice G3 gn3 gc3, .int .i64 gw, .slice G4 gn4 gc4] 39)) := ((Below.refl u8.heap.size u8).alloc (Nat.le_refl _) _)
      have bn := hb.trans (bq.mono hb.size)
      have T8 := Lib.hid (T7.out.below bn)
      have X8 := Lib.hid (X7.out.below bn)
      have O8 := Lib.hid (O7.out.below bn)
      have M8 := Lib.hid (M7.out.below bn)
      have N8 := Lib.hid (N7.out.below bn)
      have Ca8 := Lib.hid (Ca7.out.below bn)
      have Cb8 := Lib.hid (Cb7.out.below bn)
      have La8 := Lib.hid (La7.out.below bn)
      have Lb8 := Lib.hid (Lb7.out.below bn)
      have Lc8 := Lib.hid (Lc7.out.below bn)
      have HB8 := Lib.hid (HB7.out.trans (bn.mono HB7.out.size))
      have Ld8 : Hid (Blk (u8.alloc (.cells #[.int .i64 hi', .slice G1 gn1 gc1, .slice G2 gn2 gc2, .slice G3 gn3 gc3, .int .i64 gw, .slice G4 gn4 gc4] 39)) u8.heap.size 39 #[.int .i64 hi', .slice G1 gn1 gc1, .slice G2 gn2 gc2, .slice G3 gn3 gc3, .int .i64 gw, .slice G4 gn4 gc4]) := Lib.hid (Blk.at_new 39 #[.int .i64 hi', .slice G1 gn1 gc1, .slice G2 gn2 gc2, .slice G3 gn3 gc3, .int .i64 gw, .slice G4 gn4 gc4] rfl)
      generalize hV : u8.alloc (.cells #[.int .i64 hi', .slice G1 gn1 gc1, .slice G2 gn2 gc2, .slice G3 gn3 gc3, .int .i64 gw, .slice G4 gn4 gc4] 39) = V8 at *
      generalize hp : u8.heap.size = p8 at *
      clear hV hp bq
      clear hb bn T7 X7 O7 M7 N7 Ca7 Cb7 La7 Lb7 Lc7 HB7
      by_cases h1 : hE = 0
      case neg =>
        have h1b : (hE != 0) = true := by simpa using h1
        clear h1
        have yT0 := T8.out.cell 0
        have yT1 := T8.out.cell 1
        have yX0 := X8.out.cell 0
        have yX1 := X8.out.cell 1
        have yM0 := M8.out.cell 0
        have yM1 := M8.out.cell 1
        have yCa0 := Ca8.out.cell 0
        have yCa1 := Ca8.out.cell 1
        have yCa2 := Ca8.out.cell 2
        have yCb0 := Cb8.out.cell 0
        have yCb1 := Cb8.out.cell 1
        have yCb2 := Cb8.out.cell 2
        have yLa0 := La8.out.cell 0
        have yLa1 := La8.out.cell 1
        have yLa2 := La8.out.cell 2
        have yLa3 := La8.out.cell 3
        have yLa4 := La8.out.cell 4
        have yLa5 := La8.out.cell 5
        have yLb0 := Lb8.out.cell 0
        have yLb1 := Lb8.out.cell 1
        have yLb2 := Lb8.out.cell 2
        have yLb3 := Lb8.out.cell 3
        have yLb4 := Lb8.out.cell 4
        have yLb5 := Lb8.out.cell 5
        have yLc0 := Lc8.out.cell 0
        have yLc1 := Lc8.out.cell 1
        have yLc2 := Lc8.out.cell 2
        have yLc3 := Lc8.out.cell 3
        have yLc4 := Lc8.out.cell 4
        have yLc5 := Lc8.out.cell 5
        have yLd0 := Ld8.out.cell 0
        have yLd1 := Ld8.out.cell 1
        have yLd2 := Ld8.out.cell 2
        have yLd3 := Ld8.out.cell 3
        have yLd4 := Ld8.out.cell 4
        have yLd5 := Ld8.out.cell 5
        simp only [List.getElem?_toArray, List.getElem?_cons_zero, List.getElem?_cons_succ] at yT0 yT1 yX0 yX1 yM0 yM1 yCa0 yCa1 yCa2 yCb0 yCb1 yCb2 yLa0 yLa1 yLa2 yLa3 yLa4 yLa5 yLb0 yLb1 yLb2 yLb3 yLb4 yLb5 yLc0 yLc1 yLc2 yLc3 yLc4 yLc5 yLd0 yLd1 yLd2 yLd3 yLd4 yLd5
        have yTl := T8.out.lt
        have yXl := X8.out.lt
        have yMl := M8.out.lt
        have yCal := Ca8.out.lt
        have yCbl := Cb8.out.lt
        have yLal := La8.out.lt
        have yLbl := Lb8.out.lt
        have yLcl := Lc8.out.lt
        have yLdl := Ld8.out.lt
        go_wp2_with (go_at_call 14; with_reducible refine (HSan.out _).mono ?_; rintro e u9 ⟨rfl, hb9⟩; have T9 := Lib.hid (T8.out.below hb9); have X9 := Lib.hid (X8.out.below hb9); have O9 := Lib.hid (O8.out.below hb9); have M9 := Lib.hid (M8.out.below hb9); have N9 := Lib.hid (N8.out.below hb9); have Ca9 := Lib.hid (Ca8.out.below hb9); have Cb9 := Lib.hid (Cb8.out.below hb9); have La9 := Lib.hid (La8.out.below hb9); have Lb9 := Lib.hid (Lb8.out.below hb9); have Lc9 := Lib.hid (Lc8.out.below hb9); have Ld9 := Lib.hid (Ld8.out.below hb9); have HB9 := Lib.hid (HB8.out.trans (hb9.mono HB8.out.size)); clear hb9; have y9T0 := T9.out.cell 0; have y9T1 := T9.out.cell 1; have y9X0 := X9.out.cell 0; have y9X1 := X9.out.cell 1; have y9M0 := M9.out.cell 0; have y9M1 := M9.out.cell 1; have y9Ca0 := Ca9.out.cell 0; have y9Ca1 := Ca9.out.cell 1; have y9Ca2 := Ca9.out.cell 2; have y9Cb0 := Cb9.out.cell 0; have y9Cb1 := Cb9.out.cell 1; have y9Cb2 := Cb9.out.cell 2; have y9La0 := La9.out.cell 0; have y9La1 := La9.out.cell 1; have y9La2 := La9.out.cell 2; have y9La3 := La9.out.cell 3; have y9La4 := La9.out.cell 4; have y9La5 := La9.out.cell 5; have y9Lb0 := Lb9.out.cell 0; have y9Lb1 := Lb9.out.cell 1; have y9Lb2 := Lb9.out.cell 2; have y9Lb3 := Lb9.out.cell 3; have y9Lb4 := Lb9.out.cell 4; have y9Lb5 := Lb9.out.cell 5; have y9Lc0 := Lc9.out.cell 0; have y9Lc1 := Lc9.out.cell 1; have y9Lc2 := Lc9.out.cell 2; have y9Lc3 := Lc9.out.cell 3; have y9Lc4 := Lc9.out.cell 4; have y9Lc5 := Lc9.out.cell 5; have y9Ld0 := Ld9.out.cell 0; have y9Ld1 := Ld9.out.cell 1; have y9Ld2 := Ld9.out.cell 2; have y9Ld3 := Ld9.out.cell 3; have y9Ld4 := Ld9.out.cell 4; have y9Ld5 := Ld9.out.cell 5; simp only [List.getElem?_toArray, List.getElem?_cons_zero, List.getElem?_cons_succ] at y9T0 y9T1 y9X0 y9X1 y9M0 y9M1 y9Ca0 y9Ca1 y9Ca2 y9Cb0 y9Cb1 y9Cb2 y9La0 y9La1 y9La2 y9La3 y9La4 y9La5 y9Lb0 y9Lb1 y9Lb2 y9Lb3 y9Lb4 y9Lb5 y9Lc0 y9Lc1 y9Lc2 y9Lc3 y9Lc4 y9Lc5 y9Ld0 y9Ld1 y9Ld2 y9Ld3 y9Ld4 y9Ld5; have y9Tl := T9.out.lt; have y9Xl := X9.out.lt; have y9Ml := M9.out.lt; have y9Cal := Ca9.out.lt; have y9Cbl := Cb9.out.lt; have y9Lal := La9.out.lt; have y9Lbl := Lb9.out.lt; have y9Lcl := Lc9.out.lt; have y9Ldl := Ld9.out.lt)
        exact bodyPost_ret (v := .bool true) (by simp [results, Try.results10, go_sem]) rfl ⟨rfl, HB9.out⟩
      case pos =>
      have h1b : (hE != 0) = false := by simpa using h1
      have h1c : (hE == 0) = true := by simpa using h1
      by_cases h2 : jE = 5
      case pos =>
        have h2b : (jE == 5) = true := by simpa using h2
        clear h2 h1
        have yT0 := T8.out.cell 0
        have yT1 := T8.out.cell 1
        have yX0 := X8.out.cell 0
        have yX1 := X8.out.cell 1
        have yM0 := M8.out.cell 0
        have yM1 := M8.out.cell 1
        have yCa0 := Ca8.out.cell 0
        have yCa1 := Ca8.out.cell 1
        have yCa2 := Ca8.out.cell 2
        have yCb0 := Cb8.out.cell 0
        have yCb1 := Cb8.out.cell 1
        have yCb2 := Cb8.out.cell 2
        have yLa0 := La8.out.cell 0
        have yLa1 := La8.out.cell 1
        have yLa2 := La8.out.cell 2
        have yLa3 := La8.out.cell 3
        have yLa4 := La8.out.cell 4
        have yLa5 := La8.out.cell 5
        have yLb0 := Lb8.out.cell 0
        have yLb1 := Lb8.out.cell 1
        have yLb2 := Lb8.out.cell 2
        have yLb3 := Lb8.out.cell 3
        have yLb4 := Lb8.out.cell 4
        have yLb5 := Lb8.out.cell 5
        have yLc0 := Lc8.out.cell 0
        have yLc1 := Lc8.out.cell 1
        have yLc2 := Lc8.out.cell 2
        have yLc3 := Lc8.out.cell 3
        have yLc4 := Lc8.out.cell 4
        have yLc5 := Lc8.out.cell 5
        have yLd0 := Ld8.out.cell 0
        have yLd1 := Ld8.out.cell 1
        have yLd2 := Ld8.out.cell 2
        have yLd3 := Ld8.out.cell 3
        have yLd4 := Ld8.out.cell 4
        have yLd5 := Ld8.out.cell 5
        simp only [List.getElem?_toArray, List.getElem?_cons_zero, List.getElem?_cons_succ] at yT0 yT1 yX0 yX1 yM0 yM1 yCa0 yCa1 yCa2 yCb0 yCb1 yCb2 yLa0 yLa1 yLa2 yLa3 yLa4 yLa5 yLb0 yLb1 yLb2 yLb3 yLb4 yLb5 yLc0 yLc1 yLc2 yLc3 yLc4 yLc5 yLd0 yLd1 yLd2 yLd3 yLd4 yLd5
        have yTl := T8.out.lt
        have yXl := X8.out.lt
        have yMl := M8.out.lt
        have yCal := Ca8.out.lt
        have yCbl := Cb8.out.lt
        have yLal := La8.out.lt
        have yLbl := Lb8.out.lt
        have yLcl := Lc8.out.lt
        have yLdl := Ld8.out.lt
        go_wp2_with (go_at_call 14; with_reducible refine (HSan.out _).mono ?_; rintro e u9 ⟨rfl, hb9⟩; have T9 := Lib.hid (T8.out.below hb9); have X9 := Lib.hid (X8.out.below hb9); have O9 := Lib.hid (O8.out.below hb9); have M9 := Lib.hid (M8.out.below hb9); have N9 := Lib.hid (N8.out.below hb9); have Ca9 := Lib.hid (Ca8.out.below hb9); have Cb9 := Lib.hid (Cb8.out.below hb9); have La9 := Lib.hid (La8.out.below hb9); have Lb9 := Lib.hid (Lb8.out.below hb9); have Lc9 := Lib.hid (Lc8.out.below hb9); have Ld9 := Lib.hid (Ld8.out.below hb9); have HB9 := Lib.hid (HB8.out.trans (hb9.mono HB8.out.size)); clear hb9; have y9T0 := T9.out.cell 0; have y9T1 := T9.out.cell 1; have y9X0 := X9.out.cell 0; have y9X1 := X9.out.cell 1; have y9M0 := M9.out.cell 0; have y9M1 := M9.out.cell 1; have y9Ca0 := Ca9.out.cell 0; have y9Ca1 := Ca9.out.cell 1; have y9Ca2 := Ca9.out.cell 2; have y9Cb0 := Cb9.out.cell 0; have y9Cb1 := Cb9.out.cell 1; have y9Cb2 := Cb9.out.cell 2; have y9La0 := La9.out.cell 0; have y9La1 := La9.out.cell 1; have y9La2 := La9.out.cell 2; have y9La3 := La9.out.cell 3; have y9La4 := La9.out.cell 4; have y9La5 := La9.out.cell 5; have y9Lb0 := Lb9.out.cell 0; have y9Lb1 := Lb9.out.cell 1; have y9Lb2 := Lb9.out.cell 2; have y9Lb3 := Lb9.out.cell 3; have y9Lb4 := Lb9.out.cell 4; have y9Lb5 := Lb9.out.cell 5; have y9Lc0 := Lc9.out.cell 0; have y9Lc1 := Lc9.out.cell 1; have y9Lc2 := Lc9.out.cell 2; have y9Lc3 := Lc9.out.cell 3; have y9Lc4 := Lc9.out.cell 4; have y9Lc5 := Lc9.out.cell 5; have y9Ld0 := Ld9.out.cell 0; have y9Ld1 := Ld9.out.cell 1; have y9Ld2 := Ld9.out.cell 2; have y9Ld3 := Ld9.out.cell 3; have y9Ld4 := Ld9.out.cell 4; have y9Ld5 := Ld9.out.cell 5; simp only [List.getElem?_toArray, List.getElem?_cons_zero, List.getElem?_cons_succ] at y9T0 y9T1 y9X0 y9X1 y9M0 y9M1 y9Ca0 y9Ca1 y9Ca2 y9Cb0 y9Cb1 y9Cb2 y9La0 y9La1 y9La2 y9La3 y9La4 y9La5 y9Lb0 y9Lb1 y9Lb2 y9Lb3 y9Lb4 y9Lb5 y9Lc0 y9Lc1 y9Lc2 y9Lc3 y9Lc4 y9Lc5 y9Ld0 y9Ld1 y9Ld2 y9Ld3 y9Ld4 y9Ld5; have y9Tl := T9.out.lt; have y9Xl := X9.out.lt; have y9Ml := M9.out.lt; have y9Cal := Ca9.out.lt; have y9Cbl := Cb9.out.lt; have y9Lal := La9.out.lt; have y9Lbl := Lb9.out.lt; have y9Lcl := Lc9.out.lt; have y9Ldl := Ld9.out.lt)
        exact bodyPost_ret (v := .bool true) (by simp [results, Try.results10, go_sem]) rfl ⟨rfl, HB9.out⟩
      case neg =>
        have h2b : (jE == 5) = false := by simpa using h2
        obtain ⟨h3, h4, h5⟩ := HAz.out h1 h2
        have h3b : (jE == 0) = true := by simpa using h3
        have h4b : decide (lo' ≤ lo) = true := decide_eq_true h4
        have h5b : decide (hi ≤ hi') = true := decide_eq_true h5
        clear h1 h2 h3 h4 h5
        have yT0 := T8.out.cell 0
        have yT1 := T8.out.cell 1
        have yX0 := X8.out.cell 0
        have yX1 := X8.out.cell 1
        have yM0 := M8.out.cell 0
        have yM1 := M8.out.cell 1
        have yCa0 := Ca8.out.cell 0
        have yCa1 := Ca8.out.cell 1
        have yCa2 := Ca8.out.cell 2
        have yCb0 := Cb8.out.cell 0
        have yCb1 := Cb8.out.cell 1
        have yCb2 := Cb8.out.cell 2
        have yLa0 := La8.out.cell 0
        have yLa1 := La8.out.cell 1
        have yLa2 := La8.out.cell 2
        have yLa3 := La8.out.cell 3
        have yLa4 := La8.out.cell 4
        have yLa5 := La8.out.cell 5
        have yLb0 := Lb8.out.cell 0
        have yLb1 := Lb8.out.cell 1
        have yLb2 := Lb8.out.cell 2
        have yLb3 := Lb8.out.cell 3
        have yLb4 := Lb8.out.cell 4
        have yLb5 := Lb8.out.cell 5
        have yLc0 := Lc8.out.cell 0
        have yLc1 := Lc8.out.cell 1
        have yLc2 := Lc8.out.cell 2
        have yLc3 := Lc8.out.cell 3
        have yLc4 := Lc8.out.cell 4
        have yLc5 := Lc8.out.cell 5
        have yLd0 := Ld8.out.cell 0
        have yLd1 := Ld8.out.cell 1
        have yLd2 := Ld8.out.cell 2
        have yLd3 := Ld8.out.cell 3
        have yLd4 := Ld8.out.cell 4
        have yLd5 := Ld8.out.cell 5
        simp only [List.getElem?_toArray, List.getElem?_cons_zero, List.getElem?_cons_succ] at yT0 yT1 yX0 yX1 yM0 yM1 yCa0 yCa1 yCa2 yCb0 yCb1 yCb2 yLa0 yLa1 yLa2 yLa3 yLa4 yLa5 yLb0 yLb1 yLb2 yLb3 yLb4 yLb5 yLc0 yLc1 yLc2 yLc3 yLc4 yLc5 yLd0 yLd1 yLd2 yLd3 yLd4 yLd5
        have yTl := T8.out.lt
        have yXl := X8.out.lt
        have yMl := M8.out.lt
        have yCal := Ca8.out.lt
        have yCbl := Cb8.out.lt
        have yLal := La8.out.lt
        have yLbl := Lb8.out.lt
        have yLcl := Lc8.out.lt
        have yLdl := Ld8.out.lt
        go_wp2_with (go_at_call 14; with_reducible refine (HSan.out _).mono ?_; rintro e u9 ⟨rfl, hb9⟩; have T9 := Lib.hid (T8.out.below hb9); have X9 := Lib.hid (X8.out.below hb9); have O9 := Lib.hid (O8.out.below hb9); have M9 := Lib.hid (M8.out.below hb9); have N9 := Lib.hid (N8.out.below hb9); have Ca9 := Lib.hid (Ca8.out.below hb9); have Cb9 := Lib.hid (Cb8.out.below hb9); have La9 := Lib.hid (La8.out.below hb9); have Lb9 := Lib.hid (Lb8.out.below hb9); have Lc9 := Lib.hid (Lc8.out.below hb9); have Ld9 := Lib.hid (Ld8.out.below hb9); have HB9 := Lib.hid (HB8.out.trans (hb9.mono HB8.out.size)); clear hb9; have y9T0 := T9.out.cell 0; have y9T1 := T9.out.cell 1; have y9X0 := X9.out.cell 0; have y9X1 := X9.out.cell 1; have y9M0 := M9.out.cell 0; have y9M1 := M9.out.cell 1; have y9Ca0 := Ca9.out.cell 0; have y9Ca1 := Ca9.out.cell 1; have y9Ca2 := Ca9.out.cell 2; have y9Cb0 := Cb9.out.cell 0; have y9Cb1 := Cb9.out.cell 1; have y9Cb2 := Cb9.out.cell 2; have y9La0 := La9.out.cell 0; have y9La1 := La9.out.cell 1; have y9La2 := La9.out.cell 2; have y9La3 := La9.out.cell 3; have y9La4 := La9.out.cell 4; have y9La5 := La9.out.cell 5; have y9Lb0 := Lb9.out.cell 0; have y9Lb1 := Lb9.out.cell 1; have y9Lb2 := Lb9.out.cell 2; have y9Lb3 := Lb9.out.cell 3; have y9Lb4 := Lb9.out.cell 4; have y9Lb5 := Lb9.out.cell 5; have y9Lc0 := Lc9.out.cell 0; have y9Lc1 := Lc9.out.cell 1; have y9Lc2 := Lc9.out.cell 2; have y9Lc3 := Lc9.out.cell 3; have y9Lc4 := Lc9.out.cell 4; have y9Lc5 := Lc9.out.cell 5; have y9Ld0 := Ld9.out.cell 0; have y9Ld1 := Ld9.out.cell 1; have y9Ld2 := Ld9.out.cell 2; have y9Ld3 := Ld9.out.cell 3; have y9Ld4 := Ld9.out.cell 4; have y9Ld5 := Ld9.out.cell 5; simp only [List.getElem?_toArray, List.getElem?_cons_zero, List.getElem?_cons_succ] at y9T0 y9T1 y9X0 y9X1 y9M0 y9M1 y9Ca0 y9Ca1 y9Ca2 y9Cb0 y9Cb1 y9Cb2 y9La0 y9La1 y9La2 y9La3 y9La4 y9La5 y9Lb0 y9Lb1 y9Lb2 y9Lb3 y9Lb4 y9Lb5 y9Lc0 y9Lc1 y9Lc2 y9Lc3 y9Lc4 y9Lc5 y9Ld0 y9Ld1 y9Ld2 y9Ld3 y9Ld4 y9Ld5; have y9Tl := T9.out.lt; have y9Xl := X9.out.lt; have y9Ml := M9.out.lt; have y9Cal := Ca9.out.lt; have y9Cbl := Cb9.out.lt; have y9Lal := La9.out.lt; have y9Lbl := Lb9.out.lt; have y9Lcl := Lc9.out.lt; have y9Ldl := Ld9.out.lt)
        exact bodyPost_ret (v := .bool true) (by simp [results, Try.results10, go_sem]) rfl ⟨rfl, HB9.out⟩
    case neg =>
    have ckb : (kind != 1) = true := by simpa using ck
    by_cases c1 : id = ida
    case pos =>
      have c1b : (id == ida) = true := by simpa using c1
      clear c1 ck
      have yT0 := T4.out.cell 0
      have yT1 := T4.out.cell 1
      have yX0 := X4.out.cell 0
      have yX1 := X4.out.cell 1
      have yM0 := M4.out.cell 0
      have yM1 := M4.out.cell 1
      have yCa0 := Ca4.out.cell 0
      have yCa1 := Ca4.out.cell 1
      have yCa2 := Ca4.out.cell 2
      have yCb0 := Cb4.out.cell 0
      have yCb1 := Cb4.out.cell 1
      have yCb2 := Cb4.out.cell 2
      simp only [List.getElem?_toArray, List.getElem?_cons_zero, List.getElem?_cons_succ] at yT0 yT1 yX0 yX1 yM0 yM1 yCa0 yCa1 yCa2 yCb0 yCb1 yCb2
      have yTl := T4.out.lt
      have yXl := X4.out.lt
      have yMl := M4.out.lt
      have yCal := Ca4.out.lt
      have yCbl := Cb4.out.lt
      go_wp2_with (go_at_call 14; with_reducible refine (HSan.out _).mono ?_; rintro e u5 ⟨rfl, hb5⟩; have T5 := Lib.hid (T4.out.below hb5); have X5 := Lib.hid (X4.out.below hb5); have O5 := Lib.hid (O4.out.below hb5); have M5 := Lib.hid (M4.out.below hb5); have N5 := Lib.hid (N4.out.below hb5); have Ca5 := Lib.hid (Ca4.out.below hb5); have Cb5 := Lib.hid (Cb4.out.below hb5); have HB5 := Lib.hid (HB4.out.trans (hb5.mono HB4.out.size)); clear hb5; have y5T0 := T5.out.cell 0; have y5T1 := T5.out.cell 1; have y5X0 := X5.out.cell 0; have y5X1 := X5.out.cell 1; have y5M0 := M5.out.cell 0; have y5M1 := M5.out.cell 1; have y5Ca0 := Ca5.out.cell 0; have y5Ca1 := Ca5.out.cell 1; have y5Ca2 := Ca5.out.cell 2; have y5Cb0 := Cb5.out.cell 0; have y5Cb1 := Cb5.out.cell 1; have y5Cb2 := Cb5.out.cell 2; simp only [List.getElem?_toArray, List.getElem?_cons_zero, List.getElem?_cons_succ] at y5T0 y5T1 y5X0 y5X1 y5M0 y5M1 y5Ca0 y5Ca1 y5Ca2 y5Cb0 y5Cb1 y5Cb2; have y5Tl := T5.out.lt; have y5Xl := X5.out.lt; have y5Ml := M5.out.lt; have y5Cal := Ca5.out.lt; have y5Cbl := Cb5.out.lt)
      exact bodyPost_ret (v := .bool true) (by simp [results, Try.results10, go_sem]) rfl ⟨rfl, HB5.out⟩
    case neg =>
    have c1b : (id == ida) = false := by simpa using c1
    by_cases c2 : id = idb
    case pos =>
      have c2b : (id == idb) = true := by simpa using c2
      clear c1 c2 ck
      have yT0 := T4.out.cell 0
      have yT1 := T4.out.cell 1
      have yX0 := X4.out.cell 0
      have yX1 := X4.out.cell 1
      have yM0 := M4.out.cell 0
      have yM1 := M4.out.cell 1
      have yCa0 := Ca4.out.cell 0
      have yCa1 := Ca4.out.cell 1
      have yCa2 := Ca4.out.cell 2
      have yCb0 := Cb4.out.cell 0
      have yCb1 := Cb4.out.cell 1
      have yCb2 := Cb4.out.cell 2
      simp only [List.getElem?_toArray, List.getElem?_cons_zero, List.getElem?_cons_succ] at yT0 yT1 yX0 yX1 yM0 yM1 yCa0 yCa1 yCa2 yCb0 yCb1 yCb2
      have yTl := T4.out.lt
      have yXl := X4.out.lt
      have yMl := M4.out.lt
      have yCal := Ca4.out.lt
      have yCbl := Cb4.out.lt
      go_wp2_with (go_at_call 14; with_reducible refine (HSan.out _).mono ?_; rintro e u5 ⟨rfl, hb5⟩; have T5 := Lib.hid (T4.out.below hb5); have X5 := Lib.hid (X4.out.below hb5); have O5 := Lib.hid (O4.out.below hb5); have M5 := Lib.hid (M4.out.below hb5); have N5 := Lib.hid (N4.out.below hb5); have Ca5 := Lib.hid (Ca4.out.below hb5); have Cb5 := Lib.hid (Cb4.out.below hb5); have HB5 := Lib.hid (HB4.out.trans (hb5.mono HB4.out.size)); clear hb5; have y5T0 := T5.out.cell 0; have y5T1 := T5.out.cell 1; have y5X0 := X5.out.cell 0; have y5X1 := X5.out.cell 1; have y5M0 := M5.out.cell 0; have y5M1 := M5.out.cell 1; have y5Ca0 := Ca5.out.cell 0; have y5Ca1 := Ca5.out.cell 1; have y5Ca2 := Ca5.out.cell 2; have y5Cb0 := Cb5.out.cell 0; have y5Cb1 := Cb5.out.cell 1; have y5Cb2 := Cb5.out.cell 2; simp only [List.getElem?_toArray, List.getElem?_cons_zero, List.getElem?_cons_succ] at y5T0 y5T1 y5X0 y5X1 y5M0 y5M1 y5Ca0 y5Ca1 y5Ca2 y5Cb0 y5Cb1 y5Cb2; have y5Tl := T5.out.lt; have y5Xl := X5.out.lt; have y5Ml := M5.out.lt; have y5Cal := Ca5.out.lt; have y5Cbl := Cb5.out.lt)
      exact bodyPost_ret (v := .bool true) (by simp [results, Try.results10, go_sem]) rfl ⟨rfl, HB5.out⟩
    case neg =>
      have c2b : (id == idb) = false := by simpa using c2
      have HK := Lib.hid (show kind ≠ 1 → id ≠ ida ∧ id ≠ idb from fun _ => ⟨c1, c2⟩)
      clear c1 c2 ck
      have HAz := Lib.hid (HAs.out.2 kind id HK.out)
      obtain ⟨lo, hlo⟩ : ∃ x, asV hs ms kind id false = x := ⟨_, rfl⟩
      obtain ⟨hi, hhi⟩ : ∃ x, asV hs ms kind id true = x := ⟨_, rfl⟩
      obtain ⟨lo', hlo'⟩ : ∃ x, asV mh mm kind id false = x := ⟨_, rfl⟩
      obtain ⟨hi', hhi'⟩ : ∃ x, asV mh mm kind id true = x := ⟨_, rfl⟩
      obtain ⟨hE, hhE⟩ : ∃ x, asE hs ms kind id = x := ⟨_, rfl⟩
      obtain ⟨jE, hjE⟩ : ∃ x, asE mh mm kind id = x := ⟨_, rfl⟩
      rw [hlo, hhi, hlo', hhi', hhE, hjE] at HAz
      rw [hlo, hhE] at HLt
      rw [hhi, hhE] at HGt
      rw [hlo', hjE] at HLm
      rw [hhi', hjE] at HGm
      clear hlo hhi hlo' hhi' hhE hjE HAs HK
      have yT0 := T4.out.cell 0
      have yT1 := T4.out.cell 1
      have yX0 := X4.out.cell 0
      have yX1 := X4.out.cell 1
      have yM0 := M4.out.cell 0
      have yM1 := M4.out.cell 1
      have yCa0 := Ca4.out.cell 0
      have yCa1 := Ca4.out.cell 1
      have yCa2 := Ca4.out.cell 2
      have yCb0 := Cb4.out.cell 0
      have yCb1 := Cb4.out.cell 1
      have yCb2 := Cb4.out.cell 2
      simp only [List.getElem?_toArray, List.getElem?_cons_zero, List.getElem?_cons_succ] at yT0 yT1 yX0 yX1 yM0 yM1 yCa0 yCa1 yCa2 yCb0 yCb1 yCb2
      have yTl := T4.out.lt
      have yXl := X4.out.lt
      have yMl := M4.out.lt
      have yCal := Ca4.out.lt
      have yCbl := Cb4.out.lt
      have HC := Lib.hid (HLt.out _ O4.out)
      try dsimp only [TR.v, vCt] at HC
      go_upto_region 13 with (go_at_call 16; with_reducible refine HC.out.mono ?_; rintro e u5 ⟨A1, an1, ac1, A2, an2, ac2, A3, an3, ac3, aw, A4, an4, ac4, _, _, _, _, rfl, _, _, _, _, _, _, _, _, hb⟩)
      clear yT0 yT1 yX0 yX1 yM0 yM1 yCa0 yCa1 yCa2 yCb0 yCb1 yCb2 yTl yXl yMl yCal yCbl
      clear HC
      have bn := hb
      have bq : Below u5.heap.size u5 (u5.alloc (.cells #[.int .i64 lo, .slice A1 an1 ac1, .slice A2 an2 ac2, .slice A3 an3 ac3, .int .i64 aw, .slice A4 an4 ac4] 39)) := ((Below.refl u5.heap.size u5).alloc (Nat.le_refl _) _)
      have bn := hb.trans (bq.mono hb.size)
      have T5 := Lib.hid (T4.out.below bn)
      have X5 := Lib.hid (X4.out.below bn)
      have O5 := Lib.hid (O4.out.below bn)
      have M5 := Lib.hid (M4.out.below bn)
      have N5 := Lib.hid (N4.out.below bn)
      have Ca5 := Lib.hid (Ca4.out.below bn)
      have Cb5 := Lib.hid (Cb4.out.below bn)
      have HB5 := Lib.hid (HB4.out.trans (bn.mono HB4.out.size))
      have La5 : Hid (Blk (u5.alloc (.cells #[.int .i64 lo, .slice A1 an1 ac1, .slice A2 an2 ac2, .slice A3 an3 ac3, .int .i64 aw, .slice A4 an4 ac4] 39)) u5.heap.size 39 #[.int .i64 lo, .slice A1 an1 ac1, .slice A2 an2 ac2, .slice A3 an3 ac3, .int .i64 aw, .slice A4 an4 ac4]) := Lib.hid (Blk.at_new 39 #[.int .i64 lo, .slice A1 an1 ac1, .slice A2 an2 ac2, .slice A3 an3 ac3, .int .i64 aw, .slice A4 an4 ac4] rfl)
      generalize hV : u5.alloc (.cells #[.int .i64 lo, .slice A1 an1 ac1, .slice A2 an2 ac2, .slice A3 an3 ac3, .int .i64 aw, .slice A4 an4 ac4] 39) = V5 at *
      generalize hp : u5.heap.size = p5 at *
      clear hV hp bq
      clear hb bn T4 X4 O4 M4 N4 Ca4 Cb4 HB4
      have yT0 := T5.out.cell 0
      have yT1 := T5.out.cell 1
      have yX0 := X5.out.cell 0
      have yX1 := X5.out.cell 1
      have yM0 := M5.out.cell 0
      have yM1 := M5.out.cell 1
      have yCa0 := Ca5.out.cell 0
      have yCa1 := Ca5.out.cell 1
      have yCa2 := Ca5.out.cell 2
      have yCb0 := Cb5.out.cell 0
      have yCb1 := Cb5.out.cell 1
      have yCb2 := Cb5.out.cell 2
      have yLa0 := La5.out.cell 0
      have yLa1 := La5.out.cell 1
      have yLa2 := La5.out.cell 2
      have yLa3 := La5.out.cell 3
      have yLa4 := La5.out.cell 4
      have yLa5 := La5.out.cell 5
      simp only [List.getElem?_toArray, List.getElem?_cons_zero, List.getElem?_cons_succ] at yT0 yT1 yX0 yX1 yM0 yM1 yCa0 yCa1 yCa2 yCb0 yCb1 yCb2 yLa0 yLa1 yLa2 yLa3 yLa4 yLa5
      have yTl := T5.out.lt
      have yXl := X5.out.lt
      have yMl := M5.out.lt
      have yCal := Ca5.out.lt
      have yCbl := Cb5.out.lt
      have yLal := La5.out.lt
      have HC := Lib.hid (HGt.out _ O5.out)
      try dsimp only [TR.v, vCt] at HC
      go_upto_region 14 with (go_at_call 17; with_reducible refine HC.out.mono ?_; rintro e u6 ⟨B1, bn1, bc1, B2, bn2, bc2, B3, bn3, bc3, bw, B4, bn4, bc4, _, _, _, _, rfl, _, _, _, _, _, _, _, _, hb⟩)
      clear yT0 yT1 yX0 yX1 yM0 yM1 yCa0 yCa1 yCa2 yCb0 yCb1 yCb2 yLa0 yLa1 yLa2 yLa3 yLa4 yLa5 yTl yXl yMl yCal yCbl yLal
      clear HC
      have bn := hb
      have bq : Below u6.heap.size u6 (u6.alloc (.cells #[.int .i64 hi, .slice B1 bn1 bc1, .slice B2 bn2 bc2, .slice B3 bn3 bc3, .int .i64 bw, .slice B4 bn4 bc4] 39)) := ((Below.refl u6.heap.size u6).alloc (Nat.le_refl _) _)
      have bn := hb.trans (bq.mono hb.size)
      have T6 := Lib.hid (T5.out.below bn)
      have X6 := Lib.hid (X5.out.below bn)
      have O6 := Lib.hid (O5.out.below bn)
      have M6 := Lib.hid (M5.out.below bn)
      have N6 := Lib.hid (N5.out.below bn)
      have Ca6 := Lib.hid (Ca5.out.below bn)
      have Cb6 := Lib.hid (Cb5.out.below bn)
      have La6 := Lib.hid (La5.out.below bn)
      have HB6 := Lib.hid (HB5.out.trans (bn.mono HB5.out.size))
      have Lb6 : Hid (Blk (u6.alloc (.cells #[.int .i64 hi, .slice B1 bn1 bc1, .slice B2 bn2 bc2, .slice B3 bn3 bc3, .int .i64 bw, .slice B4 bn4 bc4] 39)) u6.heap.size 39 #[.int .i64 hi, .slice B1 bn1 bc1, .slice B2 bn2 bc2, .slice B3 bn3 bc3, .int .i64 bw, .slice B4 bn4 bc4]) := Lib.hid (Blk.at_new 39 #[.int .i64 hi, .slice B1 bn1 bc1, .slice B2 bn2 bc2, .slice B3 bn3 bc3, .int .i64 bw, .slice B4 bn4 bc4] rfl)
      generalize hV : u6.alloc (.cells #[.int .i64 hi, .slice B1 bn1 bc1, .slice B2 bn2 bc2, .slice B3 bn3 bc3, .int .i64 bw, .slice B4 bn4 bc4] 39) = V6 at *
      generalize hp : u6.heap.size = p6 at *
      clear hV hp bq
      clear hb bn T5 X5 O5 M5 N5 Ca5 Cb5 La5 HB5
      have yT0 := T6.out.cell 0
      have yT1 := T6.out.cell 1
      have yX0 := X6.out.cell 0
      have yX1 := X6.out.cell 1
      have yM0 := M6.out.cell 0
      have yM1 := M6.out.cell 1
      have yCa0 := Ca6.out.cell 0
      have yCa1 := Ca6.out.cell 1
      have yCa2 := Ca6.out.cell 2
      have yCb0 := Cb6.out.cell 0
      have yCb1 := Cb6.out.cell 1
      have yCb2 := Cb6.out.cell 2
      have yLa0 := La6.out.cell 0
      have yLa1 := La6.out.cell 1
      have yLa2 := La6.out.cell 2
      have yLa3 := La6.out.cell 3
      have yLa4 := La6.out.cell 4
      have yLa5 := La6.out.cell 5
      have yLb0 := Lb6.out.cell 0
      have yLb1 := Lb6.out.cell 1
      have yLb2 := Lb6.out.cell 2
      have yLb3 := Lb6.out.cell 3
      have yLb4 := Lb6.out.cell 4
      have yLb5 := Lb6.out.cell 5
      simp only [List.getElem?_toArray, List.getElem?_cons_zero, List.getElem?_cons_succ] at yT0 yT1 yX0 yX1 yM0 yM1 yCa0 yCa1 yCa2 yCb0 yCb1 yCb2 yLa0 yLa1 yLa2 yLa3 yLa4 yLa5 yLb0 yLb1 yLb2 yLb3 yLb4 yLb5
      have yTl := T6.out.lt
      have yXl := X6.out.lt
      have yMl := M6.out.lt
      have yCal := Ca6.out.lt
      have yCbl := Cb6.out.lt
      have yLal := La6.out.lt
      have yLbl := Lb6.out.lt
      have HC := Lib.hid (HLm.out _ N6.out)
      try dsimp only [TR.v, vCt] at HC
      go_upto_region 15 with (go_at_call 16; with_reducible refine HC.out.mono ?_; rintro e u7 ⟨F1, fn1, fc1, F2, fn2, fc2, F3, fn3, fc3, fw, F4, fn4, fc4, _, _, _, _, rfl, _, _, _, _, _, _, _, _, hb⟩)
      clear yT0 yT1 yX0 yX1 yM0 yM1 yCa0 yCa1 yCa2 yCb0 yCb1 yCb2 yLa0 yLa1 yLa2 yLa3 yLa4 yLa5 yLb0 yLb1 yLb2 yLb3 yLb4 yLb5 yTl yXl yMl yCal yCbl yLal yLbl
      clear HC
      have bn := hb
      have bq : Below u7.heap.size u7 (u7.alloc (.cells #[.int .i64 lo', .slice F1 fn1 fc1, .slice F2 fn2 fc2, .slice F3 fn3 fc3, .int .i64 fw, .slice F4 fn4 fc4] 39)) := ((Below.refl u7.heap.size u7).alloc (Nat.le_refl _) _)
      have bn := hb.trans (bq.mono hb.size)
      have T7 := Lib.hid (T6.out.below bn)
      have X7 := Lib.hid (X6.out.below bn)
      have O7 := Lib.hid (O6.out.below bn)
      have M7 := Lib.hid (M6.out.below bn)
      have N7 := Lib.hid (N6.out.below bn)
      have Ca7 := Lib.hid (Ca6.out.below bn)
      have Cb7 := Lib.hid (Cb6.out.below bn)
      have La7 := Lib.hid (La6.out.below bn)
      have Lb7 := Lib.hid (Lb6.out.below bn)
      have HB7 := Lib.hid (HB6.out.trans (bn.mono HB6.out.size))
      have Lc7 : Hid (Blk (u7.alloc (.cells #[.int .i64 lo', .slice F1 fn1 fc1, .slice F2 fn2 fc2, .slice F3 fn3 fc3, .int .i64 fw, .slice F4 fn4 fc4] 39)) u7.heap.size 39 #[.int .i64 lo', .slice F1 fn1 fc1, .slice F2 fn2 fc2, .slice F3 fn3 fc3, .int .i64 fw, .slice F4 fn4 fc4]) := Lib.hid (Blk.at_new 39 #[.int .i64 lo', .slice F1 fn1 fc1, .slice F2 fn2 fc2, .slice F3 fn3 fc3, .int .i64 fw, .slice F4 fn4 fc4] rfl)
      generalize hV : u7.alloc (.cells #[.int .i64 lo', .slice F1 fn1 fc1, .slice F2 fn2 fc2, .slice F3 fn3 fc3, .int .i64 fw, .slice F4 fn4 fc4] 39) = V7 at *
      generalize hp : u7.heap.size = p7 at *
      clear hV hp bq
      clear hb bn T6 X6 O6 M6 N6 Ca6 Cb6 La6 Lb6 HB6
      have yT0 := T7.out.cell 0
      have yT1 := T7.out.cell 1
      have yX0 := X7.out.cell 0
      have yX1 := X7.out.cell 1
      have yM0 := M7.out.cell 0
      have yM1 := M7.out.cell 1
      have yCa0 := Ca7.out.cell 0
      have yCa1 := Ca7.out.cell 1
      have yCa2 := Ca7.out.cell 2
      have yCb0 := Cb7.out.cell 0
      have yCb1 := Cb7.out.cell 1
      have yCb2 := Cb7.out.cell 2
      have yLa0 := La7.out.cell 0
      have yLa1 := La7.out.cell 1
      have yLa2 := La7.out.cell 2
      have yLa3 := La7.out.cell 3
      have yLa4 := La7.out.cell 4
      have yLa5 := La7.out.cell 5
      have yLb0 := Lb7.out.cell 0
      have yLb1 := Lb7.out.cell 1
      have yLb2 := Lb7.out.cell 2
      have yLb3 := Lb7.out.cell 3
      have yLb4 := Lb7.out.cell 4
      have yLb5 := Lb7.out.cell 5
      have yLc0 := Lc7.out.cell 0
      have yLc1 := Lc7.out.cell 1
      have yLc2 := Lc7.out.cell 2
      have yLc3 := Lc7.out.cell 3
      have yLc4 := Lc7.out.cell 4
      have yLc5 := Lc7.out.cell 5
      simp only [List.getElem?_toArray, List.getElem?_cons_zero, List.getElem?_cons_succ] at yT0 yT1 yX0 yX1 yM0 yM1 yCa0 yCa1 yCa2 yCb0 yCb1 yCb2 yLa0 yLa1 yLa2 yLa3 yLa4 yLa5 yLb0 yLb1 yLb2 yLb3 yLb4 yLb5 yLc0 yLc1 yLc2 yLc3 yLc4 yLc5
      have yTl := T7.out.lt
      have yXl := X7.out.lt
      have yMl := M7.out.lt
      have yCal := Ca7.out.lt
      have yCbl := Cb7.out.lt
      have yLal := La7.out.lt
      have yLbl := Lb7.out.lt
      have yLcl := Lc7.out.lt
      have HC := Lib.hid (HGm.out _ N7.out)
      try dsimp only [TR.v, vCt] at HC
      go_upto_region 16 with (go_at_call 17; with_reducible refine HC.out.mono ?_; rintro e u8 ⟨G1, gn1, gc1, G2, gn2, gc2, G3, gn3, gc3, gw, G4, gn4, gc4, _, _, _, _, rfl, _, _, _, _, _, _, _, _, hb⟩)
      clear yT0 yT1 yX0 yX1 yM0 yM1 yCa0 yCa1 yCa2 yCb0 yCb1 yCb2 yLa0 yLa1 yLa2 yLa3 yLa4 yLa5 yLb0 yLb1 yLb2 yLb3 yLb4 yLb5 yLc0 yLc1 yLc2 yLc3 yLc4 yLc5 yTl yXl yMl yCal yCbl yLal yLbl yLcl
      clear HC
      have bn := hb
      have bq : Below u8.heap.size u8 (u8.alloc (.cells #[.int .i64 hi', .slice G1 gn1 gc1, .slice G2 gn2 gc2, .slice G3 gn3 gc3, .int .i64 gw, .slice G4 gn4 gc4] 39)) := ((Below.refl u8.heap.size u8).alloc (Nat.le_refl _) _)
      have bn := hb.trans (bq.mono hb.size)
      have T8 := Lib.hid (T7.out.below bn)
      have X8 := Lib.hid (X7.out.below bn)
      have O8 := Lib.hid (O7.out.below bn)
      have M8 := Lib.hid (M7.out.below bn)
      have N8 := Lib.hid (N7.out.below bn)
      have Ca8 := Lib.hid (Ca7.out.below bn)
      have Cb8 := Lib.hid (Cb7.out.below bn)
      have La8 := Lib.hid (La7.out.below bn)
      have Lb8 := Lib.hid (Lb7.out.below bn)
      have Lc8 := Lib.hid (Lc7.out.below bn)
      have HB8 := Lib.hid (HB7.out.trans (bn.mono HB7.out.size))
      have Ld8 : Hid (Blk (u8.alloc (.cells #[.int .i64 hi', .slice G1 gn1 gc1, .slice G2 gn2 gc2, .slice G3 gn3 gc3, .int .i64 gw, .slice G4 gn4 gc4] 39)) u8.heap.size 39 #[.int .i64 hi', .slice G1 gn1 gc1, .slice G2 gn2 gc2, .slice G3 gn3 gc3, .int .i64 gw, .slice G4 gn4 gc4]) := Lib.hid (Blk.at_new 39 #[.int .i64 hi', .slice G1 gn1 gc1, .slice G2 gn2 gc2, .slice G3 gn3 gc3, .int .i64 gw, .slice G4 gn4 gc4] rfl)
      generalize hV : u8.alloc (.cells #[.int .i64 hi', .slice G1 gn1 gc1, .slice G2 gn2 gc2, .slice G3 gn3 gc3, .int .i64 gw, .slice G4 gn4 gc4] 39) = V8 at *
      generalize hp : u8.heap.size = p8 at *
      clear hV hp bq
      clear hb bn T7 X7 O7 M7 N7 Ca7 Cb7 La7 Lb7 Lc7 HB7
      by_cases h1 : hE = 0
      case neg =>
        have h1b : (hE != 0) = true := by simpa using h1
        clear h1
        have yT0 := T8.out.cell 0
        have yT1 := T8.out.cell 1
        have yX0 := X8.out.cell 0
        have yX1 := X8.out.cell 1
        have yM0 := M8.out.cell 0
        have yM1 := M8.out.cell 1
        have yCa0 := Ca8.out.cell 0
        have yCa1 := Ca8.out.cell 1
        have yCa2 := Ca8.out.cell 2
        have yCb0 := Cb8.out.cell 0
        have yCb1 := Cb8.out.cell 1
        have yCb2 := Cb8.out.cell 2
        have yLa0 := La8.out.cell 0
        have yLa1 := La8.out.cell 1
        have yLa2 := La8.out.cell 2
        have yLa3 := La8.out.cell 3
        have yLa4 := La8.out.cell 4
        have yLa5 := La8.out.cell 5
        have yLb0 := Lb8.out.cell 0
        have yLb1 := Lb8.out.cell 1
        have yLb2 := Lb8.out.cell 2
        have yLb3 := Lb8.out.cell 3
        have yLb4 := Lb8.out.cell 4
        have yLb5 := Lb8.out.cell 5
        have yLc0 := Lc8.out.cell 0
        have yLc1 := Lc8.out.cell 1
        have yLc2 := Lc8.out.cell 2
        have yLc3 := Lc8.out.cell 3
        have yLc4 := Lc8.out.cell 4
        have yLc5 := Lc8.out.cell 5
        have yLd0 := Ld8.out.cell 0
        have yLd1 := Ld8.out.cell 1
        have yLd2 := Ld8.out.cell 2
        have yLd3 := Ld8.out.cell 3
        have yLd4 := Ld8.out.cell 4
        have yLd5 := Ld8.out.cell 5
        simp only [List.getElem?_toArray, List.getElem?_cons_zero, List.getElem?_cons_succ] at yT0 yT1 yX0 yX1 yM0 yM1 yCa0 yCa1 yCa2 yCb0 yCb1 yCb2 yLa0 yLa1 yLa2 yLa3 yLa4 yLa5 yLb0 yLb1 yLb2 yLb3 yLb4 yLb5 yLc0 yLc1 yLc2 yLc3 yLc4 yLc5 yLd0 yLd1 yLd2 yLd3 yLd4 yLd5
        have yTl := T8.out.lt
        have yXl := X8.out.lt
        have yMl := M8.out.lt
        have yCal := Ca8.out.lt
        have yCbl := Cb8.out.lt
        have yLal := La8.out.lt
        have yLbl := Lb8.out.lt
        have yLcl := Lc8.out.lt
        have yLdl := Ld8.out.lt
        go_wp2_with (go_at_call 14; with_reducible refine (HSan.out _).mono ?_; rintro e u9 ⟨rfl, hb9⟩; have T9 := Lib.hid (T8.out.below hb9); have X9 := Lib.hid (X8.out.below hb9); have O9 := Lib.hid (O8.out.below hb9); have M9 := Lib.hid (M8.out.below hb9); have N9 := Lib.hid (N8.out.below hb9); have Ca9 := Lib.hid (Ca8.out.below hb9); have Cb9 := Lib.hid (Cb8.out.below hb9); have La9 := Lib.hid (La8.out.below hb9); have Lb9 := Lib.hid (Lb8.out.below hb9); have Lc9 := Lib.hid (Lc8.out.below hb9); have Ld9 := Lib.hid (Ld8.out.below hb9); have HB9 := Lib.hid (HB8.out.trans (hb9.mono HB8.out.size)); clear hb9; have y9T0 := T9.out.cell 0; have y9T1 := T9.out.cell 1; have y9X0 := X9.out.cell 0; have y9X1 := X9.out.cell 1; have y9M0 := M9.out.cell 0; have y9M1 := M9.out.cell 1; have y9Ca0 := Ca9.out.cell 0; have y9Ca1 := Ca9.out.cell 1; have y9Ca2 := Ca9.out.cell 2; have y9Cb0 := Cb9.out.cell 0; have y9Cb1 := Cb9.out.cell 1; have y9Cb2 := Cb9.out.cell 2; have y9La0 := La9.out.cell 0; have y9La1 := La9.out.cell 1; have y9La2 := La9.out.cell 2; have y9La3 := La9.out.cell 3; have y9La4 := La9.out.cell 4; have y9La5 := La9.out.cell 5; have y9Lb0 := Lb9.out.cell 0; have y9Lb1 := Lb9.out.cell 1; have y9Lb2 := Lb9.out.cell 2; have y9Lb3 := Lb9.out.cell 3; have y9Lb4 := Lb9.out.cell 4; have y9Lb5 := Lb9.out.cell 5; have y9Lc0 := Lc9.out.cell 0; have y9Lc1 := Lc9.out.cell 1; have y9Lc2 := Lc9.out.cell 2; have y9Lc3 := Lc9.out.cell 3; have y9Lc4 := Lc9.out.cell 4; have y9Lc5 := Lc9.out.cell 5; have y9Ld0 := Ld9.out.cell 0; have y9Ld1 := Ld9.out.cell 1; have y9Ld2 := Ld9.out.cell 2; have y9Ld3 := Ld9.out.cell 3; have y9Ld4 := Ld9.out.cell 4; have y9Ld5 := Ld9.out.cell 5; simp only [List.getElem?_toArray, List.getElem?_cons_zero, List.getElem?_cons_succ] at y9T0 y9T1 y9X0 y9X1 y9M0 y9M1 y9Ca0 y9Ca1 y9Ca2 y9Cb0 y9Cb1 y9Cb2 y9La0 y9La1 y9La2 y9La3 y9La4 y9La5 y9Lb0 y9Lb1 y9Lb2 y9Lb3 y9Lb4 y9Lb5 y9Lc0 y9Lc1 y9Lc2 y9Lc3 y9Lc4 y9Lc5 y9Ld0 y9Ld1 y9Ld2 y9Ld3 y9Ld4 y9Ld5; have y9Tl := T9.out.lt; have y9Xl := X9.out.lt; have y9Ml := M9.out.lt; have y9Cal := Ca9.out.lt; have y9Cbl := Cb9.out.lt; have y9Lal := La9.out.lt; have y9Lbl := Lb9.out.lt; have y9Lcl := Lc9.out.lt; have y9Ldl := Ld9.out.lt)
        exact bodyPost_ret (v := .bool true) (by simp [results, Try.results10, go_sem]) rfl ⟨rfl, HB9.out⟩
      case pos =>
      have h1b : (hE != 0) = false := by simpa using h1
      have h1c : (hE == 0) = true := by simpa using h1
      by_cases h2 : jE = 5
      case pos =>
        have h2b : (jE == 5) = true := by simpa using h2
        clear h2 h1
        have yT0 := T8.out.cell 0
        have yT1 := T8.out.cell 1
        have yX0 := X8.out.cell 0
        have yX1 := X8.out.cell 1
        have yM0 := M8.out.cell 0
        have yM1 := M8.out.cell 1
        have yCa0 := Ca8.out.cell 0
        have yCa1 := Ca8.out.cell 1
        have yCa2 := Ca8.out.cell 2
        have yCb0 := Cb8.out.cell 0
        have yCb1 := Cb8.out.cell 1
        have yCb2 := Cb8.out.cell 2
        have yLa0 := La8.out.cell 0
        have yLa1 := La8.out.cell 1
        have yLa2 := La8.out.cell 2
        have yLa3 := La8.out.cell 3
        have yLa4 := La8.out.cell 4
        have yLa5 := La8.out.cell 5
        have yLb0 := Lb8.out.cell 0
        have yLb1 := Lb8.out.cell 1
        have yLb2 := Lb8.out.cell 2
        have yLb3 := Lb8.out.cell 3
        have yLb4 := Lb8.out.cell 4
        have yLb5 := Lb8.out.cell 5
        have yLc0 := Lc8.out.cell 0
        have yLc1 := Lc8.out.cell 1
        have yLc2 := Lc8.out.cell 2
        have yLc3 := Lc8.out.cell 3
        have yLc4 := Lc8.out.cell 4
        have yLc5 := Lc8.out.cell 5
        have yLd0 := Ld8.out.cell 0
        have yLd1 := Ld8.out.cell 1
        have yLd2 := Ld8.out.cell 2
        have yLd3 := Ld8.out.cell 3
        have yLd4 := Ld8.out.cell 4
        have yLd5 := Ld8.out.cell 5
        simp only [List.getElem?_toArray, List.getElem?_cons_zero, List.getElem?_cons_succ] at yT0 yT1 yX0 yX1 yM0 yM1 yCa0 yCa1 yCa2 yCb0 yCb1 yCb2 yLa0 yLa1 yLa2 yLa3 yLa4 yLa5 yLb0 yLb1 yLb2 yLb3 yLb4 yLb5 yLc0 yLc1 yLc2 yLc3 yLc4 yLc5 yLd0 yLd1 yLd2 yLd3 yLd4 yLd5
        have yTl := T8.out.lt
        have yXl := X8.out.lt
        have yMl := M8.out.lt
        have yCal := Ca8.out.lt
        have yCbl := Cb8.out.lt
        have yLal := La8.out.lt
        have yLbl := Lb8.out.lt
        have yLcl := Lc8.out.lt
        have yLdl := Ld8.out.lt
        go_wp2_with (go_at_call 14; with_reducible refine (HSan.out _).mono ?_; rintro e u9 ⟨rfl, hb9⟩; have T9 := Lib.hid (T8.out.below hb9); have X9 := Lib.hid (X8.out.below hb9); have O9 := Lib.hid (O8.out.below hb9); have M9 := Lib.hid (M8.out.below hb9); have N9 := Lib.hid (N8.out.below hb9); have Ca9 := Lib.hid (Ca8.out.below hb9); have Cb9 := Lib.hid (Cb8.out.below hb9); have La9 := Lib.hid (La8.out.below hb9); have Lb9 := Lib.hid (Lb8.out.below hb9); have Lc9 := Lib.hid (Lc8.out.below hb9); have Ld9 := Lib.hid (Ld8.out.below hb9); have HB9 := Lib.hid (HB8.out.trans (hb9.mono HB8.out.size)); clear hb9; have y9T0 := T9.out.cell 0; have y9T1 := T9.out.cell 1; have y9X0 := X9.out.cell 0; have y9X1 := X9.out.cell 1; have y9M0 := M9.out.cell 0; have y9M1 := M9.out.cell 1; have y9Ca0 := Ca9.out.cell 0; have y9Ca1 := Ca9.out.cell 1; have y9Ca2 := Ca9.out.cell 2; have y9Cb0 := Cb9.out.cell 0; have y9Cb1 := Cb9.out.cell 1; have y9Cb2 := Cb9.out.cell 2; have y9La0 := La9.out.cell 0; have y9La1 := La9.out.cell 1; have y9La2 := La9.out.cell 2; have y9La3 := La9.out.cell 3; have y9La4 := La9.out.cell 4; have y9La5 := La9.out.cell 5; have y9Lb0 := Lb9.out.cell 0; have y9Lb1 := Lb9.out.cell 1; have y9Lb2 := Lb9.out.cell 2; have y9Lb3 := Lb9.out.cell 3; have y9Lb4 := Lb9.out.cell 4; have y9Lb5 := Lb9.out.cell 5; have y9Lc0 := Lc9.out.cell 0; have y9Lc1 := Lc9.out.cell 1; have y9Lc2 := Lc9.out.cell 2; have y9Lc3 := Lc9.out.cell 3; have y9Lc4 := Lc9.out.cell 4; have y9Lc5 := Lc9.out.cell 5; have y9Ld0 := Ld9.out.cell 0; have y9Ld1 := Ld9.out.cell 1; have y9Ld2 := Ld9.out.cell 2; have y9Ld3 := Ld9.out.cell 3; have y9Ld4 := Ld9.out.cell 4; have y9Ld5 := Ld9.out.cell 5; simp only [List.getElem?_toArray, List.getElem?_cons_zero, List.getElem?_cons_succ] at y9T0 y9T1 y9X0 y9X1 y9M0 y9M1 y9Ca0 y9Ca1 y9Ca2 y9Cb0 y9Cb1 y9Cb2 y9La0 y9La1 y9La2 y9La3 y9La4 y9La5 y9Lb0 y9Lb1 y9Lb2 y9Lb3 y9Lb4 y9Lb5 y9Lc0 y9Lc1 y9Lc2 y9Lc3 y9Lc4 y9Lc5 y9Ld0 y9Ld1 y9Ld2 y9Ld3 y9Ld4 y9Ld5; have y9Tl := T9.out.lt; have y9Xl := X9.out.lt; have y9Ml := M9.out.lt; have y9Cal := Ca9.out.lt; have y9Cbl := Cb9.out.lt; have y9Lal := La9.out.lt; have y9Lbl := Lb9.out.lt; have y9Lcl := Lc9.out.lt; have y9Ldl := Ld9.out.lt)
        exact bodyPost_ret (v := .bool true) (by simp [results, Try.results10, go_sem]) rfl ⟨rfl, HB9.out⟩
      case neg =>
        have h2b : (jE == 5) = false := by simpa using h2
        obtain ⟨h3, h4, h5⟩ := HAz.out h1 h2
        have h3b : (jE == 0) = true := by simpa using h3
        have h4b : decide (lo' ≤ lo) = true := decide_eq_true h4
        have h5b : decide (hi ≤ hi') = true := decide_eq_true h5
        clear h1 h2 h3 h4 h5
        have yT0 := T8.out.cell 0
        have yT1 := T8.out.cell 1
        have yX0 := X8.out.cell 0
        have yX1 := X8.out.cell 1
        have yM0 := M8.out.cell 0
        have yM1 := M8.out.cell 1
        have yCa0 := Ca8.out.cell 0
        have yCa1 := Ca8.out.cell 1
        have yCa2 := Ca8.out.cell 2
        have yCb0 := Cb8.out.cell 0
        have yCb1 := Cb8.out.cell 1
        have yCb2 := Cb8.out.cell 2
        have yLa0 := La8.out.cell 0
        have yLa1 := La8.out.cell 1
        have yLa2 := La8.out.cell 2
        have yLa3 := La8.out.cell 3
        have yLa4 := La8.out.cell 4
        have yLa5 := La8.out.cell 5
        have yLb0 := Lb8.out.cell 0
        have yLb1 := Lb8.out.cell 1
        have yLb2 := Lb8.out.cell 2
        have yLb3 := Lb8.out.cell 3
        have yLb4 := Lb8.out.cell 4
        have yLb5 := Lb8.out.cell 5
        have yLc0 := Lc8.out.cell 0
        have yLc1 := Lc8.out.cell 1
        have yLc2 := Lc8.out.cell 2
        have yLc3 := Lc8.out.cell 3
        have yLc4 := Lc8.out.cell 4
        have yLc5 := Lc8.out.cell 5
        have yLd0 := Ld8.out.cell 0
        have yLd1 := Ld8.out.cell 1
        have yLd2 := Ld8.out.cell 2
        have yLd3 := Ld8.out.cell 3
        have yLd4 := Ld8.out.cell 4
        have yLd5 := Ld8.out.cell 5
        simp only [List.getElem?_toArray, List.getElem?_cons_zero, List.getElem?_cons_succ] at yT0 yT1 yX0 yX1 yM0 yM1 yCa0 yCa1 yCa2 yCb0 yCb1 yCb2 yLa0 yLa1 yLa2 yLa3 yLa4 yLa5 yLb0 yLb1 yLb2 yLb3 yLb4 yLb5 yLc0 yLc1 yLc2 yLc3 yLc4 yLc5 yLd0 yLd1 yLd2 yLd3 yLd4 yLd5
        have yTl := T8.out.lt
        have yXl := X8.out.lt
        have yMl := M8.out.lt
        have yCal := Ca8.out.lt
        have yCbl := Cb8.out.lt
        have yLal := La8.out.lt
        have yLbl := Lb8.out.lt
        have yLcl := Lc8.out.lt
        have yLdl := Ld8.out.lt
        go_wp2_with (go_at_call 14; with_reducible refine (HSan.out _).mono ?_; rintro e u9 ⟨rfl, hb9⟩; have T9 := Lib.hid (T8.out.below hb9); have X9 := Lib.hid (X8.out.below hb9); have O9 := Lib.hid (O8.out.below hb9); have M9 := Lib.hid (M8.out.below hb9); have N9 := Lib.hid (N8.out.below hb9); have Ca9 := Lib.hid (Ca8.out.below hb9); have Cb9 := Lib.hid (Cb8.out.below hb9); have La9 := Lib.hid (La8.out.below hb9); have Lb9 := Lib.hid (Lb8.out.below hb9); have Lc9 := Lib.hid (Lc8.out.below hb9); have Ld9 := Lib.hid (Ld8.out.below hb9); have HB9 := Lib.hid (HB8.out.trans (hb9.mono HB8.out.size)); clear hb9; have y9T0 := T9.out.cell 0; have y9T1 := T9.out.cell 1; have y9X0 := X9.out.cell 0; have y9X1 := X9.out.cell 1; have y9M0 := M9.out.cell 0; have y9M1 := M9.out.cell 1; have y9Ca0 := Ca9.out.cell 0; have y9Ca1 := Ca9.out.cell 1; have y9Ca2 := Ca9.out.cell 2; have y9Cb0 := Cb9.out.cell 0; have y9Cb1 := Cb9.out.cell 1; have y9Cb2 := Cb9.out.cell 2; have y9La0 := La9.out.cell 0; have y9La1 := La9.out.cell 1; have y9La2 := La9.out.cell 2; have y9La3 := La9.out.cell 3; have y9La4 := La9.out.cell 4; have y9La5 := La9.out.cell 5; have y9Lb0 := Lb9.out.cell 0; have y9Lb1 := Lb9.out.cell 1; have y9Lb2 := Lb9.out.cell 2; have y9Lb3 := Lb9.out.cell 3; have y9Lb4 := Lb9.out.cell 4; have y9Lb5 := Lb9.out.cell 5; have y9Lc0 := Lc9.out.cell 0; have y9Lc1 := Lc9.out.cell 1; have y9Lc2 := Lc9.out.cell 2; have y9Lc3 := Lc9.out.cell 3; have y9Lc4 := Lc9.out.cell 4; have y9Lc5 := Lc9.out.cell 5; have y9Ld0 := Ld9.out.cell 0; have y9Ld1 := Ld9.out.cell 1; have y9Ld2 := Ld9.out.cell 2; have y9Ld3 := Ld9.out.cell 3; have y9Ld4 := Ld9.out.cell 4; have y9Ld5 := Ld9.out.cell 5; simp only [List.getElem?_toArray, List.getElem?_cons_zero, List.getElem?_cons_succ] at y9T0 y9T1 y9X0 y9X1 y9M0 y9M1 y9Ca0 y9Ca1 y9Ca2 y9Cb0 y9Cb1 y9Cb2 y9La0 y9La1 y9La2 y9La3 y9La4 y9La5 y9Lb0 y9Lb1 y9Lb2 y9Lb3 y9Lb4 y9Lb5 y9Lc0 y9Lc1 y9Lc2 y9Lc3 y9Lc4 y9Lc5 y9Ld0 y9Ld1 y9Ld2 y9Ld3 y9Ld4 y9Ld5; have y9Tl := T9.out.lt; have y9Xl := X9.out.lt; have y9Ml := M9.out.lt; have y9Cal := Ca9.out.lt; have y9Cbl := Cb9.out.lt; have y9Lal := La9.out.lt; have y9Lbl := Lb9.out.lt; have y9Lcl := Lc9.out.lt; have y9Ldl := Ld9.out.lt)
        exact bodyPost_ret (v := .bool true) (by simp [results, Try.results10, go_sem]) rfl ⟨rfl, HB9.out⟩
open Go.WideShapes Go.ChangeShapes Go.Joins Go.Deep
set_option maxRecDepth 100000 in
theorem flowAsOne_lifted (os : Os) (started : os.Started) (H : Type) (enc : TypeId × Value → H) :
    ReturnsInHanded Rows.flowAsOneRow.assume Try.checked os 10 .any (Rows.flowAsOneSpec.pre6 enc Try.prog Try.f10 Rows.flowAsOneRow.domain false) (Rows.flowAsOneSpec.post enc Try.prog Try.f10 false Rows.flowAsOneRow.fresh Rows.flowAsOneRow.handsOn Rows.flowAsOneRow.again) := by
  refine returnsInHanded_of_change (C := Try.checked) (by kernel_rfl) started (by kernel_rfl) Try.func10
    (ChangeSpec.witness6 (enc := enc) (C := Try.checked) false ⟨#[], #[.agg #[.slice none 0 0, .slice none 0 0], .int .i64 0, .int .i64 0, .agg #[.int .i64 0, .int .i64 0]], []⟩ 8 (by kernel_rfl) (by kernel_rfl) (by kernel_rfl) (by kernel_rfl)) ?_
  intro W base args ds gs before hval0 hW hcnd _
  have hval : ∀ (j : Nat) t v, Try.f10.params[j]? = some t → args[j]? = some v → Value.okWide Try.prog W .any base t v := hval0
  have hW' := hW
  obtain ⟨p, q, hA0, hV, rfl, hfz, hnd⟩ := hW
  obtain ⟨rfl, rfl⟩ := trodVars_none hV
  have hA : DataW.TrodAll enc Try.prog W 0 (fun _ => true) true [25, 3, 3, 27] args.toList ds p := hA0
  obtain ⟨v0, v1, v2, v3, d0, d1, d2, d3, p0, p1, p2, p3, rfl, rfl, rfl, h0, h1, h2, h3⟩ := trodAll_four hA
  obtain ⟨t, rfl, hT, _, rfl⟩ := open_tr (hval 0 25 v0 rfl rfl) h0
  obtain ⟨ida, rfl, rfl, rfl, _⟩ := open_int Try.underlying3 (hval 1 3 v1 rfl rfl) h1
  obtain ⟨idb, rfl, rfl, rfl, _⟩ := open_int Try.underlying3 (hval 2 3 v2 rfl rfl) h2
  obtain ⟨kind, id, rfl, _, rfl⟩ := open_at (hval 3 27 v3 rfl rfl) h3
  refine (flowAsOne_walk t ida idb kind id W hT).mono fun e W' ⟨he, hb⟩ => ⟨_, he, law_post laid_out (by kernel_rfl) rfl Try.underlying4 rfl hW' rfl rfl rfl hb⟩

theorem flowAsOne : Rows.FlowAsOneSaid :=
  OpenClaim.holds_of_wide 10 Try.f10 rfl rfl rfl rfl rfl rfl rfl ⟨rfl, rfl, rfl, rfl, rfl⟩ rfl rfl rfl rfl rfl (by kernel_rfl) Try.func10 (by kernel_rfl)
    (of_decide_eq_true (by kernel_rfl)) (by unfold Func.isWrapper; first | (rw [if_pos (by decide +kernel)]; kernel_rfl) | (rw [if_neg (by decide +kernel)]; exact ⟨rfl, rfl⟩))
    (fun os started H enc _ => flowAsOne_lifted os started H enc)
#print axioms flowAsOne
end Go.Proofs.Ytighfmgkoepfkaa
