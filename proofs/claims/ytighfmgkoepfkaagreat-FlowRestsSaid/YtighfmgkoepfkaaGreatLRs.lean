/- The law FlowRests. -/
import Derived.Test.YtighfmgkoepfkaaGreatMRs
import Derived.Test.YtighfmgkoepfkaaGreatMK
import Derived.Test.YtighfmgkoepfkaaGreatMGy
import Derived.Test.YtighfmgkoepfkaaGreatMH
import Derived.Test.YtighfmgkoepfkaaGreatMI
namespace Go.Proofs.YtighfmgkoepfkaaGreat
open Go.RowKit

theorem mgH_len {hs : List Hd} {ms : List Mv} {a b : Int} : (mgH hs ms a b).length ≤ 9 ∧ (mgM hs ms a b).length ≤ 24 := by
  unfold mgH mgM
  by_cases c : mgE hs ms a b = 0
  · rw [if_pos c, if_pos c]
    obtain ⟨hv, ht, h1, h2, h3⟩ := mgE_two c
    have := hv.mg ht h1 h2 h3
    exact ⟨this.lenH, this.lenM⟩
  · rw [if_neg c, if_neg c]
    exact ⟨by decide, by decide⟩
theorem restL_len (hs : List Hd) (ms : List Mv) (kind xi : Int) : (restL hs ms kind xi).length ≤ 24 := by
  unfold restL
  by_cases h : asE hs ms kind xi ≠ 0
  · rw [if_pos h]; simp
  · rw [if_neg h, sortI_len]
    have hv := (asE_zero (by simpa using h)).2.2.1.lenM
    exact Nat.le_trans (reT_len _ _ _ _ _ _ _) hv
theorem re_tr {t : TR} {kind xi : Int} {w : World} (h : t.Ok w) : Calls Tryz.prog 41 #[t.v, vAt kind xi] w fun e w' => ∃ A n c, e = .returned (.tuple #[.slice A n c, .int .i64 (asE t.hs t.ms kind xi)]) ∧ SAt encI 1 w' A n (restL t.hs t.ms kind xi) ∧ n ≤ 24 ∧ Below w.heap.size w w' := by
  refine (Rests_any t kind xi w h).mono ?_
  rintro e w' ⟨hb, v, rfl, ho⟩
  obtain ⟨A, c, rfl, hs, _, _⟩ := SAt_of_row encI_len rfl ho
  exact ⟨A, _, c, rfl, hs, restL_len _ _ _ _, hb⟩
theorem rre_tr {t : TR} {kind xi : Int} {w : World} (h : t.Ok w) (hA : t.A = none → t.c = 0) : Calls Tryz.prog 42 #[t.v, vAt kind xi] w fun e w' => ∃ A n c, e = .returned (.agg #[.slice A n c, .int .i64 (asE t.hs t.ms kind xi)]) ∧ SAt encI 1 w' A n (restL t.hs t.ms kind xi) ∧ n ≤ 24 ∧ Below w.heap.size w w' := by
  refine (RRests_any t kind xi w h hA).mono ?_
  rintro e w' ⟨hb, v, rfl, ho⟩
  obtain ⟨A, c, rfl, hs, _, _⟩ := SAt_of_row encI_len rfl ho
  exact ⟨A, _, c, rfl, hs, restL_len _ _ _ _, hb⟩
theorem mgq_tr {t : TR} {w : World} (h : t.Ok w) (a b : Int) : Calls Tryz.prog 43 #[t.v, .int .i64 a, .int .i64 b] w fun e w' => ∃ A n c B m d, e = .returned (.tuple #[.agg #[.slice A n c, .slice B m d], .int .i64 (mgE t.hs t.ms a b)]) ∧ TR.Ok w' ⟨A, n, c, B, m, d, mgH t.hs t.ms a b, mgM t.hs t.ms a b⟩ ∧ n ≤ 9 ∧ m ≤ 24 ∧ Below w.heap.size w w' := by
  refine (Merged_any t a b w h).mono ?_
  rintro e w' ⟨hb, v1, v2, rfl, ho⟩
  obtain ⟨A, c, B, d, rfl, rfl, a1, a2, a3, a4, _, _⟩ := ho.form
  have := mgH_len (hs := t.hs) (ms := t.ms) (a := a) (b := b)
  exact ⟨A, _, c, B, _, d, rfl, ⟨a1, a2, by show (mgH t.hs t.ms a b).length ≤ _; omega, by show (mgM t.hs t.ms a b).length ≤ _; omega, a3, a4⟩, this.1, this.2, hb⟩
theorem rmg_tr {t : TR} {w : World} (h : t.Ok w) (a b : Int) : Calls Tryz.prog 44 #[t.v, .int .i64 a, .int .i64 b] w fun e w' => ∃ A n c B m d, e = .returned (.agg #[.slice A n c, .slice B m d, .int .i64 (mgE t.hs t.ms a b)]) ∧ TR.Ok w' ⟨A, n, c, B, m, d, mgH t.hs t.ms a b, mgM t.hs t.ms a b⟩ ∧ n ≤ 9 ∧ m ≤ 24 ∧ Below w.heap.size w w' := by
  refine (RMerged_any t a b w h).mono ?_
  rintro e w' ⟨v1, v2, rfl, ho, hb⟩
  obtain ⟨A, c, B, d, rfl, rfl, a1, a2, a3, a4, _, _⟩ := ho.form
  have := mgH_len (hs := t.hs) (ms := t.ms) (a := a) (b := b)
  exact ⟨A, _, c, B, _, d, rfl, ⟨a1, a2, by show (mgH t.hs t.ms a b).length ≤ _; omega, by show (mgM t.hs t.ms a b).length ≤ _; omega, a3, a4⟩, this.1, this.2, hb⟩
section
open Go.WideShapes Go.ChangeShapes Go.Joins Go.Deep
variable {H : Type} {enc : TypeId × Value → H} {w : World} {base : Nat} {spare : Nat → Bool} {held : Bool}
theorem nil_cap {ts te : TypeId} (hts : Tryz.prog.underlying ts = some (.slice te)) {fuel n cap : Nat} {x : DataW H × List MemPlace} (h : DataW.trod enc Tryz.prog w base spare held fuel ts [.slice none n cap] = some x) : cap = 0 := by
  rcases open_slice hts h with ⟨e0, _⟩ | ⟨a, len, cap, m, n, D, Pl, e0, _⟩
  · simp at e0; exact e0.2
  · simp at e0
set_option maxRecDepth 100000 in
/-- A trade, by value; a nil slice has no capacity. -/
theorem open_tr2 {r : Reach} {b0 : Nat} {v : Value} {d : DataW H} {p : List MemPlace} (hv : Value.okWide Tryz.prog w r b0 25 v) (h : DataW.Trod enc Tryz.prog w base spare held 25 v d p) :
    ∃ t : TR, v = t.v ∧ t.Ok w ∧ (t.A = none → t.c = 0) ∧ ∃ e, d = .agg e := by
  obtain ⟨c0, c1, y0, y1, m, rfl, rfl, rfl, hy0, hy1⟩ := open_agg2 Tryz.underlying25 (by kernel_rfl) (by kernel_rfl) hv h
  obtain ⟨A, n, c, hs, e0, h1, h2, h3⟩ := open_rows encH (fun x => by rw [encH_len']; decide) default Tryz.underlying22 (by kernel_rfl) holder_cells hy0
  obtain ⟨B, k, q, ms, e1, g1, g2, g3⟩ := open_rows encM (fun x => by rw [encM_len']; decide) default Tryz.underlying23 (by kernel_rfl) move_cells hy1
  simp only [List.cons.injEq, and_true] at e0 e1
  subst e0 e1
  refine ⟨⟨A, n, c, B, k, q, hs, ms⟩, rfl, ⟨h1, g1, h2, g2, h3, g3⟩, fun hA => ?_, _, rfl⟩
  dsimp only at hA
  subst hA
  exact nil_cap Tryz.underlying22 hy0
end
set_option maxRecDepth 100000 in
set_option maxHeartbeats 12800000 in
theorem flowRests_walk (t : TR) (kind xi ia ib : Int) (w : World) (h : t.Ok w) (hA : t.A = none → t.c = 0) : Calls Tryz.prog 8 #[t.v, vAt kind xi, .int .i64 ia, .int .i64 ib] w fun e w' => e = .returned (.bool true) ∧ Below w.heap.size w w' := by
  obtain ⟨A, n, c, B, m, d, hs, ms⟩ := t
  have HSan := Lib.hid (fun u => sanity_any u)
  obtain ⟨fb, hfb⟩ : ∃ b, fewB n m = b := ⟨_, rfl⟩
  have HFew := Lib.hid (fun u => few_any A n c B m d u h.n_le h.m_le)
  rw [hfb] at HFew
  dsimp only [TR.v, vAt] at *
  have HB0 : Hid (Below w.heap.size w ((w.alloc (.cells #[.slice A n c, .slice B m d] 25)).alloc (.cells #[.int .i64 kind, .int .i64 xi] 83))) := Lib.hid (((Below.refl w.heap.size w).alloc (Nat.le_refl _) _).alloc (by simp) _)
  have T0 : Hid (Blk ((w.alloc (.cells #[.slice A n c, .slice B m d] 25)).alloc (.cells #[.int .i64 kind, .int .i64 xi] 83)) w.heap.size 25 #[.slice A n c, .slice B m d]) := Lib.hid ((Blk.at_new 25 #[.slice A n c, .slice B m d] rfl).alloc _)
  have X0 : Hid (Blk ((w.alloc (.cells #[.slice A n c, .slice B m d] 25)).alloc (.cells #[.int .i64 kind, .int .i64 xi] 83)) (w.heap.size + 1) 83 #[.int .i64 kind, .int .i64 xi]) := Lib.hid (Blk.at_new 83 #[.int .i64 kind, .int .i64 xi] (by simp))
  have O0 := Lib.hid ((h).below HB0.out)
  go_enter Tryz.func8, Tryz.ntmps8
  go_upto_region 1 with fail
  generalize hV : (w.alloc (.cells #[.slice A n c, .slice B m d] 25)).alloc (.cells #[.int .i64 kind, .int .i64 xi] 83) = V0 at *
  clear hV
  clear h hfb
  cases fb with
  | false =>
    have yT0 := T0.out.cell 0
    have yT1 := T0.out.cell 1
    have yX0 := X0.out.cell 0
    have yX1 := X0.out.cell 1
    simp only [List.getElem?_toArray, List.getElem?_cons_zero, List.getElem?_cons_succ] at yT0 yT1 yX0 yX1
    have yTl := T0.out.lt
    have yXl := X0.out.lt
    go_upto_region 2 with (go_at_call 12; with_reducible refine (HFew.out _).mono ?_; rintro e u1 ⟨rfl, hb1⟩; have T1 := Lib.hid (T0.out.below hb1); have X1 := Lib.hid (X0.out.below hb1); have O1 := Lib.hid (O0.out.below hb1); have HB1 := Lib.hid (HB0.out.trans (hb1.mono HB0.out.size)); clear hb1; have y1T0 := T1.out.cell 0; have y1T1 := T1.out.cell 1; have y1X0 := X1.out.cell 0; have y1X1 := X1.out.cell 1; simp only [List.getElem?_toArray, List.getElem?_cons_zero, List.getElem?_cons_succ] at y1T0 y1T1 y1X0 y1X1; have y1Tl := T1.out.lt; have y1Xl := X1.out.lt)
    clear yT0 yT1 yX0 yX1 yTl yXl y1T0 y1T1 y1X0 y1X1 y1Tl y1Xl T0 X0 O0 HB0
    have yT0 := T1.out.cell 0
    have yT1 := T1.out.cell 1
    have yX0 := X1.out.cell 0
    have yX1 := X1.out.cell 1
    simp only [List.getElem?_toArray, List.getElem?_cons_zero, List.getElem?_cons_succ] at yT0 yT1 yX0 yX1
    have yTl := T1.out.lt
    have yXl := X1.out.lt
    go_wp2_with (go_at_call 13; with_reducible refine (HSan.out _).mono ?_; rintro e u2 ⟨rfl, hb2⟩; have T2 := Lib.hid (T1.out.below hb2); have X2 := Lib.hid (X1.out.below hb2); have O2 := Lib.hid (O1.out.below hb2); have HB2 := Lib.hid (HB1.out.trans (hb2.mono HB1.out.size)); clear hb2; have y2T0 := T2.out.cell 0; have y2T1 := T2.out.cell 1; have y2X0 := X2.out.cell 0; have y2X1 := X2.out.cell 1; simp only [List.getElem?_toArray, List.getElem?_cons_zero, List.getElem?_cons_succ] at y2T0 y2T1 y2X0 y2X1; have y2Tl := T2.out.lt; have y2Xl := X2.out.lt)
    exact bodyPost_ret (v := .bool true) (by simp [results, Tryz.results8, go_sem]) rfl ⟨rfl, HB2.out⟩
  | true =>
  have yT0 := T0.out.cell 0
  have yT1 := T0.out.cell 1
  have yX0 := X0.out.cell 0
  have yX1 := X0.out.cell 1
  simp only [List.getElem?_toArray, List.getElem?_cons_zero, List.getElem?_cons_succ] at yT0 yT1 yX0 yX1
  have yTl := T0.out.lt
  have yXl := X0.out.lt
  go_upto_region 3 with (go_at_call 12; with_reducible refine (HFew.out _).mono ?_; rintro e u1 ⟨rfl, hb1⟩; have T1 := Lib.hid (T0.out.below hb1); have X1 := Lib.hid (X0.out.below hb1); have O1 := Lib.hid (O0.out.below hb1); have HB1 := Lib.hid (HB0.out.trans (hb1.mono HB0.out.size)); clear hb1; have y1T0 := T1.out.cell 0; have y1T1 := T1.out.cell 1; have y1X0 := X1.out.cell 0; have y1X1 := X1.out.cell 1; simp only [List.getElem?_toArray, List.getElem?_cons_zero, List.getElem?_cons_succ] at y1T0 y1T1 y1X0 y1X1; have y1Tl := T1.out.lt; have y1Xl := X1.out.lt)
  clear yT0 yT1 yX0 yX1 yTl yXl y1T0 y1T1 y1X0 y1X1 y1Tl y1Xl T0 X0 O0 HB0
  have HS := Lib.hid (fun (u : World) (hu : TR.Ok u ⟨A, n, c, B, m, d, hs, ms⟩) => re_tr (kind := kind) (xi := xi) hu)
  have HM := Lib.hid (fun (u : World) (hu : TR.Ok u ⟨A, n, c, B, m, d, hs, ms⟩) => rre_tr (kind := kind) (xi := xi) hu hA)
  have HN := Lib.hid (fun (u : World) (hu : TR.Ok u ⟨A, n, c, B, m, d, hs, ms⟩) => mgq_tr hu ia ib)
  have HR := Lib.hid (fun (u : World) (hu : TR.Ok u ⟨A, n, c, B, m, d, hs, ms⟩) => rmg_tr hu ia ib)
  dsimp only [TR.v, vAt] at HS HM HN HR
  generalize asE hs ms kind xi = ne at *
  generalize restL hs ms kind xi = sl at *
  generalize mgE hs ms ia ib = fe at *
  generalize mgH hs ms ia ib = nh at *
  generalize mgM hs ms ia ib = nm at *
  have yT0 := T1.out.cell 0
  have yT1 := T1.out.cell 1
  have yX0 := X1.out.cell 0
  have yX1 := X1.out.cell 1
  simp only [List.getElem?_toArray, List.getElem?_cons_zero, List.getElem?_cons_succ] at yT0 yT1 yX0 yX1
  have yTl := T1.out.lt
  have yXl := X1.out.lt
  have HC := Lib.hid (HS.out _ O1.out)
  try dsimp only [TR.v, vCt] at HC
  go_upto_region 4 with (go_at_call 41; (with_reducible refine HC.out.mono ?_); rintro e u2 ⟨As, ns, cs, rfl, ho, hns, hb⟩)
  clear yT0 yT1 yX0 yX1 yTl yXl
  clear HC
  have bn := hb
  have T2 := Lib.hid (T1.out.below bn)
  have X2 := Lib.hid (X1.out.below bn)
  have O2 := Lib.hid (O1.out.below bn)
  have HB2 := Lib.hid (HB1.out.trans (bn.mono HB1.out.size))
  have S2 := Lib.hid ((ho))
  clear hb bn T1 X1 O1 HB1
  clear ho
  have yT0 := T2.out.cell 0
  have yT1 := T2.out.cell 1
  have yX0 := X2.out.cell 0
  have yX1 := X2.out.cell 1
  simp only [List.getElem?_toArray, List.getElem?_cons_zero, List.getElem?_cons_succ] at yT0 yT1 yX0 yX1
  have yTl := T2.out.lt
  have yXl := X2.out.lt
  have HC := Lib.hid (HM.out _ O2.out)
  try dsimp only [TR.v, vCt] at HC
  go_upto_region 5 with (go_at_call 42; (with_reducible refine HC.out.mono ?_); rintro e u3 ⟨Am, nms, cm, rfl, ho, hnm, hb⟩)
  clear yT0 yT1 yX0 yX1 yTl yXl
  clear HC
  have bn := hb
  have bq : Below u3.heap.size u3 (u3.alloc (.cells #[.slice Am nms cm, .int .i64 ne] 46)) := ((Below.refl u3.heap.size u3).alloc (Nat.le_refl _) _)
  have bn := hb.trans (bq.mono hb.size)
  have T3 := Lib.hid (T2.out.below bn)
  have X3 := Lib.hid (X2.out.below bn)
  have O3 := Lib.hid (O2.out.below bn)
  have S3 := Lib.hid (S2.out.below bn)
  have HB3 := Lib.hid (HB2.out.trans (bn.mono HB2.out.size))
  have P3 := Lib.hid ((ho).below bq)
  have Ma3 : Hid (Blk (u3.alloc (.cells #[.slice Am nms cm, .int .i64 ne] 46)) u3.heap.size 46 #[.slice Am nms cm, .int .i64 ne]) := Lib.hid (Blk.at_new 46 #[.slice Am nms cm, .int .i64 ne] rfl)
  generalize hV : u3.alloc (.cells #[.slice Am nms cm, .int .i64 ne] 46) = V3 at *
  generalize hp : u3.heap.size = p3 at *
  clear hV hp bq
  clear hb bn T2 X2 O2 S2 HB2
  clear ho
  have yT0 := T3.out.cell 0
  have yT1 := T3.out.cell 1
  have yX0 := X3.out.cell 0
  have yX1 := X3.out.cell 1
  have yMa0 := Ma3.out.cell 0
  have yMa1 := Ma3.out.cell 1
  simp only [List.getElem?_toArray, List.getElem?_cons_zero, List.getElem?_cons_succ] at yT0 yT1 yX0 yX1 yMa0 yMa1
  have yTl := T3.out.lt
  have yXl := X3.out.lt
  have yMal := Ma3.out.lt
  have HC := Lib.hid (HN.out _ O3.out)
  try dsimp only [TR.v, vCt] at HC
  go_upto_region 6 with (go_at_call 43; (with_reducible refine HC.out.mono ?_); rintro e u4 ⟨Q1, w1, x1, Q2, w2, x2, rfl, ho, hw1, hw2, hb⟩)
  clear yT0 yT1 yX0 yX1 yMa0 yMa1 yTl yXl yMal
  clear HC
  have bn := hb
  have bq : Below u4.heap.size u4 (u4.alloc (.cells #[.slice Q1 w1 x1, .slice Q2 w2 x2] 25)) := ((Below.refl u4.heap.size u4).alloc (Nat.le_refl _) _)
  have bn := hb.trans (bq.mono hb.size)
  have T4 := Lib.hid (T3.out.below bn)
  have X4 := Lib.hid (X3.out.below bn)
  have O4 := Lib.hid (O3.out.below bn)
  have S4 := Lib.hid (S3.out.below bn)
  have Ma4 := Lib.hid (Ma3.out.below bn)
  have P4 := Lib.hid (P3.out.below bn)
  have HB4 := Lib.hid (HB3.out.trans (bn.mono HB3.out.size))
  have Q4 := Lib.hid ((ho).below bq)
  have Na4 : Hid (Blk (u4.alloc (.cells #[.slice Q1 w1 x1, .slice Q2 w2 x2] 25)) u4.heap.size 25 #[.slice Q1 w1 x1, .slice Q2 w2 x2]) := Lib.hid (Blk.at_new 25 #[.slice Q1 w1 x1, .slice Q2 w2 x2] rfl)
  generalize hV : u4.alloc (.cells #[.slice Q1 w1 x1, .slice Q2 w2 x2] 25) = V4 at *
  generalize hp : u4.heap.size = p4 at *
  clear hV hp bq
  clear hb bn T3 X3 O3 S3 Ma3 P3 HB3
  clear ho
  have yT0 := T4.out.cell 0
  have yT1 := T4.out.cell 1
  have yX0 := X4.out.cell 0
  have yX1 := X4.out.cell 1
  have yMa0 := Ma4.out.cell 0
  have yMa1 := Ma4.out.cell 1
  have yNa0 := Na4.out.cell 0
  have yNa1 := Na4.out.cell 1
  simp only [List.getElem?_toArray, List.getElem?_cons_zero, List.getElem?_cons_succ] at yT0 yT1 yX0 yX1 yMa0 yMa1 yNa0 yNa1
  have yTl := T4.out.lt
  have yXl := X4.out.lt
  have yMal := Ma4.out.lt
  have yNal := Na4.out.lt
  have HC := Lib.hid (HR.out _ O4.out)
  try dsimp only [TR.v, vCt] at HC
  go_upto_region 7 with (go_at_call 44; (with_reducible refine HC.out.mono ?_); rintro e u5 ⟨R1, v1, z1, R2, v2, z2, rfl, ho, hv1, hv2, hb⟩)
  clear yT0 yT1 yX0 yX1 yMa0 yMa1 yNa0 yNa1 yTl yXl yMal yNal
  clear HC
  have bn := hb
  have bq : Below u5.heap.size u5 (u5.alloc (.cells #[.slice R1 v1 z1, .slice R2 v2 z2, .int .i64 fe] 38)) := ((Below.refl u5.heap.size u5).alloc (Nat.le_refl _) _)
  have bn := hb.trans (bq.mono hb.size)
  have T5 := Lib.hid (T4.out.below bn)
  have X5 := Lib.hid (X4.out.below bn)
  have O5 := Lib.hid (O4.out.below bn)
  have S5 := Lib.hid (S4.out.below bn)
  have Ma5 := Lib.hid (Ma4.out.below bn)
  have P5 := Lib.hid (P4.out.below bn)
  have Na5 := Lib.hid (Na4.out.below bn)
  have Q5 := Lib.hid (Q4.out.below bn)
  have HB5 := Lib.hid (HB4.out.trans (bn.mono HB4.out.size))
  have R5 := Lib.hid ((ho).below bq)
  have Ra5 : Hid (Blk (u5.alloc (.cells #[.slice R1 v1 z1, .slice R2 v2 z2, .int .i64 fe] 38)) u5.heap.size 38 #[.slice R1 v1 z1, .slice R2 v2 z2, .int .i64 fe]) := Lib.hid (Blk.at_new 38 #[.slice R1 v1 z1, .slice R2 v2 z2, .int .i64 fe] rfl)
  generalize hV : u5.alloc (.cells #[.slice R1 v1 z1, .slice R2 v2 z2, .int .i64 fe] 38) = V5 at *
  generalize hp : u5.heap.size = p5 at *
  clear hV hp bq
  clear hb bn T4 X4 O4 S4 Ma4 P4 Na4 Q4 HB4
  clear ho
  have HSs := Lib.hid (fun (u : World) (q1 : SAt encI 1 u As ns sl) (q2 : SAt encI 1 u Am nms sl) => (SameInts_any As ns cs Am nms cm sl sl u q1 q2 (by omega) (by omega)).mono (fun e w' (h : e = .returned (.bool (decide (sl = sl))) ∧ Below u.heap.size u w') => (⟨by rw [h.1, decide_eq_true rfl], h.2⟩ : e = .returned (.bool true) ∧ Below u.heap.size u w')))
  have HSt := Lib.hid (fun (u : World) (q1 : TR.Ok u ⟨Q1, w1, x1, Q2, w2, x2, nh, nm⟩) (q2 : TR.Ok u ⟨R1, v1, z1, R2, v2, z2, nh, nm⟩) => SameTrade_same Q1 w1 x1 Q2 w2 x2 R1 v1 z1 R2 v2 z2 nh nm u q1.h q1.m q2.h q2.m (by omega) (by omega))
  have yT0 := T5.out.cell 0
  have yT1 := T5.out.cell 1
  have yX0 := X5.out.cell 0
  have yX1 := X5.out.cell 1
  have yMa0 := Ma5.out.cell 0
  have yMa1 := Ma5.out.cell 1
  have yNa0 := Na5.out.cell 0
  have yNa1 := Na5.out.cell 1
  have yRa0 := Ra5.out.cell 0
  have yRa1 := Ra5.out.cell 1
  have yRa2 := Ra5.out.cell 2
  simp only [List.getElem?_toArray, List.getElem?_cons_zero, List.getElem?_cons_succ] at yT0 yT1 yX0 yX1 yMa0 yMa1 yNa0 yNa1 yRa0 yRa1 yRa2
  have yTl := T5.out.lt
  have yXl := X5.out.lt
  have yMal := Ma5.out.lt
  have yNal := Na5.out.lt
  have yRal := Ra5.out.lt
  go_wp2_with (first | (go_at_call 13; with_reducible refine (HSan.out _).mono ?_; rintro e u6 ⟨rfl, hb6⟩; have T6 := Lib.hid (T5.out.below hb6); have X6 := Lib.hid (X5.out.below hb6); have O6 := Lib.hid (O5.out.below hb6); have S6 := Lib.hid (S5.out.below hb6); have Ma6 := Lib.hid (Ma5.out.below hb6); have P6 := Lib.hid (P5.out.below hb6); have Na6 := Lib.hid (Na5.out.below hb6); have Q6 := Lib.hid (Q5.out.below hb6); have Ra6 := Lib.hid (Ra5.out.below hb6); have R6 := Lib.hid (R5.out.below hb6); have HB6 := Lib.hid (HB5.out.trans (hb6.mono HB5.out.size)); clear hb6; have y6T0 := T6.out.cell 0; have y6T1 := T6.out.cell 1; have y6X0 := X6.out.cell 0; have y6X1 := X6.out.cell 1; have y6Ma0 := Ma6.out.cell 0; have y6Ma1 := Ma6.out.cell 1; have y6Na0 := Na6.out.cell 0; have y6Na1 := Na6.out.cell 1; have y6Ra0 := Ra6.out.cell 0; have y6Ra1 := Ra6.out.cell 1; have y6Ra2 := Ra6.out.cell 2; simp only [List.getElem?_toArray, List.getElem?_cons_zero, List.getElem?_cons_succ] at y6T0 y6T1 y6X0 y6X1 y6Ma0 y6Ma1 y6Na0 y6Na1 y6Ra0 y6Ra1 y6Ra2; have y6Tl := T6.out.lt; have y6Xl := X6.out.lt; have y6Mal := Ma6.out.lt; have y6Nal := Na6.out.lt; have y6Ral := Ra6.out.lt) | (go_at_call 24; with_reducible refine (HSs.out _ S6.out P6.out).mono ?_; rintro e u7 ⟨rfl, hb7⟩; have T7 := Lib.hid (T6.out.below hb7); have X7 := Lib.hid (X6.out.below hb7); have O7 := Lib.hid (O6.out.below hb7); have S7 := Lib.hid (S6.out.below hb7); have Ma7 := Lib.hid (Ma6.out.below hb7); have P7 := Lib.hid (P6.out.below hb7); have Na7 := Lib.hid (Na6.out.below hb7); have Q7 := Lib.hid (Q6.out.below hb7); have Ra7 := Lib.hid (Ra6.out.below hb7); have R7 := Lib.hid (R6.out.below hb7); have HB7 := Lib.hid (HB6.out.trans (hb7.mono HB6.out.size)); clear hb7; have y7T0 := T7.out.cell 0; have y7T1 := T7.out.cell 1; have y7X0 := X7.out.cell 0; have y7X1 := X7.out.cell 1; have y7Ma0 := Ma7.out.cell 0; have y7Ma1 := Ma7.out.cell 1; have y7Na0 := Na7.out.cell 0; have y7Na1 := Na7.out.cell 1; have y7Ra0 := Ra7.out.cell 0; have y7Ra1 := Ra7.out.cell 1; have y7Ra2 := Ra7.out.cell 2; simp only [List.getElem?_toArray, List.getElem?_cons_zero, List.getElem?_cons_succ] at y7T0 y7T1 y7X0 y7X1 y7Ma0 y7Ma1 y7Na0 y7Na1 y7Ra0 y7Ra1 y7Ra2; have y7Tl := T7.out.lt; have y7Xl := X7.out.lt; have y7Mal := Ma7.out.lt; have y7Nal := Na7.out.lt; have y7Ral := Ra7.out.lt) | (go_at_call 19; with_reducible refine (HSt.out _ Q7.out R7.out).mono ?_; rintro e u8 ⟨rfl, hb8⟩; have T8 := Lib.hid (T7.out.below hb8); have X8 := Lib.hid (X7.out.below hb8); have O8 := Lib.hid (O7.out.below hb8); have S8 := Lib.hid (S7.out.below hb8); have Ma8 := Lib.hid (Ma7.out.below hb8); have P8 := Lib.hid (P7.out.below hb8); have Na8 := Lib.hid (Na7.out.below hb8); have Q8 := Lib.hid (Q7.out.below hb8); have Ra8 := Lib.hid (Ra7.out.below hb8); have R8 := Lib.hid (R7.out.below hb8); have HB8 := Lib.hid (HB7.out.trans (hb8.mono HB7.out.size)); clear hb8; have y8T0 := T8.out.cell 0; have y8T1 := T8.out.cell 1; have y8X0 := X8.out.cell 0; have y8X1 := X8.out.cell 1; have y8Ma0 := Ma8.out.cell 0; have y8Ma1 := Ma8.out.cell 1; have y8Na0 := Na8.out.cell 0; have y8Na1 := Na8.out.cell 1; have y8Ra0 := Ra8.out.cell 0; have y8Ra1 := Ra8.out.cell 1; have y8Ra2 := Ra8.out.cell 2; simp only [List.getElem?_toArray, List.getElem?_cons_zero, List.getElem?_cons_succ] at y8T0 y8T1 y8X0 y8X1 y8Ma0 y8Ma1 y8Na0 y8Na1 y8Ra0 y8Ra1 y8Ra2; have y8Tl := T8.out.lt; have y8Xl := X8.out.lt; have y8Mal := Ma8.out.lt; have y8Nal := Na8.out.lt; have y8Ral := Ra8.out.lt))
  exact bodyPost_ret (v := .bool true) (by simp [results, Tryz.results8, go_sem]) rfl ⟨rfl, HB8.out⟩
open Go.WideShapes Go.ChangeShapes Go.Joins Go.Deep
set_option maxRecDepth 100000 in
theorem flowRests_lifted (os : Os) (started : os.Started) (H : Type) (enc : TypeId × Value → H) :
    ReturnsInHanded Rows.flowRestsRow.assume Tryz.checked os 8 .any (Rows.flowRestsSpec.pre6 enc Tryz.prog Tryz.f8 Rows.flowRestsRow.domain false) (Rows.flowRestsSpec.post enc Tryz.prog Tryz.f8 false Rows.flowRestsRow.fresh Rows.flowRestsRow.handsOn Rows.flowRestsRow.again) := by
  refine returnsInHanded_of_change (C := Tryz.checked) (by kernel_rfl) started (by kernel_rfl) Tryz.func8
    (ChangeSpec.witness6 (enc := enc) (C := Tryz.checked) false ⟨#[], #[.agg #[.slice none 0 0, .slice none 0 0], .agg #[.int .i64 0, .int .i64 0], .int .i64 0, .int .i64 0], []⟩ 8 (by kernel_rfl) (by kernel_rfl) (by kernel_rfl) (by kernel_rfl)) ?_
  intro W base args ds gs before hval0 hW hcnd _
  have hval : ∀ (j : Nat) t v, Tryz.f8.params[j]? = some t → args[j]? = some v → Value.okWide Tryz.prog W .any base t v := hval0
  have hW' := hW
  obtain ⟨p, q, hA0, hV, rfl, hfz, hnd⟩ := hW
  obtain ⟨rfl, rfl⟩ := trodVars_none hV
  have hA : DataW.TrodAll enc Tryz.prog W 0 (fun _ => true) true [25, 83, 3, 3] args.toList ds p := hA0
  obtain ⟨v0, v1, v2, v3, d0, d1, d2, d3, p0, p1, p2, p3, rfl, rfl, rfl, h0, h1, h2, h3⟩ := trodAll_four hA
  obtain ⟨t, rfl, hT, hA2, _, rfl⟩ := open_tr2 (hval 0 25 v0 rfl rfl) h0
  obtain ⟨kind, xi, rfl, _, rfl⟩ := open_at (hval 1 83 v1 rfl rfl) h1
  obtain ⟨ia, rfl, rfl, rfl, _⟩ := open_int Tryz.underlying3 (hval 2 3 v2 rfl rfl) h2
  obtain ⟨ib, rfl, rfl, rfl, _⟩ := open_int Tryz.underlying3 (hval 3 3 v3 rfl rfl) h3
  refine (flowRests_walk t kind xi ia ib W hT hA2).mono fun e W' ⟨he, hb⟩ => ⟨_, he, law_post laid_out (by kernel_rfl) rfl Tryz.underlying4 rfl hW' rfl rfl rfl hb⟩

theorem flowRests : Rows.FlowRestsSaid :=
  OpenClaim.holds_of_wide 8 Tryz.f8 rfl rfl rfl rfl rfl rfl rfl ⟨rfl, rfl, rfl, rfl, rfl⟩ rfl rfl rfl rfl rfl (by kernel_rfl) Tryz.func8 (by kernel_rfl)
    (of_decide_eq_true (by kernel_rfl)) (by unfold Func.isWrapper; first | (rw [if_pos (by decide +kernel)]; kernel_rfl) | (rw [if_neg (by decide +kernel)]; exact ⟨rfl, rfl⟩))
    (fun os started H enc _ => flowRests_lifted os started H enc)
#print axioms flowRests
end Go.Proofs.YtighfmgkoepfkaaGreat
