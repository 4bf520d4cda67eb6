/- The law FlowChecks. -/
import Derived.Test.YtighfmgkoepfkaaMY
import Derived.Test.YtighfmgkoepfkaaMI
namespace Go.Proofs.Ytighfmgkoepfkaa
open Go.RowKit

theorem wiH_len (hs : List Hd) (ms : List Mv) : (wiH hs ms).length ≤ 9 := by
  unfold wiH
  by_cases hc : tcheck hs ms = 0
  · rw [if_neg (by simpa using hc)]; exact (tcheck_zero.1 hc).lenH
  · rw [if_pos hc]; decide
theorem wiM_len (hs : List Hd) (ms : List Mv) (l : List Int) : (wiM hs ms l).length ≤ 24 := by
  unfold wiM
  by_cases hc : tcheck hs ms = 0
  · rw [if_neg (by simpa using hc)]; exact Nat.le_trans (List.length_filter_le _ _) (tcheck_zero.1 hc).lenM
  · rw [if_pos hc]; decide
theorem wi_tr {t : TR} {A' : Option Addr} {n' c' : Nat} {l : List Int} {w : World} (h : t.Ok w) (hl : SAt encI 1 w A' n' l) (hn' : n' ≤ 1000000) : Calls Try.prog 24 #[t.v, .slice A' n' c'] w fun e w' => ∃ A n c B m d, e = .returned (.tuple #[.agg #[.slice A n c, .slice B m d], .int .i64 (tcheck t.hs t.ms)]) ∧ TR.Ok w' ⟨A, n, c, B, m, d, wiH t.hs t.ms, wiM t.hs t.ms l⟩ ∧ n ≤ 9 ∧ m ≤ 24 ∧ Below w.heap.size w w' := by
  refine (Without_any t A' n' c' l w h hl hn').mono ?_
  rintro e w' ⟨hb, v1, v2, rfl, ho⟩
  obtain ⟨A, c, B, d, rfl, rfl, a1, a2, a3, a4, _, _⟩ := ho.form
  have l1 := wiH_len t.hs t.ms
  have l2 := wiM_len t.hs t.ms l
  exact ⟨A, _, c, B, _, d, rfl, ⟨a1, a2, by show (wiH t.hs t.ms).length ≤ _; omega, by show (wiM t.hs t.ms l).length ≤ _; omega, a3, a4⟩, l1, l2, hb⟩
theorem rwi_tr {t : TR} {A' : Option Addr} {n' c' : Nat} {l : List Int} {w : World} (h : t.Ok w) (hl : SAt encI 1 w A' n' l) (hn' : n' ≤ 1000000) (hA : t.A = none → t.c = 0) : Calls Try.prog 25 #[t.v, .slice A' n' c'] w fun e w' => ∃ A n c B m d, e = .returned (.agg #[.slice A n c, .slice B m d, .int .i64 (tcheck t.hs t.ms)]) ∧ TR.Ok w' ⟨A, n, c, B, m, d, wiH t.hs t.ms, wiM t.hs t.ms l⟩ ∧ Below w.heap.size w w' := by
  refine (RWithout_any t A' n' c' l w h hl hn' hA).mono ?_
  rintro e w' ⟨hb, v1, v2, rfl, ho⟩
  obtain ⟨A, c, B, d, rfl, rfl, a1, a2, a3, a4, _, _⟩ := ho.form
  have l1 := wiH_len t.hs t.ms
  have l2 := wiM_len t.hs t.ms l
  exact ⟨A, _, c, B, _, d, rfl, ⟨a1, a2, by show (wiH t.hs t.ms).length ≤ _; omega, by show (wiM t.hs t.ms l).length ≤ _; omega, a3, a4⟩, hb⟩
section
open Go.WideShapes Go.ChangeShapes Go.Joins Go.Deep
variable {H : Type} {enc : TypeId × Value → H} {w : World} {base : Nat} {spare : Nat → Bool} {held : Bool}
theorem nil_cap {ts te : TypeId} (hts : Try.prog.underlying ts = some (.slice te)) {fuel n cap : Nat} {x : DataW H × List MemPlace} (h : DataW.trod enc Try.prog w base spare held fuel ts [.slice none n cap] = some x) : cap = 0 := by
  rcases open_slice hts h with ⟨e0, _⟩ | ⟨a, len, cap, m, n, D, Pl, e0, _⟩
  · simp at e0; exact e0.2
  · simp at e0
set_option maxRecDepth 100000 in
/-- A trade, by value; a nil slice has no capacity. -/
theorem open_tr2 {r : Reach} {b0 : Nat} {v : Value} {d : DataW H} {p : List MemPlace} (hv : Value.okWide Try.prog w r b0 25 v) (h : DataW.Trod enc Try.prog w base spare held 25 v d p) :
    ∃ t : TR, v = t.v ∧ t.Ok w ∧ (t.A = none → t.c = 0) ∧ ∃ e, d = .agg e := by
  obtain ⟨c0, c1, y0, y1, m, rfl, rfl, rfl, hy0, hy1⟩ := open_agg2 Try.underlying25 (by kernel_rfl) (by kernel_rfl) hv h
  obtain ⟨A, n, c, hs, e0, h1, h2, h3⟩ := open_rows encH (fun x => by rw [encH_len']; decide) default Try.underlying22 (by kernel_rfl) holder_cells hy0
  obtain ⟨B, k, q, ms, e1, g1, g2, g3⟩ := open_rows encM (fun x => by rw [encM_len']; decide) default Try.underlying23 (by kernel_rfl) move_cells hy1
  simp only [List.cons.injEq, and_true] at e0 e1
  subst e0 e1
  refine ⟨⟨A, n, c, B, k, q, hs, ms⟩, rfl, ⟨h1, g1, h2, g2, h3, g3⟩, fun hA => ?_, _, rfl⟩
  dsimp only at hA
  subst hA
  exact nil_cap Try.underlying22 hy0
end
set_option maxRecDepth 100000 in
set_option maxHeartbeats 12800000 in
theorem flowChecks_walk (t : TR) (Ai : Option Addr) (ki ci : Nat) (ids : List Int) (w : World) (h : t.Ok w) (hi : SAt encI 1 w Ai ki ids) (hA : t.A = none → t.c = 0) : Calls Try.prog 5 #[t.v, .slice Ai ki ci] w fun e w' => e = .returned (.bool true) ∧ Below w.heap.size w w' := by
  obtain ⟨A, n, c, B, m, d, hs, ms⟩ := t
  have HSan := Lib.hid (fun u => sanity_any u)
  obtain ⟨fb, hfb⟩ : ∃ b, fewB n m = b := ⟨_, rfl⟩
  have HFew := Lib.hid (fun u => few_any A n c B m d u h.n_le h.m_le)
  rw [hfb] at HFew
  dsimp only [TR.v] at *
  have HB0 : Hid (Below w.heap.size w (w.alloc (.cells #[.slice A n c, .slice B m d] 25))) := Lib.hid ((Below.refl w.heap.size w).alloc (Nat.le_refl _) _)
  have T0 : Hid (Blk (w.alloc (.cells #[.slice A n c, .slice B m d] 25)) w.heap.size 25 #[.slice A n c, .slice B m d]) := Lib.hid (Blk.at_new 25 #[.slice A n c, .slice B m d] rfl)
  have O0 := Lib.hid ((h).below HB0.out)
  have I0 := Lib.hid ((hi).below HB0.out)
  go_enter Try.func5, Try.ntmps5
  go_upto_region 1 with fail
  generalize hV : w.alloc (.cells #[.slice A n c, .slice B m d] 25) = V0 at *
  clear hV
  clear h hi hfb
  cases fb with
  | false =>
    have yT0 := T0.out.cell 0
    have yT1 := T0.out.cell 1
    simp only [List.getElem?_toArray, List.getElem?_cons_zero, List.getElem?_cons_succ] at yT0 yT1
    have yTl := T0.out.lt
    go_upto_region 2 with (go_at_call 13; with_reducible refine (HFew.out _).mono ?_; rintro e u1 ⟨rfl, hb1⟩; have T1 := Lib.hid (T0.out.below hb1); have O1 := Lib.hid (O0.out.below hb1); have I1 := Lib.hid (I0.out.below hb1); have HB1 := Lib.hid (HB0.out.trans (hb1.mono HB0.out.size)); clear hb1; have y1T0 := T1.out.cell 0; have y1T1 := T1.out.cell 1; simp only [List.getElem?_toArray, List.getElem?_cons_zero, List.getElem?_cons_succ] at y1T0 y1T1; have y1Tl := T1.out.lt)
    clear yT0 yT1 yTl y1T0 y1T1 y1Tl T0 O0 I0 HB0
    have yT0 := T1.out.cell 0
    have yT1 := T1.out.cell 1
    simp only [List.getElem?_toArray, List.getElem?_cons_zero, List.getElem?_cons_succ] at yT0 yT1
    have yTl := T1.out.lt
    go_wp2_with (go_at_call 14; with_reducible refine (HSan.out _).mono ?_; rintro e u2 ⟨rfl, hb2⟩; have T2 := Lib.hid (T1.out.below hb2); have O2 := Lib.hid (O1.out.below hb2); have I2 := Lib.hid (I1.out.below hb2); have HB2 := Lib.hid (HB1.out.trans (hb2.mono HB1.out.size)); clear hb2; have y2T0 := T2.out.cell 0; have y2T1 := T2.out.cell 1; simp only [List.getElem?_toArray, List.getElem?_cons_zero, List.getElem?_cons_succ] at y2T0 y2T1; have y2Tl := T2.out.lt)
    exact bodyPost_ret (v := .bool true) (by simp [results, Try.results5, go_sem]) rfl ⟨rfl, HB2.out⟩
  | true =>
  by_cases hk60 : 60 < ki
  case pos =>
    have hkb : decide ((60 : Int) < (ki : Int)) = true := decide_eq_true (by omega)
    have yT0 := T0.out.cell 0
    have yT1 := T0.out.cell 1
    simp only [List.getElem?_toArray, List.getElem?_cons_zero, List.getElem?_cons_succ] at yT0 yT1
    have yTl := T0.out.lt
    go_upto_region 2 with (go_at_call 13; with_reducible refine (HFew.out _).mono ?_; rintro e u1 ⟨rfl, hb1⟩; have T1 := Lib.hid (T0.out.below hb1); have O1 := Lib.hid (O0.out.below hb1); have I1 := Lib.hid (I0.out.below hb1); have HB1 := Lib.hid (HB0.out.trans (hb1.mono HB0.out.size)); clear hb1; have y1T0 := T1.out.cell 0; have y1T1 := T1.out.cell 1; simp only [List.getElem?_toArray, List.getElem?_cons_zero, List.getElem?_cons_succ] at y1T0 y1T1; have y1Tl := T1.out.lt)
    clear yT0 yT1 yTl y1T0 y1T1 y1Tl T0 O0 I0 HB0
    have yT0 := T1.out.cell 0
    have yT1 := T1.out.cell 1
    simp only [List.getElem?_toArray, List.getElem?_cons_zero, List.getElem?_cons_succ] at yT0 yT1
    have yTl := T1.out.lt
    go_wp2_with (go_at_call 14; with_reducible refine (HSan.out _).mono ?_; rintro e u2 ⟨rfl, hb2⟩; have T2 := Lib.hid (T1.out.below hb2); have O2 := Lib.hid (O1.out.below hb2); have I2 := Lib.hid (I1.out.below hb2); have HB2 := Lib.hid (HB1.out.trans (hb2.mono HB1.out.size)); clear hb2; have y2T0 := T2.out.cell 0; have y2T1 := T2.out.cell 1; simp only [List.getElem?_toArray, List.getElem?_cons_zero, List.getElem?_cons_succ] at y2T0 y2T1; have y2Tl := T2.out.lt)
    exact bodyPost_ret (v := .bool true) (by simp [results, Try.results5, go_sem]) rfl ⟨rfl, HB2.out⟩
  case neg =>
  have hkb : decide ((60 : Int) < (ki : Int)) = false := decide_eq_false (by omega)
  have yT0 := T0.out.cell 0
  have yT1 := T0.out.cell 1
  simp only [List.getElem?_toArray, List.getElem?_cons_zero, List.getElem?_cons_succ] at yT0 yT1
  have yTl := T0.out.lt
  go_upto_region 3 with (go_at_call 13; with_reducible refine (HFew.out _).mono ?_; rintro e u1 ⟨rfl, hb1⟩; have T1 := Lib.hid (T0.out.below hb1); have O1 := Lib.hid (O0.out.below hb1); have I1 := Lib.hid (I0.out.below hb1); have HB1 := Lib.hid (HB0.out.trans (hb1.mono HB0.out.size)); clear hb1; have y1T0 := T1.out.cell 0; have y1T1 := T1.out.cell 1; simp only [List.getElem?_toArray, List.getElem?_cons_zero, List.getElem?_cons_succ] at y1T0 y1T1; have y1Tl := T1.out.lt)
  clear yT0 yT1 yTl y1T0 y1T1 y1Tl T0 O0 I0 HB0
  clear hkb
  have HW1 := Lib.hid (fun (u : World) (hu : TR.Ok u ⟨A, n, c, B, m, d, hs, ms⟩) => (fun (q : SAt encI 1 u Ai ki ids) => wi_tr hu q (c' := ci) (by omega)))
  have HW2 := Lib.hid (fun (u : World) (hu : TR.Ok u ⟨A, n, c, B, m, d, hs, ms⟩) => (fun (q : SAt encI 1 u Ai ki ids) => rwi_tr hu q (c' := ci) (by omega) hA))
  have HC1 := Lib.hid (fun (u : World) (hu : TR.Ok u ⟨A, n, c, B, m, d, hs, ms⟩) => Check_any ⟨A, n, c, B, m, d, hs, ms⟩ u hu)
  have HC2 := Lib.hid (fun (u : World) (hu : TR.Ok u ⟨A, n, c, B, m, d, hs, ms⟩) => RCheck_any ⟨A, n, c, B, m, d, hs, ms⟩ u hu)
  dsimp only [TR.v] at HW1 HW2 HC1 HC2
  generalize tcheck hs ms = tc at *
  have yT0 := T1.out.cell 0
  have yT1 := T1.out.cell 1
  simp only [List.getElem?_toArray, List.getElem?_cons_zero, List.getElem?_cons_succ] at yT0 yT1
  have yTl := T1.out.lt
  have HC := Lib.hid (HW1.out _ O1.out I1.out)
  try dsimp only [TR.v, vCt] at HC
  go_upto_region 4 with (go_at_call 24; with_reducible refine HC.out.mono ?_; rintro e u2 ⟨Q1, w1, x1, Q2, w2, x2, rfl, ho, hl1, hl2, hb⟩)
  clear yT0 yT1 yTl
  clear HC
  have bn := hb
  have bq : Below u2.heap.size u2 (u2.alloc (.cells #[.slice Q1 w1 x1, .slice Q2 w2 x2] 25)) := ((Below.refl u2.heap.size u2).alloc (Nat.le_refl _) _)
  have bn := hb.trans (bq.mono hb.size)
  have T2 := Lib.hid (T1.out.below bn)
  have O2 := Lib.hid (O1.out.below bn)
  have I2 := Lib.hid (I1.out.below bn)
  have HB2 := Lib.hid (HB1.out.trans (bn.mono HB1.out.size))
  have N2 := Lib.hid ((ho).below bq)
  have Y2 : Hid (Blk (u2.alloc (.cells #[.slice Q1 w1 x1, .slice Q2 w2 x2] 25)) u2.heap.size 25 #[.slice Q1 w1 x1, .slice Q2 w2 x2]) := Lib.hid (Blk.at_new 25 #[.slice Q1 w1 x1, .slice Q2 w2 x2] rfl)
  generalize hV : u2.alloc (.cells #[.slice Q1 w1 x1, .slice Q2 w2 x2] 25) = V2 at *
  generalize hp : u2.heap.size = p2 at *
  clear hV hp bq
  clear hb bn T1 O1 I1 HB1
  clear ho
  have yT0 := T2.out.cell 0
  have yT1 := T2.out.cell 1
  have yY0 := Y2.out.cell 0
  have yY1 := Y2.out.cell 1
  simp only [List.getElem?_toArray, List.getElem?_cons_zero, List.getElem?_cons_succ] at yT0 yT1 yY0 yY1
  have yTl := T2.out.lt
  have yYl := Y2.out.lt
  have HC := Lib.hid (HW2.out _ O2.out I2.out)
  try dsimp only [TR.v, vCt] at HC
  go_upto_region 5 with (go_at_call 25; with_reducible refine HC.out.mono ?_; rintro e u3 ⟨R1, y1, z1, R2, y2, z2, rfl, ho, hb⟩)
  clear yT0 yT1 yY0 yY1 yTl yYl
  clear HC
  have bn := hb
  have bq : Below u3.heap.size u3 (u3.alloc (.cells #[.slice R1 y1 z1, .slice R2 y2 z2, .int .i64 tc] 59)) := ((Below.refl u3.heap.size u3).alloc (Nat.le_refl _) _)
  have bn := hb.trans (bq.mono hb.size)
  have T3 := Lib.hid (T2.out.below bn)
  have O3 := Lib.hid (O2.out.below bn)
  have I3 := Lib.hid (I2.out.below bn)
  have Y3 := Lib.hid (Y2.out.below bn)
  have N3 := Lib.hid (N2.out.below bn)
  have HB3 := Lib.hid (HB2.out.trans (bn.mono HB2.out.size))
  have P3 := Lib.hid ((ho).below bq)
  have Z3 : Hid (Blk (u3.alloc (.cells #[.slice R1 y1 z1, .slice R2 y2 z2, .int .i64 tc] 59)) u3.heap.size 59 #[.slice R1 y1 z1, .slice R2 y2 z2, .int .i64 tc]) := Lib.hid (Blk.at_new 59 #[.slice R1 y1 z1, .slice R2 y2 z2, .int .i64 tc] rfl)
  generalize hV : u3.alloc (.cells #[.slice R1 y1 z1, .slice R2 y2 z2, .int .i64 tc] 59) = V3 at *
  generalize hp : u3.heap.size = p3 at *
  clear hV hp bq
  clear hb bn T2 O2 I2 Y2 N2 HB2
  clear ho
  have yT0 := T3.out.cell 0
  have yT1 := T3.out.cell 1
  have yY0 := Y3.out.cell 0
  have yY1 := Y3.out.cell 1
  have yZ0 := Z3.out.cell 0
  have yZ1 := Z3.out.cell 1
  have yZ2 := Z3.out.cell 2
  simp only [List.getElem?_toArray, List.getElem?_cons_zero, List.getElem?_cons_succ] at yT0 yT1 yY0 yY1 yZ0 yZ1 yZ2
  have yTl := T3.out.lt
  have yYl := Y3.out.lt
  have yZl := Z3.out.lt
  have HS := Lib.hid (fun x : Ext V3 => SameTrade_same Q1 w1 x1 Q2 w2 x2 R1 y1 z1 R2 y2 z2 (wiH hs ms) (wiM hs ms ids) x.w (N3.out.h.below x.below) (N3.out.m.below x.below) (P3.out.h.below x.below) (P3.out.m.below x.below) (by omega) (by omega))
  have HD1 := Lib.hid (fun x : Ext V3 => HC1.out x.w (O3.out.below x.below))
  have HD2 := Lib.hid (fun x : Ext V3 => HC2.out x.w (O3.out.below x.below))
  have e1 : (tc == tc) = true := by simp
  obtain ⟨xc, xf'⟩ := xcell (W := V3)
  refine wp_region_quiet_tail 20 (by kernel_rfl) (by kernel_rfl) ?_
  simp only [List.take_succ_cons, List.take_zero, List.drop_succ_cons, List.drop_zero]
  repeat (first | go_big_quiet_step ((first | (go_at_call 14; with_reducible refine calls_ext (HSan.out _)) | (go_at_call 27; with_reducible refine calls_ext (HS.out _)) | (go_at_call 26; with_reducible refine calls_ext (HD1.out _)) | (go_at_call 20; with_reducible refine calls_ext (HD2.out _)))) | quiet_step ((first | (go_at_call 14; with_reducible refine calls_ext (HSan.out _)) | (go_at_call 27; with_reducible refine calls_ext (HS.out _)) | (go_at_call 26; with_reducible refine calls_ext (HD1.out _)) | (go_at_call 20; with_reducible refine calls_ext (HD2.out _)))))
  refine wpQuiet_nil ?_
  intro wz hbz
  go_wp2
  exact bodyPost_ret (v := .bool true) (by simp [results, Try.results5, go_sem]) rfl ⟨rfl, HB3.out.trans (hbz.mono HB3.out.size)⟩
open Go.WideShapes Go.ChangeShapes Go.Joins Go.Deep
set_option maxRecDepth 100000 in
theorem flowChecks_lifted (os : Os) (started : os.Started) (H : Type) (enc : TypeId × Value → H) :
    ReturnsInHanded Rows.flowChecksRow.assume Try.checked os 5 .any (Rows.flowChecksSpec.pre6 enc Try.prog Try.f5 Rows.flowChecksRow.domain false) (Rows.flowChecksSpec.post enc Try.prog Try.f5 false Rows.flowChecksRow.fresh Rows.flowChecksRow.handsOn Rows.flowChecksRow.again) := by
  refine returnsInHanded_of_change (C := Try.checked) (by kernel_rfl) started (by kernel_rfl) Try.func5
    (ChangeSpec.witness6 (enc := enc) (C := Try.checked) false ⟨#[], #[.agg #[.slice none 0 0, .slice none 0 0], .slice none 0 0], []⟩ 8 (by kernel_rfl) (by kernel_rfl) (by kernel_rfl) (by kernel_rfl)) ?_
  intro W base args ds gs before hval0 hW hcnd _
  have hval : ∀ (j : Nat) t v, Try.f5.params[j]? = some t → args[j]? = some v → Value.okWide Try.prog W .any base t v := hval0
  have hW' := hW
  obtain ⟨p, q, hA0, hV, rfl, hfz, hnd⟩ := hW
  obtain ⟨rfl, rfl⟩ := trodVars_none hV
  have hA : DataW.TrodAll enc Try.prog W 0 (fun _ => true) true [25, 28] args.toList ds p := hA0
  obtain ⟨v0, v1, d0, d1, p0, p1, rfl, rfl, rfl, h0, h1⟩ := trodAll_two hA
  obtain ⟨t, rfl, hT, hA0n, _, rfl⟩ := open_tr2 (hval 0 25 v0 rfl rfl) h0
  obtain ⟨Ai, ki, ci, ids, rfl, hI, _, _⟩ := open_is (hval 1 28 v1 rfl rfl) h1
  refine (flowChecks_walk t Ai ki ci ids W hT hI hA0n).mono fun e W' ⟨he, hb⟩ => ⟨_, he, law_post laid_out (by kernel_rfl) rfl Try.underlying4 rfl hW' rfl rfl rfl hb⟩

theorem flowChecks : Rows.FlowChecksSaid :=
  OpenClaim.holds_of_wide 5 Try.f5 rfl rfl rfl rfl rfl rfl rfl ⟨rfl, rfl, rfl, rfl, rfl⟩ rfl rfl rfl rfl rfl (by kernel_rfl) Try.func5 (by kernel_rfl)
    (of_decide_eq_true (by kernel_rfl)) (by unfold Func.isWrapper; first | (rw [if_pos (by decide +kernel)]; kernel_rfl) | (rw [if_neg (by decide +kernel)]; exact ⟨rfl, rfl⟩))
    (fun os started H enc _ => flowChecks_lifted os started H enc)
#print axioms flowChecks
end Go.Proofs.Ytighfmgkoepfkaa
