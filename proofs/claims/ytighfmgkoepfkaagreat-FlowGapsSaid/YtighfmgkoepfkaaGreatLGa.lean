/- The law FlowGaps. -/
import Derived.Test.YtighfmgkoepfkaaGreatMGa
import Derived.Test.YtighfmgkoepfkaaGreatMY
import Derived.Test.YtighfmgkoepfkaaGreatMH
import Derived.Test.YtighfmgkoepfkaaGreatMI
import Derived.Test.YtighfmgkoepfkaaGreatMZ
namespace Go.Proofs.YtighfmgkoepfkaaGreat
open Go.RowKit

theorem lackL_len (hs : List Hd) (ms : List Mv) : (lackL hs ms).length ≤ 9 := by
  unfold lackL
  rw [sortI_len]
  exact lackT_len hs ms _
theorem gp_tr {t : TR} {w : World} (h : t.Ok w) : Calls Tryz.prog 25 #[t.v] w fun e w' => ∃ A n c, e = .returned (.tuple #[.slice A n c, .int .i64 (nwE t.hs t.ms)]) ∧ SAt encGp 3 w' A n (gapsL t.hs t.ms) ∧ n ≤ 9 ∧ Below w.heap.size w w' := by
  refine (Gaps_any t w h).mono ?_
  rintro e w' ⟨hb, v, rfl, ho⟩
  obtain ⟨A, c, rfl, hs, _, _⟩ := SAt_of_row encGp_len rfl ho
  exact ⟨A, _, c, rfl, hs, gapsL_len t.hs t.ms, hb⟩
theorem rgp_tr {t : TR} {w : World} (h : t.Ok w) : Calls Tryz.prog 26 #[t.v] w fun e w' => ∃ A n c, e = .returned (.agg #[.slice A n c, .int .i64 (nwE t.hs t.ms)]) ∧ SAt encGp 3 w' A n (gapsL t.hs t.ms) ∧ n ≤ 9 ∧ Below w.heap.size w w' := by
  refine (RGaps_any t w h).mono ?_
  rintro e w' ⟨hb, v, rfl, ho⟩
  obtain ⟨A, c, rfl, hs, _, _⟩ := SAt_of_row encGp_len rfl ho
  exact ⟨A, _, c, rfl, hs, gapsL_len t.hs t.ms, hb⟩
theorem lk_tr {t : TR} {w : World} (h : t.Ok w) : Calls Tryz.prog 27 #[t.v] w fun e w' => ∃ A n c, e = .returned (.tuple #[.slice A n c, .int .i64 (nwE t.hs t.ms)]) ∧ SAt encI 1 w' A n (lackL t.hs t.ms) ∧ n ≤ 9 ∧ Below w.heap.size w w' := by
  refine (Lacking_any t w h).mono ?_
  rintro e w' ⟨hb, v, rfl, ho⟩
  obtain ⟨A, c, rfl, hs, _, _⟩ := SAt_of_row encI_len rfl ho
  exact ⟨A, _, c, rfl, hs, lackL_len t.hs t.ms, hb⟩
theorem rlk_tr {t : TR} {w : World} (h : t.Ok w) : Calls Tryz.prog 28 #[t.v] w fun e w' => ∃ A n c, e = .returned (.agg #[.slice A n c, .int .i64 (nwE t.hs t.ms)]) ∧ SAt encI 1 w' A n (lackL t.hs t.ms) ∧ n ≤ 9 ∧ Below w.heap.size w w' := by
  refine (RLacking_any t w h).mono ?_
  rintro e w' ⟨hb, v, rfl, ho⟩
  obtain ⟨A, c, rfl, hs, _, _⟩ := SAt_of_row encI_len rfl ho
  exact ⟨A, _, c, rfl, hs, lackL_len t.hs t.ms, hb⟩
set_option maxRecDepth 100000 in
set_option maxHeartbeats 12800000 in
theorem flowGaps_walk (t : TR) (w : World) (h : t.Ok w) : Calls Tryz.prog 5 #[t.v] w fun e w' => e = .returned (.bool true) ∧ Below w.heap.size w w' := by
  obtain ⟨A, n, c, B, m, d, hs, ms⟩ := t
  have HSan := Lib.hid (fun u => sanity_any u)
  obtain ⟨fb, hfb⟩ : ∃ b, fewB n m = b := ⟨_, rfl⟩
  have HFew := Lib.hid (fun u => few_any A n c B m d u h.n_le h.m_le)
  rw [hfb] at HFew
  dsimp only [TR.v] at *
  have HB0 : Hid (Below w.heap.size w (w.alloc (.cells #[.slice A n c, .slice B m d] 25))) := Lib.hid ((Below.refl w.heap.size w).alloc (Nat.le_refl _) _)
  have T0 : Hid (Blk (w.alloc (.cells #[.slice A n c, .slice B m d] 25)) w.heap.size 25 #[.slice A n c, .slice B m d]) := Lib.hid (Blk.at_new 25 #[.slice A n c, .slice B m d] rfl)
  have O0 := Lib.hid ((h).below HB0.out)
  go_enter Tryz.func5, Tryz.ntmps5
  go_upto_region 1 with fail
  generalize hV : w.alloc (.cells #[.slice A n c, .slice B m d] 25) = V0 at *
  clear hV
  clear h hfb
  cases fb with
  | false =>
    have yT0 := T0.out.cell 0
    have yT1 := T0.out.cell 1
    simp only [List.getElem?_toArray, List.getElem?_cons_zero, List.getElem?_cons_succ] at yT0 yT1
    have yTl := T0.out.lt
    go_upto_region 2 with (go_at_call 12; with_reducible refine (HFew.out _).mono ?_; rintro e u1 ⟨rfl, hb1⟩; have T1 := Lib.hid (T0.out.below hb1); have O1 := Lib.hid (O0.out.below hb1); have HB1 := Lib.hid (HB0.out.trans (hb1.mono HB0.out.size)); clear hb1; have y1T0 := T1.out.cell 0; have y1T1 := T1.out.cell 1; simp only [List.getElem?_toArray, List.getElem?_cons_zero, List.getElem?_cons_succ] at y1T0 y1T1; have y1Tl := T1.out.lt)
    clear yT0 yT1 yTl y1T0 y1T1 y1Tl T0 O0 HB0
    have yT0 := T1.out.cell 0
    have yT1 := T1.out.cell 1
    simp only [List.getElem?_toArray, List.getElem?_cons_zero, List.getElem?_cons_succ] at yT0 yT1
    have yTl := T1.out.lt
    go_wp2_with (go_at_call 13; with_reducible refine (HSan.out _).mono ?_; rintro e u2 ⟨rfl, hb2⟩; have T2 := Lib.hid (T1.out.below hb2); have O2 := Lib.hid (O1.out.below hb2); have HB2 := Lib.hid (HB1.out.trans (hb2.mono HB1.out.size)); clear hb2; have y2T0 := T2.out.cell 0; have y2T1 := T2.out.cell 1; simp only [List.getElem?_toArray, List.getElem?_cons_zero, List.getElem?_cons_succ] at y2T0 y2T1; have y2Tl := T2.out.lt)
    exact bodyPost_ret (v := .bool true) (by simp [results, Tryz.results5, go_sem]) rfl ⟨rfl, HB2.out⟩
  | true =>
  have yT0 := T0.out.cell 0
  have yT1 := T0.out.cell 1
  simp only [List.getElem?_toArray, List.getElem?_cons_zero, List.getElem?_cons_succ] at yT0 yT1
  have yTl := T0.out.lt
  go_upto_region 3 with (go_at_call 12; with_reducible refine (HFew.out _).mono ?_; rintro e u1 ⟨rfl, hb1⟩; have T1 := Lib.hid (T0.out.below hb1); have O1 := Lib.hid (O0.out.below hb1); have HB1 := Lib.hid (HB0.out.trans (hb1.mono HB0.out.size)); clear hb1; have y1T0 := T1.out.cell 0; have y1T1 := T1.out.cell 1; simp only [List.getElem?_toArray, List.getElem?_cons_zero, List.getElem?_cons_succ] at y1T0 y1T1; have y1Tl := T1.out.lt)
  clear yT0 yT1 yTl y1T0 y1T1 y1Tl T0 O0 HB0
  have HS := Lib.hid (fun (u : World) (hu : TR.Ok u ⟨A, n, c, B, m, d, hs, ms⟩) => gp_tr hu)
  have HM := Lib.hid (fun (u : World) (hu : TR.Ok u ⟨A, n, c, B, m, d, hs, ms⟩) => rgp_tr hu)
  have HN := Lib.hid (fun (u : World) (hu : TR.Ok u ⟨A, n, c, B, m, d, hs, ms⟩) => lk_tr hu)
  have HR := Lib.hid (fun (u : World) (hu : TR.Ok u ⟨A, n, c, B, m, d, hs, ms⟩) => rlk_tr hu)
  dsimp only [TR.v] at HS HM HN HR
  generalize nwE hs ms = ne at *
  generalize gapsL hs ms = sl at *
  generalize lackL hs ms = nl at *
  have yT0 := T1.out.cell 0
  have yT1 := T1.out.cell 1
  simp only [List.getElem?_toArray, List.getElem?_cons_zero, List.getElem?_cons_succ] at yT0 yT1
  have yTl := T1.out.lt
  have HC := Lib.hid (HS.out _ O1.out)
  try dsimp only [TR.v, vCt] at HC
  go_upto_region 4 with (go_at_call 25; with_reducible refine HC.out.mono ?_; rintro e u2 ⟨As, ns, cs, rfl, ho, hns, hb⟩)
  clear yT0 yT1 yTl
  clear HC
  have bn := hb
  have T2 := Lib.hid (T1.out.below bn)
  have O2 := Lib.hid (O1.out.below bn)
  have HB2 := Lib.hid (HB1.out.trans (bn.mono HB1.out.size))
  have S2 := Lib.hid ((ho))
  clear hb bn T1 O1 HB1
  clear ho
  have yT0 := T2.out.cell 0
  have yT1 := T2.out.cell 1
  simp only [List.getElem?_toArray, List.getElem?_cons_zero, List.getElem?_cons_succ] at yT0 yT1
  have yTl := T2.out.lt
  have HC := Lib.hid (HM.out _ O2.out)
  try dsimp only [TR.v, vCt] at HC
  go_upto_region 5 with (go_at_call 26; with_reducible refine HC.out.mono ?_; rintro e u3 ⟨Am, nms, cm, rfl, ho, hnm, hb⟩)
  clear yT0 yT1 yTl
  clear HC
  have bn := hb
  have bq : Below u3.heap.size u3 (u3.alloc (.cells #[.slice Am nms cm, .int .i64 ne] 53)) := ((Below.refl u3.heap.size u3).alloc (Nat.le_refl _) _)
  have bn := hb.trans (bq.mono hb.size)
  have T3 := Lib.hid (T2.out.below bn)
  have O3 := Lib.hid (O2.out.below bn)
  have S3 := Lib.hid (S2.out.below bn)
  have HB3 := Lib.hid (HB2.out.trans (bn.mono HB2.out.size))
  have P3 := Lib.hid ((ho).below bq)
  have Ma3 : Hid (Blk (u3.alloc (.cells #[.slice Am nms cm, .int .i64 ne] 53)) u3.heap.size 53 #[.slice Am nms cm, .int .i64 ne]) := Lib.hid (Blk.at_new 53 #[.slice Am nms cm, .int .i64 ne] rfl)
  generalize hV : u3.alloc (.cells #[.slice Am nms cm, .int .i64 ne] 53) = V3 at *
  generalize hp : u3.heap.size = p3 at *
  clear hV hp bq
  clear hb bn T2 O2 S2 HB2
  clear ho
  have yT0 := T3.out.cell 0
  have yT1 := T3.out.cell 1
  have yMa0 := Ma3.out.cell 0
  have yMa1 := Ma3.out.cell 1
  simp only [List.getElem?_toArray, List.getElem?_cons_zero, List.getElem?_cons_succ] at yT0 yT1 yMa0 yMa1
  have yTl := T3.out.lt
  have yMal := Ma3.out.lt
  have HC := Lib.hid (HN.out _ O3.out)
  try dsimp only [TR.v, vCt] at HC
  go_upto_region 6 with (go_at_call 27; with_reducible refine HC.out.mono ?_; rintro e u4 ⟨Aq, nq, cq, rfl, ho, hnq, hb⟩)
  clear yT0 yT1 yMa0 yMa1 yTl yMal
  clear HC
  have bn := hb
  have T4 := Lib.hid (T3.out.below bn)
  have O4 := Lib.hid (O3.out.below bn)
  have S4 := Lib.hid (S3.out.below bn)
  have Ma4 := Lib.hid (Ma3.out.below bn)
  have P4 := Lib.hid (P3.out.below bn)
  have HB4 := Lib.hid (HB3.out.trans (bn.mono HB3.out.size))
  have Q4 := Lib.hid ((ho))
  clear hb bn T3 O3 S3 Ma3 P3 HB3
  clear ho
  have yT0 := T4.out.cell 0
  have yT1 := T4.out.cell 1
  have yMa0 := Ma4.out.cell 0
  have yMa1 := Ma4.out.cell 1
  simp only [List.getElem?_toArray, List.getElem?_cons_zero, List.getElem?_cons_succ] at yT0 yT1 yMa0 yMa1
  have yTl := T4.out.lt
  have yMal := Ma4.out.lt
  have HC := Lib.hid (HR.out _ O4.out)
  try dsimp only [TR.v, vCt] at HC
  go_upto_region 7 with (go_at_call 28; with_reducible refine HC.out.mono ?_; rintro e u5 ⟨Ar, nr, cr, rfl, ho, hnr, hb⟩)
  clear yT0 yT1 yMa0 yMa1 yTl yMal
  clear HC
  have bn := hb
  have bq : Below u5.heap.size u5 (u5.alloc (.cells #[.slice Ar nr cr, .int .i64 ne] 46)) := ((Below.refl u5.heap.size u5).alloc (Nat.le_refl _) _)
  have bn := hb.trans (bq.mono hb.size)
  have T5 := Lib.hid (T4.out.below bn)
  have O5 := Lib.hid (O4.out.below bn)
  have S5 := Lib.hid (S4.out.below bn)
  have Ma5 := Lib.hid (Ma4.out.below bn)
  have P5 := Lib.hid (P4.out.below bn)
  have Q5 := Lib.hid (Q4.out.below bn)
  have HB5 := Lib.hid (HB4.out.trans (bn.mono HB4.out.size))
  have R5 := Lib.hid ((ho).below bq)
  have Ra5 : Hid (Blk (u5.alloc (.cells #[.slice Ar nr cr, .int .i64 ne] 46)) u5.heap.size 46 #[.slice Ar nr cr, .int .i64 ne]) := Lib.hid (Blk.at_new 46 #[.slice Ar nr cr, .int .i64 ne] rfl)
  generalize hV : u5.alloc (.cells #[.slice Ar nr cr, .int .i64 ne] 46) = V5 at *
  generalize hp : u5.heap.size = p5 at *
  clear hV hp bq
  clear hb bn T4 O4 S4 Ma4 P4 Q4 HB4
  clear ho
  have HSs := Lib.hid (fun (u : World) (q1 : SAt encGp 3 u As ns sl) (q2 : SAt encGp 3 u Am nms sl) => SameGaps_same As ns cs Am nms cm sl u q1 q2 (by omega))
  have HSt := Lib.hid (fun (u : World) (q1 : SAt encI 1 u Aq nq nl) (q2 : SAt encI 1 u Ar nr nl) => (SameInts_any Aq nq cq Ar nr cr nl nl u q1 q2 (by omega) (by omega)).mono (fun e w' (h : e = .returned (.bool (decide (nl = nl))) ∧ Below u.heap.size u w') => (⟨by rw [h.1, decide_eq_true rfl], h.2⟩ : e = .returned (.bool true) ∧ Below u.heap.size u w')))
  have yT0 := T5.out.cell 0
  have yT1 := T5.out.cell 1
  have yMa0 := Ma5.out.cell 0
  have yMa1 := Ma5.out.cell 1
  have yRa0 := Ra5.out.cell 0
  have yRa1 := Ra5.out.cell 1
  simp only [List.getElem?_toArray, List.getElem?_cons_zero, List.getElem?_cons_succ] at yT0 yT1 yMa0 yMa1 yRa0 yRa1
  have yTl := T5.out.lt
  have yMal := Ma5.out.lt
  have yRal := Ra5.out.lt
  go_wp2_with (first | (go_at_call 13; with_reducible refine (HSan.out _).mono ?_; rintro e u6 ⟨rfl, hb6⟩; have T6 := Lib.hid (T5.out.below hb6); have O6 := Lib.hid (O5.out.below hb6); have S6 := Lib.hid (S5.out.below hb6); have Ma6 := Lib.hid (Ma5.out.below hb6); have P6 := Lib.hid (P5.out.below hb6); have Q6 := Lib.hid (Q5.out.below hb6); have Ra6 := Lib.hid (Ra5.out.below hb6); have R6 := Lib.hid (R5.out.below hb6); have HB6 := Lib.hid (HB5.out.trans (hb6.mono HB5.out.size)); clear hb6; have y6T0 := T6.out.cell 0; have y6T1 := T6.out.cell 1; have y6Ma0 := Ma6.out.cell 0; have y6Ma1 := Ma6.out.cell 1; have y6Ra0 := Ra6.out.cell 0; have y6Ra1 := Ra6.out.cell 1; simp only [List.getElem?_toArray, List.getElem?_cons_zero, List.getElem?_cons_succ] at y6T0 y6T1 y6Ma0 y6Ma1 y6Ra0 y6Ra1; have y6Tl := T6.out.lt; have y6Mal := Ma6.out.lt; have y6Ral := Ra6.out.lt) | (go_at_call 29; with_reducible refine (HSs.out _ S6.out P6.out).mono ?_; rintro e u7 ⟨rfl, hb7⟩; have T7 := Lib.hid (T6.out.below hb7); have O7 := Lib.hid (O6.out.below hb7); have S7 := Lib.hid (S6.out.below hb7); have Ma7 := Lib.hid (Ma6.out.below hb7); have P7 := Lib.hid (P6.out.below hb7); have Q7 := Lib.hid (Q6.out.below hb7); have Ra7 := Lib.hid (Ra6.out.below hb7); have R7 := Lib.hid (R6.out.below hb7); have HB7 := Lib.hid (HB6.out.trans (hb7.mono HB6.out.size)); clear hb7; have y7T0 := T7.out.cell 0; have y7T1 := T7.out.cell 1; have y7Ma0 := Ma7.out.cell 0; have y7Ma1 := Ma7.out.cell 1; have y7Ra0 := Ra7.out.cell 0; have y7Ra1 := Ra7.out.cell 1; simp only [List.getElem?_toArray, List.getElem?_cons_zero, List.getElem?_cons_succ] at y7T0 y7T1 y7Ma0 y7Ma1 y7Ra0 y7Ra1; have y7Tl := T7.out.lt; have y7Mal := Ma7.out.lt; have y7Ral := Ra7.out.lt) | (go_at_call 24; with_reducible refine (HSt.out _ Q7.out R7.out).mono ?_; rintro e u8 ⟨rfl, hb8⟩; have T8 := Lib.hid (T7.out.below hb8); have O8 := Lib.hid (O7.out.below hb8); have S8 := Lib.hid (S7.out.below hb8); have Ma8 := Lib.hid (Ma7.out.below hb8); have P8 := Lib.hid (P7.out.below hb8); have Q8 := Lib.hid (Q7.out.below hb8); have Ra8 := Lib.hid (Ra7.out.below hb8); have R8 := Lib.hid (R7.out.below hb8); have HB8 := Lib.hid (HB7.out.trans (hb8.mono HB7.out.size)); clear hb8; have y8T0 := T8.out.cell 0; have y8T1 := T8.out.cell 1; have y8Ma0 := Ma8.out.cell 0; have y8Ma1 := Ma8.out.cell 1; have y8Ra0 := Ra8.out.cell 0; have y8Ra1 := Ra8.out.cell 1; simp only [List.getElem?_toArray, List.getElem?_cons_zero, List.getElem?_cons_succ] at y8T0 y8T1 y8Ma0 y8Ma1 y8Ra0 y8Ra1; have y8Tl := T8.out.lt; have y8Mal := Ma8.out.lt; have y8Ral := Ra8.out.lt))
  exact bodyPost_ret (v := .bool true) (by simp [results, Tryz.results5, go_sem]) rfl ⟨rfl, HB8.out⟩
open Go.WideShapes Go.ChangeShapes Go.Joins Go.Deep
set_option maxRecDepth 100000 in
theorem flowGaps_lifted (os : Os) (started : os.Started) (H : Type) (enc : TypeId × Value → H) :
    ReturnsInHanded Rows.flowGapsRow.assume Tryz.checked os 5 .any (Rows.flowGapsSpec.pre6 enc Tryz.prog Tryz.f5 Rows.flowGapsRow.domain false) (Rows.flowGapsSpec.post enc Tryz.prog Tryz.f5 false Rows.flowGapsRow.fresh Rows.flowGapsRow.handsOn Rows.flowGapsRow.again) := by
  refine returnsInHanded_of_change (C := Tryz.checked) (by kernel_rfl) started (by kernel_rfl) Tryz.func5
    (ChangeSpec.witness6 (enc := enc) (C := Tryz.checked) false ⟨#[], #[.agg #[.slice none 0 0, .slice none 0 0]], []⟩ 8 (by kernel_rfl) (by kernel_rfl) (by kernel_rfl) (by kernel_rfl)) ?_
  intro W base args ds gs before hval0 hW hcnd _
  have hval : ∀ (j : Nat) t v, Tryz.f5.params[j]? = some t → args[j]? = some v → Value.okWide Tryz.prog W .any base t v := hval0
  have hW' := hW
  obtain ⟨p, q, hA0, hV, rfl, hfz, hnd⟩ := hW
  obtain ⟨rfl, rfl⟩ := trodVars_none hV
  have hA : DataW.TrodAll enc Tryz.prog W 0 (fun _ => true) true [25] args.toList ds p := hA0
  obtain ⟨v0, d0, rfl, rfl, h0⟩ := trodAll_one hA
  obtain ⟨t, rfl, hT, _, rfl⟩ := open_tr (hval 0 25 v0 rfl rfl) h0
  refine (flowGaps_walk t W hT).mono fun e W' ⟨he, hb⟩ => ⟨_, he, law_post laid_out (by kernel_rfl) rfl Tryz.underlying4 rfl hW' rfl rfl rfl hb⟩

theorem flowGaps : Rows.FlowGapsSaid :=
  OpenClaim.holds_of_wide 5 Tryz.f5 rfl rfl rfl rfl rfl rfl rfl ⟨rfl, rfl, rfl, rfl, rfl⟩ rfl rfl rfl rfl rfl (by kernel_rfl) Tryz.func5 (by kernel_rfl)
    (of_decide_eq_true (by kernel_rfl)) (by unfold Func.isWrapper; first | (rw [if_pos (by decide +kernel)]; kernel_rfl) | (rw [if_neg (by decide +kernel)]; exact ⟨rfl, rfl⟩))
    (fun os started H enc _ => flowGaps_lifted os started H enc)
#print axioms flowGaps
end Go.Proofs.YtighfmgkoepfkaaGreat
