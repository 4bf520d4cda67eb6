/- The law FlowLeaves. -/
import Derived.Test.YtighfmgkoepfkaaGreatMLe
import Derived.Test.YtighfmgkoepfkaaGreatMH
import Derived.Test.YtighfmgkoepfkaaGreatMI
import Derived.Test.YtighfmgkoepfkaaGreatMW
namespace Go.Proofs.YtighfmgkoepfkaaGreat
open Go.RowKit

theorem susp_len (hs : List Hd) (ms : List Mv) : (suspL hs ms).length ≤ 24 := by
  unfold suspL
  by_cases h : tcheck hs ms ≠ 0
  · rw [if_pos h]; simp
  · rw [if_neg h]
    have hv := (tcheck_zero.1 (by simpa using h)).lenM
    split
    · simp
    · refine Nat.le_trans (List.length_filter_le _ _) ?_
      rw [idsL_len]
      exact hv
theorem su_tr {t : TR} {w : World} (h : t.Ok w) : Calls Tryz.prog 20 #[t.v] w fun e w' => ∃ A n c, e = .returned (.tuple #[.slice A n c, .int .i64 (tcheck t.hs t.ms)]) ∧ SAt encI 1 w' A n (suspL t.hs t.ms) ∧ n ≤ 24 ∧ Below w.heap.size w w' := by
  refine (Suspects_any t w h).mono ?_
  rintro e w' ⟨hb, v, rfl, ho⟩
  obtain ⟨A, c, rfl, hs, _, _⟩ := SAt_of_row encI_len rfl ho
  exact ⟨A, _, c, rfl, hs, susp_len t.hs t.ms, hb⟩
theorem rsu_tr {t : TR} {w : World} (h : t.Ok w) (hA : t.A = none → t.c = 0) : Calls Tryz.prog 21 #[t.v] w fun e w' => ∃ A n c, e = .returned (.agg #[.slice A n c, .int .i64 (tcheck t.hs t.ms)]) ∧ SAt encI 1 w' A n (suspL t.hs t.ms) ∧ n ≤ 24 ∧ Below w.heap.size w w' := by
  refine (RSuspects_any t w h hA).mono ?_
  rintro e w' ⟨hb, v, rfl, ho⟩
  obtain ⟨A, c, rfl, hs, _, _⟩ := SAt_of_row encI_len rfl ho
  exact ⟨A, _, c, rfl, hs, susp_len t.hs t.ms, hb⟩
theorem fw_tr {t : TR} {w : World} (h : t.Ok w) : Calls Tryz.prog 22 #[t.v] w fun e w' => ∃ A n c, e = .returned (.tuple #[.slice A n c, .int .i64 (fewE t.hs t.ms)]) ∧ SAt encI 1 w' A n (fewZ t.hs t.ms) ∧ n ≤ 100 ∧ Below w.heap.size w w' := by
  refine (Fewest_any t w h).mono ?_
  rintro e w' ⟨hb, ⟨h1, rfl⟩ | ⟨h1, ⟨h2, rfl⟩ | ⟨h2, h3, rfl⟩ | ⟨h2, z, A, n, c, h3, rfl, hs, _, hn, _⟩⟩⟩
  · exact ⟨none, 0, 0, by unfold fewE; rw [if_pos h1], by unfold fewZ; rw [if_pos h1]; exact SAt.nil _ _ _ _, by omega, hb⟩
  · exact ⟨none, 0, 0, by unfold fewE; rw [if_neg (by simpa using h1), if_pos h2], by unfold fewZ; rw [if_neg (by simpa using h1), if_pos h2]; exact SAt.nil _ _ _ _, by omega, hb⟩
  · exact ⟨none, 0, 0, by unfold fewE; rw [if_neg (by simpa using h1), if_neg (by omega), h3], by unfold fewZ; rw [if_neg (by simpa using h1), if_neg (by omega), h3]; exact SAt.nil _ _ _ _, by omega, hb⟩
  · exact ⟨A, n, c, by unfold fewE; rw [if_neg (by simpa using h1), if_neg (by omega), h3], by unfold fewZ; rw [if_neg (by simpa using h1), if_neg (by omega), h3]; exact hs, hn, hb⟩
theorem rfw_tr {t : TR} {w : World} (h : t.Ok w) (hA : t.A = none → t.c = 0) : Calls Tryz.prog 23 #[t.v] w fun e w' => ∃ A n c, e = .returned (.agg #[.slice A n c, .int .i64 (fewE t.hs t.ms)]) ∧ SAt encI 1 w' A n (fewZ t.hs t.ms) ∧ n ≤ 100 ∧ Below w.heap.size w w' := by
  refine (RFewest_any t w h hA).mono ?_
  rintro e w' ⟨hb, A, n, c, rfl, hs, hn⟩
  exact ⟨A, n, c, rfl, hs, hn, hb⟩
section
open Go.WideShapes Go.ChangeShapes Go.Joins Go.Deep
variable {H : Type} {enc : TypeId × Value → H} {w : World} {base : Nat} {spare : Nat → Bool} {held : Bool}
theorem nil_cap {ts te : TypeId} (hts : Tryz.prog.underlying ts = some (.slice te)) {fuel n cap : Nat} {x : DataW H × List MemPlace} (h : DataW.trod enc Tryz.prog w base spare held fuel ts [.slice none n cap] = some x) : cap = 0 := by
  rcases open_slice hts h with ⟨e0, _⟩ | ⟨a, len, cap, m, n, D, Pl, e0, _⟩
  · simp at e0; exact e0.2
  · simp at e0
set_option maxRecDepth 100000 in
/-- A trade, by value; a nil slice has no capacity. -/
theorem open_tr2 {r : Reach} {b0 : Nat} {v : Value} {d : DataW H} {p : List MemPlace} (hv : Value.okWide Tryz.prog w r b0 25 v) (h : DataW.Trod enc Tryz.prog w base spare held 25 v d p) :
    ∃ t : TR, v = t.v ∧ t.Ok w ∧ (t.A = none → t.c = 0) ∧ ∃ e, d = .agg e := by
  obtain ⟨c0, c1, y0, y1, m, rfl, rfl, rfl, hy0, hy1⟩ := open_agg2 Tryz.underlying25 (by kernel_rfl) (by kernel_rfl) hv h
  obtain ⟨A, n, c, hs, e0, h1, h2, h3⟩ := open_rows encH (fun x => by rw [encH_len']; decide) default Tryz.underlying22 (by kernel_rfl) holder_cells hy0
  obtain ⟨B, k, q, ms, e1, g1, g2, g3⟩ := open_rows encM (fun x => by rw [encM_len']; decide) default Tryz.underlying23 (by kernel_rfl) move_cells hy1
  simp only [List.cons.injEq, and_true] at e0 e1
  subst e0 e1
  refine ⟨⟨A, n, c, B, k, q, hs, ms⟩, rfl, ⟨h1, g1, h2, g2, h3, g3⟩, fun hA => ?_, _, rfl⟩
  dsimp only at hA
  subst hA
  exact nil_cap Tryz.underlying22 hy0
end
set_option maxRecDepth 100000 in
set_option maxHeartbeats 12800000 in
theorem flowLeaves_walk (t : TR) (w : World) (h : t.Ok w) (hA : t.A = none → t.c = 0) : Calls Tryz.prog 4 #[t.v] w fun e w' => e = .returned (.bool true) ∧ Below w.heap.size w w' := by
  obtain ⟨A, n, c, B, m, d, hs, ms⟩ := t
  have HSan := Lib.hid (fun u => sanity_any u)
  obtain ⟨fb, hfb⟩ : ∃ b, fewB n m = b := ⟨_, rfl⟩
  have HFew := Lib.hid (fun u => few_any A n c B m d u h.n_le h.m_le)
  rw [hfb] at HFew
  dsimp only [TR.v] at *
  have HB0 : Hid (Below w.heap.size w (w.alloc (.cells #[.slice A n c, .slice B m d] 25))) := Lib.hid ((Below.refl w.heap.size w).alloc (Nat.le_refl _) _)
  have T0 : Hid (Blk (w.alloc (.cells #[.slice A n c, .slice B m d] 25)) w.heap.size 25 #[.slice A n c, .slice B m d]) := Lib.hid (Blk.at_new 25 #[.slice A n c, .slice B m d] rfl)
  have O0 := Lib.hid ((h).below HB0.out)
  go_enter Tryz.func4, Tryz.ntmps4
  go_upto_region 1 with fail
  generalize hV : w.alloc (.cells #[.slice A n c, .slice B m d] 25) = V0 at *
  clear hV
  clear h hfb
  have HS := Lib.hid (fun (u : World) (hu : TR.Ok u ⟨A, n, c, B, m, d, hs, ms⟩) => su_tr hu)
  have HM := Lib.hid (fun (u : World) (hu : TR.Ok u ⟨A, n, c, B, m, d, hs, ms⟩) => rsu_tr hu hA)
  have HN := Lib.hid (fun (u : World) (hu : TR.Ok u ⟨A, n, c, B, m, d, hs, ms⟩) => fw_tr hu)
  have HR := Lib.hid (fun (u : World) (hu : TR.Ok u ⟨A, n, c, B, m, d, hs, ms⟩) => rfw_tr hu hA)
  dsimp only [TR.v] at HS HM HN HR
  generalize tcheck hs ms = ne at *
  generalize suspL hs ms = sl at *
  generalize fewE hs ms = fe at *
  generalize fewZ hs ms = nl at *
  cases fb with
  | true =>
    have yT0 := T0.out.cell 0
    have yT1 := T0.out.cell 1
    simp only [List.getElem?_toArray, List.getElem?_cons_zero, List.getElem?_cons_succ] at yT0 yT1
    have yTl := T0.out.lt
    go_upto_region 3 with (go_at_call 12; with_reducible refine (HFew.out _).mono ?_; rintro e u1 ⟨rfl, hb1⟩; have T1 := Lib.hid (T0.out.below hb1); have O1 := Lib.hid (O0.out.below hb1); have HB1 := Lib.hid (HB0.out.trans (hb1.mono HB0.out.size)); clear hb1; have y1T0 := T1.out.cell 0; have y1T1 := T1.out.cell 1; simp only [List.getElem?_toArray, List.getElem?_cons_zero, List.getElem?_cons_succ] at y1T0 y1T1; have y1Tl := T1.out.lt)
    clear yT0 yT1 yTl y1T0 y1T1 y1Tl T0 O0 HB0
    have yT0 := T1.out.cell 0
    have yT1 := T1.out.cell 1
    simp only [List.getElem?_toArray, List.getElem?_cons_zero, List.getElem?_cons_succ] at yT0 yT1
    have yTl := T1.out.lt
    have HC := Lib.hid (HS.out _ O1.out)
    try dsimp only [TR.v, vCt] at HC
    go_upto_region 4 with (go_at_call 20; (with_reducible refine HC.out.mono ?_); rintro e u2 ⟨As, ns, cs, rfl, ho, hns, hb⟩)
    clear yT0 yT1 yTl
    clear HC
    have bn := hb
    have T2 := Lib.hid (T1.out.below bn)
    have O2 := Lib.hid (O1.out.below bn)
    have HB2 := Lib.hid (HB1.out.trans (bn.mono HB1.out.size))
    have S2 := Lib.hid ((ho))
    clear hb bn T1 O1 HB1
    clear ho
    have yT0 := T2.out.cell 0
    have yT1 := T2.out.cell 1
    simp only [List.getElem?_toArray, List.getElem?_cons_zero, List.getElem?_cons_succ] at yT0 yT1
    have yTl := T2.out.lt
    have HC := Lib.hid (HM.out _ O2.out)
    try dsimp only [TR.v, vCt] at HC
    go_upto_region 5 with (go_at_call 21; (with_reducible refine HC.out.mono ?_); rintro e u3 ⟨Am, nms, cm, rfl, ho, hnm, hb⟩)
    clear yT0 yT1 yTl
    clear HC
    have bn := hb
    have bq : Below u3.heap.size u3 (u3.alloc (.cells #[.slice Am nms cm, .int .i64 ne] 46)) := ((Below.refl u3.heap.size u3).alloc (Nat.le_refl _) _)
    have bn := hb.trans (bq.mono hb.size)
    have T3 := Lib.hid (T2.out.below bn)
    have O3 := Lib.hid (O2.out.below bn)
    have S3 := Lib.hid (S2.out.below bn)
    have HB3 := Lib.hid (HB2.out.trans (bn.mono HB2.out.size))
    have P3 := Lib.hid ((ho).below bq)
    have Ma3 : Hid (Blk (u3.alloc (.cells #[.slice Am nms cm, .int .i64 ne] 46)) u3.heap.size 46 #[.slice Am nms cm, .int .i64 ne]) := Lib.hid (Blk.at_new 46 #[.slice Am nms cm, .int .i64 ne] rfl)
    generalize hV : u3.alloc (.cells #[.slice Am nms cm, .int .i64 ne] 46) = V3 at *
    generalize hp : u3.heap.size = p3 at *
    clear hV hp bq
    clear hb bn T2 O2 S2 HB2
    clear ho
    have yT0 := T3.out.cell 0
    have yT1 := T3.out.cell 1
    have yMa0 := Ma3.out.cell 0
    have yMa1 := Ma3.out.cell 1
    simp only [List.getElem?_toArray, List.getElem?_cons_zero, List.getElem?_cons_succ] at yT0 yT1 yMa0 yMa1
    have yTl := T3.out.lt
    have yMal := Ma3.out.lt
    have HC := Lib.hid (HN.out _ O3.out)
    try dsimp only [TR.v, vCt] at HC
    go_upto_region 6 with (go_at_call 22; (with_reducible refine HC.out.mono ?_); rintro e u4 ⟨Aq, nq, cq, rfl, ho, hnq, hb⟩)
    clear yT0 yT1 yMa0 yMa1 yTl yMal
    clear HC
    have bn := hb
    have T4 := Lib.hid (T3.out.below bn)
    have O4 := Lib.hid (O3.out.below bn)
    have S4 := Lib.hid (S3.out.below bn)
    have Ma4 := Lib.hid (Ma3.out.below bn)
    have P4 := Lib.hid (P3.out.below bn)
    have HB4 := Lib.hid (HB3.out.trans (bn.mono HB3.out.size))
    have Q4 := Lib.hid ((ho))
    clear hb bn T3 O3 S3 Ma3 P3 HB3
    clear ho
    have yT0 := T4.out.cell 0
    have yT1 := T4.out.cell 1
    have yMa0 := Ma4.out.cell 0
    have yMa1 := Ma4.out.cell 1
    simp only [List.getElem?_toArray, List.getElem?_cons_zero, List.getElem?_cons_succ] at yT0 yT1 yMa0 yMa1
    have yTl := T4.out.lt
    have yMal := Ma4.out.lt
    have HC := Lib.hid (HR.out _ O4.out)
    try dsimp only [TR.v, vCt] at HC
    go_upto_region 7 with (go_at_call 23; (with_reducible refine HC.out.mono ?_); rintro e u5 ⟨Ar, nr, cr, rfl, ho, hnr, hb⟩)
    clear yT0 yT1 yMa0 yMa1 yTl yMal
    clear HC
    have bn := hb
    have bq : Below u5.heap.size u5 (u5.alloc (.cells #[.slice Ar nr cr, .int .i64 fe] 46)) := ((Below.refl u5.heap.size u5).alloc (Nat.le_refl _) _)
    have bn := hb.trans (bq.mono hb.size)
    have T5 := Lib.hid (T4.out.below bn)
    have O5 := Lib.hid (O4.out.below bn)
    have S5 := Lib.hid (S4.out.below bn)
    have Ma5 := Lib.hid (Ma4.out.below bn)
    have P5 := Lib.hid (P4.out.below bn)
    have Q5 := Lib.hid (Q4.out.below bn)
    have HB5 := Lib.hid (HB4.out.trans (bn.mono HB4.out.size))
    have R5 := Lib.hid ((ho).below bq)
    have Ra5 : Hid (Blk (u5.alloc (.cells #[.slice Ar nr cr, .int .i64 fe] 46)) u5.heap.size 46 #[.slice Ar nr cr, .int .i64 fe]) := Lib.hid (Blk.at_new 46 #[.slice Ar nr cr, .int .i64 fe] rfl)
    generalize hV : u5.alloc (.cells #[.slice Ar nr cr, .int .i64 fe] 46) = V5 at *
    generalize hp : u5.heap.size = p5 at *
    clear hV hp bq
    clear hb bn T4 O4 S4 Ma4 P4 Q4 HB4
    clear ho
    have HSs := Lib.hid (fun (u : World) (q1 : SAt encI 1 u As ns sl) (q2 : SAt encI 1 u Am nms sl) => (SameInts_any As ns cs Am nms cm sl sl u q1 q2 (by omega) (by omega)).mono (fun e w' (h : e = .returned (.bool (decide (sl = sl))) ∧ Below u.heap.size u w') => (⟨by rw [h.1, decide_eq_true rfl], h.2⟩ : e = .returned (.bool true) ∧ Below u.heap.size u w')))
    have HSt := Lib.hid (fun (u : World) (q1 : SAt encI 1 u Aq nq nl) (q2 : SAt encI 1 u Ar nr nl) => (SameInts_any Aq nq cq Ar nr cr nl nl u q1 q2 (by omega) (by omega)).mono (fun e w' (h : e = .returned (.bool (decide (nl = nl))) ∧ Below u.heap.size u w') => (⟨by rw [h.1, decide_eq_true rfl], h.2⟩ : e = .returned (.bool true) ∧ Below u.heap.size u w')))
    have yT0 := T5.out.cell 0
    have yT1 := T5.out.cell 1
    have yMa0 := Ma5.out.cell 0
    have yMa1 := Ma5.out.cell 1
    have yRa0 := Ra5.out.cell 0
    have yRa1 := Ra5.out.cell 1
    simp only [List.getElem?_toArray, List.getElem?_cons_zero, List.getElem?_cons_succ] at yT0 yT1 yMa0 yMa1 yRa0 yRa1
    have yTl := T5.out.lt
    have yMal := Ma5.out.lt
    have yRal := Ra5.out.lt
    go_wp2_with (first | (go_at_call 13; with_reducible refine (HSan.out _).mono ?_; rintro e u6 ⟨rfl, hb6⟩; have T6 := Lib.hid (T5.out.below hb6); have O6 := Lib.hid (O5.out.below hb6); have S6 := Lib.hid (S5.out.below hb6); have Ma6 := Lib.hid (Ma5.out.below hb6); have P6 := Lib.hid (P5.out.below hb6); have Q6 := Lib.hid (Q5.out.below hb6); have Ra6 := Lib.hid (Ra5.out.below hb6); have R6 := Lib.hid (R5.out.below hb6); have HB6 := Lib.hid (HB5.out.trans (hb6.mono HB5.out.size)); clear hb6; have y6T0 := T6.out.cell 0; have y6T1 := T6.out.cell 1; have y6Ma0 := Ma6.out.cell 0; have y6Ma1 := Ma6.out.cell 1; have y6Ra0 := Ra6.out.cell 0; have y6Ra1 := Ra6.out.cell 1; simp only [List.getElem?_toArray, List.getElem?_cons_zero, List.getElem?_cons_succ] at y6T0 y6T1 y6Ma0 y6Ma1 y6Ra0 y6Ra1; have y6Tl := T6.out.lt; have y6Mal := Ma6.out.lt; have y6Ral := Ra6.out.lt) | (go_at_call 24; with_reducible refine (HSs.out _ S6.out P6.out).mono ?_; rintro e u7 ⟨rfl, hb7⟩; have T7 := Lib.hid (T6.out.below hb7); have O7 := Lib.hid (O6.out.below hb7); have S7 := Lib.hid (S6.out.below hb7); have Ma7 := Lib.hid (Ma6.out.below hb7); have P7 := Lib.hid (P6.out.below hb7); have Q7 := Lib.hid (Q6.out.below hb7); have Ra7 := Lib.hid (Ra6.out.below hb7); have R7 := Lib.hid (R6.out.below hb7); have HB7 := Lib.hid (HB6.out.trans (hb7.mono HB6.out.size)); clear hb7; have y7T0 := T7.out.cell 0; have y7T1 := T7.out.cell 1; have y7Ma0 := Ma7.out.cell 0; have y7Ma1 := Ma7.out.cell 1; have y7Ra0 := Ra7.out.cell 0; have y7Ra1 := Ra7.out.cell 1; simp only [List.getElem?_toArray, List.getElem?_cons_zero, List.getElem?_cons_succ] at y7T0 y7T1 y7Ma0 y7Ma1 y7Ra0 y7Ra1; have y7Tl := T7.out.lt; have y7Mal := Ma7.out.lt; have y7Ral := Ra7.out.lt) | (go_at_call 24; with_reducible refine (HSt.out _ Q7.out R7.out).mono ?_; rintro e u8 ⟨rfl, hb8⟩; have T8 := Lib.hid (T7.out.below hb8); have O8 := Lib.hid (O7.out.below hb8); have S8 := Lib.hid (S7.out.below hb8); have Ma8 := Lib.hid (Ma7.out.below hb8); have P8 := Lib.hid (P7.out.below hb8); have Q8 := Lib.hid (Q7.out.below hb8); have Ra8 := Lib.hid (Ra7.out.below hb8); have R8 := Lib.hid (R7.out.below hb8); have HB8 := Lib.hid (HB7.out.trans (hb8.mono HB7.out.size)); clear hb8; have y8T0 := T8.out.cell 0; have y8T1 := T8.out.cell 1; have y8Ma0 := Ma8.out.cell 0; have y8Ma1 := Ma8.out.cell 1; have y8Ra0 := Ra8.out.cell 0; have y8Ra1 := Ra8.out.cell 1; simp only [List.getElem?_toArray, List.getElem?_cons_zero, List.getElem?_cons_succ] at y8T0 y8T1 y8Ma0 y8Ma1 y8Ra0 y8Ra1; have y8Tl := T8.out.lt; have y8Mal := Ma8.out.lt; have y8Ral := Ra8.out.lt))
    exact bodyPost_ret (v := .bool true) (by simp [results, Tryz.results4, go_sem]) rfl ⟨rfl, HB8.out⟩
  | false =>
    by_cases c1 : 3 < n
    case pos =>
      have d1 : decide ((3 : Int) < (n : Int)) = true := decide_eq_true (by omega)
      have d2 : decide (3 < n) = true := decide_eq_true c1
      have yT0 := T0.out.cell 0
      have yT1 := T0.out.cell 1
      simp only [List.getElem?_toArray, List.getElem?_cons_zero, List.getElem?_cons_succ] at yT0 yT1
      have yTl := T0.out.lt
      go_upto_region 2 with (go_at_call 12; with_reducible refine (HFew.out _).mono ?_; rintro e u1 ⟨rfl, hb1⟩; have T1 := Lib.hid (T0.out.below hb1); have O1 := Lib.hid (O0.out.below hb1); have HB1 := Lib.hid (HB0.out.trans (hb1.mono HB0.out.size)); clear hb1; have y1T0 := T1.out.cell 0; have y1T1 := T1.out.cell 1; simp only [List.getElem?_toArray, List.getElem?_cons_zero, List.getElem?_cons_succ] at y1T0 y1T1; have y1Tl := T1.out.lt)
      clear yT0 yT1 yTl y1T0 y1T1 y1Tl T0 O0 HB0
      have yT0 := T1.out.cell 0
      have yT1 := T1.out.cell 1
      simp only [List.getElem?_toArray, List.getElem?_cons_zero, List.getElem?_cons_succ] at yT0 yT1
      have yTl := T1.out.lt
      go_wp2_with (go_at_call 13; with_reducible refine (HSan.out _).mono ?_; rintro e u2 ⟨rfl, hb2⟩; have T2 := Lib.hid (T1.out.below hb2); have O2 := Lib.hid (O1.out.below hb2); have HB2 := Lib.hid (HB1.out.trans (hb2.mono HB1.out.size)); clear hb2; have y2T0 := T2.out.cell 0; have y2T1 := T2.out.cell 1; simp only [List.getElem?_toArray, List.getElem?_cons_zero, List.getElem?_cons_succ] at y2T0 y2T1; have y2Tl := T2.out.lt)
      exact bodyPost_ret (v := .bool true) (by simp [results, Tryz.results4, go_sem]) rfl ⟨rfl, HB2.out⟩
    case neg =>
      have d1 : decide ((3 : Int) < (n : Int)) = false := decide_eq_false (by omega)
      have d2 : decide (3 < n) = false := decide_eq_false c1
      by_cases c2 : 24 < m
      case pos =>
        have d3 : decide ((24 : Int) < (m : Int)) = true := decide_eq_true (by omega)
        have d4 : decide (24 < m) = true := decide_eq_true c2
        have yT0 := T0.out.cell 0
        have yT1 := T0.out.cell 1
        simp only [List.getElem?_toArray, List.getElem?_cons_zero, List.getElem?_cons_succ] at yT0 yT1
        have yTl := T0.out.lt
        go_upto_region 2 with (go_at_call 12; with_reducible refine (HFew.out _).mono ?_; rintro e u1 ⟨rfl, hb1⟩; have T1 := Lib.hid (T0.out.below hb1); have O1 := Lib.hid (O0.out.below hb1); have HB1 := Lib.hid (HB0.out.trans (hb1.mono HB0.out.size)); clear hb1; have y1T0 := T1.out.cell 0; have y1T1 := T1.out.cell 1; simp only [List.getElem?_toArray, List.getElem?_cons_zero, List.getElem?_cons_succ] at y1T0 y1T1; have y1Tl := T1.out.lt)
        clear yT0 yT1 yTl y1T0 y1T1 y1Tl T0 O0 HB0
        have yT0 := T1.out.cell 0
        have yT1 := T1.out.cell 1
        simp only [List.getElem?_toArray, List.getElem?_cons_zero, List.getElem?_cons_succ] at yT0 yT1
        have yTl := T1.out.lt
        go_wp2_with (go_at_call 13; with_reducible refine (HSan.out _).mono ?_; rintro e u2 ⟨rfl, hb2⟩; have T2 := Lib.hid (T1.out.below hb2); have O2 := Lib.hid (O1.out.below hb2); have HB2 := Lib.hid (HB1.out.trans (hb2.mono HB1.out.size)); clear hb2; have y2T0 := T2.out.cell 0; have y2T1 := T2.out.cell 1; simp only [List.getElem?_toArray, List.getElem?_cons_zero, List.getElem?_cons_succ] at y2T0 y2T1; have y2Tl := T2.out.lt)
        exact bodyPost_ret (v := .bool true) (by simp [results, Tryz.results4, go_sem]) rfl ⟨rfl, HB2.out⟩
      case neg =>
        have d3 : decide ((24 : Int) < (m : Int)) = false := decide_eq_false (by omega)
        have d4 : decide (24 < m) = false := decide_eq_false c2
        have yT0 := T0.out.cell 0
        have yT1 := T0.out.cell 1
        simp only [List.getElem?_toArray, List.getElem?_cons_zero, List.getElem?_cons_succ] at yT0 yT1
        have yTl := T0.out.lt
        go_upto_region 3 with (go_at_call 12; with_reducible refine (HFew.out _).mono ?_; rintro e u1 ⟨rfl, hb1⟩; have T1 := Lib.hid (T0.out.below hb1); have O1 := Lib.hid (O0.out.below hb1); have HB1 := Lib.hid (HB0.out.trans (hb1.mono HB0.out.size)); clear hb1; have y1T0 := T1.out.cell 0; have y1T1 := T1.out.cell 1; simp only [List.getElem?_toArray, List.getElem?_cons_zero, List.getElem?_cons_succ] at y1T0 y1T1; have y1Tl := T1.out.lt)
        clear yT0 yT1 yTl y1T0 y1T1 y1Tl T0 O0 HB0
        clear d1 d2 d3 d4
        have yT0 := T1.out.cell 0
        have yT1 := T1.out.cell 1
        simp only [List.getElem?_toArray, List.getElem?_cons_zero, List.getElem?_cons_succ] at yT0 yT1
        have yTl := T1.out.lt
        have HC := Lib.hid (HS.out _ O1.out)
        try dsimp only [TR.v, vCt] at HC
        go_upto_region 4 with (go_at_call 20; (with_reducible refine HC.out.mono ?_); rintro e u2 ⟨As, ns, cs, rfl, ho, hns, hb⟩)
        clear yT0 yT1 yTl
        clear HC
        have bn := hb
        have T2 := Lib.hid (T1.out.below bn)
        have O2 := Lib.hid (O1.out.below bn)
        have HB2 := Lib.hid (HB1.out.trans (bn.mono HB1.out.size))
        have S2 := Lib.hid ((ho))
        clear hb bn T1 O1 HB1
        clear ho
        have yT0 := T2.out.cell 0
        have yT1 := T2.out.cell 1
        simp only [List.getElem?_toArray, List.getElem?_cons_zero, List.getElem?_cons_succ] at yT0 yT1
        have yTl := T2.out.lt
        have HC := Lib.hid (HM.out _ O2.out)
        try dsimp only [TR.v, vCt] at HC
        go_upto_region 5 with (go_at_call 21; (with_reducible refine HC.out.mono ?_); rintro e u3 ⟨Am, nms, cm, rfl, ho, hnm, hb⟩)
        clear yT0 yT1 yTl
        clear HC
        have bn := hb
        have bq : Below u3.heap.size u3 (u3.alloc (.cells #[.slice Am nms cm, .int .i64 ne] 46)) := ((Below.refl u3.heap.size u3).alloc (Nat.le_refl _) _)
        have bn := hb.trans (bq.mono hb.size)
        have T3 := Lib.hid (T2.out.below bn)
        have O3 := Lib.hid (O2.out.below bn)
        have S3 := Lib.hid (S2.out.below bn)
        have HB3 := Lib.hid (HB2.out.trans (bn.mono HB2.out.size))
        have P3 := Lib.hid ((ho).below bq)
        have Ma3 : Hid (Blk (u3.alloc (.cells #[.slice Am nms cm, .int .i64 ne] 46)) u3.heap.size 46 #[.slice Am nms cm, .int .i64 ne]) := Lib.hid (Blk.at_new 46 #[.slice Am nms cm, .int .i64 ne] rfl)
        generalize hV : u3.alloc (.cells #[.slice Am nms cm, .int .i64 ne] 46) = V3 at *
        generalize hp : u3.heap.size = p3 at *
        clear hV hp bq
        clear hb bn T2 O2 S2 HB2
        clear ho
        have yT0 := T3.out.cell 0
        have yT1 := T3.out.cell 1
        have yMa0 := Ma3.out.cell 0
        have yMa1 := Ma3.out.cell 1
        simp only [List.getElem?_toArray, List.getElem?_cons_zero, List.getElem?_cons_succ] at yT0 yT1 yMa0 yMa1
        have yTl := T3.out.lt
        have yMal := Ma3.out.lt
        have HC := Lib.hid (HN.out _ O3.out)
        try dsimp only [TR.v, vCt] at HC
        go_upto_region 6 with (go_at_call 22; (with_reducible refine HC.out.mono ?_); rintro e u4 ⟨Aq, nq, cq, rfl, ho, hnq, hb⟩)
        clear yT0 yT1 yMa0 yMa1 yTl yMal
        clear HC
        have bn := hb
        have T4 := Lib.hid (T3.out.below bn)
        have O4 := Lib.hid (O3.out.below bn)
        have S4 := Lib.hid (S3.out.below bn)
        have Ma4 := Lib.hid (Ma3.out.below bn)
        have P4 := Lib.hid (P3.out.below bn)
        have HB4 := Lib.hid (HB3.out.trans (bn.mono HB3.out.size))
        have Q4 := Lib.hid ((ho))
        clear hb bn T3 O3 S3 Ma3 P3 HB3
        clear ho
        have yT0 := T4.out.cell 0
        have yT1 := T4.out.cell 1
        have yMa0 := Ma4.out.cell 0
        have yMa1 := Ma4.out.cell 1
        simp only [List.getElem?_toArray, List.getElem?_cons_zero, List.getElem?_cons_succ] at yT0 yT1 yMa0 yMa1
        have yTl := T4.out.lt
        have yMal := Ma4.out.lt
        have HC := Lib.hid (HR.out _ O4.out)
        try dsimp only [TR.v, vCt] at HC
        go_upto_region 7 with (go_at_call 23; (with_reducible refine HC.out.mono ?_); rintro e u5 ⟨Ar, nr, cr, rfl, ho, hnr, hb⟩)
        clear yT0 yT1 yMa0 yMa1 yTl yMal
        clear HC
        have bn := hb
        have bq : Below u5.heap.size u5 (u5.alloc (.cells #[.slice Ar nr cr, .int .i64 fe] 46)) := ((Below.refl u5.heap.size u5).alloc (Nat.le_refl _) _)
        have bn := hb.trans (bq.mono hb.size)
        have T5 := Lib.hid (T4.out.below bn)
        have O5 := Lib.hid (O4.out.below bn)
        have S5 := Lib.hid (S4.out.below bn)
        have Ma5 := Lib.hid (Ma4.out.below bn)
        have P5 := Lib.hid (P4.out.below bn)
        have Q5 := Lib.hid (Q4.out.below bn)
        have HB5 := Lib.hid (HB4.out.trans (bn.mono HB4.out.size))
        have R5 := Lib.hid ((ho).below bq)
        have Ra5 : Hid (Blk (u5.alloc (.cells #[.slice Ar nr cr, .int .i64 fe] 46)) u5.heap.size 46 #[.slice Ar nr cr, .int .i64 fe]) := Lib.hid (Blk.at_new 46 #[.slice Ar nr cr, .int .i64 fe] rfl)
        generalize hV : u5.alloc (.cells #[.slice Ar nr cr, .int .i64 fe] 46) = V5 at *
        generalize hp : u5.heap.size = p5 at *
        clear hV hp bq
        clear hb bn T4 O4 S4 Ma4 P4 Q4 HB4
        clear ho
        have HSs := Lib.hid (fun (u : World) (q1 : SAt encI 1 u As ns sl) (q2 : SAt encI 1 u Am nms sl) => (SameInts_any As ns cs Am nms cm sl sl u q1 q2 (by omega) (by omega)).mono (fun e w' (h : e = .returned (.bool (decide (sl = sl))) ∧ Below u.heap.size u w') => (⟨by rw [h.1, decide_eq_true rfl], h.2⟩ : e = .returned (.bool true) ∧ Below u.heap.size u w')))
        have HSt := Lib.hid (fun (u : World) (q1 : SAt encI 1 u Aq nq nl) (q2 : SAt encI 1 u Ar nr nl) => (SameInts_any Aq nq cq Ar nr cr nl nl u q1 q2 (by omega) (by omega)).mono (fun e w' (h : e = .returned (.bool (decide (nl = nl))) ∧ Below u.heap.size u w') => (⟨by rw [h.1, decide_eq_true rfl], h.2⟩ : e = .returned (.bool true) ∧ Below u.heap.size u w')))
        have yT0 := T5.out.cell 0
        have yT1 := T5.out.cell 1
        have yMa0 := Ma5.out.cell 0
        have yMa1 := Ma5.out.cell 1
        have yRa0 := Ra5.out.cell 0
        have yRa1 := Ra5.out.cell 1
        simp only [List.getElem?_toArray, List.getElem?_cons_zero, List.getElem?_cons_succ] at yT0 yT1 yMa0 yMa1 yRa0 yRa1
        have yTl := T5.out.lt
        have yMal := Ma5.out.lt
        have yRal := Ra5.out.lt
        go_wp2_with (first | (go_at_call 13; with_reducible refine (HSan.out _).mono ?_; rintro e u6 ⟨rfl, hb6⟩; have T6 := Lib.hid (T5.out.below hb6); have O6 := Lib.hid (O5.out.below hb6); have S6 := Lib.hid (S5.out.below hb6); have Ma6 := Lib.hid (Ma5.out.below hb6); have P6 := Lib.hid (P5.out.below hb6); have Q6 := Lib.hid (Q5.out.below hb6); have Ra6 := Lib.hid (Ra5.out.below hb6); have R6 := Lib.hid (R5.out.below hb6); have HB6 := Lib.hid (HB5.out.trans (hb6.mono HB5.out.size)); clear hb6; have y6T0 := T6.out.cell 0; have y6T1 := T6.out.cell 1; have y6Ma0 := Ma6.out.cell 0; have y6Ma1 := Ma6.out.cell 1; have y6Ra0 := Ra6.out.cell 0; have y6Ra1 := Ra6.out.cell 1; simp only [List.getElem?_toArray, List.getElem?_cons_zero, List.getElem?_cons_succ] at y6T0 y6T1 y6Ma0 y6Ma1 y6Ra0 y6Ra1; have y6Tl := T6.out.lt; have y6Mal := Ma6.out.lt; have y6Ral := Ra6.out.lt) | (go_at_call 24; with_reducible refine (HSs.out _ S6.out P6.out).mono ?_; rintro e u7 ⟨rfl, hb7⟩; have T7 := Lib.hid (T6.out.below hb7); have O7 := Lib.hid (O6.out.below hb7); have S7 := Lib.hid (S6.out.below hb7); have Ma7 := Lib.hid (Ma6.out.below hb7); have P7 := Lib.hid (P6.out.below hb7); have Q7 := Lib.hid (Q6.out.below hb7); have Ra7 := Lib.hid (Ra6.out.below hb7); have R7 := Lib.hid (R6.out.below hb7); have HB7 := Lib.hid (HB6.out.trans (hb7.mono HB6.out.size)); clear hb7; have y7T0 := T7.out.cell 0; have y7T1 := T7.out.cell 1; have y7Ma0 := Ma7.out.cell 0; have y7Ma1 := Ma7.out.cell 1; have y7Ra0 := Ra7.out.cell 0; have y7Ra1 := Ra7.out.cell 1; simp only [List.getElem?_toArray, List.getElem?_cons_zero, List.getElem?_cons_succ] at y7T0 y7T1 y7Ma0 y7Ma1 y7Ra0 y7Ra1; have y7Tl := T7.out.lt; have y7Mal := Ma7.out.lt; have y7Ral := Ra7.out.lt) | (go_at_call 24; with_reducible refine (HSt.out _ Q7.out R7.out).mono ?_; rintro e u8 ⟨rfl, hb8⟩; have T8 := Lib.hid (T7.out.below hb8); have O8 := Lib.hid (O7.out.below hb8); have S8 := Lib.hid (S7.out.below hb8); have Ma8 := Lib.hid (Ma7.out.below hb8); have P8 := Lib.hid (P7.out.below hb8); have Q8 := Lib.hid (Q7.out.below hb8); have Ra8 := Lib.hid (Ra7.out.below hb8); have R8 := Lib.hid (R7.out.below hb8); have HB8 := Lib.hid (HB7.out.trans (hb8.mono HB7.out.size)); clear hb8; have y8T0 := T8.out.cell 0; have y8T1 := T8.out.cell 1; have y8Ma0 := Ma8.out.cell 0; have y8Ma1 := Ma8.out.cell 1; have y8Ra0 := Ra8.out.cell 0; have y8Ra1 := Ra8.out.cell 1; simp only [List.getElem?_toArray, List.getElem?_cons_zero, List.getElem?_cons_succ] at y8T0 y8T1 y8Ma0 y8Ma1 y8Ra0 y8Ra1; have y8Tl := T8.out.lt; have y8Mal := Ma8.out.lt; have y8Ral := Ra8.out.lt))
        exact bodyPost_ret (v := .bool true) (by simp [results, Tryz.results4, go_sem]) rfl ⟨rfl, HB8.out⟩
open Go.WideShapes Go.ChangeShapes Go.Joins Go.Deep
set_option maxRecDepth 100000 in
theorem flowLeaves_lifted (os : Os) (started : os.Started) (H : Type) (enc : TypeId × Value → H) :
    ReturnsInHanded Rows.flowLeavesRow.assume Tryz.checked os 4 .any (Rows.flowLeavesSpec.pre6 enc Tryz.prog Tryz.f4 Rows.flowLeavesRow.domain false) (Rows.flowLeavesSpec.post enc Tryz.prog Tryz.f4 false Rows.flowLeavesRow.fresh Rows.flowLeavesRow.handsOn Rows.flowLeavesRow.again) := by
  refine returnsInHanded_of_change (C := Tryz.checked) (by kernel_rfl) started (by kernel_rfl) Tryz.func4
    (ChangeSpec.witness6 (enc := enc) (C := Tryz.checked) false ⟨#[], #[.agg #[.slice none 0 0, .slice none 0 0]], []⟩ 8 (by kernel_rfl) (by kernel_rfl) (by kernel_rfl) (by kernel_rfl)) ?_
  intro W base args ds gs before hval0 hW hcnd _
  have hval : ∀ (j : Nat) t v, Tryz.f4.params[j]? = some t → args[j]? = some v → Value.okWide Tryz.prog W .any base t v := hval0
  have hW' := hW
  obtain ⟨p, q, hA0, hV, rfl, hfz, hnd⟩ := hW
  obtain ⟨rfl, rfl⟩ := trodVars_none hV
  have hA : DataW.TrodAll enc Tryz.prog W 0 (fun _ => true) true [25] args.toList ds p := hA0
  obtain ⟨v0, d0, rfl, rfl, h0⟩ := trodAll_one hA
  obtain ⟨t, rfl, hT, hA2, _, rfl⟩ := open_tr2 (hval 0 25 v0 rfl rfl) h0
  refine (flowLeaves_walk t W hT hA2).mono fun e W' ⟨he, hb⟩ => ⟨_, he, law_post laid_out (by kernel_rfl) rfl Tryz.underlying4 rfl hW' rfl rfl rfl hb⟩

theorem flowLeaves : Rows.FlowLeavesSaid :=
  OpenClaim.holds_of_wide 4 Tryz.f4 rfl rfl rfl rfl rfl rfl rfl ⟨rfl, rfl, rfl, rfl, rfl⟩ rfl rfl rfl rfl rfl (by kernel_rfl) Tryz.func4 (by kernel_rfl)
    (of_decide_eq_true (by kernel_rfl)) (by unfold Func.isWrapper; first | (rw [if_pos (by decide +kernel)]; kernel_rfl) | (rw [if_neg (by decide +kernel)]; exact ⟨rfl, rfl⟩))
    (fun os started H enc _ => flowLeaves_lifted os started H enc)
#print axioms flowLeaves
end Go.Proofs.YtighfmgkoepfkaaGreat
