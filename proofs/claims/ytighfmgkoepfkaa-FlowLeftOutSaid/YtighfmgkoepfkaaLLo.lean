/- The law FlowLeftOut. -/
import Derived.Test.YtighfmgkoepfkaaMY
import Derived.Test.YtighfmgkoepfkaaMU
import Derived.Test.YtighfmgkoepfkaaMI
namespace Go.Proofs.Ytighfmgkoepfkaa
open Go.RowKit

theorem wiH_len (hs : List Hd) (ms : List Mv) : (wiH hs ms).length ≤ 9 := by
  unfold wiH
  by_cases hc : tcheck hs ms = 0
  · rw [if_neg (by simpa using hc)]; exact (tcheck_zero.1 hc).lenH
  · rw [if_pos hc]; decide
theorem wiM_len (hs : List Hd) (ms : List Mv) (l : List Int) : (wiM hs ms l).length ≤ 24 := by
  unfold wiM
  by_cases hc : tcheck hs ms = 0
  · rw [if_neg (by simpa using hc)]; exact Nat.le_trans (List.length_filter_le _ _) (tcheck_zero.1 hc).lenM
  · rw [if_pos hc]; decide
theorem wi_tr {t : TR} {A' : Option Addr} {n' c' : Nat} {l : List Int} {w : World} (h : t.Ok w) (hl : SAt encI 1 w A' n' l) (hn' : n' ≤ 1000000) : Calls Try.prog 24 #[t.v, .slice A' n' c'] w fun e w' => ∃ A n c B m d, e = .returned (.tuple #[.agg #[.slice A n c, .slice B m d], .int .i64 (tcheck t.hs t.ms)]) ∧ TR.Ok w' ⟨A, n, c, B, m, d, wiH t.hs t.ms, wiM t.hs t.ms l⟩ ∧ n ≤ 9 ∧ m ≤ 24 ∧ Below w.heap.size w w' := by
  refine (Without_any t A' n' c' l w h hl hn').mono ?_
  rintro e w' ⟨hb, v1, v2, rfl, ho⟩
  obtain ⟨A, c, B, d, rfl, rfl, a1, a2, a3, a4, _, _⟩ := ho.form
  have l1 := wiH_len t.hs t.ms
  have l2 := wiM_len t.hs t.ms l
  exact ⟨A, _, c, B, _, d, rfl, ⟨a1, a2, by show (wiH t.hs t.ms).length ≤ _; omega, by show (wiM t.hs t.ms l).length ≤ _; omega, a3, a4⟩, l1, l2, hb⟩
/-- The error of Fewest. -/
def fwE (hs : List Hd) (ms : List Mv) : Int := if tcheck hs ms ≠ 0 then tcheck hs ms else if 10 < ms.length then 2 else if (fewL (okL hs ms) (idsL ms)).isSome = true then 0 else 5
theorem fw_bad {t : TR} {w : World} (h : t.Ok w) (hn : fwE t.hs t.ms ≠ 0) : Calls Try.prog 28 #[t.v] w fun e w' => e = .returned (.tuple #[.slice none 0 0, .int .i64 (fwE t.hs t.ms)]) ∧ Below w.heap.size w w' := by
  refine (Fewest_any t w h).mono ?_
  rintro e w' ⟨hb, ⟨h1, rfl⟩ | ⟨h0, ⟨h2, rfl⟩ | ⟨h3, h2, rfl⟩ | ⟨h3, z, A, n, c, h2, rfl, _⟩⟩⟩
  · exact ⟨by unfold fwE; rw [if_pos h1], hb⟩
  · exact ⟨by unfold fwE; rw [if_neg (by simpa using h0), if_pos h2], hb⟩
  · exact ⟨by unfold fwE; rw [if_neg (by simpa using h0), if_neg (by omega), if_neg (by rw [h2]; decide)], hb⟩
  · exact absurd (by unfold fwE; rw [if_neg (by simpa using h0), if_neg (by omega), if_pos (by rw [h2]; rfl)]) hn
theorem fw_ok {t : TR} {w : World} (h : t.Ok w) (hn : fwE t.hs t.ms = 0) : Calls Try.prog 28 #[t.v] w fun e w' => ∃ z A n c, fewL (okL t.hs t.ms) (idsL t.ms) = some z ∧ e = .returned (.tuple #[.slice A n c, .int .i64 0]) ∧ SAt encI 1 w' A n z ∧ n ≤ 100 ∧ Below w.heap.size w w' := by
  refine (Fewest_any t w h).mono ?_
  rintro e w' ⟨hb, ⟨h1, rfl⟩ | ⟨h0, ⟨h2, rfl⟩ | ⟨h3, h2, rfl⟩ | ⟨h3, z, A, n, c, h2, rfl, hs, _, hn', _⟩⟩⟩
  · unfold fwE at hn; rw [if_pos h1] at hn; exact absurd hn h1
  · unfold fwE at hn; rw [if_neg (by simpa using h0), if_pos h2] at hn; cases hn
  · unfold fwE at hn; rw [if_neg (by simpa using h0), if_neg (by omega), if_neg (by rw [h2]; decide)] at hn; cases hn
  · exact ⟨z, A, n, c, h2, rfl, hs, hn', hb⟩
theorem fwE_tc {hs : List Hd} {ms : List Mv} (h : fwE hs ms = 0) : tcheck hs ms = 0 := by
  refine Classical.byContradiction fun c => ?_
  unfold fwE at h
  rw [if_pos c] at h
  exact c h
theorem suspL_len (hs : List Hd) (ms : List Mv) : (suspL hs ms).length ≤ 24 := by
  unfold suspL
  by_cases hc : tcheck hs ms = 0
  · rw [if_neg (by simpa using hc)]
    split
    · decide
    · refine Nat.le_trans (List.length_filter_le _ _) ?_
      rw [idsL_len]
      exact (tcheck_zero.1 hc).lenM
  · rw [if_pos hc]; decide
theorem su_tr {t : TR} {w : World} (h : t.Ok w) : Calls Try.prog 29 #[t.v] w fun e w' => ∃ A q c, e = .returned (.tuple #[.slice A q c, .int .i64 (tcheck t.hs t.ms)]) ∧ SAt encI 1 w' A q (suspL t.hs t.ms) ∧ q ≤ 24 ∧ Below w.heap.size w w' := by
  refine (Suspects_any t w h).mono ?_
  rintro e w' ⟨hb, v, rfl, ho⟩
  obtain ⟨A, c, rfl, hs, _, _⟩ := SAt_of_row encI_len rfl ho
  exact ⟨A, _, c, rfl, hs, suspL_len _ _, hb⟩
theorem wi_eq {hs : List Hd} {ms : List Mv} (h : tcheck hs ms = 0) (l : List Int) : wiH hs ms = hs ∧ wiM hs ms l = dropL ms l := by
  unfold wiH wiM
  rw [if_neg (by simpa using h), if_neg (by simpa using h)]
  exact ⟨rfl, rfl⟩
set_option maxRecDepth 100000 in
set_option maxHeartbeats 12800000 in
theorem flowLeftOut_walk (t : TR) (Ai : Option Addr) (ki ci : Nat) (ids : List Int) (w : World) (h : t.Ok w) (hi : SAt encI 1 w Ai ki ids) : Calls Try.prog 6 #[t.v, .slice Ai ki ci] w fun e w' => e = .returned (.bool true) ∧ Below w.heap.size w w' := by
  obtain ⟨A, n, c, B, m, d, hs, ms⟩ := t
  have HSan := Lib.hid (fun u => sanity_any u)
  obtain ⟨fb, hfb⟩ : ∃ b, fewB n m = b := ⟨_, rfl⟩
  have HFew := Lib.hid (fun u => few_any A n c B m d u h.n_le h.m_le)
  rw [hfb] at HFew
  dsimp only [TR.v] at *
  have HB0 : Hid (Below w.heap.size w (w.alloc (.cells #[.slice A n c, .slice B m d] 25))) := Lib.hid ((Below.refl w.heap.size w).alloc (Nat.le_refl _) _)
  have T0 : Hid (Blk (w.alloc (.cells #[.slice A n c, .slice B m d] 25)) w.heap.size 25 #[.slice A n c, .slice B m d]) := Lib.hid (Blk.at_new 25 #[.slice A n c, .slice B m d] rfl)
  have O0 := Lib.hid ((h).below HB0.out)
  have I0 := Lib.hid ((hi).below HB0.out)
  go_enter Try.func6, Try.ntmps6
  go_upto_region 1 with fail
  generalize hV : w.alloc (.cells #[.slice A n c, .slice B m d] 25) = V0 at *
  clear hV
  clear h hi hfb
  cases fb with
  | false =>
    have yT0 := T0.out.cell 0
    have yT1 := T0.out.cell 1
    simp only [List.getElem?_toArray, List.getElem?_cons_zero, List.getElem?_cons_succ] at yT0 yT1
    have yTl := T0.out.lt
    go_upto_region 2 with (go_at_call 13; with_reducible refine (HFew.out _).mono ?_; rintro e u1 ⟨rfl, hb1⟩; have T1 := Lib.hid (T0.out.below hb1); have O1 := Lib.hid (O0.out.below hb1); have I1 := Lib.hid (I0.out.below hb1); have HB1 := Lib.hid (HB0.out.trans (hb1.mono HB0.out.size)); clear hb1; have y1T0 := T1.out.cell 0; have y1T1 := T1.out.cell 1; simp only [List.getElem?_toArray, List.getElem?_cons_zero, List.getElem?_cons_succ] at y1T0 y1T1; have y1Tl := T1.out.lt)
    clear yT0 yT1 yTl y1T0 y1T1 y1Tl T0 O0 I0 HB0
    have yT0 := T1.out.cell 0
    have yT1 := T1.out.cell 1
    simp only [List.getElem?_toArray, List.getElem?_cons_zero, List.getElem?_cons_succ] at yT0 yT1
    have yTl := T1.out.lt
    go_wp2_with (go_at_call 14; with_reducible refine (HSan.out _).mono ?_; rintro e u2 ⟨rfl, hb2⟩; have T2 := Lib.hid (T1.out.below hb2); have O2 := Lib.hid (O1.out.below hb2); have I2 := Lib.hid (I1.out.below hb2); have HB2 := Lib.hid (HB1.out.trans (hb2.mono HB1.out.size)); clear hb2; have y2T0 := T2.out.cell 0; have y2T1 := T2.out.cell 1; simp only [List.getElem?_toArray, List.getElem?_cons_zero, List.getElem?_cons_succ] at y2T0 y2T1; have y2Tl := T2.out.lt)
    exact bodyPost_ret (v := .bool true) (by simp [results, Try.results6, go_sem]) rfl ⟨rfl, HB2.out⟩
  | true =>
  by_cases hk60 : 20 < ki
  case pos =>
    have hkb : decide ((20 : Int) < (ki : Int)) = true := decide_eq_true (by omega)
    have yT0 := T0.out.cell 0
    have yT1 := T0.out.cell 1
    simp only [List.getElem?_toArray, List.getElem?_cons_zero, List.getElem?_cons_succ] at yT0 yT1
    have yTl := T0.out.lt
    go_upto_region 2 with (go_at_call 13; with_reducible refine (HFew.out _).mono ?_; rintro e u1 ⟨rfl, hb1⟩; have T1 := Lib.hid (T0.out.below hb1); have O1 := Lib.hid (O0.out.below hb1); have I1 := Lib.hid (I0.out.below hb1); have HB1 := Lib.hid (HB0.out.trans (hb1.mono HB0.out.size)); clear hb1; have y1T0 := T1.out.cell 0; have y1T1 := T1.out.cell 1; simp only [List.getElem?_toArray, List.getElem?_cons_zero, List.getElem?_cons_succ] at y1T0 y1T1; have y1Tl := T1.out.lt)
    clear yT0 yT1 yTl y1T0 y1T1 y1Tl T0 O0 I0 HB0
    have yT0 := T1.out.cell 0
    have yT1 := T1.out.cell 1
    simp only [List.getElem?_toArray, List.getElem?_cons_zero, List.getElem?_cons_succ] at yT0 yT1
    have yTl := T1.out.lt
    go_wp2_with (go_at_call 14; with_reducible refine (HSan.out _).mono ?_; rintro e u2 ⟨rfl, hb2⟩; have T2 := Lib.hid (T1.out.below hb2); have O2 := Lib.hid (O1.out.below hb2); have I2 := Lib.hid (I1.out.below hb2); have HB2 := Lib.hid (HB1.out.trans (hb2.mono HB1.out.size)); clear hb2; have y2T0 := T2.out.cell 0; have y2T1 := T2.out.cell 1; simp only [List.getElem?_toArray, List.getElem?_cons_zero, List.getElem?_cons_succ] at y2T0 y2T1; have y2Tl := T2.out.lt)
    exact bodyPost_ret (v := .bool true) (by simp [results, Try.results6, go_sem]) rfl ⟨rfl, HB2.out⟩
  case neg =>
  have hkb : decide ((20 : Int) < (ki : Int)) = false := decide_eq_false (by omega)
  have yT0 := T0.out.cell 0
  have yT1 := T0.out.cell 1
  simp only [List.getElem?_toArray, List.getElem?_cons_zero, List.getElem?_cons_succ] at yT0 yT1
  have yTl := T0.out.lt
  go_upto_region 3 with (go_at_call 13; with_reducible refine (HFew.out _).mono ?_; rintro e u1 ⟨rfl, hb1⟩; have T1 := Lib.hid (T0.out.below hb1); have O1 := Lib.hid (O0.out.below hb1); have I1 := Lib.hid (I0.out.below hb1); have HB1 := Lib.hid (HB0.out.trans (hb1.mono HB0.out.size)); clear hb1; have y1T0 := T1.out.cell 0; have y1T1 := T1.out.cell 1; simp only [List.getElem?_toArray, List.getElem?_cons_zero, List.getElem?_cons_succ] at y1T0 y1T1; have y1Tl := T1.out.lt)
  clear yT0 yT1 yTl y1T0 y1T1 y1Tl T0 O0 I0 HB0
  clear hkb
  have HSu := Lib.hid (fun (u : World) (hu : TR.Ok u ⟨A, n, c, B, m, d, hs, ms⟩) => su_tr hu)
  dsimp only [TR.v] at HSu
  by_cases hn : fwE hs ms = 0
  case neg =>
    have HFw := Lib.hid (fun (u : World) (hu : TR.Ok u ⟨A, n, c, B, m, d, hs, ms⟩) => fw_bad hu hn)
    dsimp only [TR.v] at HFw
    generalize fwE hs ms = ne at *
    have hnb : (ne != 0) = true := by simpa using hn
    clear hn
    have yT0 := T1.out.cell 0
    have yT1 := T1.out.cell 1
    simp only [List.getElem?_toArray, List.getElem?_cons_zero, List.getElem?_cons_succ] at yT0 yT1
    have yTl := T1.out.lt
    have HC := Lib.hid (HFw.out _ O1.out)
    try dsimp only [TR.v, vCt] at HC
    go_upto_region 4 with (go_at_call 28; with_reducible refine HC.out.mono ?_; rintro e u2 ⟨rfl, hb⟩)
    clear yT0 yT1 yTl
    clear HC
    have bn := hb
    have T2 := Lib.hid (T1.out.below bn)
    have O2 := Lib.hid (O1.out.below bn)
    have I2 := Lib.hid (I1.out.below bn)
    have HB2 := Lib.hid (HB1.out.trans (bn.mono HB1.out.size))
    clear hb bn T1 O1 I1 HB1
    have yT0 := T2.out.cell 0
    have yT1 := T2.out.cell 1
    simp only [List.getElem?_toArray, List.getElem?_cons_zero, List.getElem?_cons_succ] at yT0 yT1
    have yTl := T2.out.lt
    have HC := Lib.hid (HSu.out _ O2.out)
    try dsimp only [TR.v, vCt] at HC
    go_upto_region 6 with (go_at_call 29; with_reducible refine HC.out.mono ?_; rintro e u3 ⟨Q2, q2, x2, rfl, ho, _, hb⟩)
    clear yT0 yT1 yTl
    clear HC
    have bn := hb
    have T3 := Lib.hid (T2.out.below bn)
    have O3 := Lib.hid (O2.out.below bn)
    have I3 := Lib.hid (I2.out.below bn)
    have HB3 := Lib.hid (HB2.out.trans (bn.mono HB2.out.size))
    clear hb bn T2 O2 I2 HB2
    clear ho
    have yT0 := T3.out.cell 0
    have yT1 := T3.out.cell 1
    simp only [List.getElem?_toArray, List.getElem?_cons_zero, List.getElem?_cons_succ] at yT0 yT1
    have yTl := T3.out.lt
    go_wp2_with (go_at_call 14; with_reducible refine (HSan.out _).mono ?_; rintro e u4 ⟨rfl, hb4⟩; have T4 := Lib.hid (T3.out.below hb4); have O4 := Lib.hid (O3.out.below hb4); have I4 := Lib.hid (I3.out.below hb4); have HB4 := Lib.hid (HB3.out.trans (hb4.mono HB3.out.size)); clear hb4; have y4T0 := T4.out.cell 0; have y4T1 := T4.out.cell 1; simp only [List.getElem?_toArray, List.getElem?_cons_zero, List.getElem?_cons_succ] at y4T0 y4T1; have y4Tl := T4.out.lt)
    exact bodyPost_ret (v := .bool true) (by simp [results, Try.results6, go_sem]) rfl ⟨rfl, HB4.out⟩
  case pos =>
  have hc := fwE_tc hn
  have hv := tcheck_zero.1 hc
  have HTc := Lib.hid hc
  have HTV := Lib.hid hv
  have HFw := Lib.hid (fun (u : World) (hu : TR.Ok u ⟨A, n, c, B, m, d, hs, ms⟩) => fw_ok hu hn)
  rw [hc] at HSu
  dsimp only [TR.v] at HFw
  have HLm := Lib.hid (show ms.length = m from O1.out.m.len)
  have hm24 : m ≤ 24 := by rw [← HLm.out]; exact hv.lenM
  have yT0 := T1.out.cell 0
  have yT1 := T1.out.cell 1
  simp only [List.getElem?_toArray, List.getElem?_cons_zero, List.getElem?_cons_succ] at yT0 yT1
  have yTl := T1.out.lt
  have HC := Lib.hid (HFw.out _ O1.out)
  try dsimp only [TR.v, vCt] at HC
  go_upto_region 4 with (go_at_call 28; with_reducible refine HC.out.mono ?_; rintro e u2 ⟨z, Az, nz, cz, hfz, rfl, ho, hnz, hb⟩)
  clear yT0 yT1 yTl
  clear HC
  have bn := hb
  have T2 := Lib.hid (T1.out.below bn)
  have O2 := Lib.hid (O1.out.below bn)
  have I2 := Lib.hid (I1.out.below bn)
  have HB2 := Lib.hid (HB1.out.trans (bn.mono HB1.out.size))
  have Z2 := Lib.hid ((ho))
  clear hb bn T1 O1 I1 HB1
  clear ho
  have HFz := Lib.hid hfz
  clear hfz
  have yT0 := T2.out.cell 0
  have yT1 := T2.out.cell 1
  simp only [List.getElem?_toArray, List.getElem?_cons_zero, List.getElem?_cons_succ] at yT0 yT1
  have yTl := T2.out.lt
  have HC := Lib.hid (HSu.out _ O2.out)
  try dsimp only [TR.v, vCt] at HC
  go_upto_region 7 with (go_at_call 29; with_reducible refine HC.out.mono ?_; rintro e u3 ⟨As, ns, cs, rfl, ho, hns, hb⟩)
  clear yT0 yT1 yTl
  clear HC
  have bn := hb
  have T3 := Lib.hid (T2.out.below bn)
  have O3 := Lib.hid (O2.out.below bn)
  have I3 := Lib.hid (I2.out.below bn)
  have Z3 := Lib.hid (Z2.out.below bn)
  have HB3 := Lib.hid (HB2.out.trans (bn.mono HB2.out.size))
  have S3 := Lib.hid ((ho))
  clear hb bn T2 O2 I2 Z2 HB2
  clear ho
  have HW1 := Lib.hid (fun (u : World) (hu : TR.Ok u ⟨A, n, c, B, m, d, hs, ms⟩) => (fun (q : SAt encI 1 u Az nz z) => wi_tr hu q (c' := cz) (by omega)))
  have HW2 := Lib.hid (fun (u : World) (hu : TR.Ok u ⟨A, n, c, B, m, d, hs, ms⟩) => (fun (q : SAt encI 1 u Ai ki ids) => wi_tr hu q (c' := ci) (by omega)))
  dsimp only [TR.v] at HW1 HW2
  rw [hc, (wi_eq hc z).1, (wi_eq hc z).2] at HW1
  rw [hc, (wi_eq hc ids).1, (wi_eq hc ids).2] at HW2
  have yT0 := T3.out.cell 0
  have yT1 := T3.out.cell 1
  simp only [List.getElem?_toArray, List.getElem?_cons_zero, List.getElem?_cons_succ] at yT0 yT1
  have yTl := T3.out.lt
  have HC := Lib.hid (HW1.out _ O3.out Z3.out)
  try dsimp only [TR.v, vCt] at HC
  go_upto_region 8 with (go_at_call 24; with_reducible refine HC.out.mono ?_; rintro e u4 ⟨Q1, w1, x1, Q2, w2, x2, rfl, ho, _, _, hb⟩)
  clear yT0 yT1 yTl
  clear HC
  have bn := hb
  have bq : Below u4.heap.size u4 (u4.alloc (.cells #[.slice Q1 w1 x1, .slice Q2 w2 x2] 25)) := ((Below.refl u4.heap.size u4).alloc (Nat.le_refl _) _)
  have bn := hb.trans (bq.mono hb.size)
  have T4 := Lib.hid (T3.out.below bn)
  have O4 := Lib.hid (O3.out.below bn)
  have I4 := Lib.hid (I3.out.below bn)
  have Z4 := Lib.hid (Z3.out.below bn)
  have S4 := Lib.hid (S3.out.below bn)
  have HB4 := Lib.hid (HB3.out.trans (bn.mono HB3.out.size))
  have N4 := Lib.hid ((ho).below bq)
  have La4 : Hid (Blk (u4.alloc (.cells #[.slice Q1 w1 x1, .slice Q2 w2 x2] 25)) u4.heap.size 25 #[.slice Q1 w1 x1, .slice Q2 w2 x2]) := Lib.hid (Blk.at_new 25 #[.slice Q1 w1 x1, .slice Q2 w2 x2] rfl)
  generalize hV : u4.alloc (.cells #[.slice Q1 w1 x1, .slice Q2 w2 x2] 25) = V4 at *
  generalize hp : u4.heap.size = p4 at *
  clear hV hp bq
  clear hb bn T3 O3 I3 Z3 S3 HB3
  clear ho
  have HF1 := Lib.hid (fun (u : World) (hu : TR.Ok u ⟨Q1, w1, x1, Q2, w2, x2, hs, dropL ms z⟩) => fi_yes hu (tcheck_zero.2 (HTV.out.drop z)) (show agrL hs (dropL ms z) = true from (few_min HFz.out).1))
  dsimp only [TR.v] at HF1
  have yT0 := T4.out.cell 0
  have yT1 := T4.out.cell 1
  have yLa0 := La4.out.cell 0
  have yLa1 := La4.out.cell 1
  simp only [List.getElem?_toArray, List.getElem?_cons_zero, List.getElem?_cons_succ] at yT0 yT1 yLa0 yLa1
  have yTl := T4.out.lt
  have yLal := La4.out.lt
  have HC := Lib.hid (HF1.out _ N4.out)
  try dsimp only [TR.v, vCt] at HC
  go_upto_region 9 with (go_at_call 15; with_reducible refine HC.out.mono ?_; rintro e u5 ⟨D1, r1, y1, D2, r2, y2, D3, r3, y3, st2, en2, ma2, rfl, _, _, _, _, hb⟩)
  clear yT0 yT1 yLa0 yLa1 yTl yLal
  clear HC
  have bn := hb
  have bq : Below u5.heap.size u5 (u5.alloc (.cells #[.slice D1 r1 y1, .slice D2 r2 y2, .slice D3 r3 y3] 32)) := ((Below.refl u5.heap.size u5).alloc (Nat.le_refl _) _)
  have bn := hb.trans (bq.mono hb.size)
  have T5 := Lib.hid (T4.out.below bn)
  have O5 := Lib.hid (O4.out.below bn)
  have I5 := Lib.hid (I4.out.below bn)
  have Z5 := Lib.hid (Z4.out.below bn)
  have S5 := Lib.hid (S4.out.below bn)
  have La5 := Lib.hid (La4.out.below bn)
  have N5 := Lib.hid (N4.out.below bn)
  have HB5 := Lib.hid (HB4.out.trans (bn.mono HB4.out.size))
  have Ca5 : Hid (Blk (u5.alloc (.cells #[.slice D1 r1 y1, .slice D2 r2 y2, .slice D3 r3 y3] 32)) u5.heap.size 32 #[.slice D1 r1 y1, .slice D2 r2 y2, .slice D3 r3 y3]) := Lib.hid (Blk.at_new 32 #[.slice D1 r1 y1, .slice D2 r2 y2, .slice D3 r3 y3] rfl)
  generalize hV : u5.alloc (.cells #[.slice D1 r1 y1, .slice D2 r2 y2, .slice D3 r3 y3] 32) = V5 at *
  generalize hp : u5.heap.size = p5 at *
  clear hV hp bq
  clear hb bn T4 O4 I4 Z4 S4 La4 N4 HB4
  have yT0 := T5.out.cell 0
  have yT1 := T5.out.cell 1
  have yLa0 := La5.out.cell 0
  have yLa1 := La5.out.cell 1
  have yCa0 := Ca5.out.cell 0
  have yCa1 := Ca5.out.cell 1
  have yCa2 := Ca5.out.cell 2
  simp only [List.getElem?_toArray, List.getElem?_cons_zero, List.getElem?_cons_succ] at yT0 yT1 yLa0 yLa1 yCa0 yCa1 yCa2
  have yTl := T5.out.lt
  have yLal := La5.out.lt
  have yCal := Ca5.out.lt
  have HC := Lib.hid (HW2.out _ O5.out I5.out)
  try dsimp only [TR.v, vCt] at HC
  go_upto_region 10 with (go_at_call 24; with_reducible refine HC.out.mono ?_; rintro e u6 ⟨R1, v1, z1, R2, v2, z2, rfl, ho, _, hv24, hb⟩)
  clear yT0 yT1 yLa0 yLa1 yCa0 yCa1 yCa2 yTl yLal yCal
  clear HC
  have bn := hb
  have bq : Below u6.heap.size u6 (u6.alloc (.cells #[.slice R1 v1 z1, .slice R2 v2 z2] 25)) := ((Below.refl u6.heap.size u6).alloc (Nat.le_refl _) _)
  have bn := hb.trans (bq.mono hb.size)
  have T6 := Lib.hid (T5.out.below bn)
  have O6 := Lib.hid (O5.out.below bn)
  have I6 := Lib.hid (I5.out.below bn)
  have Z6 := Lib.hid (Z5.out.below bn)
  have S6 := Lib.hid (S5.out.below bn)
  have La6 := Lib.hid (La5.out.below bn)
  have N6 := Lib.hid (N5.out.below bn)
  have Ca6 := Lib.hid (Ca5.out.below bn)
  have HB6 := Lib.hid (HB5.out.trans (bn.mono HB5.out.size))
  have P6 := Lib.hid ((ho).below bq)
  have Lb6 : Hid (Blk (u6.alloc (.cells #[.slice R1 v1 z1, .slice R2 v2 z2] 25)) u6.heap.size 25 #[.slice R1 v1 z1, .slice R2 v2 z2]) := Lib.hid (Blk.at_new 25 #[.slice R1 v1 z1, .slice R2 v2 z2] rfl)
  generalize hV : u6.alloc (.cells #[.slice R1 v1 z1, .slice R2 v2 z2] 25) = V6 at *
  generalize hp : u6.heap.size = p6 at *
  clear hV hp bq
  clear hb bn T5 O5 I5 Z5 S5 La5 N5 Ca5 HB5
  have HPl := Lib.hid (show (dropL ms ids).length = v2 from ho.m.len)
  clear ho
  cases haj : agrL hs (dropL ms ids) with
  | true =>
    have HF2 := Lib.hid (fun (u : World) (hu : TR.Ok u ⟨R1, v1, z1, R2, v2, z2, hs, dropL ms ids⟩) => fi_yes hu (tcheck_zero.2 (HTV.out.drop ids)) haj)
    dsimp only [TR.v] at HF2
    have HMin := Lib.hid (show nz + v2 ≤ m by have h1 := left_min HFz.out haj; have h2 := Z6.out.len; have h3 := HPl.out; have h4 := HLm.out; omega)
    have yT0 := T6.out.cell 0
    have yT1 := T6.out.cell 1
    have yLa0 := La6.out.cell 0
    have yLa1 := La6.out.cell 1
    have yCa0 := Ca6.out.cell 0
    have yCa1 := Ca6.out.cell 1
    have yCa2 := Ca6.out.cell 2
    have yLb0 := Lb6.out.cell 0
    have yLb1 := Lb6.out.cell 1
    simp only [List.getElem?_toArray, List.getElem?_cons_zero, List.getElem?_cons_succ] at yT0 yT1 yLa0 yLa1 yCa0 yCa1 yCa2 yLb0 yLb1
    have yTl := T6.out.lt
    have yLal := La6.out.lt
    have yCal := Ca6.out.lt
    have yLbl := Lb6.out.lt
    have HC := Lib.hid (HF2.out _ P6.out)
    try dsimp only [TR.v, vCt] at HC
    go_upto_region 11 with (go_at_call 15; with_reducible refine HC.out.mono ?_; rintro e u7 ⟨E1, s1, f1, E2, s2, f2, E3, s3, f3, st3, en3, ma3, rfl, _, _, _, _, hb⟩)
    clear yT0 yT1 yLa0 yLa1 yCa0 yCa1 yCa2 yLb0 yLb1 yTl yLal yCal yLbl
    clear HC
    have bn := hb
    have bq : Below u7.heap.size u7 (u7.alloc (.cells #[.slice E1 s1 f1, .slice E2 s2 f2, .slice E3 s3 f3] 32)) := ((Below.refl u7.heap.size u7).alloc (Nat.le_refl _) _)
    have bn := hb.trans (bq.mono hb.size)
    have T7 := Lib.hid (T6.out.below bn)
    have O7 := Lib.hid (O6.out.below bn)
    have I7 := Lib.hid (I6.out.below bn)
    have Z7 := Lib.hid (Z6.out.below bn)
    have S7 := Lib.hid (S6.out.below bn)
    have La7 := Lib.hid (La6.out.below bn)
    have N7 := Lib.hid (N6.out.below bn)
    have Ca7 := Lib.hid (Ca6.out.below bn)
    have Lb7 := Lib.hid (Lb6.out.below bn)
    have P7 := Lib.hid (P6.out.below bn)
    have HB7 := Lib.hid (HB6.out.trans (bn.mono HB6.out.size))
    have Cb7 : Hid (Blk (u7.alloc (.cells #[.slice E1 s1 f1, .slice E2 s2 f2, .slice E3 s3 f3] 32)) u7.heap.size 32 #[.slice E1 s1 f1, .slice E2 s2 f2, .slice E3 s3 f3]) := Lib.hid (Blk.at_new 32 #[.slice E1 s1 f1, .slice E2 s2 f2, .slice E3 s3 f3] rfl)
    generalize hV : u7.alloc (.cells #[.slice E1 s1 f1, .slice E2 s2 f2, .slice E3 s3 f3] 32) = V7 at *
    generalize hp : u7.heap.size = p7 at *
    clear hV hp bq
    clear hb bn T6 O6 I6 Z6 S6 La6 N6 Ca6 Lb6 P6 HB6
    by_cases h1 : nz = 1
    case pos =>
      have yT0 := T7.out.cell 0
      have yT1 := T7.out.cell 1
      have yLa0 := La7.out.cell 0
      have yLa1 := La7.out.cell 1
      have yCa0 := Ca7.out.cell 0
      have yCa1 := Ca7.out.cell 1
      have yCa2 := Ca7.out.cell 2
      have yLb0 := Lb7.out.cell 0
      have yLb1 := Lb7.out.cell 1
      have yCb0 := Cb7.out.cell 0
      have yCb1 := Cb7.out.cell 1
      have yCb2 := Cb7.out.cell 2
      simp only [List.getElem?_toArray, List.getElem?_cons_zero, List.getElem?_cons_succ] at yT0 yT1 yLa0 yLa1 yCa0 yCa1 yCa2 yLb0 yLb1 yCb0 yCb1 yCb2
      have yTl := T7.out.lt
      have yLal := La7.out.lt
      have yCal := Ca7.out.lt
      have yLbl := Lb7.out.lt
      have yCbl := Cb7.out.lt
      have hq1 : decide (((m : Int) - (v2 : Int)) < (nz : Int)) = false := decide_eq_false (by have := HMin.out; omega)
      obtain ⟨x0, r0, hz0, hs0⟩ := susp_head HTc.out HFz.out (by have := Z7.out.len; omega)
      have hns0 : 0 < ns := by have := S7.out.len; rw [hs0] at this; simp at this; omega
      have d1 : decide ((0 : Int) < (ns : Int)) = true := decide_eq_true (by omega)
      have d2 : ((nz : Int) != 1) = false := by simp; omega
      have d3 : ((nz : Int) == 1) = true := by simp; omega
      have d4 : ((ns : Int) == 0) = false := by simp; omega
      obtain ⟨bZ, oZ, eZ, hZ⟩ := Z7.out.at_ (by omega)
      obtain ⟨bS, oS, eS, hS⟩ := S7.out.at_ (by omega)
      subst eZ eS
      have s0 := hZ.c 0 x0 (by rw [hz0]; rfl) 0 _ rfl
      have t0 := hS.c 0 x0 (by rw [hs0]; rfl) 0 _ rfl
      simp only [Nat.zero_mul, Nat.add_zero] at s0 t0
      have sl := hZ.lt
      have tl := hS.lt
      have hnz0 : (0 : Int) < (nz : Int) := by omega
      have hns1 : (0 : Int) < (ns : Int) := by omega
      clear hZ hS
      clear h1
      obtain ⟨xc, xf'⟩ := xcell (W := V7)
      refine wp_region_quiet_tail 55 (by kernel_rfl) (by kernel_rfl) ?_
      simp only [List.take_succ_cons, List.take_zero, List.drop_succ_cons, List.drop_zero]
      repeat (first | go_big_quiet_step (fail) | quiet_step (fail))
      refine wpQuiet_nil ?_
      intro wq hbq
      have HBU := Lib.hid (HB7.out.trans (hbq.mono HB7.out.size))
      have TU := Lib.hid (T7.out.below hbq)
      have OU := Lib.hid (O7.out.below hbq)
      have SU := Lib.hid (S7.out.below hbq)
      clear hbq xc xf' yT0 yT1 yLa0 yLa1 yCa0 yCa1 yCa2 yLb0 yLb1 yCb0 yCb1 yCb2 yTl yLal yCal yLbl yCbl s0 t0 sl tl
      go_upto_region 14 with fail
      generalize wq = U at *
      go_loopw [17, 18, 19, 20, 21] (fun i _ _ _ _ wx => ∃ k : Nat, k ≤ ns ∧ i = .int .i64 (k : Int) ∧ Below U.heap.size U wx) (fun i _ _ _ _ _ => ns - (intOf i).toNat)
      case atStart => exact ⟨0, Nat.zero_le _, rfl, Below.refl _ _⟩
      case round =>
        obtain ⟨k, hk, rfl, hb⟩ := hrel
        have HBk := Lib.hid hb
        have HBw := Lib.hid (HBU.out.trans (hb.mono HBU.out.size))
        have HTk := Lib.hid (TU.out.below hb)
        have HOk := Lib.hid (OU.out.below hb)
        have HSk := Lib.hid (SU.out.below hb)
        clear hb
        by_cases hkn : k < ns
        case neg =>
          go_wp2_with (go_at_call 14; with_reducible refine (HSan.out _).mono ?_; rintro e u9 ⟨rfl, hb9⟩)
          exact bodyPost_ret (v := .bool true) (by simp [results, Try.results6, go_sem]) rfl ⟨rfl, HBw.out.trans (hb9.mono HBw.out.size)⟩
        case pos =>
          have hkl : k < (suspL hs ms).length := by rw [HSk.out.len]; exact hkn
          have HMem := Lib.hid (susp_mem (List.getElem_mem hkl))
          obtain ⟨bS2, oS2, eS2, hS2⟩ := HSk.out.at_ (by omega)
          cases eS2
          have HS2 := Lib.hid hS2
          clear hS2
          go_upto_region 16 with fail
          obtain ⟨x, hx⟩ : ∃ x, (suspL hs ms)[k] = x := ⟨_, rfl⟩
          have HXx := Lib.hid hx
          rw [hx] at HMem
          clear hx
          have hT0 := HTk.out
          have HWx := Lib.hid (fun (u : World) (g : Nat) (hu : TR.Ok u ⟨A, n, c, B, m, d, hs, ms⟩) (hg : Blk u g 3 #[.int .i64 x]) => Without_any ⟨A, n, c, B, m, d, hs, ms⟩ (some ⟨g, 0, none⟩) 1 1 [x] u hu (SAt_blk (enc := encI) (k := 1) (fun _ => rfl) (zs := [x]) hg) (by omega))
          dsimp only [TR.v] at HWx
          have HWe := Lib.hid (And.intro HTc.out (wi_eq HTc.out [x]))
          refine wp_region_preC 12 [(5, 137), (6, 138), (7, 131), (8, 139), (9, 140), (10, 18), (11, 1000)] (fun v => Below wr.heap.size wr v) (LoP wr hs ms x) (by kernel_rfl) (by kernel_rfl) (Below.refl _ _) (fun v v' h kk => h.trans (kk.mono h.size)) (fun v _ => LoP.init) (fun ls vs v v' _ h kk => h.below kk) ?_
          apply Exists.intro
          refine ⟨?walk, ?loud, ?last⟩
          case walk =>
            intro V hV
            have HTv := HTk.out.below hV
            have y0 := HTv.cell 0
            have y1 := HTv.cell 1
            simp only [List.getElem?_toArray, List.getElem?_cons_zero, List.getElem?_cons_succ] at y0 y1
            have yl := HTv.lt
            have s0 := (HS2.out.below hV).c k x (by rw [List.getElem?_eq_getElem hkl, HXx.out]) 0 _ rfl
            rw [Nat.mul_one, Nat.add_zero] at s0
            have sl := (HS2.out.below hV).lt
            clear HTv
            obtain ⟨xc, xf'⟩ := xcell (W := V)
            simp only [List.take_succ_cons, List.take_zero, qOf, isLoud, List.any_cons, List.any_nil, Nat.reduceBEq, Bool.or_false, Bool.or_true, Nat.reduceAdd, Bool.false_eq_true, if_true, if_false, beq_self_eq_true, Nat.zero_add]
            repeat (first | go_big_quiet_step (fail) | quiet_step (fail))
            exact wpQuiet_nil rfl
          case loud =>
            rintro pp hpp vs v hC ls hI hls hw o ho
            simp only [List.mem_cons, List.not_mem_nil, or_false] at hpp
            rcases hpp with rfl | rfl | rfl | rfl | rfl | rfl | rfl
            · simp only [List.getElem?_cons_succ, List.getElem?_cons_zero, Option.some.injEq] at ho
              subst ho
              simp [loudAt, loudUpon, go_sem, execOp, putsL, Act.put]
              exact ⟨hC.alloc hC.size _, hI.s5⟩
            · have h5 := hw (5, 137) (by simp) (by kernel_rfl)
              obtain ⟨g, eg, hbk⟩ := hI.p5 h5 hls
              simp only [List.getElem?_cons_succ, List.getElem?_cons_zero, Option.some.injEq] at ho
              subst ho
              have HWi := Lib.hid (HWx.out v g (HOk.out.below hC) hbk)
              simp [loudAt, loudUpon, go_sem, putsL, Act.put, eg]
              refine HWi.out.mono ?_
              rintro e v' ⟨hb, v1, v2, rfl, hot⟩
              rw [HWe.out.2.1, HWe.out.2.2] at hot
              rw [HWe.out.1]
              obtain ⟨A5, c5, rfl⟩ := owns_slice hot.h
              obtain ⟨B5, d5, rfl⟩ := owns_slice hot.m
              refine ⟨_, rfl, hC.trans (hb.mono hC.size), ?_⟩
              obtain ⟨A6, c6, B6, d6, e1, e2, a1, a2, a3, a4, _, _⟩ := hot.form
              cases e1
              cases e2
              have hl1 := HTV.out.lenH
              have hl2 := (HTV.out.drop [x]).lenM
              exact hI.s6 hls hb ⟨a1, a2, by show hs.length ≤ _; omega, by show (dropL ms [x]).length ≤ _; omega, a3, a4⟩ (owns_addr hot.h) (owns_addr hot.m)
            · have h6 := hw (6, 138) (by simp) (by kernel_rfl)
              simp only [List.getElem?_cons_succ, List.getElem?_cons_zero, Option.some.injEq] at ho
              subst ho
              simp [loudAt, loudUpon, go_sem, execOp, putsL, Act.put]
              exact ⟨hC, hI.s7 h6⟩
            · have h7 := hw (7, 131) (by simp) (by kernel_rfl)
              obtain ⟨h6, e7⟩ := hI.p7 h7
              obtain ⟨A5, n5, c5, B5, m5, d5, e6, _⟩ := hI.p6 h6
              have e8 := e7.trans e6
              simp only [List.getElem?_cons_succ, List.getElem?_cons_zero, Option.some.injEq] at ho
              subst ho
              simp [loudAt, loudUpon, go_sem, execOp, putsL, Act.put, e8]
              exact ⟨hC, hI.s8 h6 hls e6⟩
            · have h7 := hw (7, 131) (by simp) (by kernel_rfl)
              obtain ⟨h6, e7⟩ := hI.p7 h7
              obtain ⟨A5, n5, c5, B5, m5, d5, e6, _⟩ := hI.p6 h6
              have e8 := e7.trans e6
              simp only [List.getElem?_cons_succ, List.getElem?_cons_zero, Option.some.injEq] at ho
              subst ho
              simp [loudAt, loudUpon, go_sem, execOp, putsL, Act.put, e8]
              exact ⟨hC, hI.s9 h6 e6⟩
            · simp only [List.getElem?_cons_succ, List.getElem?_cons_zero, Option.some.injEq] at ho
              subst ho
              simp [loudAt, loudUpon, go_sem, execOp]
              exact ⟨hC.alloc hC.size _, hI.s10 hls hC.size⟩
            · have h8 := hw (8, 139) (by simp) (by kernel_rfl)
              have h10 := hw (10, 18) (by simp) (by kernel_rfl)
              obtain ⟨h6, a5, b5, e6, e8⟩ := hI.p8 h8
              obtain ⟨A5, n5, c5, B5, m5, d5, e6', _⟩ := hI.p6 h6
              rw [e6'] at e6
              cases e6
              obtain ⟨g, p5, q5, e10, hg, hbk, _⟩ := hI.p10 h10
              have f0 := hbk.frozen 0
              have f1 := hbk.frozen 1
              have b0 := hbk.cell 0
              have b1 := hbk.cell 1
              simp only [List.getElem?_toArray, List.getElem?_cons_zero, List.getElem?_cons_succ] at b0 b1
              have bl := hbk.lt
              simp only [List.getElem?_cons_succ, List.getElem?_cons_zero, Option.some.injEq] at ho
              subst ho
              simp [loudAt, loudUpon, go_sem, execOp, putsL, Act.put, e8, e10, f0, f1, b0, b1]
              exact ⟨below_set2 hC hg _ _, hI.s11 h8 h10 e8 e10 _⟩
          case last =>
            rintro ls vs V hV hI hls
            have h9 := hls (9, 140) (by simp)
            have h11 := hls (11, 1000) (by simp)
            obtain ⟨A5, n5, c5, B5, m5, d5, g5, hok, e9, e10, hbk⟩ := hI.done h9 h11
            have HFx := Lib.hid (fi_yes hok (tcheck_zero.2 (HTV.out.drop [x])) HMem.out.2.2.2)
            dsimp only [TR.v] at HFx
            have HB5 := Lib.hid (HBk.out.trans (hV.mono HBk.out.size))
            simp only [putsL, List.foldl_cons, List.foldl_nil, List.drop_succ_cons, List.drop_zero, Act.put, e9, e10, List.setIfInBounds_toArray, List.set_cons_succ, List.set_cons_zero, List.set_nil]
            generalize vs 5 = v5 at *
            generalize vs 6 = v6 at *
            generalize vs 7 = v7 at *
            generalize vs 8 = v8 at *
            have b0 := hbk.cell 0
            have b1 := hbk.cell 1
            simp only [List.getElem?_toArray, List.getElem?_cons_zero, List.getElem?_cons_succ] at b0 b1
            have bl := hbk.lt
            clear hI hls h9 h11 e9 e10 hok hbk hV
            go_upto_region 18 with (go_at_call 15; with_reducible refine HFx.out.mono ?_; rintro e w6 ⟨F1, r6, y6, F2, r7, y7, F3, r8, y8, st6, en6, ma6, rfl, _, _, _, _, hb6⟩)
            have bq := below_new w6 (.cells #[.slice F1 r6 y6, .slice F2 r7 y7, .slice F3 r8 y8] 32)
            have HB6 := Lib.hid (HB5.out.trans ((hb6.trans (bq.mono hb6.size)).mono HB5.out.size))
            clear b0 b1 bl bq hb6
            go_wp2
            go_roundw
            case rel => exact ⟨k + 1, by omega, by go_num, HB6.out⟩
            case measure => simp [intOf]; omega
    case neg =>
      have yT0 := T7.out.cell 0
      have yT1 := T7.out.cell 1
      have yLa0 := La7.out.cell 0
      have yLa1 := La7.out.cell 1
      have yCa0 := Ca7.out.cell 0
      have yCa1 := Ca7.out.cell 1
      have yCa2 := Ca7.out.cell 2
      have yLb0 := Lb7.out.cell 0
      have yLb1 := Lb7.out.cell 1
      have yCb0 := Cb7.out.cell 0
      have yCb1 := Cb7.out.cell 1
      have yCb2 := Cb7.out.cell 2
      simp only [List.getElem?_toArray, List.getElem?_cons_zero, List.getElem?_cons_succ] at yT0 yT1 yLa0 yLa1 yCa0 yCa1 yCa2 yLb0 yLb1 yCb0 yCb1 yCb2
      have yTl := T7.out.lt
      have yLal := La7.out.lt
      have yCal := Ca7.out.lt
      have yLbl := Lb7.out.lt
      have yCbl := Cb7.out.lt
      have hq1 : decide (((m : Int) - (v2 : Int)) < (nz : Int)) = false := decide_eq_false (by have := HMin.out; omega)
      have hns00 : ns = 0 := by
        refine Classical.byContradiction fun c => ?_
        have hl := S7.out.len
        have := susp_one HFz.out (fun e => by rw [e] at hl; exact c hl.symm)
        have := Z7.out.len
        omega
      have d1 : decide ((0 : Int) < (ns : Int)) = false := decide_eq_false (by omega)
      have d5 : decide (0 < ns) = false := decide_eq_false (by omega)
      have d6 : ¬ (0 < ns) := by omega
      have d7 : ¬ ((0 : Int) < (ns : Int)) := by omega
      have d3 : ((nz : Int) == 1) = false := by simp; omega
      have HNs0 := Lib.hid hns00
      clear hns00
      clear h1
      obtain ⟨xc, xf'⟩ := xcell (W := V7)
      refine wp_region_quiet_tail 55 (by kernel_rfl) (by kernel_rfl) ?_
      simp only [List.take_succ_cons, List.take_zero, List.drop_succ_cons, List.drop_zero]
      repeat (first | go_big_quiet_step (fail) | quiet_step (fail))
      refine wpQuiet_nil ?_
      intro wq hbq
      have HBU := Lib.hid (HB7.out.trans (hbq.mono HB7.out.size))
      have TU := Lib.hid (T7.out.below hbq)
      have OU := Lib.hid (O7.out.below hbq)
      have SU := Lib.hid (S7.out.below hbq)
      clear hbq xc xf' yT0 yT1 yLa0 yLa1 yCa0 yCa1 yCa2 yLb0 yLb1 yCb0 yCb1 yCb2 yTl yLal yCal yLbl yCbl
      go_upto_region 14 with fail
      generalize wq = U at *
      go_loopw [17, 18, 19, 20, 21] (fun i _ _ _ _ wx => ∃ k : Nat, k ≤ ns ∧ i = .int .i64 (k : Int) ∧ Below U.heap.size U wx) (fun i _ _ _ _ _ => ns - (intOf i).toNat)
      case atStart => exact ⟨0, Nat.zero_le _, rfl, Below.refl _ _⟩
      case round =>
        obtain ⟨k, hk, rfl, hb⟩ := hrel
        have HBk := Lib.hid hb
        have HBw := Lib.hid (HBU.out.trans (hb.mono HBU.out.size))
        have HTk := Lib.hid (TU.out.below hb)
        have HOk := Lib.hid (OU.out.below hb)
        have HSk := Lib.hid (SU.out.below hb)
        clear hb
        by_cases hkn : k < ns
        case neg =>
          go_wp2_with (go_at_call 14; with_reducible refine (HSan.out _).mono ?_; rintro e u9 ⟨rfl, hb9⟩)
          exact bodyPost_ret (v := .bool true) (by simp [results, Try.results6, go_sem]) rfl ⟨rfl, HBw.out.trans (hb9.mono HBw.out.size)⟩
        case pos =>
          exact absurd hkn (by have := HNs0.out; omega)
  | false =>
    have HF2 := Lib.hid (fun (u : World) (hu : TR.Ok u ⟨R1, v1, z1, R2, v2, z2, hs, dropL ms ids⟩) => fi_no hu (tcheck_zero.2 (HTV.out.drop ids)) haj)
    dsimp only [TR.v] at HF2
    have yT0 := T6.out.cell 0
    have yT1 := T6.out.cell 1
    have yLa0 := La6.out.cell 0
    have yLa1 := La6.out.cell 1
    have yCa0 := Ca6.out.cell 0
    have yCa1 := Ca6.out.cell 1
    have yCa2 := Ca6.out.cell 2
    have yLb0 := Lb6.out.cell 0
    have yLb1 := Lb6.out.cell 1
    simp only [List.getElem?_toArray, List.getElem?_cons_zero, List.getElem?_cons_succ] at yT0 yT1 yLa0 yLa1 yCa0 yCa1 yCa2 yLb0 yLb1
    have yTl := T6.out.lt
    have yLal := La6.out.lt
    have yCal := Ca6.out.lt
    have yLbl := Lb6.out.lt
    have HC := Lib.hid (HF2.out _ P6.out)
    try dsimp only [TR.v, vCt] at HC
    go_upto_region 11 with (go_at_call 15; with_reducible refine HC.out.mono ?_; rintro e u7 ⟨rfl, hb⟩)
    clear yT0 yT1 yLa0 yLa1 yCa0 yCa1 yCa2 yLb0 yLb1 yTl yLal yCal yLbl
    clear HC
    have bn := hb
    have bq : Below u7.heap.size u7 (u7.alloc (.cells #[.slice none 0 0, .slice none 0 0, .slice none 0 0] 32)) := ((Below.refl u7.heap.size u7).alloc (Nat.le_refl _) _)
    have bn := hb.trans (bq.mono hb.size)
    have T7 := Lib.hid (T6.out.below bn)
    have O7 := Lib.hid (O6.out.below bn)
    have I7 := Lib.hid (I6.out.below bn)
    have Z7 := Lib.hid (Z6.out.below bn)
    have S7 := Lib.hid (S6.out.below bn)
    have La7 := Lib.hid (La6.out.below bn)
    have N7 := Lib.hid (N6.out.below bn)
    have Ca7 := Lib.hid (Ca6.out.below bn)
    have Lb7 := Lib.hid (Lb6.out.below bn)
    have P7 := Lib.hid (P6.out.below bn)
    have HB7 := Lib.hid (HB6.out.trans (bn.mono HB6.out.size))
    have Cb7 : Hid (Blk (u7.alloc (.cells #[.slice none 0 0, .slice none 0 0, .slice none 0 0] 32)) u7.heap.size 32 #[.slice none 0 0, .slice none 0 0, .slice none 0 0]) := Lib.hid (Blk.at_new 32 #[.slice none 0 0, .slice none 0 0, .slice none 0 0] rfl)
    generalize hV : u7.alloc (.cells #[.slice none 0 0, .slice none 0 0, .slice none 0 0] 32) = V7 at *
    generalize hp : u7.heap.size = p7 at *
    clear hV hp bq
    clear hb bn T6 O6 I6 Z6 S6 La6 N6 Ca6 Lb6 P6 HB6
    by_cases h1 : nz = 1
    case pos =>
      have yT0 := T7.out.cell 0
      have yT1 := T7.out.cell 1
      have yLa0 := La7.out.cell 0
      have yLa1 := La7.out.cell 1
      have yCa0 := Ca7.out.cell 0
      have yCa1 := Ca7.out.cell 1
      have yCa2 := Ca7.out.cell 2
      have yLb0 := Lb7.out.cell 0
      have yLb1 := Lb7.out.cell 1
      have yCb0 := Cb7.out.cell 0
      have yCb1 := Cb7.out.cell 1
      have yCb2 := Cb7.out.cell 2
      simp only [List.getElem?_toArray, List.getElem?_cons_zero, List.getElem?_cons_succ] at yT0 yT1 yLa0 yLa1 yCa0 yCa1 yCa2 yLb0 yLb1 yCb0 yCb1 yCb2
      have yTl := T7.out.lt
      have yLal := La7.out.lt
      have yCal := Ca7.out.lt
      have yLbl := Lb7.out.lt
      have yCbl := Cb7.out.lt
      have hq1 : True := trivial
      obtain ⟨x0, r0, hz0, hs0⟩ := susp_head HTc.out HFz.out (by have := Z7.out.len; omega)
      have hns0 : 0 < ns := by have := S7.out.len; rw [hs0] at this; simp at this; omega
      have d1 : decide ((0 : Int) < (ns : Int)) = true := decide_eq_true (by omega)
      have d2 : ((nz : Int) != 1) = false := by simp; omega
      have d3 : ((nz : Int) == 1) = true := by simp; omega
      have d4 : ((ns : Int) == 0) = false := by simp; omega
      obtain ⟨bZ, oZ, eZ, hZ⟩ := Z7.out.at_ (by omega)
      obtain ⟨bS, oS, eS, hS⟩ := S7.out.at_ (by omega)
      subst eZ eS
      have s0 := hZ.c 0 x0 (by rw [hz0]; rfl) 0 _ rfl
      have t0 := hS.c 0 x0 (by rw [hs0]; rfl) 0 _ rfl
      simp only [Nat.zero_mul, Nat.add_zero] at s0 t0
      have sl := hZ.lt
      have tl := hS.lt
      have hnz0 : (0 : Int) < (nz : Int) := by omega
      have hns1 : (0 : Int) < (ns : Int) := by omega
      clear hZ hS
      clear h1
      obtain ⟨xc, xf'⟩ := xcell (W := V7)
      refine wp_region_quiet_tail 55 (by kernel_rfl) (by kernel_rfl) ?_
      simp only [List.take_succ_cons, List.take_zero, List.drop_succ_cons, List.drop_zero]
      repeat (first | go_big_quiet_step (fail) | quiet_step (fail))
      refine wpQuiet_nil ?_
      intro wq hbq
      have HBU := Lib.hid (HB7.out.trans (hbq.mono HB7.out.size))
      have TU := Lib.hid (T7.out.below hbq)
      have OU := Lib.hid (O7.out.below hbq)
      have SU := Lib.hid (S7.out.below hbq)
      clear hbq xc xf' yT0 yT1 yLa0 yLa1 yCa0 yCa1 yCa2 yLb0 yLb1 yCb0 yCb1 yCb2 yTl yLal yCal yLbl yCbl s0 t0 sl tl
      go_upto_region 14 with fail
      generalize wq = U at *
      go_loopw [17, 18, 19, 20, 21] (fun i _ _ _ _ wx => ∃ k : Nat, k ≤ ns ∧ i = .int .i64 (k : Int) ∧ Below U.heap.size U wx) (fun i _ _ _ _ _ => ns - (intOf i).toNat)
      case atStart => exact ⟨0, Nat.zero_le _, rfl, Below.refl _ _⟩
      case round =>
        obtain ⟨k, hk, rfl, hb⟩ := hrel
        have HBk := Lib.hid hb
        have HBw := Lib.hid (HBU.out.trans (hb.mono HBU.out.size))
        have HTk := Lib.hid (TU.out.below hb)
        have HOk := Lib.hid (OU.out.below hb)
        have HSk := Lib.hid (SU.out.below hb)
        clear hb
        by_cases hkn : k < ns
        case neg =>
          go_wp2_with (go_at_call 14; with_reducible refine (HSan.out _).mono ?_; rintro e u9 ⟨rfl, hb9⟩)
          exact bodyPost_ret (v := .bool true) (by simp [results, Try.results6, go_sem]) rfl ⟨rfl, HBw.out.trans (hb9.mono HBw.out.size)⟩
        case pos =>
          have hkl : k < (suspL hs ms).length := by rw [HSk.out.len]; exact hkn
          have HMem := Lib.hid (susp_mem (List.getElem_mem hkl))
          obtain ⟨bS2, oS2, eS2, hS2⟩ := HSk.out.at_ (by omega)
          cases eS2
          have HS2 := Lib.hid hS2
          clear hS2
          go_upto_region 16 with fail
          obtain ⟨x, hx⟩ : ∃ x, (suspL hs ms)[k] = x := ⟨_, rfl⟩
          have HXx := Lib.hid hx
          rw [hx] at HMem
          clear hx
          have hT0 := HTk.out
          have HWx := Lib.hid (fun (u : World) (g : Nat) (hu : TR.Ok u ⟨A, n, c, B, m, d, hs, ms⟩) (hg : Blk u g 3 #[.int .i64 x]) => Without_any ⟨A, n, c, B, m, d, hs, ms⟩ (some ⟨g, 0, none⟩) 1 1 [x] u hu (SAt_blk (enc := encI) (k := 1) (fun _ => rfl) (zs := [x]) hg) (by omega))
          dsimp only [TR.v] at HWx
          have HWe := Lib.hid (And.intro HTc.out (wi_eq HTc.out [x]))
          refine wp_region_preC 12 [(5, 137), (6, 138), (7, 131), (8, 139), (9, 140), (10, 18), (11, 1000)] (fun v => Below wr.heap.size wr v) (LoP wr hs ms x) (by kernel_rfl) (by kernel_rfl) (Below.refl _ _) (fun v v' h kk => h.trans (kk.mono h.size)) (fun v _ => LoP.init) (fun ls vs v v' _ h kk => h.below kk) ?_
          apply Exists.intro
          refine ⟨?walk, ?loud, ?last⟩
          case walk =>
            intro V hV
            have HTv := HTk.out.below hV
            have y0 := HTv.cell 0
            have y1 := HTv.cell 1
            simp only [List.getElem?_toArray, List.getElem?_cons_zero, List.getElem?_cons_succ] at y0 y1
            have yl := HTv.lt
            have s0 := (HS2.out.below hV).c k x (by rw [List.getElem?_eq_getElem hkl, HXx.out]) 0 _ rfl
            rw [Nat.mul_one, Nat.add_zero] at s0
            have sl := (HS2.out.below hV).lt
            clear HTv
            obtain ⟨xc, xf'⟩ := xcell (W := V)
            simp only [List.take_succ_cons, List.take_zero, qOf, isLoud, List.any_cons, List.any_nil, Nat.reduceBEq, Bool.or_false, Bool.or_true, Nat.reduceAdd, Bool.false_eq_true, if_true, if_false, beq_self_eq_true, Nat.zero_add]
            repeat (first | go_big_quiet_step (fail) | quiet_step (fail))
            exact wpQuiet_nil rfl
          case loud =>
            rintro pp hpp vs v hC ls hI hls hw o ho
            simp only [List.mem_cons, List.not_mem_nil, or_false] at hpp
            rcases hpp with rfl | rfl | rfl | rfl | rfl | rfl | rfl
            · simp only [List.getElem?_cons_succ, List.getElem?_cons_zero, Option.some.injEq] at ho
              subst ho
              simp [loudAt, loudUpon, go_sem, execOp, putsL, Act.put]
              exact ⟨hC.alloc hC.size _, hI.s5⟩
            · have h5 := hw (5, 137) (by simp) (by kernel_rfl)
              obtain ⟨g, eg, hbk⟩ := hI.p5 h5 hls
              simp only [List.getElem?_cons_succ, List.getElem?_cons_zero, Option.some.injEq] at ho
              subst ho
              have HWi := Lib.hid (HWx.out v g (HOk.out.below hC) hbk)
              simp [loudAt, loudUpon, go_sem, putsL, Act.put, eg]
              refine HWi.out.mono ?_
              rintro e v' ⟨hb, v1, v2, rfl, hot⟩
              rw [HWe.out.2.1, HWe.out.2.2] at hot
              rw [HWe.out.1]
              obtain ⟨A5, c5, rfl⟩ := owns_slice hot.h
              obtain ⟨B5, d5, rfl⟩ := owns_slice hot.m
              refine ⟨_, rfl, hC.trans (hb.mono hC.size), ?_⟩
              obtain ⟨A6, c6, B6, d6, e1, e2, a1, a2, a3, a4, _, _⟩ := hot.form
              cases e1
              cases e2
              have hl1 := HTV.out.lenH
              have hl2 := (HTV.out.drop [x]).lenM
              exact hI.s6 hls hb ⟨a1, a2, by show hs.length ≤ _; omega, by show (dropL ms [x]).length ≤ _; omega, a3, a4⟩ (owns_addr hot.h) (owns_addr hot.m)
            · have h6 := hw (6, 138) (by simp) (by kernel_rfl)
              simp only [List.getElem?_cons_succ, List.getElem?_cons_zero, Option.some.injEq] at ho
              subst ho
              simp [loudAt, loudUpon, go_sem, execOp, putsL, Act.put]
              exact ⟨hC, hI.s7 h6⟩
            · have h7 := hw (7, 131) (by simp) (by kernel_rfl)
              obtain ⟨h6, e7⟩ := hI.p7 h7
              obtain ⟨A5, n5, c5, B5, m5, d5, e6, _⟩ := hI.p6 h6
              have e8 := e7.trans e6
              simp only [List.getElem?_cons_succ, List.getElem?_cons_zero, Option.some.injEq] at ho
              subst ho
              simp [loudAt, loudUpon, go_sem, execOp, putsL, Act.put, e8]
              exact ⟨hC, hI.s8 h6 hls e6⟩
            · have h7 := hw (7, 131) (by simp) (by kernel_rfl)
              obtain ⟨h6, e7⟩ := hI.p7 h7
              obtain ⟨A5, n5, c5, B5, m5, d5, e6, _⟩ := hI.p6 h6
              have e8 := e7.trans e6
              simp only [List.getElem?_cons_succ, List.getElem?_cons_zero, Option.some.injEq] at ho
              subst ho
              simp [loudAt, loudUpon, go_sem, execOp, putsL, Act.put, e8]
              exact ⟨hC, hI.s9 h6 e6⟩
            · simp only [List.getElem?_cons_succ, List.getElem?_cons_zero, Option.some.injEq] at ho
              subst ho
              simp [loudAt, loudUpon, go_sem, execOp]
              exact ⟨hC.alloc hC.size _, hI.s10 hls hC.size⟩
            · have h8 := hw (8, 139) (by simp) (by kernel_rfl)
              have h10 := hw (10, 18) (by simp) (by kernel_rfl)
              obtain ⟨h6, a5, b5, e6, e8⟩ := hI.p8 h8
              obtain ⟨A5, n5, c5, B5, m5, d5, e6', _⟩ := hI.p6 h6
              rw [e6'] at e6
              cases e6
              obtain ⟨g, p5, q5, e10, hg, hbk, _⟩ := hI.p10 h10
              have f0 := hbk.frozen 0
              have f1 := hbk.frozen 1
              have b0 := hbk.cell 0
              have b1 := hbk.cell 1
              simp only [List.getElem?_toArray, List.getElem?_cons_zero, List.getElem?_cons_succ] at b0 b1
              have bl := hbk.lt
              simp only [List.getElem?_cons_succ, List.getElem?_cons_zero, Option.some.injEq] at ho
              subst ho
              simp [loudAt, loudUpon, go_sem, execOp, putsL, Act.put, e8, e10, f0, f1, b0, b1]
              exact ⟨below_set2 hC hg _ _, hI.s11 h8 h10 e8 e10 _⟩
          case last =>
            rintro ls vs V hV hI hls
            have h9 := hls (9, 140) (by simp)
            have h11 := hls (11, 1000) (by simp)
            obtain ⟨A5, n5, c5, B5, m5, d5, g5, hok, e9, e10, hbk⟩ := hI.done h9 h11
            have HFx := Lib.hid (fi_yes hok (tcheck_zero.2 (HTV.out.drop [x])) HMem.out.2.2.2)
            dsimp only [TR.v] at HFx
            have HB5 := Lib.hid (HBk.out.trans (hV.mono HBk.out.size))
            simp only [putsL, List.foldl_cons, List.foldl_nil, List.drop_succ_cons, List.drop_zero, Act.put, e9, e10, List.setIfInBounds_toArray, List.set_cons_succ, List.set_cons_zero, List.set_nil]
            generalize vs 5 = v5 at *
            generalize vs 6 = v6 at *
            generalize vs 7 = v7 at *
            generalize vs 8 = v8 at *
            have b0 := hbk.cell 0
            have b1 := hbk.cell 1
            simp only [List.getElem?_toArray, List.getElem?_cons_zero, List.getElem?_cons_succ] at b0 b1
            have bl := hbk.lt
            clear hI hls h9 h11 e9 e10 hok hbk hV
            go_upto_region 18 with (go_at_call 15; with_reducible refine HFx.out.mono ?_; rintro e w6 ⟨F1, r6, y6, F2, r7, y7, F3, r8, y8, st6, en6, ma6, rfl, _, _, _, _, hb6⟩)
            have bq := below_new w6 (.cells #[.slice F1 r6 y6, .slice F2 r7 y7, .slice F3 r8 y8] 32)
            have HB6 := Lib.hid (HB5.out.trans ((hb6.trans (bq.mono hb6.size)).mono HB5.out.size))
            clear b0 b1 bl bq hb6
            go_wp2
            go_roundw
            case rel => exact ⟨k + 1, by omega, by go_num, HB6.out⟩
            case measure => simp [intOf]; omega
    case neg =>
      have yT0 := T7.out.cell 0
      have yT1 := T7.out.cell 1
      have yLa0 := La7.out.cell 0
      have yLa1 := La7.out.cell 1
      have yCa0 := Ca7.out.cell 0
      have yCa1 := Ca7.out.cell 1
      have yCa2 := Ca7.out.cell 2
      have yLb0 := Lb7.out.cell 0
      have yLb1 := Lb7.out.cell 1
      have yCb0 := Cb7.out.cell 0
      have yCb1 := Cb7.out.cell 1
      have yCb2 := Cb7.out.cell 2
      simp only [List.getElem?_toArray, List.getElem?_cons_zero, List.getElem?_cons_succ] at yT0 yT1 yLa0 yLa1 yCa0 yCa1 yCa2 yLb0 yLb1 yCb0 yCb1 yCb2
      have yTl := T7.out.lt
      have yLal := La7.out.lt
      have yCal := Ca7.out.lt
      have yLbl := Lb7.out.lt
      have yCbl := Cb7.out.lt
      have hq1 : True := trivial
      have hns00 : ns = 0 := by
        refine Classical.byContradiction fun c => ?_
        have hl := S7.out.len
        have := susp_one HFz.out (fun e => by rw [e] at hl; exact c hl.symm)
        have := Z7.out.len
        omega
      have d1 : decide ((0 : Int) < (ns : Int)) = false := decide_eq_false (by omega)
      have d5 : decide (0 < ns) = false := decide_eq_false (by omega)
      have d6 : ¬ (0 < ns) := by omega
      have d7 : ¬ ((0 : Int) < (ns : Int)) := by omega
      have d3 : ((nz : Int) == 1) = false := by simp; omega
      have HNs0 := Lib.hid hns00
      clear hns00
      clear h1
      obtain ⟨xc, xf'⟩ := xcell (W := V7)
      refine wp_region_quiet_tail 55 (by kernel_rfl) (by kernel_rfl) ?_
      simp only [List.take_succ_cons, List.take_zero, List.drop_succ_cons, List.drop_zero]
      repeat (first | go_big_quiet_step (fail) | quiet_step (fail))
      refine wpQuiet_nil ?_
      intro wq hbq
      have HBU := Lib.hid (HB7.out.trans (hbq.mono HB7.out.size))
      have TU := Lib.hid (T7.out.below hbq)
      have OU := Lib.hid (O7.out.below hbq)
      have SU := Lib.hid (S7.out.below hbq)
      clear hbq xc xf' yT0 yT1 yLa0 yLa1 yCa0 yCa1 yCa2 yLb0 yLb1 yCb0 yCb1 yCb2 yTl yLal yCal yLbl yCbl
      go_upto_region 14 with fail
      generalize wq = U at *
      go_loopw [17, 18, 19, 20, 21] (fun i _ _ _ _ wx => ∃ k : Nat, k ≤ ns ∧ i = .int .i64 (k : Int) ∧ Below U.heap.size U wx) (fun i _ _ _ _ _ => ns - (intOf i).toNat)
      case atStart => exact ⟨0, Nat.zero_le _, rfl, Below.refl _ _⟩
      case round =>
        obtain ⟨k, hk, rfl, hb⟩ := hrel
        have HBk := Lib.hid hb
        have HBw := Lib.hid (HBU.out.trans (hb.mono HBU.out.size))
        have HTk := Lib.hid (TU.out.below hb)
        have HOk := Lib.hid (OU.out.below hb)
        have HSk := Lib.hid (SU.out.below hb)
        clear hb
        by_cases hkn : k < ns
        case neg =>
          go_wp2_with (go_at_call 14; with_reducible refine (HSan.out _).mono ?_; rintro e u9 ⟨rfl, hb9⟩)
          exact bodyPost_ret (v := .bool true) (by simp [results, Try.results6, go_sem]) rfl ⟨rfl, HBw.out.trans (hb9.mono HBw.out.size)⟩
        case pos =>
          exact absurd hkn (by have := HNs0.out; omega)
open Go.WideShapes Go.ChangeShapes Go.Joins Go.Deep
set_option maxRecDepth 100000 in
theorem flowLeftOut_lifted (os : Os) (started : os.Started) (H : Type) (enc : TypeId × Value → H) :
    ReturnsInHanded Rows.flowLeftOutRow.assume Try.checked os 6 .any (Rows.flowLeftOutSpec.pre6 enc Try.prog Try.f6 Rows.flowLeftOutRow.domain false) (Rows.flowLeftOutSpec.post enc Try.prog Try.f6 false Rows.flowLeftOutRow.fresh Rows.flowLeftOutRow.handsOn Rows.flowLeftOutRow.again) := by
  refine returnsInHanded_of_change (C := Try.checked) (by kernel_rfl) started (by kernel_rfl) Try.func6
    (ChangeSpec.witness6 (enc := enc) (C := Try.checked) false ⟨#[], #[.agg #[.slice none 0 0, .slice none 0 0], .slice none 0 0], []⟩ 8 (by kernel_rfl) (by kernel_rfl) (by kernel_rfl) (by kernel_rfl)) ?_
  intro W base args ds gs before hval0 hW hcnd _
  have hval : ∀ (j : Nat) t v, Try.f6.params[j]? = some t → args[j]? = some v → Value.okWide Try.prog W .any base t v := hval0
  have hW' := hW
  obtain ⟨p, q, hA0, hV, rfl, hfz, hnd⟩ := hW
  obtain ⟨rfl, rfl⟩ := trodVars_none hV
  have hA : DataW.TrodAll enc Try.prog W 0 (fun _ => true) true [25, 28] args.toList ds p := hA0
  obtain ⟨v0, v1, d0, d1, p0, p1, rfl, rfl, rfl, h0, h1⟩ := trodAll_two hA
  obtain ⟨t, rfl, hT, _, rfl⟩ := open_tr (hval 0 25 v0 rfl rfl) h0
  obtain ⟨Ai, ki, ci, ids, rfl, hI, _, _⟩ := open_is (hval 1 28 v1 rfl rfl) h1
  refine (flowLeftOut_walk t Ai ki ci ids W hT hI).mono fun e W' ⟨he, hb⟩ => ⟨_, he, law_post laid_out (by kernel_rfl) rfl Try.underlying4 rfl hW' rfl rfl rfl hb⟩

theorem flowLeftOut : Rows.FlowLeftOutSaid :=
  OpenClaim.holds_of_wide 6 Try.f6 rfl rfl rfl rfl rfl rfl rfl ⟨rfl, rfl, rfl, rfl, rfl⟩ rfl rfl rfl rfl rfl (by kernel_rfl) Try.func6 (by kernel_rfl)
    (of_decide_eq_true (by kernel_rfl)) (by unfold Func.isWrapper; first | (rw [if_pos (by decide +kernel)]; kernel_rfl) | (rw [if_neg (by decide +kernel)]; exact ⟨rfl, rfl⟩))
    (fun os started H enc _ => flowLeftOut_lifted os started H enc)
#print axioms flowLeftOut
end Go.Proofs.Ytighfmgkoepfkaa
