/- The law FlowGapsHold. -/
import Derived.Test.YtighfmgkoepfkaaMX
import Derived.Test.YtighfmgkoepfkaaMI
import Derived.Test.YtighfmgkoepfkaaMY
namespace Go.Proofs.Ytighfmgkoepfkaa
open Go.RowKit

theorem gapsL_eq {hs : List Hd} {ms : List Mv} (hn : nwE hs ms = 0) : gapsL hs ms = (List.range hs.length).map fun j => ⟨(hat hs j).id, (hat hs j).bk - narHi hs ms (hs.length + j), (hat hs j).bk - narLo hs ms (hs.length + j)⟩ := by
  unfold gapsL nwH
  rw [if_pos hn, narH_eq, List.map_map]
  rfl
theorem gapsL_at {hs : List Hd} {ms : List Mv} (hn : nwE hs ms = 0) {i : Nat} (hi : i < hs.length) : (gapsL hs ms)[i]? = some ⟨(hat hs i).id, (hat hs i).bk - narHi hs ms (hs.length + i), (hat hs i).bk - narLo hs ms (hs.length + i)⟩ := by
  rw [gapsL_eq hn, List.getElem?_map, List.getElem?_range hi]
  rfl
theorem gapsL_len2 {hs : List Hd} {ms : List Mv} (hn : nwE hs ms = 0) : (gapsL hs ms).length = hs.length := by rw [gapsL_eq hn, List.length_map, List.length_range]
theorem pos_self2 {hs : List Hd} {ms : List Mv} (hv : TV hs ms) {i : Nat} (hi : i < hs.length) : posN hs (hat hs i).id = i := by
  rw [hat_eq hi]
  exact (nodup_ids (hs := hs)).1 hv.ids i hi
theorem lack_iff {hs : List Hd} {ms : List Mv} (hn : nwE hs ms = 0) {i : Nat} (hi : i < hs.length) : (lackL hs ms).contains (hat hs i).id = decide (narHi hs ms (hs.length + i) < (hat hs i).bk) := by
  obtain ⟨hv, _⟩ := nwE_zero hn
  rw [Bool.eq_iff_iff, List.contains_iff_mem, decide_eq_true_iff]
  unfold lackL
  rw [sortI_mem]
  unfold lackT
  rw [List.take_of_length_le (Nat.le_refl _), gapsL_eq hn]
  constructor
  · intro h
    obtain ⟨g, hg, e⟩ := List.mem_map.1 h
    obtain ⟨hg1, hg2⟩ := List.mem_filter.1 hg
    obtain ⟨j, hj, rfl⟩ := List.mem_map.1 hg1
    have hj' := List.mem_range.1 hj
    have e1 := pos_self2 hv hi
    have e2 := pos_self2 hv hj'
    dsimp only at e hg2
    rw [e] at e2
    have : j = i := e2.symm.trans e1
    subst this
    have := of_decide_eq_true hg2
    omega
  · intro h
    exact List.mem_map.2 ⟨_, List.mem_filter.2 ⟨List.mem_map.2 ⟨i, List.mem_range.2 hi, rfl⟩, decide_eq_true (by dsimp only; omega)⟩, rfl⟩
theorem end_place {hs : List Hd} {ms : List Mv} (hv : TV hs ms) {i : Nat} (hi : i < hs.length) : plE hs ms 3 (hat hs i).id = 0 ∧ limN hs ms 3 (hat hs i).id true = narHi hs ms (hs.length + i) := by
  have e := pos_self2 hv hi
  refine ⟨?_, ?_⟩
  · unfold plE
    rw [if_neg (by rw [tcheck_zero.2 hv]; decide)]
    unfold placeE
    rw [if_neg (by decide), if_pos (by decide), if_pos (by rw [e]; exact hi)]
  · unfold limN
    rw [if_pos rfl]
    unfold placeN
    rw [if_neg (by decide), if_neg (by decide), e]
theorem end_span {hs : List Hd} {ms : List Mv} (hv : TV hs ms) {st en ma : List Int} (hf : fitsL hs ms st en ma = true) {i : Nat} (hi : i < hs.length) : narLo hs ms (hs.length + i) ≤ iget en i ∧ iget en i ≤ narHi hs ms (hs.length + i) ∧ 0 ≤ iget en i ∧ iget en i ≤ 65536 := by
  obtain ⟨⟨l1, l2, l3⟩, a, _⟩ := fitsL_prop.1 hf
  have h := nar_course hv (at_ := hs.length + i) (by omega) hf
  rw [valAt_pos l1 l2] at h
  simp only [if_neg (show ¬ (hs.length + i < hs.length) by omega), if_pos (show hs.length + i < 2 * hs.length by omega), Nat.add_sub_cancel_left] at h
  have b := a i hi
  have c := hv.hd_bound (by rw [hat_eq hi]; exact List.getElem_mem hi : hat hs i ∈ hs)
  omega
theorem bk_bound {hs : List Hd} {ms : List Mv} (hv : TV hs ms) {i : Nat} (hi : i < hs.length) : 0 ≤ (hat hs i).bk ∧ (hat hs i).bk ≤ 65536 := by
  have h := hv.hd _ (by rw [hat_eq hi]; exact List.getElem_mem hi : hat hs i ∈ hs)
  simp [okHd] at h
  omega
theorem gp_tr {t : TR} {w : World} (h : t.Ok w) : Calls Try.prog 39 #[t.v] w fun e w' => ∃ A q c, e = .returned (.tuple #[.slice A q c, .int .i64 (nwE t.hs t.ms)]) ∧ SAt encGp 3 w' A q (gapsL t.hs t.ms) ∧ q ≤ 9 ∧ Below w.heap.size w w' := by
  refine (Gaps_any t w h).mono ?_
  rintro e w' ⟨hb, v, rfl, ho⟩
  obtain ⟨A, c, rfl, hs, _, _⟩ := SAt_of_row encGp_len rfl ho
  exact ⟨A, _, c, rfl, hs, gapsL_len _ _, hb⟩
theorem lk_tr {t : TR} {w : World} (h : t.Ok w) : Calls Try.prog 40 #[t.v] w fun e w' => ∃ A q c, e = .returned (.tuple #[.slice A q c, .int .i64 (nwE t.hs t.ms)]) ∧ SAt encI 1 w' A q (lackL t.hs t.ms) ∧ q ≤ 9 ∧ Below w.heap.size w w' := by
  refine (Lacking_any t w h).mono ?_
  rintro e w' ⟨hb, v, rfl, ho⟩
  obtain ⟨A, c, rfl, hs, _, _⟩ := SAt_of_row encI_len rfl ho
  refine ⟨A, _, c, rfl, hs, ?_, hb⟩
  unfold lackL
  rw [sortI_len]
  exact lackT_len _ _ _
set_option maxRecDepth 100000 in
set_option maxHeartbeats 12800000 in
theorem flowGapsHold_walk (t : TR) (A1 : Option Addr) (n1 c1 : Nat) (A2 : Option Addr) (n2 c2 : Nat) (A3 : Option Addr) (n3 c3 : Nat) (st en ma : List Int) (w : World) (h : t.Ok w) (h1 : SAt encI 1 w A1 n1 st) (h2 : SAt encI 1 w A2 n2 en) (h3 : SAt encI 1 w A3 n3 ma) (l1 : n1 ≤ 9223372036854775807) (l2 : n2 ≤ 9223372036854775807) (l3 : n3 ≤ 9223372036854775807) : Calls Try.prog 12 #[t.v, vCo A1 n1 c1 A2 n2 c2 A3 n3 c3] w fun e w' => e = .returned (.bool true) ∧ Below w.heap.size w w' := by
  obtain ⟨A, n, c, B, m, d, hs, ms⟩ := t
  have HSan := Lib.hid (fun u => sanity_any u)
  obtain ⟨fb, hfb⟩ : ∃ b, fewB n m = b := ⟨_, rfl⟩
  have HFew := Lib.hid (fun u => few_any A n c B m d u h.n_le h.m_le)
  rw [hfb] at HFew
  obtain ⟨cb, hcb⟩ : ∃ b, courseB n1 n2 n3 = b := ⟨_, rfl⟩
  have HCob := Lib.hid (fun u => course_law A1 n1 c1 A2 n2 c2 A3 n3 c3 u l1 l2 l3)
  rw [hcb] at HCob
  dsimp only [TR.v] at *
  have HB0 : Hid (Below w.heap.size w ((w.alloc (.cells #[.slice A n c, .slice B m d] 25)).alloc (.cells #[.slice A1 n1 c1, .slice A2 n2 c2, .slice A3 n3 c3] 32))) := Lib.hid (((Below.refl w.heap.size w).alloc (Nat.le_refl _) _).alloc (by simp) _)
  have T0 : Hid (Blk ((w.alloc (.cells #[.slice A n c, .slice B m d] 25)).alloc (.cells #[.slice A1 n1 c1, .slice A2 n2 c2, .slice A3 n3 c3] 32)) w.heap.size 25 #[.slice A n c, .slice B m d]) := Lib.hid ((Blk.at_new 25 #[.slice A n c, .slice B m d] rfl).alloc _)
  have C0 : Hid (Blk ((w.alloc (.cells #[.slice A n c, .slice B m d] 25)).alloc (.cells #[.slice A1 n1 c1, .slice A2 n2 c2, .slice A3 n3 c3] 32)) (w.heap.size + 1) 32 #[.slice A1 n1 c1, .slice A2 n2 c2, .slice A3 n3 c3]) := Lib.hid (Blk.at_new 32 #[.slice A1 n1 c1, .slice A2 n2 c2, .slice A3 n3 c3] (by simp))
  have O0 := Lib.hid ((h).below HB0.out)
  have K0 := Lib.hid ((h1).below HB0.out)
  have L0 := Lib.hid ((h2).below HB0.out)
  have M0 := Lib.hid ((h3).below HB0.out)
  go_enter Try.func12, Try.ntmps12
  go_upto_region 1 with fail
  generalize hV : (w.alloc (.cells #[.slice A n c, .slice B m d] 25)).alloc (.cells #[.slice A1 n1 c1, .slice A2 n2 c2, .slice A3 n3 c3] 32) = V0 at *
  clear hV
  clear h h1 h2 h3 hfb hcb
  cases fb with
  | false =>
    have yT0 := T0.out.cell 0
    have yT1 := T0.out.cell 1
    have yC0 := C0.out.cell 0
    have yC1 := C0.out.cell 1
    have yC2 := C0.out.cell 2
    simp only [List.getElem?_toArray, List.getElem?_cons_zero, List.getElem?_cons_succ] at yT0 yT1 yC0 yC1 yC2
    have yTl := T0.out.lt
    have yCl := C0.out.lt
    go_upto_region 2 with (go_at_call 13; with_reducible refine (HFew.out _).mono ?_; rintro e u1 ⟨rfl, hb1⟩; have T1 := Lib.hid (T0.out.below hb1); have C1 := Lib.hid (C0.out.below hb1); have O1 := Lib.hid (O0.out.below hb1); have K1 := Lib.hid (K0.out.below hb1); have L1 := Lib.hid (L0.out.below hb1); have M1 := Lib.hid (M0.out.below hb1); have HB1 := Lib.hid (HB0.out.trans (hb1.mono HB0.out.size)); clear hb1; have y1T0 := T1.out.cell 0; have y1T1 := T1.out.cell 1; have y1C0 := C1.out.cell 0; have y1C1 := C1.out.cell 1; have y1C2 := C1.out.cell 2; simp only [List.getElem?_toArray, List.getElem?_cons_zero, List.getElem?_cons_succ] at y1T0 y1T1 y1C0 y1C1 y1C2; have y1Tl := T1.out.lt; have y1Cl := C1.out.lt)
    clear yT0 yT1 yC0 yC1 yC2 yTl yCl y1T0 y1T1 y1C0 y1C1 y1C2 y1Tl y1Cl T0 C0 O0 K0 L0 M0 HB0
    have yT0 := T1.out.cell 0
    have yT1 := T1.out.cell 1
    have yC0 := C1.out.cell 0
    have yC1 := C1.out.cell 1
    have yC2 := C1.out.cell 2
    simp only [List.getElem?_toArray, List.getElem?_cons_zero, List.getElem?_cons_succ] at yT0 yT1 yC0 yC1 yC2
    have yTl := T1.out.lt
    have yCl := C1.out.lt
    go_wp2_with (go_at_call 14; with_reducible refine (HSan.out _).mono ?_; rintro e u2 ⟨rfl, hb2⟩; have T2 := Lib.hid (T1.out.below hb2); have C2 := Lib.hid (C1.out.below hb2); have O2 := Lib.hid (O1.out.below hb2); have K2 := Lib.hid (K1.out.below hb2); have L2 := Lib.hid (L1.out.below hb2); have M2 := Lib.hid (M1.out.below hb2); have HB2 := Lib.hid (HB1.out.trans (hb2.mono HB1.out.size)); clear hb2; have y2T0 := T2.out.cell 0; have y2T1 := T2.out.cell 1; have y2C0 := C2.out.cell 0; have y2C1 := C2.out.cell 1; have y2C2 := C2.out.cell 2; simp only [List.getElem?_toArray, List.getElem?_cons_zero, List.getElem?_cons_succ] at y2T0 y2T1 y2C0 y2C1 y2C2; have y2Tl := T2.out.lt; have y2Cl := C2.out.lt)
    exact bodyPost_ret (v := .bool true) (by simp [results, Try.results12, go_sem]) rfl ⟨rfl, HB2.out⟩
  | true =>
  cases cb with
  | false =>
    have yT0 := T0.out.cell 0
    have yT1 := T0.out.cell 1
    have yC0 := C0.out.cell 0
    have yC1 := C0.out.cell 1
    have yC2 := C0.out.cell 2
    simp only [List.getElem?_toArray, List.getElem?_cons_zero, List.getElem?_cons_succ] at yT0 yT1 yC0 yC1 yC2
    have yTl := T0.out.lt
    have yCl := C0.out.lt
    go_upto_region 2 with (first | (go_at_call 13; with_reducible refine (HFew.out _).mono ?_; rintro e u1 ⟨rfl, hb1⟩; have T1 := Lib.hid (T0.out.below hb1); have C1 := Lib.hid (C0.out.below hb1); have O1 := Lib.hid (O0.out.below hb1); have K1 := Lib.hid (K0.out.below hb1); have L1 := Lib.hid (L0.out.below hb1); have M1 := Lib.hid (M0.out.below hb1); have HB1 := Lib.hid (HB0.out.trans (hb1.mono HB0.out.size)); clear hb1; have y1T0 := T1.out.cell 0; have y1T1 := T1.out.cell 1; have y1C0 := C1.out.cell 0; have y1C1 := C1.out.cell 1; have y1C2 := C1.out.cell 2; simp only [List.getElem?_toArray, List.getElem?_cons_zero, List.getElem?_cons_succ] at y1T0 y1T1 y1C0 y1C1 y1C2; have y1Tl := T1.out.lt; have y1Cl := C1.out.lt) | (go_at_call 30; with_reducible refine (HCob.out _).mono ?_; rintro e u2 ⟨rfl, hb2⟩; have T2 := Lib.hid (T1.out.below hb2); have C2 := Lib.hid (C1.out.below hb2); have O2 := Lib.hid (O1.out.below hb2); have K2 := Lib.hid (K1.out.below hb2); have L2 := Lib.hid (L1.out.below hb2); have M2 := Lib.hid (M1.out.below hb2); have HB2 := Lib.hid (HB1.out.trans (hb2.mono HB1.out.size)); clear hb2; have y2T0 := T2.out.cell 0; have y2T1 := T2.out.cell 1; have y2C0 := C2.out.cell 0; have y2C1 := C2.out.cell 1; have y2C2 := C2.out.cell 2; simp only [List.getElem?_toArray, List.getElem?_cons_zero, List.getElem?_cons_succ] at y2T0 y2T1 y2C0 y2C1 y2C2; have y2Tl := T2.out.lt; have y2Cl := C2.out.lt))
    clear yT0 yT1 yC0 yC1 yC2 yTl yCl y1T0 y1T1 y1C0 y1C1 y1C2 y1Tl y1Cl y2T0 y2T1 y2C0 y2C1 y2C2 y2Tl y2Cl T0 C0 O0 K0 L0 M0 T1 C1 O1 K1 L1 M1 HB0 HB1
    have yT0 := T2.out.cell 0
    have yT1 := T2.out.cell 1
    have yC0 := C2.out.cell 0
    have yC1 := C2.out.cell 1
    have yC2 := C2.out.cell 2
    simp only [List.getElem?_toArray, List.getElem?_cons_zero, List.getElem?_cons_succ] at yT0 yT1 yC0 yC1 yC2
    have yTl := T2.out.lt
    have yCl := C2.out.lt
    go_wp2_with (go_at_call 14; with_reducible refine (HSan.out _).mono ?_; rintro e u3 ⟨rfl, hb3⟩; have T3 := Lib.hid (T2.out.below hb3); have C3 := Lib.hid (C2.out.below hb3); have O3 := Lib.hid (O2.out.below hb3); have K3 := Lib.hid (K2.out.below hb3); have L3 := Lib.hid (L2.out.below hb3); have M3 := Lib.hid (M2.out.below hb3); have HB3 := Lib.hid (HB2.out.trans (hb3.mono HB2.out.size)); clear hb3; have y3T0 := T3.out.cell 0; have y3T1 := T3.out.cell 1; have y3C0 := C3.out.cell 0; have y3C1 := C3.out.cell 1; have y3C2 := C3.out.cell 2; simp only [List.getElem?_toArray, List.getElem?_cons_zero, List.getElem?_cons_succ] at y3T0 y3T1 y3C0 y3C1 y3C2; have y3Tl := T3.out.lt; have y3Cl := C3.out.lt)
    exact bodyPost_ret (v := .bool true) (by simp [results, Try.results12, go_sem]) rfl ⟨rfl, HB3.out⟩
  | true =>
  have yT0 := T0.out.cell 0
  have yT1 := T0.out.cell 1
  have yC0 := C0.out.cell 0
  have yC1 := C0.out.cell 1
  have yC2 := C0.out.cell 2
  simp only [List.getElem?_toArray, List.getElem?_cons_zero, List.getElem?_cons_succ] at yT0 yT1 yC0 yC1 yC2
  have yTl := T0.out.lt
  have yCl := C0.out.lt
  go_upto_region 3 with (first | (go_at_call 13; with_reducible refine (HFew.out _).mono ?_; rintro e u1 ⟨rfl, hb1⟩; have T1 := Lib.hid (T0.out.below hb1); have C1 := Lib.hid (C0.out.below hb1); have O1 := Lib.hid (O0.out.below hb1); have K1 := Lib.hid (K0.out.below hb1); have L1 := Lib.hid (L0.out.below hb1); have M1 := Lib.hid (M0.out.below hb1); have HB1 := Lib.hid (HB0.out.trans (hb1.mono HB0.out.size)); clear hb1; have y1T0 := T1.out.cell 0; have y1T1 := T1.out.cell 1; have y1C0 := C1.out.cell 0; have y1C1 := C1.out.cell 1; have y1C2 := C1.out.cell 2; simp only [List.getElem?_toArray, List.getElem?_cons_zero, List.getElem?_cons_succ] at y1T0 y1T1 y1C0 y1C1 y1C2; have y1Tl := T1.out.lt; have y1Cl := C1.out.lt) | (go_at_call 30; with_reducible refine (HCob.out _).mono ?_; rintro e u2 ⟨rfl, hb2⟩; have T2 := Lib.hid (T1.out.below hb2); have C2 := Lib.hid (C1.out.below hb2); have O2 := Lib.hid (O1.out.below hb2); have K2 := Lib.hid (K1.out.below hb2); have L2 := Lib.hid (L1.out.below hb2); have M2 := Lib.hid (M1.out.below hb2); have HB2 := Lib.hid (HB1.out.trans (hb2.mono HB1.out.size)); clear hb2; have y2T0 := T2.out.cell 0; have y2T1 := T2.out.cell 1; have y2C0 := C2.out.cell 0; have y2C1 := C2.out.cell 1; have y2C2 := C2.out.cell 2; simp only [List.getElem?_toArray, List.getElem?_cons_zero, List.getElem?_cons_succ] at y2T0 y2T1 y2C0 y2C1 y2C2; have y2Tl := T2.out.lt; have y2Cl := C2.out.lt))
  clear yT0 yT1 yC0 yC1 yC2 yTl yCl y1T0 y1T1 y1C0 y1C1 y1C2 y1Tl y1Cl y2T0 y2T1 y2C0 y2C1 y2C2 y2Tl y2Cl T0 C0 O0 K0 L0 M0 T1 C1 O1 K1 L1 M1 HB0 HB1
  have HC1 := Lib.hid (fun (u : World) (hu : TR.Ok u ⟨A, n, c, B, m, d, hs, ms⟩) => (fun (q1 : SAt encI 1 u A1 n1 st) (q2 : SAt encI 1 u A2 n2 en) (q3 : SAt encI 1 u A3 n3 ma) => CheckCourse_any ⟨A, n, c, B, m, d, hs, ms⟩ A1 n1 c1 A2 n2 c2 A3 n3 c3 st en ma u hu q1 q2 q3))
  have HN := Lib.hid (fun (u : World) (hu : TR.Ok u ⟨A, n, c, B, m, d, hs, ms⟩) => gp_tr hu)
  have HK := Lib.hid (fun (u : World) (hu : TR.Ok u ⟨A, n, c, B, m, d, hs, ms⟩) => lk_tr hu)
  dsimp only [TR.v] at HC1 HN HK
  by_cases hn : nwE hs ms = 0
  case neg =>
    have HF := Lib.hid (fun (u : World) (hu : TR.Ok u ⟨A, n, c, B, m, d, hs, ms⟩) => fi_bad hu hn)
    dsimp only [TR.v] at HF
    generalize nwE hs ms = ne at *
    have hnb : (ne != 0) = true := by simpa using hn
    have hne : (ne != ne) = false := by simp
    clear hn
    have yT0 := T2.out.cell 0
    have yT1 := T2.out.cell 1
    have yC0 := C2.out.cell 0
    have yC1 := C2.out.cell 1
    have yC2 := C2.out.cell 2
    simp only [List.getElem?_toArray, List.getElem?_cons_zero, List.getElem?_cons_succ] at yT0 yT1 yC0 yC1 yC2
    have yTl := T2.out.lt
    have yCl := C2.out.lt
    have HC := Lib.hid (HN.out _ O2.out)
    try dsimp only [TR.v, vCt] at HC
    go_upto_region 4 with (go_at_call 39; with_reducible refine HC.out.mono ?_; rintro e u3 ⟨Q1, q1, x1, rfl, ho, _, hb⟩)
    clear yT0 yT1 yC0 yC1 yC2 yTl yCl
    clear HC
    have bn := hb
    have T3 := Lib.hid (T2.out.below bn)
    have C3 := Lib.hid (C2.out.below bn)
    have O3 := Lib.hid (O2.out.below bn)
    have K3 := Lib.hid (K2.out.below bn)
    have L3 := Lib.hid (L2.out.below bn)
    have M3 := Lib.hid (M2.out.below bn)
    have HB3 := Lib.hid (HB2.out.trans (bn.mono HB2.out.size))
    clear hb bn T2 C2 O2 K2 L2 M2 HB2
    clear ho
    have yT0 := T3.out.cell 0
    have yT1 := T3.out.cell 1
    have yC0 := C3.out.cell 0
    have yC1 := C3.out.cell 1
    have yC2 := C3.out.cell 2
    simp only [List.getElem?_toArray, List.getElem?_cons_zero, List.getElem?_cons_succ] at yT0 yT1 yC0 yC1 yC2
    have yTl := T3.out.lt
    have yCl := C3.out.lt
    have HC := Lib.hid (HK.out _ O3.out)
    try dsimp only [TR.v, vCt] at HC
    go_upto_region 5 with (go_at_call 40; with_reducible refine HC.out.mono ?_; rintro e u4 ⟨Q2, q2, x2, rfl, ho, _, hb⟩)
    clear yT0 yT1 yC0 yC1 yC2 yTl yCl
    clear HC
    have bn := hb
    have T4 := Lib.hid (T3.out.below bn)
    have C4 := Lib.hid (C3.out.below bn)
    have O4 := Lib.hid (O3.out.below bn)
    have K4 := Lib.hid (K3.out.below bn)
    have L4 := Lib.hid (L3.out.below bn)
    have M4 := Lib.hid (M3.out.below bn)
    have HB4 := Lib.hid (HB3.out.trans (bn.mono HB3.out.size))
    clear hb bn T3 C3 O3 K3 L3 M3 HB3
    clear ho
    have yT0 := T4.out.cell 0
    have yT1 := T4.out.cell 1
    have yC0 := C4.out.cell 0
    have yC1 := C4.out.cell 1
    have yC2 := C4.out.cell 2
    simp only [List.getElem?_toArray, List.getElem?_cons_zero, List.getElem?_cons_succ] at yT0 yT1 yC0 yC1 yC2
    have yTl := T4.out.lt
    have yCl := C4.out.lt
    have HC := Lib.hid (HF.out _ O4.out)
    try dsimp only [TR.v, vCt] at HC
    go_upto_region 9 with (go_at_call 15; with_reducible refine HC.out.mono ?_; rintro e u5 ⟨rfl, hb⟩)
    clear yT0 yT1 yC0 yC1 yC2 yTl yCl
    clear HC
    have bn := hb
    have bq : Below u5.heap.size u5 (u5.alloc (.cells #[.slice none 0 0, .slice none 0 0, .slice none 0 0] 32)) := ((Below.refl u5.heap.size u5).alloc (Nat.le_refl _) _)
    have bn := hb.trans (bq.mono hb.size)
    have T5 := Lib.hid (T4.out.below bn)
    have C5 := Lib.hid (C4.out.below bn)
    have O5 := Lib.hid (O4.out.below bn)
    have K5 := Lib.hid (K4.out.below bn)
    have L5 := Lib.hid (L4.out.below bn)
    have M5 := Lib.hid (M4.out.below bn)
    have HB5 := Lib.hid (HB4.out.trans (bn.mono HB4.out.size))
    have Y5 : Hid (Blk (u5.alloc (.cells #[.slice none 0 0, .slice none 0 0, .slice none 0 0] 32)) u5.heap.size 32 #[.slice none 0 0, .slice none 0 0, .slice none 0 0]) := Lib.hid (Blk.at_new 32 #[.slice none 0 0, .slice none 0 0, .slice none 0 0] rfl)
    generalize hV : u5.alloc (.cells #[.slice none 0 0, .slice none 0 0, .slice none 0 0] 32) = V5 at *
    generalize hp : u5.heap.size = p5 at *
    clear hV hp bq
    clear hb bn T4 C4 O4 K4 L4 M4 HB4
    have yT0 := T5.out.cell 0
    have yT1 := T5.out.cell 1
    have yC0 := C5.out.cell 0
    have yC1 := C5.out.cell 1
    have yC2 := C5.out.cell 2
    have yY0 := Y5.out.cell 0
    have yY1 := Y5.out.cell 1
    have yY2 := Y5.out.cell 2
    simp only [List.getElem?_toArray, List.getElem?_cons_zero, List.getElem?_cons_succ] at yT0 yT1 yC0 yC1 yC2 yY0 yY1 yY2
    have yTl := T5.out.lt
    have yCl := C5.out.lt
    have yYl := Y5.out.lt
    go_wp2_with (go_at_call 14; with_reducible refine (HSan.out _).mono ?_; rintro e u6 ⟨rfl, hb6⟩; have T6 := Lib.hid (T5.out.below hb6); have C6 := Lib.hid (C5.out.below hb6); have O6 := Lib.hid (O5.out.below hb6); have K6 := Lib.hid (K5.out.below hb6); have L6 := Lib.hid (L5.out.below hb6); have M6 := Lib.hid (M5.out.below hb6); have Y6 := Lib.hid (Y5.out.below hb6); have HB6 := Lib.hid (HB5.out.trans (hb6.mono HB5.out.size)); clear hb6; have y6T0 := T6.out.cell 0; have y6T1 := T6.out.cell 1; have y6C0 := C6.out.cell 0; have y6C1 := C6.out.cell 1; have y6C2 := C6.out.cell 2; have y6Y0 := Y6.out.cell 0; have y6Y1 := Y6.out.cell 1; have y6Y2 := Y6.out.cell 2; simp only [List.getElem?_toArray, List.getElem?_cons_zero, List.getElem?_cons_succ] at y6T0 y6T1 y6C0 y6C1 y6C2 y6Y0 y6Y1 y6Y2; have y6Tl := T6.out.lt; have y6Cl := C6.out.lt; have y6Yl := Y6.out.lt)
    exact bodyPost_ret (v := .bool true) (by simp [results, Try.results12, go_sem]) rfl ⟨rfl, HB6.out⟩
  case pos =>
  obtain ⟨hv, ha⟩ := nwE_zero hn
  have hc := tcheck_zero.2 hv
  have HTV := Lib.hid hv
  have HNw := Lib.hid hn
  have HF := Lib.hid (fun (u : World) (hu : TR.Ok u ⟨A, n, c, B, m, d, hs, ms⟩) => fi_yes hu hc ha)
  have HGr := Lib.hid (fun (u : World) (i : Nat) (hi : i < hs.length) (hu : TR.Ok u ⟨A, n, c, B, m, d, hs, ms⟩) => (Greatest_any ⟨A, n, c, B, m, d, hs, ms⟩ 3 (hat hs i).id u hu).mono fun e w' h => ask_ok h (end_place hv hi).1 ha)
  have HCc := Lib.hid (show (ckCo hs ms st en ma == 0) = fitsL hs ms st en ma by unfold ckCo; rw [if_neg (by simpa using hc)]; cases fitsL hs ms st en ma <;> rfl)
  dsimp only [TR.v] at HF HGr
  rw [hn] at HN HK
  have HLh := Lib.hid (show hs.length = n from O2.out.h.len)
  have hn9 : n ≤ 9 := by rw [← HLh.out]; exact hv.lenH
  have yT0 := T2.out.cell 0
  have yT1 := T2.out.cell 1
  have yC0 := C2.out.cell 0
  have yC1 := C2.out.cell 1
  have yC2 := C2.out.cell 2
  simp only [List.getElem?_toArray, List.getElem?_cons_zero, List.getElem?_cons_succ] at yT0 yT1 yC0 yC1 yC2
  have yTl := T2.out.lt
  have yCl := C2.out.lt
  have HC := Lib.hid (HN.out _ O2.out)
  try dsimp only [TR.v, vCt] at HC
  go_upto_region 4 with (go_at_call 39; with_reducible refine HC.out.mono ?_; rintro e u3 ⟨Q1, q1, x1, rfl, ho, hq1, hb⟩)
  clear yT0 yT1 yC0 yC1 yC2 yTl yCl
  clear HC
  have bn := hb
  have T3 := Lib.hid (T2.out.below bn)
  have C3 := Lib.hid (C2.out.below bn)
  have O3 := Lib.hid (O2.out.below bn)
  have K3 := Lib.hid (K2.out.below bn)
  have L3 := Lib.hid (L2.out.below bn)
  have M3 := Lib.hid (M2.out.below bn)
  have HB3 := Lib.hid (HB2.out.trans (bn.mono HB2.out.size))
  have N3 := Lib.hid ((ho))
  clear hb bn T2 C2 O2 K2 L2 M2 HB2
  clear ho
  obtain rfl : q1 = n := by have a := N3.out.len; rw [gapsL_len2 hn] at a; have := HLh.out; omega
  have yT0 := T3.out.cell 0
  have yT1 := T3.out.cell 1
  have yC0 := C3.out.cell 0
  have yC1 := C3.out.cell 1
  have yC2 := C3.out.cell 2
  simp only [List.getElem?_toArray, List.getElem?_cons_zero, List.getElem?_cons_succ] at yT0 yT1 yC0 yC1 yC2
  have yTl := T3.out.lt
  have yCl := C3.out.lt
  have HC := Lib.hid (HK.out _ O3.out)
  try dsimp only [TR.v, vCt] at HC
  go_upto_region 5 with (go_at_call 40; with_reducible refine HC.out.mono ?_; rintro e u4 ⟨Q2, q2, x2, rfl, ho, hq2, hb⟩)
  clear yT0 yT1 yC0 yC1 yC2 yTl yCl
  clear HC
  have bn := hb
  have T4 := Lib.hid (T3.out.below bn)
  have C4 := Lib.hid (C3.out.below bn)
  have O4 := Lib.hid (O3.out.below bn)
  have K4 := Lib.hid (K3.out.below bn)
  have L4 := Lib.hid (L3.out.below bn)
  have M4 := Lib.hid (M3.out.below bn)
  have N4 := Lib.hid (N3.out.below bn)
  have HB4 := Lib.hid (HB3.out.trans (bn.mono HB3.out.size))
  have P4 := Lib.hid ((ho))
  clear hb bn T3 C3 O3 K3 L3 M3 N3 HB3
  clear ho
  have yT0 := T4.out.cell 0
  have yT1 := T4.out.cell 1
  have yC0 := C4.out.cell 0
  have yC1 := C4.out.cell 1
  have yC2 := C4.out.cell 2
  simp only [List.getElem?_toArray, List.getElem?_cons_zero, List.getElem?_cons_succ] at yT0 yT1 yC0 yC1 yC2
  have yTl := T4.out.lt
  have yCl := C4.out.lt
  have HC := Lib.hid (HF.out _ O4.out)
  try dsimp only [TR.v, vCt] at HC
  go_upto_region 10 with (go_at_call 15; with_reducible refine HC.out.mono ?_; rintro e u5 ⟨D1, r1, z1, D2, r2, z2, D3, r3, z3, st2, en2, ma2, rfl, k1, k2, k3, hf, hb⟩)
  clear yT0 yT1 yC0 yC1 yC2 yTl yCl
  clear HC
  have bn := hb
  have bq : Below u5.heap.size u5 (u5.alloc (.cells #[.slice D1 r1 z1, .slice D2 r2 z2, .slice D3 r3 z3] 32)) := ((Below.refl u5.heap.size u5).alloc (Nat.le_refl _) _)
  have bn := hb.trans (bq.mono hb.size)
  have T5 := Lib.hid (T4.out.below bn)
  have C5 := Lib.hid (C4.out.below bn)
  have O5 := Lib.hid (O4.out.below bn)
  have K5 := Lib.hid (K4.out.below bn)
  have L5 := Lib.hid (L4.out.below bn)
  have M5 := Lib.hid (M4.out.below bn)
  have N5 := Lib.hid (N4.out.below bn)
  have P5 := Lib.hid (P4.out.below bn)
  have HB5 := Lib.hid (HB4.out.trans (bn.mono HB4.out.size))
  have J5 := Lib.hid ((k2).below bq)
  have G5 : Hid (Blk (u5.alloc (.cells #[.slice D1 r1 z1, .slice D2 r2 z2, .slice D3 r3 z3] 32)) u5.heap.size 32 #[.slice D1 r1 z1, .slice D2 r2 z2, .slice D3 r3 z3]) := Lib.hid (Blk.at_new 32 #[.slice D1 r1 z1, .slice D2 r2 z2, .slice D3 r3 z3] rfl)
  generalize hV : u5.alloc (.cells #[.slice D1 r1 z1, .slice D2 r2 z2, .slice D3 r3 z3] 32) = V5 at *
  generalize hp : u5.heap.size = p5 at *
  clear hV hp bq
  clear hb bn T4 C4 O4 K4 L4 M4 N4 P4 HB4
  have HJl := Lib.hid (k2.len)
  clear k1 k2 k3
  have HFt := Lib.hid hf
  clear hf
  have HP2 := Lib.hid (fitsL_prop.1 HFt.out).1
  obtain rfl : r2 = q1 := by have := HP2.out.2.1; have := HJl.out; have := HLh.out; omega
  obtain ⟨fc, hfc⟩ : ∃ b, fitsL hs ms st en ma = b := ⟨_, rfl⟩
  have HFc := Lib.hid hfc
  rw [hfc] at HCc
  obtain ⟨cc, hcc⟩ : ∃ x, ckCo hs ms st en ma = x := ⟨_, rfl⟩
  rw [hcc] at HC1 HCc
  have hcf : (cc == 0) = fc := HCc.out
  clear hfc hcc hn hv ha hc
  have yT0 := T5.out.cell 0
  have yT1 := T5.out.cell 1
  have yC0 := C5.out.cell 0
  have yC1 := C5.out.cell 1
  have yC2 := C5.out.cell 2
  have yG0 := G5.out.cell 0
  have yG1 := G5.out.cell 1
  have yG2 := G5.out.cell 2
  simp only [List.getElem?_toArray, List.getElem?_cons_zero, List.getElem?_cons_succ] at yT0 yT1 yC0 yC1 yC2 yG0 yG1 yG2
  have yTl := T5.out.lt
  have yCl := C5.out.lt
  have yGl := G5.out.lt
  have HC := Lib.hid (HC1.out _ O5.out K5.out L5.out M5.out)
  try dsimp only [TR.v, vCt] at HC
  go_upto_region 14 with (go_at_call 32; with_reducible refine HC.out.mono ?_; rintro e u6 ⟨rfl, hb⟩)
  clear yT0 yT1 yC0 yC1 yC2 yG0 yG1 yG2 yTl yCl yGl
  clear HC
  have bn := hb
  have T6 := Lib.hid (T5.out.below bn)
  have C6 := Lib.hid (C5.out.below bn)
  have O6 := Lib.hid (O5.out.below bn)
  have K6 := Lib.hid (K5.out.below bn)
  have L6 := Lib.hid (L5.out.below bn)
  have M6 := Lib.hid (M5.out.below bn)
  have N6 := Lib.hid (N5.out.below bn)
  have P6 := Lib.hid (P5.out.below bn)
  have G6 := Lib.hid (G5.out.below bn)
  have J6 := Lib.hid (J5.out.below bn)
  have HB6 := Lib.hid (HB5.out.trans (bn.mono HB5.out.size))
  clear hb bn T5 C5 O5 K5 L5 M5 N5 P5 G5 J5 HB5
  generalize u6 = U at *
  have HHas := Lib.hid (fun (u : World) (x : Int) (hu : SAt encI 1 u Q2 q2 (lackL hs ms)) => has_any Q2 q2 x2 (lackL hs ms) x u hu (by omega))
  go_loopw [12, 13, 14, 15, 16] (fun i _ _ _ _ wx => ∃ k : Nat, k ≤ r2 ∧ i = .int .i64 (k : Int) ∧ Below U.heap.size U wx) (fun i _ _ _ _ _ => r2 - (intOf i).toNat)
  case atStart => exact ⟨0, Nat.zero_le _, rfl, Below.refl _ _⟩
  case round =>
    obtain ⟨k, hk, rfl, hb⟩ := hrel
    have HBk := Lib.hid hb
    have HBw := Lib.hid (HB6.out.trans (hb.mono HB6.out.size))
    have HT := Lib.hid (T6.out.below hb)
    have HCb := Lib.hid (C6.out.below hb)
    have HGb := Lib.hid (G6.out.below hb)
    have HOk := Lib.hid (O6.out.below hb)
    have HLk := Lib.hid (L6.out.below hb)
    have HNk := Lib.hid (N6.out.below hb)
    have HPk := Lib.hid (P6.out.below hb)
    have HJk := Lib.hid (J6.out.below hb)
    clear hb
    by_cases hkn : k < r2
    case neg =>
      go_wp2_with (go_at_call 14; with_reducible refine (HSan.out _).mono ?_; rintro e u9 ⟨rfl, hb9⟩)
      exact bodyPost_ret (v := .bool true) (by simp [results, Try.results12, go_sem]) rfl ⟨rfl, HBw.out.trans (hb9.mono HBw.out.size)⟩
    case pos =>
      have hkl : k < hs.length := by rw [HLh.out]; exact hkn
      have hke : k < en2.length := by have := HP2.out.2.1; omega
      obtain ⟨bH, oH, eH, hH⟩ := HOk.out.h.at_ (by dsimp only; omega)
      obtain ⟨bE, oE, eE, hE⟩ := HJk.out.at_ (by omega)
      obtain ⟨bG, oG, eG, hG⟩ := HNk.out.at_ (by omega)
      dsimp only at eH
      subst eH eE eG
      have HHe := Lib.hid (hat_eq hkl)
      have HEe := Lib.hid (iget_eq hke)
      have HEl := Lib.hid hE
      have HGl := Lib.hid hG
      obtain ⟨u0, u1, u2, u3, u4, u5⟩ := Hds.at_ hH (List.getElem?_eq_getElem hkl)
      rw [← HHe.out] at u0 u1 u2 u3 u4 u5
      have ul := hH.lt
      have HSp := Lib.hid (end_span HTV.out HFt.out hkl)
      have HBk2 := Lib.hid (bk_bound HTV.out hkl)
      have HLa := Lib.hid (lack_iff HNw.out hkl)
      have HPl := Lib.hid (end_place HTV.out hkl)
      have HAt := Lib.hid (gapsL_at HNw.out hkl)
      have HGk := Lib.hid (fun u hu => HGr.out u k hkl hu)
      have HSc := Lib.hid (show fc = true → narLo hs ms (hs.length + k) ≤ iget en k ∧ iget en k ≤ narHi hs ms (hs.length + k) ∧ 0 ≤ iget en k ∧ iget en k ≤ 65536 from fun h => end_span HTV.out (by rw [HFc.out, h]) hkl)
      rw [HPl.out.2] at HGk
      obtain ⟨⟨xi, xsl, xsh, xel, xeh, xb⟩, hx⟩ : ∃ x, hat hs k = x := ⟨_, rfl⟩
      rw [hx] at u0 u1 u2 u3 u4 u5 HBk2 HLa HAt HGk
      have HXx := Lib.hid hx
      dsimp only at u0 u1 u2 u3 u4 u5 HBk2 HLa HAt HGk
      obtain ⟨NL, hNL⟩ : ∃ x, narLo hs ms (hs.length + k) = x := ⟨_, rfl⟩
      obtain ⟨NH, hNH⟩ : ∃ x, narHi hs ms (hs.length + k) = x := ⟨_, rfl⟩
      rw [hNL, hNH] at HSp HAt HSc
      rw [hNH] at HLa HGk
      obtain ⟨G1, hG1⟩ : ∃ x, xb - NH = x := ⟨_, rfl⟩
      obtain ⟨G2, hG2⟩ : ∃ x, xb - NL = x := ⟨_, rfl⟩
      rw [hG1, hG2] at HAt
      obtain ⟨ee, hee⟩ : ∃ x, iget en2 k = x := ⟨_, rfl⟩
      rw [hee] at HSp
      have HEv := Lib.hid hee
      clear hx hNL hNH hee hH hE hG
      have hHu := HHas.out
      obtain ⟨zz, hzz⟩ : ∃ z, decide (NH < xb) = z := ⟨_, rfl⟩
      have HHk := Lib.hid (show ∀ u, SAt encI 1 u Q2 q2 (lackL hs ms) → Calls Try.prog 18 #[.slice Q2 q2 x2, .int .i64 xi] u fun e w' => e = .returned (.bool zz) ∧ Below u.heap.size u w' from fun u hu => by
        refine (HHas.out u xi hu).mono ?_
        rw [HLa.out, hzz]
        exact fun e w' h => h)
      obtain ⟨b1, b2⟩ := HBk2.out
      obtain ⟨e1, e2, e3, e4⟩ := HSp.out
      have d1 : decide (xb - ee < G1) = false := decide_eq_false (by omega)
      have d2 : decide (G2 < xb - ee) = false := decide_eq_false (by omega)
      have HG12 := Lib.hid (And.intro hG1 hG2)
      clear hG1 hG2 hHu
      have y0 := HT.out.cell 0
      have y1 := HT.out.cell 1
      simp only [List.getElem?_toArray, List.getElem?_cons_zero, List.getElem?_cons_succ] at y0 y1
      have yl := HT.out.lt
      go_upto_region 17 with fail
      clear y0 y1 yl
      have HBn := Lib.hid (below_new wr (.cells #[.int .i64 xi, .int .i64 xsl, .int .i64 xsh, .int .i64 xel, .int .i64 xeh, .int .i64 xb] 47))
      have HD := Lib.hid (Blk.new wr 47 #[.int .i64 xi, .int .i64 xsl, .int .i64 xsh, .int .i64 xel, .int .i64 xeh, .int .i64 xb])
      generalize hV : wr.alloc (.cells #[.int .i64 xi, .int .i64 xsl, .int .i64 xsh, .int .i64 xel, .int .i64 xeh, .int .i64 xb] 47) = V at *
      have HB2 := Lib.hid (HBk.out.trans (HBn.out.mono HBk.out.size))
      have HT2 := Lib.hid (HT.out.below HBn.out)
      have HC2 := Lib.hid (HCb.out.below HBn.out)
      have HG2 := Lib.hid (HGb.out.below HBn.out)
      have HO2 := Lib.hid (HOk.out.below HBn.out)
      have HL2 := Lib.hid (HLk.out.below HBn.out)
      have HP2' := Lib.hid (HPk.out.below HBn.out)
      have HE2 := Lib.hid (HEl.out.below HBn.out)
      have HGl2 := Lib.hid (HGl.out.below HBn.out)
      generalize hp : wr.heap.size = p at *
      clear hV u0 u1 u2 u3 u4 u5 ul HT HCb HGb HOk HLk HPk HEl HGl HBn HBk HBw HNk HJk
      have g1 := HG2.out.cell 1
      have k5 := HD.out.cell 5
      simp only [List.getElem?_toArray, List.getElem?_cons_zero, List.getElem?_cons_succ] at g1 k5
      have gl := HG2.out.lt
      have kl := HD.out.lt
      have s0 := HE2.out.c k _ (List.getElem?_eq_getElem hke) 0 _ rfl
      rw [Nat.mul_one, Nat.add_zero, ← HEe.out, HEv.out] at s0
      have sl := HE2.out.lt
      obtain ⟨xc, xf'⟩ := xcell (W := V)
      refine wp_region_quiet_tail 8 (by kernel_rfl) (by kernel_rfl) ?_
      simp only [List.take_succ_cons, List.take_zero, List.drop_succ_cons, List.drop_zero]
      repeat (first | go_big_quiet_step (fail) | quiet_step (fail))
      refine wpQuiet_nil ?_
      intro wv hbv
      have HB7 := Lib.hid (HB2.out.trans (hbv.mono HB2.out.size))
      have HT7 := Lib.hid (HT2.out.below hbv)
      have HC7 := Lib.hid (HC2.out.below hbv)
      have HG7 := Lib.hid (HG2.out.below hbv)
      have HD7 := Lib.hid (HD.out.below hbv)
      have HO7 := Lib.hid (HO2.out.below hbv)
      have HL7 := Lib.hid (HL2.out.below hbv)
      have HP7 := Lib.hid (HP2'.out.below hbv)
      have HE7 := Lib.hid (HE2.out.below hbv)
      have HGl7 := Lib.hid (HGl2.out.below hbv)
      clear g1 k5 gl kl s0 sl xc xf' hbv HB2 HT2 HC2 HG2 HD HO2 HL2 HP2' HE2 HGl2
      go_upto_region 18 with fail
      simp only [List.append_eq, List.cons_append, List.nil_append]
      have g1 := HG7.out.cell 1
      have c0 := HC7.out.cell 0
      have c1' := HC7.out.cell 1
      have c2' := HC7.out.cell 2
      have k0 := HD7.out.cell 0
      have k1 := HD7.out.cell 1
      have k2 := HD7.out.cell 2
      have k3 := HD7.out.cell 3
      have k4 := HD7.out.cell 4
      have k5 := HD7.out.cell 5
      have y0 := HT7.out.cell 0
      have y1 := HT7.out.cell 1
      simp only [List.getElem?_toArray, List.getElem?_cons_zero, List.getElem?_cons_succ] at g1 c0 c1' c2' k0 k1 k2 k3 k4 k5 y0 y1
      have gl := HG7.out.lt
      have cl := HC7.out.lt
      have kl := HD7.out.lt
      have yl := HT7.out.lt
      have s0 := HE7.out.c k _ (List.getElem?_eq_getElem hke) 0 _ rfl
      rw [Nat.mul_one, Nat.add_zero, ← HEe.out, HEv.out] at s0
      have sl := HE7.out.lt
      have v0 := HGl7.out.c k _ HAt.out 0 _ rfl
      have v1 := HGl7.out.c k _ HAt.out 1 _ rfl
      have v2 := HGl7.out.c k _ HAt.out 2 _ rfl
      rw [Nat.add_zero] at v0
      have vl := HGl7.out.lt
      cases fc with
      | false =>
        obtain ⟨xc, xf'⟩ := xcell (W := wv)
        refine wp_region_quiet_tail 65 (by kernel_rfl) (by kernel_rfl) ?_
        simp only [List.take_succ_cons, List.take_zero, List.drop_succ_cons, List.drop_zero]
        repeat (first | go_big_quiet_step (fail) | quiet_step (fail))
        refine wpQuiet_nil ?_
        intro w3 hb3
        have HB3 := Lib.hid (HB7.out.trans (hb3.mono HB7.out.size))
        have HT3 := Lib.hid (HT7.out.below hb3)
        have HO3 := Lib.hid (HO7.out.below hb3)
        have HP3 := Lib.hid (HP7.out.below hb3)
        have HD3 := Lib.hid (HD7.out.below hb3)
        clear g1 c0 c1' c2' k0 k1 k2 k3 k4 k5 y0 y1 gl cl kl yl s0 sl v0 v1 v2 vl xc xf' hb3
        have k0 := HD3.out.cell 0
        have y0 := HT3.out.cell 0
        have y1 := HT3.out.cell 1
        simp only [List.getElem?_toArray, List.getElem?_cons_zero, List.getElem?_cons_succ] at k0 y0 y1
        have kl := HD3.out.lt
        have yl := HT3.out.lt
        go_upto_region 21 with (go_at_call 17; (with_reducible refine (HGk.out _ HO3.out).mono ?_); rintro e w4 ⟨L1, m1, o1, L2, m2, o2, L3, m3, o3, lw, L4, m4, o4, sst, sen, sma, rfl, _, _, _, _, hb4⟩)
        have bq := below_new w4 (.cells #[.int .i64 NH, .slice L1 m1 o1, .slice L2 m2 o2, .slice L3 m3 o3, .int .i64 lw, .slice L4 m4 o4] 39)
        have bn := hb4.trans (bq.mono hb4.size)
        have HLi := Lib.hid (Blk.new w4 39 #[.int .i64 NH, .slice L1 m1 o1, .slice L2 m2 o2, .slice L3 m3 o3, .int .i64 lw, .slice L4 m4 o4])
        have HB4 := Lib.hid (HB3.out.trans (bn.mono HB3.out.size))
        have HP4 := Lib.hid (HP3.out.below bn)
        have HD4 := Lib.hid (HD3.out.below bn)
        generalize hV : w4.alloc (.cells #[.int .i64 NH, .slice L1 m1 o1, .slice L2 m2 o2, .slice L3 m3 o3, .int .i64 lw, .slice L4 m4 o4] 39) = V4 at *
        generalize hp4 : w4.heap.size = p4 at *
        clear hV hp4 k0 y0 y1 kl yl bn bq hb4
        have k0 := HD4.out.cell 0
        have k5 := HD4.out.cell 5
        have x0 := HLi.out.cell 0
        simp only [List.getElem?_toArray, List.getElem?_cons_zero, List.getElem?_cons_succ] at k0 k5 x0
        have kl := HD4.out.lt
        have xl := HLi.out.lt
        have HH4 := Lib.hid (fun x : Ext V4 => HHk.out x.w (HP4.out.below x.below))
        obtain ⟨xc, xf'⟩ := xcell (W := V4)
        refine wp_region_quiet_tail 14 (by kernel_rfl) (by kernel_rfl) ?_
        simp only [List.take_succ_cons, List.take_zero, List.drop_succ_cons, List.drop_zero]
        repeat (first | go_big_quiet_step ((go_at_call 18; with_reducible refine calls_ext (HH4.out _))) | quiet_step ((go_at_call 18; with_reducible refine calls_ext (HH4.out _))))
        refine wpQuiet_nil ?_
        intro w5 hb5
        have HB5 := Lib.hid (HB4.out.trans (hb5.mono HB4.out.size))
        clear xc xf' hb5
        go_wp2
        go_roundw
        case rel => exact ⟨k + 1, by omega, by go_num, HB5.out⟩
        case measure => simp [intOf]; omega
      | true =>
        obtain ⟨s1, s2, s3, s4⟩ := HSc.out rfl
        have hfl := (fitsL_prop.1 HFc.out).1
        have hke2 : k < en.length := by omega
        obtain rfl : n2 = r2 := by have := HL7.out.len; have := HLh.out; omega
        obtain ⟨bC, oC, eC, hC⟩ := HL7.out.at_ (by omega)
        subst eC
        have t0 := hC.c k _ (List.getElem?_eq_getElem hke2) 0 _ rfl
        rw [Nat.mul_one, Nat.add_zero, ← iget_eq hke2] at t0
        have tl := hC.lt
        obtain ⟨ec, hec⟩ : ∃ x, iget en k = x := ⟨_, rfl⟩
        rw [hec] at t0 s1 s2 s3 s4
        have d3 : decide (xb - ec < G1) = false := decide_eq_false (by have := HG12.out; omega)
        have d4 : decide (G2 < xb - ec) = false := decide_eq_false (by have := HG12.out; omega)
        clear hC hfl hec
        obtain ⟨xc, xf'⟩ := xcell (W := wv)
        refine wp_region_quiet_tail 65 (by kernel_rfl) (by kernel_rfl) ?_
        simp only [List.take_succ_cons, List.take_zero, List.drop_succ_cons, List.drop_zero]
        repeat (first | go_big_quiet_step (fail) | quiet_step (fail))
        refine wpQuiet_nil ?_
        intro w3 hb3
        clear t0 tl
        have HB3 := Lib.hid (HB7.out.trans (hb3.mono HB7.out.size))
        have HT3 := Lib.hid (HT7.out.below hb3)
        have HO3 := Lib.hid (HO7.out.below hb3)
        have HP3 := Lib.hid (HP7.out.below hb3)
        have HD3 := Lib.hid (HD7.out.below hb3)
        clear g1 c0 c1' c2' k0 k1 k2 k3 k4 k5 y0 y1 gl cl kl yl s0 sl v0 v1 v2 vl xc xf' hb3
        have k0 := HD3.out.cell 0
        have y0 := HT3.out.cell 0
        have y1 := HT3.out.cell 1
        simp only [List.getElem?_toArray, List.getElem?_cons_zero, List.getElem?_cons_succ] at k0 y0 y1
        have kl := HD3.out.lt
        have yl := HT3.out.lt
        go_upto_region 21 with (go_at_call 17; (with_reducible refine (HGk.out _ HO3.out).mono ?_); rintro e w4 ⟨L1, m1, o1, L2, m2, o2, L3, m3, o3, lw, L4, m4, o4, sst, sen, sma, rfl, _, _, _, _, hb4⟩)
        have bq := below_new w4 (.cells #[.int .i64 NH, .slice L1 m1 o1, .slice L2 m2 o2, .slice L3 m3 o3, .int .i64 lw, .slice L4 m4 o4] 39)
        have bn := hb4.trans (bq.mono hb4.size)
        have HLi := Lib.hid (Blk.new w4 39 #[.int .i64 NH, .slice L1 m1 o1, .slice L2 m2 o2, .slice L3 m3 o3, .int .i64 lw, .slice L4 m4 o4])
        have HB4 := Lib.hid (HB3.out.trans (bn.mono HB3.out.size))
        have HP4 := Lib.hid (HP3.out.below bn)
        have HD4 := Lib.hid (HD3.out.below bn)
        generalize hV : w4.alloc (.cells #[.int .i64 NH, .slice L1 m1 o1, .slice L2 m2 o2, .slice L3 m3 o3, .int .i64 lw, .slice L4 m4 o4] 39) = V4 at *
        generalize hp4 : w4.heap.size = p4 at *
        clear hV hp4 k0 y0 y1 kl yl bn bq hb4
        have k0 := HD4.out.cell 0
        have k5 := HD4.out.cell 5
        have x0 := HLi.out.cell 0
        simp only [List.getElem?_toArray, List.getElem?_cons_zero, List.getElem?_cons_succ] at k0 k5 x0
        have kl := HD4.out.lt
        have xl := HLi.out.lt
        have HH4 := Lib.hid (fun x : Ext V4 => HHk.out x.w (HP4.out.below x.below))
        obtain ⟨xc, xf'⟩ := xcell (W := V4)
        refine wp_region_quiet_tail 14 (by kernel_rfl) (by kernel_rfl) ?_
        simp only [List.take_succ_cons, List.take_zero, List.drop_succ_cons, List.drop_zero]
        repeat (first | go_big_quiet_step ((go_at_call 18; with_reducible refine calls_ext (HH4.out _))) | quiet_step ((go_at_call 18; with_reducible refine calls_ext (HH4.out _))))
        refine wpQuiet_nil ?_
        intro w5 hb5
        have HB5 := Lib.hid (HB4.out.trans (hb5.mono HB4.out.size))
        clear xc xf' hb5
        go_wp2
        go_roundw
        case rel => exact ⟨k + 1, by omega, by go_num, HB5.out⟩
        case measure => simp [intOf]; omega
open Go.WideShapes Go.ChangeShapes Go.Joins Go.Deep
set_option maxRecDepth 100000 in
theorem flowGapsHold_lifted (os : Os) (started : os.Started) (H : Type) (enc : TypeId × Value → H) :
    ReturnsInHanded Rows.flowGapsHoldRow.assume Try.checked os 12 .any (Rows.flowGapsHoldSpec.pre6 enc Try.prog Try.f12 Rows.flowGapsHoldRow.domain false) (Rows.flowGapsHoldSpec.post enc Try.prog Try.f12 false Rows.flowGapsHoldRow.fresh Rows.flowGapsHoldRow.handsOn Rows.flowGapsHoldRow.again) := by
  refine returnsInHanded_of_change (C := Try.checked) (by kernel_rfl) started (by kernel_rfl) Try.func12
    (ChangeSpec.witness6 (enc := enc) (C := Try.checked) false ⟨#[], #[.agg #[.slice none 0 0, .slice none 0 0], .agg #[.slice none 0 0, .slice none 0 0, .slice none 0 0]], []⟩ 8 (by kernel_rfl) (by kernel_rfl) (by kernel_rfl) (by kernel_rfl)) ?_
  intro W base args ds gs before hval0 hW hcnd _
  have hval : ∀ (j : Nat) t v, Try.f12.params[j]? = some t → args[j]? = some v → Value.okWide Try.prog W .any base t v := hval0
  have hW' := hW
  obtain ⟨p, q, hA0, hV, rfl, hfz, hnd⟩ := hW
  obtain ⟨rfl, rfl⟩ := trodVars_none hV
  have hA : DataW.TrodAll enc Try.prog W 0 (fun _ => true) true [25, 32] args.toList ds p := hA0
  obtain ⟨v0, v1, d0, d1, p0, p1, rfl, rfl, rfl, h0, h1⟩ := trodAll_two hA
  obtain ⟨t, rfl, hT, _, rfl⟩ := open_tr (hval 0 25 v0 rfl rfl) h0
  obtain ⟨A1, n1, c1, A2, n2, c2, A3, n3, c3, st, en, ma, rfl, k1, k2, k3, l1, l2, l3, _, rfl⟩ := open_co (hval 1 32 v1 rfl rfl) h1
  refine (flowGapsHold_walk t A1 n1 c1 A2 n2 c2 A3 n3 c3 st en ma W hT k1 k2 k3 l1 l2 l3).mono fun e W' ⟨he, hb⟩ => ⟨_, he, law_post laid_out (by kernel_rfl) rfl Try.underlying4 rfl hW' rfl rfl rfl hb⟩

theorem flowGapsHold : Rows.FlowGapsHoldSaid :=
  OpenClaim.holds_of_wide 12 Try.f12 rfl rfl rfl rfl rfl rfl rfl ⟨rfl, rfl, rfl, rfl, rfl⟩ rfl rfl rfl rfl rfl (by kernel_rfl) Try.func12 (by kernel_rfl)
    (of_decide_eq_true (by kernel_rfl)) (by unfold Func.isWrapper; first | (rw [if_pos (by decide +kernel)]; kernel_rfl) | (rw [if_neg (by decide +kernel)]; exact ⟨rfl, rfl⟩))
    (fun os started H enc _ => flowGapsHold_lifted os started H enc)
#print axioms flowGapsHold
end Go.Proofs.Ytighfmgkoepfkaa
