/- Narrowed of the specification. -/
import Derived.Test.YtighfmgkoepfkaaGreatMR
import Derived.Test.YtighfmgkoepfkaaGreatMI
import Derived.Test.YtighfmgkoepfkaaGreatMG
import Derived.Test.YtighfmgkoepfkaaGreatMZ
import Derived.Test.YtighfmgkoepfkaaGreatME
namespace Go.Proofs.YtighfmgkoepfkaaGreat
open Go.RowKit

theorem place_mass {hs : List Hd} {ms : List Mv} (hv : TV hs ms) {k : Nat} (hk : k < ms.length) : placeE hs ms 1 (ms[k]).id = 0 ∧ placeN hs ms 1 (ms[k]).id = 2 * hs.length + k := by
  have := posM_self hv.mids hk
  unfold placeE placeN
  rw [if_pos rfl, if_pos rfl, this, if_pos hk]
  exact ⟨rfl, rfl⟩
theorem spans_take {hs : List Hd} {ms : List Mv} (hn : nwE hs ms = 0) {k : Nat} (hk : k < ms.length) : (spansL hs ms).take (k + 1) = (spansL hs ms).take k ++ [(narLo hs ms (2 * hs.length + k), narHi hs ms (2 * hs.length + k))] := by
  have hl : (nwM hs ms).length = ms.length := by unfold nwM; rw [if_pos hn, narM_len]
  have hk2 : k < (spansL hs ms).length := by unfold spansL; rw [List.length_map, hl]; exact hk
  rw [List.take_succ_eq_append_getElem hk2]
  congr 2
  have e : nwM hs ms = (List.range ms.length).map (nM hs ms) := by unfold nwM; rw [if_pos hn, narM_eq]
  simp [spansL, e, nM]
theorem spans_len {hs : List Hd} {ms : List Mv} (hn : nwE hs ms = 0) : (spansL hs ms).length = ms.length := by unfold spansL nwM; rw [List.length_map, if_pos hn, narM_len]
def MsOut (w : World) (hs : List Hd) (ms : List Mv) (en : Ending) (w' : World) : Prop :=
  Below w.heap.size w w' ∧ ∃ v, en = .returned (.agg #[v, .int .i64 (nwE hs ms)]) ∧ w'.ownsRow w.heap.size 57 2 v (spansL hs ms).length ((spansL hs ms).flatMap encSp)
set_option maxRecDepth 100000 in
set_option maxHeartbeats 12800000 in
theorem Masses_any (t : TR) (w : World) (h : t.Ok w) : Calls Tryz.prog 15 #[t.v] w (MsOut w t.hs t.ms) := by
  obtain ⟨A, n, c, B, m, d, hs, ms⟩ := t
  have HCk := Lib.hid (fun (u : World) (hu : TR.Ok u ⟨A, n, c, B, m, d, hs, ms⟩) => RCheck_any ⟨A, n, c, B, m, d, hs, ms⟩ u hu)
  have HRa := Lib.hid (fun (u : World) (hu : TR.Ok u ⟨A, n, c, B, m, d, hs, ms⟩) (hv : TV hs ms) => RAgrees_any ⟨A, n, c, B, m, d, hs, ms⟩ u hu hv)
  have HNr := Lib.hid (fun (u : World) (hu : TR.Ok u ⟨A, n, c, B, m, d, hs, ms⟩) (hv : TV hs ms) (id : Int) (hp : placeE hs ms 1 id = 0) (ha : agrL hs ms = true) => narrow_any ⟨A, n, c, B, m, d, hs, ms⟩ 1 id u hu hv hp ha)
  have HO0 := Lib.hid h
  have HLm := Lib.hid (show ms.length = m from h.m.len)
  dsimp only [TR.v, vAt, vSp] at *
  obtain ⟨ii, hi0, hi1, hi2, hi3⟩ := info_parts info_span
  have HII := Lib.hid (And.intro hi0 (And.intro hi1 (And.intro hi2 hi3)))
  clear hi0 hi1 hi2 hi3
  have HEc := Lib.hid (fun q : tcheck hs ms ≠ 0 => (show nwE hs ms = tcheck hs ms ∧ spansL hs ms = [] by
    have e : nwE hs ms = tcheck hs ms := by unfold nwE; rw [if_pos q]
    exact ⟨e, by unfold spansL nwM; rw [if_neg (by rw [e]; exact q)]; rfl⟩))
  have HEa := Lib.hid (fun (q : tcheck hs ms = 0) (a : agrL hs ms = false) => (show nwE hs ms = 9 ∧ spansL hs ms = [] by
    have e : nwE hs ms = 9 := by unfold nwE; rw [if_neg (by simpa using q), if_pos a]
    exact ⟨e, by unfold spansL nwM; rw [if_neg (by rw [e]; decide)]; rfl⟩))
  have HEz := Lib.hid (fun (q : tcheck hs ms = 0) (a : agrL hs ms = true) => (show nwE hs ms = 0 by unfold nwE; rw [if_neg (by simpa using q), if_neg (by rw [a]; decide)]))
  have HTv := Lib.hid (show tcheck hs ms = 0 → TV hs ms from tcheck_zero.1)
  obtain ⟨tc, htc⟩ : ∃ x, tcheck hs ms = x := ⟨_, rfl⟩
  rw [htc] at HEc HEa HEz HTv HCk
  clear htc
  have HB0 : Hid (Below w.heap.size w ((w.alloc (.cells #[.slice A n c, .slice B m d] 25)).alloc (.cells #[.slice none 0 0, .int .i64 0] 33))) := Lib.hid (((Below.refl w.heap.size w).alloc (Nat.le_refl _) _).alloc (by simp) _)
  have T0 : Hid (Blk ((w.alloc (.cells #[.slice A n c, .slice B m d] 25)).alloc (.cells #[.slice none 0 0, .int .i64 0] 33)) w.heap.size 25 #[.slice A n c, .slice B m d]) := Lib.hid ((Blk.at_new 25 #[.slice A n c, .slice B m d] rfl).alloc _)
  have K0 : Hid (Blk ((w.alloc (.cells #[.slice A n c, .slice B m d] 25)).alloc (.cells #[.slice none 0 0, .int .i64 0] 33)) (w.heap.size + 1) 33 #[.slice none 0 0, .int .i64 0]) := Lib.hid (Blk.at_new 33 #[.slice none 0 0, .int .i64 0] (by simp))
  have O0 := Lib.hid ((h).below HB0.out)
  go_enter Tryz.func15, Tryz.ntmps15
  go_upto_region 1 with fail
  generalize hV : (w.alloc (.cells #[.slice A n c, .slice B m d] 25)).alloc (.cells #[.slice none 0 0, .int .i64 0] 33) = V0 at *
  clear hV
  clear h
  have yT0 := T0.out.cell 0
  have yT1 := T0.out.cell 1
  have yK0 := K0.out.cell 0
  have yK1 := K0.out.cell 1
  simp only [List.getElem?_toArray, List.getElem?_cons_zero, List.getElem?_cons_succ] at yT0 yT1 yK0 yK1
  have yTl := T0.out.lt
  have yKl := K0.out.lt
  have HC := Lib.hid (HCk.out _ O0.out)
  try dsimp only [TR.v, vCt] at HC
  go_upto_region 2 with (go_at_call 61; with_reducible refine HC.out.mono ?_; rintro e u1 ⟨rfl, hb⟩)
  clear yT0 yT1 yK0 yK1 yTl yKl
  clear HC
  have bn := hb
  have T1 := Lib.hid (T0.out.below bn)
  have K1 := Lib.hid (K0.out.below bn)
  have O1 := Lib.hid (O0.out.below bn)
  have HB1 := Lib.hid (HB0.out.trans (bn.mono HB0.out.size))
  clear hb bn T0 K0 O0 HB0
  by_cases hc : tc = 0
  case neg =>
    have hz : (tc != 0) = true := by simpa using hc
    have HE := Lib.hid (HEc.out hc)
    clear hc
    have yT0 := T1.out.cell 0
    have yT1 := T1.out.cell 1
    have yK0 := K1.out.cell 0
    have yK1 := K1.out.cell 1
    simp only [List.getElem?_toArray, List.getElem?_cons_zero, List.getElem?_cons_succ] at yT0 yT1 yK0 yK1
    have yTl := T1.out.lt
    have yKl := K1.out.lt
    have f0 := K1.out.frozen 0
    have f1 := K1.out.frozen 1
    go_wp2
    have hf := blk_set2 K1.out (.slice none 0 0) (.int .i64 tc)
    have x0 := hf.cell 0
    have x1 := hf.cell 1
    simp only [List.getElem?_toArray, List.getElem?_cons_zero, List.getElem?_cons_succ] at x0 x1
    refine bodyPost_ret (v := .agg #[.slice none 0 0, .int .i64 tc]) (by simp [results, Tryz.results15, go_sem, x0, x1]) rfl ⟨below_set2 HB1.out (by omega) _ _, _, by rw [HE.out.1], ?_⟩
    rw [HE.out.2]
    exact World.ownsRow_nil _ _ _ _
  case pos =>
  subst hc
  have hz : ((0 : Int) != 0) = false := by decide
  have hv := HTv.out rfl
  have HTV := Lib.hid hv
  have hm24 : m ≤ 24 := by rw [← HLm.out]; exact hv.lenM
  clear hv HTv HEc HCk
  have HRb := Lib.hid (fun (u : World) (hu : TR.Ok u ⟨A, n, c, B, m, d, hs, ms⟩) => HRa.out u hu HTV.out)
  have HEb := Lib.hid (HEa.out rfl)
  have HEy := Lib.hid (HEz.out rfl)
  obtain ⟨ab, hab⟩ : ∃ x, agrL hs ms = x := ⟨_, rfl⟩
  rw [hab] at HRb HEb HEy
  have HAb := Lib.hid hab
  clear hab HRa HEa HEz
  have yT0 := T1.out.cell 0
  have yT1 := T1.out.cell 1
  have yK0 := K1.out.cell 0
  have yK1 := K1.out.cell 1
  simp only [List.getElem?_toArray, List.getElem?_cons_zero, List.getElem?_cons_succ] at yT0 yT1 yK0 yK1
  have yTl := T1.out.lt
  have yKl := K1.out.lt
  have HC := Lib.hid (HRb.out _ O1.out)
  try dsimp only [TR.v, vCt] at HC
  go_upto_region 5 with (go_at_call 40; with_reducible refine HC.out.mono ?_; rintro e u2 ⟨rfl, hb⟩)
  clear yT0 yT1 yK0 yK1 yTl yKl
  clear HC
  have bn := hb
  have T2 := Lib.hid (T1.out.below bn)
  have K2 := Lib.hid (K1.out.below bn)
  have O2 := Lib.hid (O1.out.below bn)
  have HB2 := Lib.hid (HB1.out.trans (bn.mono HB1.out.size))
  clear hb bn T1 K1 O1 HB1
  cases ab with
  | false =>
    have HE := Lib.hid (HEb.out rfl)
    have yT0 := T2.out.cell 0
    have yT1 := T2.out.cell 1
    have yK0 := K2.out.cell 0
    have yK1 := K2.out.cell 1
    simp only [List.getElem?_toArray, List.getElem?_cons_zero, List.getElem?_cons_succ] at yT0 yT1 yK0 yK1
    have yTl := T2.out.lt
    have yKl := K2.out.lt
    have f0 := K2.out.frozen 0
    have f1 := K2.out.frozen 1
    go_wp2
    have hf := blk_set2 K2.out (.slice none 0 0) (.int .i64 9)
    have x0 := hf.cell 0
    have x1 := hf.cell 1
    simp only [List.getElem?_toArray, List.getElem?_cons_zero, List.getElem?_cons_succ] at x0 x1
    refine bodyPost_ret (v := .agg #[.slice none 0 0, .int .i64 9]) (by simp [results, Tryz.results15, go_sem, x0, x1]) rfl ⟨below_set2 HB2.out (by omega) _ _, _, by rw [HE.out.1], ?_⟩
    rw [HE.out.2]
    exact World.ownsRow_nil _ _ _ _
  | true =>
  have HZ := Lib.hid (HEy.out rfl)
  have HSt := Lib.hid (fun (k : Nat) (hk : k < ms.length) => spans_take HZ.out hk)
  have HSl := Lib.hid (show (spansL hs ms).length = m by rw [spans_len HZ.out, HLm.out])
  have HNn := Lib.hid (fun (k : Nat) (hk : k < ms.length) (v : World) (hb : Below w.heap.size w v) => by
    have q := place_mass HTV.out hk
    have r := HNr.out v (HO0.out.below hb) HTV.out (ms[k]).id q.1 HAb.out
    rw [q.2] at r
    exact r)
  clear HRb HEb HEy HNr
  go_upto_region 9 with fail
  clear hz
  have hu0 : w.heap.size + 2 ≤ u2.heap.size := K2.out.lt
  have HU0 := Lib.hid hu0
  have HTb := Lib.hid (T2.out)
  have HKb := Lib.hid (K2.out)
  have HBb := Lib.hid (HB2.out)
  generalize u2 = U at *
  clear hu0 T2 K2 O2 HB2
  go_loopw [5, 6] (fun v i wx => ∃ (k : Nat) (A' : Option Addr) (a' : Nat), k ≤ m ∧ v = .slice A' k a' ∧ i = .int .i64 (k : Int) ∧ wx.ownsRow (w.heap.size + 2) 57 2 (.slice A' k a') k (((spansL hs ms).take k).flatMap encSp) ∧ Below w.heap.size w wx ∧ w.heap.size + 2 ≤ wx.heap.size ∧ Blk wx w.heap.size 25 #[.slice A n c, .slice B m d] ∧ Blk wx (w.heap.size + 1) 33 #[.slice none 0 0, .int .i64 0]) (fun _ i _ => m - (intOf i).toNat)
  case atStart => exact ⟨0, none, 0, Nat.zero_le _, rfl, rfl, by simpa using World.ownsRow_nil _ _ _ _, HBb.out, HU0.out, HTb.out, HKb.out⟩
  case round =>
    obtain ⟨k, A', a', hk, rfl, rfl, ow, hb, hs2, ht, hkb⟩ := hrel
    have OW := Lib.hid ow
    have HLT := Lib.hid (fun (r : Nat) hr => own_lt (g := r) ow hr)
    have HBk := Lib.hid hb
    have HS2 := Lib.hid hs2
    have HTk := Lib.hid ht
    have HKk := Lib.hid hkb
    clear ow hb hs2 ht hkb
    have y0 := HTk.out.cell 0
    have y1 := HTk.out.cell 1
    simp only [List.getElem?_toArray, List.getElem?_cons_zero, List.getElem?_cons_succ] at y0 y1
    have yl := HTk.out.lt
    by_cases hkn : k < m
    case neg =>
      have HK := Lib.hid (show k = (spansL hs ms).length by have := HSl.out; omega)
      have k0 := HKk.out.cell 0
      have k1 := HKk.out.cell 1
      simp only [List.getElem?_toArray, List.getElem?_cons_zero, List.getElem?_cons_succ] at k0 k1
      have kl := HKk.out.lt
      have f0 := HKk.out.frozen 0
      have f1 := HKk.out.frozen 1
      go_wp2
      have hf := blk_set2 HKk.out (.slice A' k a') (.int .i64 0)
      have x0 := hf.cell 0
      have x1 := hf.cell 1
      simp only [List.getElem?_toArray, List.getElem?_cons_zero, List.getElem?_cons_succ] at x0 x1
      refine bodyPost_ret (v := .agg #[.slice A' k a', .int .i64 0]) (by simp [results, Tryz.results15, go_sem, x0, x1]) rfl ⟨below_set2 HBk.out (by omega) _ _, _, by rw [HZ.out], ?_⟩
      have := owns_grown OW.out (grown_set2 wr (w.heap.size + 1) (.slice A' k a') (.int .i64 0)) (fun r hr e => by have := (own_lt OW.out hr).1; have e2 := Option.some.inj e; omega)
      rw [HK.out, List.take_length] at this
      rw [HK.out]
      exact owns_weak this (by omega)
    case pos =>
      have hkl : k < ms.length := by have := HLm.out; omega
      have HNk := Lib.hid (HNn.out k hkl)
      obtain ⟨lo, hlo⟩ : ∃ x, narLo hs ms (2 * hs.length + k) = x := ⟨_, rfl⟩
      obtain ⟨hi, hhi⟩ : ∃ x, narHi hs ms (2 * hs.length + k) = x := ⟨_, rfl⟩
      have hst := HSt.out k hkl
      rw [hlo, hhi] at hst HNk
      have HSk := Lib.hid hst
      obtain ⟨bM, oM, eM, hM⟩ := HO0.out.m.at_ (by dsimp only; omega)
      dsimp only at eM
      subst eM
      have HMl := Lib.hid hM
      have HAt := Lib.hid (List.getElem?_eq_getElem hkl)
      obtain ⟨x, hx⟩ : ∃ x, ms[k]'hkl = x := ⟨_, rfl⟩
      rw [hx] at HNk HAt
      clear hst hM hx hlo hhi
      go_upto_region 11 with fail
      clear y0 y1 yl
      refine wp_region_preC 12 [(10, 35), (11, 36)] (fun v' => Below w.heap.size w v' ∧ w.heap.size + 2 ≤ v'.heap.size ∧ Blk v' w.heap.size 25 #[.slice A n c, .slice (some ⟨bM, oM, none⟩) m d] ∧ Blk v' (w.heap.size + 1) 33 #[.slice none 0 0, .int .i64 0]) (OneRow 57 2 (w.heap.size + 2) k 10 11 (.slice A' k a') (((spansL hs ms).take k).flatMap encSp) [.int .i64 lo, .int .i64 hi]) (by kernel_rfl) (by kernel_rfl) ?hw ?hC ?h0 ?hP ?ex
      case hw => exact ⟨HBk.out, HS2.out, HTk.out, HKk.out⟩
      case hC =>
        rintro v1 v2 ⟨h0, hb0, qt, qc⟩ kk
        exact ⟨h0.trans (kk.mono h0.size), Nat.le_trans hb0 kk.size, qt.below kk, qc.below kk⟩
      case h0 =>
        intro v' hv'
        refine OneRow.below (W := wr) ?_ hv'
        exact ⟨by simpa using OW.out, fun h => (by cases h)⟩
      case hP => exact fun ls vs v v' _ h kk => h.below kk
      case ex =>
        apply Exists.intro
        refine ⟨?walk, ?loud⟩
        case walk =>
          rintro V ⟨h0, hb0, qt, qc⟩
          have y0 := qt.cell 0
          have y1 := qt.cell 1
          simp only [List.getElem?_toArray, List.getElem?_cons_zero, List.getElem?_cons_succ] at y0 y1
          have yl := qt.lt
          have hl2 := HMl.out.below h0
          obtain ⟨u0, u1, u2, u3, u4⟩ := Mvs.at_ hl2 HAt.out
          have ul := hl2.lt
          have HH0 := Lib.hid h0
          clear hl2 u1 u2 u3 u4 h0 hb0 qt qc
          obtain ⟨xc, xf'⟩ := xcell (W := V)
          simp only [List.take_succ_cons, List.take_zero, qOf, isLoud, List.any_cons, List.any_nil, Nat.reduceBEq, Bool.or_false, Bool.or_true, Nat.reduceAdd, Bool.false_eq_true, if_true, if_false, beq_self_eq_true, Nat.zero_add]
          repeat (first | go_big_quiet_step ((go_at_call 62; with_reducible refine calls_ext (HNk.out _ ?_); exact HH0.out.trans ((Ext.below _).mono HH0.out.size))) | quiet_step ((go_at_call 62; with_reducible refine calls_ext (HNk.out _ ?_); exact HH0.out.trans ((Ext.below _).mono HH0.out.size))))
          exact wpQuiet_nil rfl
        case loud =>
          simp only [List.drop_succ_cons, List.drop_zero]
          refine ⟨?_, ?_⟩
          · rintro p hp vs' V ⟨h0, hb0, qt, qc⟩ ls hI hls hw o ho
            simp only [List.mem_cons, List.not_mem_nil, or_false] at hp
            rcases hp with rfl | rfl
            · simp only [List.getElem?_cons_succ, List.getElem?_cons_zero, Option.some.injEq] at ho
              subst ho
              simp [loudAt, loudUpon, go_sem, execOp, putsL, Act.put]
              exact ⟨⟨h0.alloc h0.size _, by omega, qt.alloc _, qc.alloc _⟩, hI.lay (by decide)⟩
            · have h9 := hw (10, 35) (by simp) (by kernel_rfl)
              obtain ⟨g', e, hbk⟩ := hI.new h9 hls
              have hrow := hI.row
              have h8 := hls
              simp only [h8, cond_false, Nat.add_zero, List.append_nil] at hrow
              simp only [List.getElem?_cons_succ, List.getElem?_cons_zero, Option.some.injEq] at ho
              subst ho
              refine loudAt_append (.tmp 25) (.tmp 35) 28 rfl (w.heap.size + 2) 57 ii (.agg #[.int .i64 0, .int .i64 0]) 2 16 Tryz.underlying28 HII.out.1 HII.out.2.1 HII.out.2.2.1 HII.out.2.2.2 rfl (by decide) (.slice A' k a') k (((spansL hs ms).take k).flatMap encSp) rfl hrow ⟨g', 0, none⟩ 1 1 [.int .i64 lo, .int .i64 hi] e rfl ?c1 (one_intsL [lo, hi]) (by unfold maxLen; omega) (by omega) hb0 ?_
              case c1 =>
                have g0 := hbk.cell 0
                have g1 := hbk.cell 1
                simp only [List.getElem?_toArray, List.getElem?_cons_zero, List.getElem?_cons_succ] at g0 g1
                intro j' u hj'
                match j', hj' with
                | 0, hj' => simp at hj'; subst hj'; simpa [Addr.add] using g0
                | 1, hj' => simp at hj'; subst hj'; simpa [Addr.add] using g1
              intro v' w3 hown' hgrow hat
              refine ⟨⟨h0.grown hgrow h0.size (fun kk hk => by have := (own_lt hrow hk).1; omega), Nat.le_trans hb0 hgrow.size, qt.grown hgrow (fun h => by have := (own_lt hrow h).1; omega), qc.grown hgrow (fun h => by have := (own_lt hrow h).1; omega)⟩, hI.app v' hown'⟩
          · rintro ls vs' V22 ⟨B22, hbase22, t_22, c_22⟩ hI hls
            have h8 := hls (11, 36) (by simp)
            have hrow := hI.row
            simp only [h8, cond_true] at hrow
            have HN := Lib.hid hrow
            clear hrow hI hls h8
            simp only [putsL, List.foldl_cons, List.foldl_nil, Act.put, List.setIfInBounds_toArray, List.set_cons_succ, List.set_cons_zero]
            generalize vs' 11 = v18 at *
            generalize vs' 10 = v17 at *
            obtain ⟨g', cap', rfl⟩ := ownsRow_succ HN.out
            have HB22 := Lib.hid B22
            have HT22 := Lib.hid t_22
            have HC22 := Lib.hid c_22
            clear B22 t_22 c_22
            go_wp2
            go_roundw
            case rel =>
              refine ⟨k + 1, some ⟨g', 0, none⟩, cap', by omega, rfl, by go_num, ?_, HB22.out, hbase22, HT22.out, HC22.out⟩
              rw [HSk.out, List.flatMap_append]
              exact HN.out
            case measure => simp [intOf]; omega
end Go.Proofs.YtighfmgkoepfkaaGreat

namespace Go.Proofs.YtighfmgkoepfkaaGreat
open Go.RowKit

/-- What Narrowed makes of a holder, and of a movement. -/
def fNs (hs : List Hd) (ms : List Mv) (x : Hd) : Hd := setS (narLo hs ms (posN hs x.id)) (narHi hs ms (posN hs x.id)) x
def fN (hs : List Hd) (ms : List Mv) (x : Hd) : Hd := setE (narLo hs ms (hs.length + posN hs x.id)) (narHi hs ms (hs.length + posN hs x.id)) (fNs hs ms x)
def fNm (hs : List Hd) (ms : List Mv) (x : Mv) : Mv := setM (narLo hs ms (2 * hs.length + posM ms x.id)) (narHi hs ms (2 * hs.length + posM ms x.id)) x
theorem narH_map {hs : List Hd} {ms : List Mv} (hn : (hs.map Hd.id).Nodup) : hs.map (fN hs ms) = narH hs ms := by
  rw [narH_eq]
  apply List.ext_getElem (by simp)
  intro i h1 h2
  have hi : i < hs.length := by simpa using h1
  rw [List.getElem_map, List.getElem_map, List.getElem_range]
  unfold fN fNs nH
  rw [nodup_ids.1 hn i hi, hat_eq hi]
  rfl
theorem narM_map {hs : List Hd} {ms : List Mv} (hn : (ms.map Mv.id).Nodup) : ms.map (fNm hs ms) = narM hs ms := by
  rw [narM_eq]
  apply List.ext_getElem (by simp)
  intro i h1 h2
  have hi : i < ms.length := by simpa using h1
  rw [List.getElem_map, List.getElem_map, List.getElem_range]
  unfold fNm nM
  rw [posM_self hn hi, mat_eq hi]
  rfl
theorem place_hd {hs : List Hd} {ms : List Mv} (hv : TV hs ms) {k : Nat} (hk : k < hs.length) : placeE hs ms 2 (hs[k]).id = 0 ∧ placeN hs ms 2 (hs[k]).id = posN hs (hs[k]).id ∧ placeE hs ms 3 (hs[k]).id = 0 ∧ placeN hs ms 3 (hs[k]).id = hs.length + posN hs (hs[k]).id := by
  have := nodup_ids.1 hv.ids k hk
  unfold placeE placeN
  simp [this, hk]
theorem place_mass2 {hs : List Hd} {ms : List Mv} (hv : TV hs ms) {k : Nat} (hk : k < ms.length) : placeE hs ms 1 (ms[k]).id = 0 ∧ placeN hs ms 1 (ms[k]).id = 2 * hs.length + posM ms (ms[k]).id := by
  have := posM_self hv.mids hk
  unfold placeE placeN
  rw [if_pos rfl, if_pos rfl, this, if_pos hk]
  exact ⟨rfl, rfl⟩
set_option maxRecDepth 100000 in
set_option maxHeartbeats 12800000 in
theorem RNarrowed_any (t : TR) (w : World) (h : t.Ok w) : Calls Tryz.prog 17 #[t.v] w fun e w' => ∃ v1 v2, e = .returned (.agg #[v1, v2, .int .i64 (nwE t.hs t.ms)]) ∧ OwnT w' w.heap.size v1 v2 (nwH t.hs t.ms) (nwM t.hs t.ms) ∧ Below w.heap.size w w' := by
  obtain ⟨A, n, c, B, m, d, hs, ms⟩ := t
  have HCk := Lib.hid (fun (u : World) (hu : TR.Ok u ⟨A, n, c, B, m, d, hs, ms⟩) => RCheck_any ⟨A, n, c, B, m, d, hs, ms⟩ u hu)
  have HRa := Lib.hid (fun (u : World) (hu : TR.Ok u ⟨A, n, c, B, m, d, hs, ms⟩) (hv : TV hs ms) => RAgrees_any ⟨A, n, c, B, m, d, hs, ms⟩ u hu hv)
  have HNr := Lib.hid (fun (u : World) (hu : TR.Ok u ⟨A, n, c, B, m, d, hs, ms⟩) (hv : TV hs ms) (kind id : Int) (hp : placeE hs ms kind id = 0) (ha : agrL hs ms = true) => narrow_any ⟨A, n, c, B, m, d, hs, ms⟩ kind id u hu hv hp ha)
  have HOk := Lib.hid h
  have HLh := Lib.hid (show hs.length = n from h.h.len)
  have HLm := Lib.hid (show ms.length = m from h.m.len)
  dsimp only [TR.v, vAt, vSp] at *
  have HEc := Lib.hid (fun q : tcheck hs ms ≠ 0 => (show nwE hs ms = tcheck hs ms ∧ nwH hs ms = [] ∧ nwM hs ms = [] by
    have e : nwE hs ms = tcheck hs ms := by unfold nwE; rw [if_pos q]
    exact ⟨e, by unfold nwH; rw [if_neg (by rw [e]; exact q)], by unfold nwM; rw [if_neg (by rw [e]; exact q)]⟩))
  have HEa := Lib.hid (fun (q : tcheck hs ms = 0) (a : agrL hs ms = false) => (show nwE hs ms = 9 ∧ nwH hs ms = [] ∧ nwM hs ms = [] by
    have e : nwE hs ms = 9 := by unfold nwE; rw [if_neg (by simpa using q), if_pos a]
    exact ⟨e, by unfold nwH; rw [if_neg (by rw [e]; decide)], by unfold nwM; rw [if_neg (by rw [e]; decide)]⟩))
  have HEz := Lib.hid (fun (q : tcheck hs ms = 0) (a : agrL hs ms = true) => nwE_of q a)
  have HTv := Lib.hid (show tcheck hs ms = 0 → TV hs ms from tcheck_zero.1)
  obtain ⟨tc, htc⟩ : ∃ x, tcheck hs ms = x := ⟨_, rfl⟩
  rw [htc] at HEc HEa HEz HTv HCk
  clear htc
  have HB0 : Hid (Below w.heap.size w ((w.alloc (.cells #[.slice A n c, .slice B m d] 25)).alloc (.cells #[.slice none 0 0, .slice none 0 0, .int .i64 0] 38))) := Lib.hid (((Below.refl w.heap.size w).alloc (Nat.le_refl _) _).alloc (by simp) _)
  have T0 : Hid (Blk ((w.alloc (.cells #[.slice A n c, .slice B m d] 25)).alloc (.cells #[.slice none 0 0, .slice none 0 0, .int .i64 0] 38)) w.heap.size 25 #[.slice A n c, .slice B m d]) := Lib.hid ((Blk.at_new 25 #[.slice A n c, .slice B m d] rfl).alloc _)
  have K0 : Hid (Blk ((w.alloc (.cells #[.slice A n c, .slice B m d] 25)).alloc (.cells #[.slice none 0 0, .slice none 0 0, .int .i64 0] 38)) (w.heap.size + 1) 38 #[.slice none 0 0, .slice none 0 0, .int .i64 0]) := Lib.hid (Blk.at_new 38 #[.slice none 0 0, .slice none 0 0, .int .i64 0] (by simp))
  have O0 := Lib.hid ((h).below HB0.out)
  go_enter Tryz.func17, Tryz.ntmps17
  go_upto_region 1 with fail
  generalize hV : (w.alloc (.cells #[.slice A n c, .slice B m d] 25)).alloc (.cells #[.slice none 0 0, .slice none 0 0, .int .i64 0] 38) = V0 at *
  clear hV
  clear h
  have yT0 := T0.out.cell 0
  have yT1 := T0.out.cell 1
  have yK0 := K0.out.cell 0
  have yK1 := K0.out.cell 1
  have yK2 := K0.out.cell 2
  simp only [List.getElem?_toArray, List.getElem?_cons_zero, List.getElem?_cons_succ] at yT0 yT1 yK0 yK1 yK2
  have yTl := T0.out.lt
  have yKl := K0.out.lt
  have HC := Lib.hid (HCk.out _ O0.out)
  try dsimp only [TR.v, vCt] at HC
  go_upto_region 2 with (go_at_call 61; with_reducible refine HC.out.mono ?_; rintro e u1 ⟨rfl, hb⟩)
  clear yT0 yT1 yK0 yK1 yK2 yTl yKl
  clear HC
  have bn := hb
  have T1 := Lib.hid (T0.out.below bn)
  have K1 := Lib.hid (K0.out.below bn)
  have O1 := Lib.hid (O0.out.below bn)
  have HB1 := Lib.hid (HB0.out.trans (bn.mono HB0.out.size))
  clear hb bn T0 K0 O0 HB0
  by_cases hc : tc = 0
  case neg =>
    have hz : (tc != 0) = true := by simpa using hc
    have HE := Lib.hid (HEc.out hc)
    clear hc
    have yT0 := T1.out.cell 0
    have yT1 := T1.out.cell 1
    have yK0 := K1.out.cell 0
    have yK1 := K1.out.cell 1
    have yK2 := K1.out.cell 2
    simp only [List.getElem?_toArray, List.getElem?_cons_zero, List.getElem?_cons_succ] at yT0 yT1 yK0 yK1 yK2
    have yTl := T1.out.lt
    have yKl := K1.out.lt
    have f0 := K1.out.frozen 0
    have f1 := K1.out.frozen 1
    have f2 := K1.out.frozen 2
    go_wp2
    have hf := blk_set3 K1.out (.slice none 0 0) (.slice none 0 0) (.int .i64 tc)
    have x0 := hf.cell 0
    have x1 := hf.cell 1
    have x2 := hf.cell 2
    simp only [List.getElem?_toArray, List.getElem?_cons_zero, List.getElem?_cons_succ] at x0 x1 x2
    refine bodyPost_ret (v := .agg #[.slice none 0 0, .slice none 0 0, .int .i64 tc]) (by simp [results, Tryz.results17, go_sem, x0, x1, x2]) rfl ⟨_, _, by rw [HE.out.1], ?_, below_set3 HB1.out (by omega) _ _ _⟩
    rw [HE.out.2.1, HE.out.2.2]
    exact OwnT.nil _ _
  case pos =>
  subst hc
  have hz : ((0 : Int) != 0) = false := by decide
  have hv := HTv.out rfl
  have HTV := Lib.hid hv
  have hn9 : n ≤ 9 := by rw [← HLh.out]; exact hv.lenH
  have hm24 : m ≤ 24 := by rw [← HLm.out]; exact hv.lenM
  clear hv HTv HEc HCk
  have HRb := Lib.hid (fun (u : World) (hu : TR.Ok u ⟨A, n, c, B, m, d, hs, ms⟩) => HRa.out u hu HTV.out)
  have HEb := Lib.hid (HEa.out rfl)
  have HEy := Lib.hid (HEz.out rfl)
  obtain ⟨ab, hab⟩ : ∃ x, agrL hs ms = x := ⟨_, rfl⟩
  rw [hab] at HRb HEb HEy
  have HAb := Lib.hid hab
  clear hab HRa HEa HEz
  have yT0 := T1.out.cell 0
  have yT1 := T1.out.cell 1
  have yK0 := K1.out.cell 0
  have yK1 := K1.out.cell 1
  have yK2 := K1.out.cell 2
  simp only [List.getElem?_toArray, List.getElem?_cons_zero, List.getElem?_cons_succ] at yT0 yT1 yK0 yK1 yK2
  have yTl := T1.out.lt
  have yKl := K1.out.lt
  have HC := Lib.hid (HRb.out _ O1.out)
  try dsimp only [TR.v, vCt] at HC
  go_upto_region 5 with (go_at_call 40; with_reducible refine HC.out.mono ?_; rintro e u2 ⟨rfl, hb⟩)
  clear yT0 yT1 yK0 yK1 yK2 yTl yKl
  clear HC
  have bn := hb
  have T2 := Lib.hid (T1.out.below bn)
  have K2 := Lib.hid (K1.out.below bn)
  have O2 := Lib.hid (O1.out.below bn)
  have HB2 := Lib.hid (HB1.out.trans (bn.mono HB1.out.size))
  clear hb bn T1 K1 O1 HB1
  cases ab with
  | false =>
    have HE := Lib.hid (HEb.out rfl)
    have yT0 := T2.out.cell 0
    have yT1 := T2.out.cell 1
    have yK0 := K2.out.cell 0
    have yK1 := K2.out.cell 1
    have yK2 := K2.out.cell 2
    simp only [List.getElem?_toArray, List.getElem?_cons_zero, List.getElem?_cons_succ] at yT0 yT1 yK0 yK1 yK2
    have yTl := T2.out.lt
    have yKl := K2.out.lt
    have f0 := K2.out.frozen 0
    have f1 := K2.out.frozen 1
    have f2 := K2.out.frozen 2
    go_wp2
    have hf := blk_set3 K2.out (.slice none 0 0) (.slice none 0 0) (.int .i64 9)
    have x0 := hf.cell 0
    have x1 := hf.cell 1
    have x2 := hf.cell 2
    simp only [List.getElem?_toArray, List.getElem?_cons_zero, List.getElem?_cons_succ] at x0 x1 x2
    refine bodyPost_ret (v := .agg #[.slice none 0 0, .slice none 0 0, .int .i64 9]) (by simp [results, Tryz.results17, go_sem, x0, x1, x2]) rfl ⟨_, _, by rw [HE.out.1], ?_, below_set3 HB2.out (by omega) _ _ _⟩
    rw [HE.out.2.1, HE.out.2.2]
    exact OwnT.nil _ _
  | true =>
  have HZ := Lib.hid (HEy.out rfl)
  have HNs := Lib.hid (fun (j : Nat) (hj : j < hs.length) (v : World) (hb : Below w.heap.size w v) => by
    have q := place_hd HTV.out hj
    have r := HNr.out v (HOk.out.below hb) HTV.out 2 (hs[j]).id q.1 HAb.out
    rw [q.2.1] at r
    exact r)
  have HNe := Lib.hid (fun (j : Nat) (hj : j < hs.length) (v : World) (hb : Below w.heap.size w v) => by
    have q := place_hd HTV.out hj
    have r := HNr.out v (HOk.out.below hb) HTV.out 3 (hs[j]).id q.2.2.1 HAb.out
    rw [q.2.2.2] at r
    exact r)
  have HNm := Lib.hid (fun (j : Nat) (hj : j < ms.length) (v : World) (hb : Below w.heap.size w v) => by
    have q := place_mass2 HTV.out hj
    have r := HNr.out v (HOk.out.below hb) HTV.out 1 (ms[j]).id q.1 HAb.out
    rw [q.2] at r
    exact r)
  have HFh := Lib.hid (narH_map (ms := ms) HTV.out.ids)
  have HFm := Lib.hid (narM_map (hs := hs) HTV.out.mids)
  clear HRb HEb HEy HNr
  go_upto_region 7 with fail
  clear hz
  have hu0 : w.heap.size + 2 ≤ u2.heap.size := K2.out.lt
  have HT0 := Lib.hid (T2.out)
  have HR0 := Lib.hid (K2.out)
  have HBw := Lib.hid (HB2.out)
  generalize u2 = W at *
  have HWs := Lib.hid hu0
  clear hu0 T2 K2 O2 HB2
  obtain ⟨i0, hi0, hi1, hi2, hi3⟩ := info_parts info_hd
  obtain ⟨i1, hj0, hj1, hj2, hj3⟩ := info_parts info_mv
  have HIh := Lib.hid (And.intro hi0 (And.intro hi1 (And.intro hi2 hi3)))
  have HIm := Lib.hid (And.intro hj0 (And.intro hj1 (And.intro hj2 hj3)))
  clear hi0 hi1 hi2 hi3 hj0 hj1 hj2 hj3
  refine wp_region_preC 10 [(0, 20), (3, 23), (4, 24), (7, 27), (8, 28), (9, 5)] (fun v => Below W.heap.size W v) (CpP W.heap.size n m hs ms) (by kernel_rfl) (by kernel_rfl) (Below.refl _ _) (fun v v' h kk => h.trans (kk.mono h.size)) (fun v _ => CpP.init) (fun ls vs v v' _ h kk => h.below kk) ?_
  apply Exists.intro
  refine ⟨?walk, ?loud, ?last⟩
  case walk =>
    intro V hV
    have HTv := HT0.out.below hV
    have y0 := HTv.cell 0
    have y1 := HTv.cell 1
    simp only [List.getElem?_toArray, List.getElem?_cons_zero, List.getElem?_cons_succ] at y0 y1
    have yl := HTv.lt
    clear HTv
    obtain ⟨xc, xf'⟩ := xcell (W := V)
    simp only [List.take_succ_cons, List.take_zero, qOf, isLoud, List.any_cons, List.any_nil, Nat.reduceBEq, Bool.or_false, Bool.or_true, Nat.reduceAdd, Bool.false_eq_true, if_true, if_false, beq_self_eq_true, Nat.zero_add]
    repeat (first | go_big_quiet_step (fail) | quiet_step (fail))
    exact wpQuiet_nil rfl
  case loud =>
    rintro pp hpp vs v hC ls hI hls hw o ho
    simp only [List.mem_cons, List.not_mem_nil, or_false] at hpp
    rcases hpp with rfl | rfl | rfl | rfl | rfl | rfl
    · simp only [List.getElem?_cons_zero, Option.some.injEq] at ho
      subst ho
      simp [loudAt, loudUpon, go_sem, execOp, putsL, Act.put]
      exact ⟨hC.alloc hC.size _, hI.s0 hC.size⟩
    · have r0 := hI.b0 (hw (0, 20) (by simp) (by kernel_rfl)) hls
      simp only [List.getElem?_cons_succ, List.getElem?_cons_zero, Option.some.injEq] at ho
      subst ho
      cases A with
      | none =>
        obtain rfl : n = 0 := by
          refine Nat.eq_zero_of_not_pos fun q => ?_
          obtain ⟨b, off, e, _⟩ := HOk.out.h.at_ q
          cases e
        obtain rfl : hs = [] := List.eq_nil_of_length_eq_zero HLh.out
        exact loudAt_append_nil (.tmp 20) (.tmp 22) 22 rfl W.heap.size 118 i0 6 Tryz.underlying22 HIh.out.1 (vs 0) 0 [] rfl r0 c rfl ⟨hC, hI.s3 hls r0 (grown_refl _ _) (by simpa using r0)⟩
      | some a =>
        have hf := ((HOk.out.h.below HBw.out).below hC).flat encH_len (by decide)
        refine loudAt_append (.tmp 20) (.tmp 22) 22 rfl W.heap.size 118 i0 (.agg #[.int .i64 0, .int .i64 0, .int .i64 0, .int .i64 0, .int .i64 0, .int .i64 0]) 6 48 Tryz.underlying22 HIh.out.1 HIh.out.2.1 HIh.out.2.2.1 HIh.out.2.2.2 rfl (by decide) (vs 0) 0 [] rfl r0 a n c (hs.flatMap encH) rfl (by rw [flat_len encH_len, HLh.out]) hf (encH_one hs) (by unfold maxLen; omega) (by omega) hC.size ?_
        intro v' w3 hown hgrow hat
        exact ⟨hC.grown hgrow hC.size (fun r hr => (own_lt r0 hr).1), hI.s3 hls r0 hgrow (by simpa using hown)⟩
    · simp only [List.getElem?_cons_succ, List.getElem?_cons_zero, Option.some.injEq] at ho
      subst ho
      simp [loudAt, loudUpon, go_sem, execOp, putsL, Act.put]
      exact ⟨hC.alloc hC.size _, hI.s4 hC.size⟩
    · have r0 := hI.b4 (hw (4, 24) (by simp) (by kernel_rfl)) hls
      simp only [List.getElem?_cons_succ, List.getElem?_cons_zero, Option.some.injEq] at ho
      subst ho
      cases B with
      | none =>
        obtain rfl : m = 0 := by
          refine Nat.eq_zero_of_not_pos fun q => ?_
          obtain ⟨b, off, e, _⟩ := HOk.out.m.at_ q
          cases e
        obtain rfl : ms = [] := List.eq_nil_of_length_eq_zero HLm.out
        exact loudAt_append_nil (.tmp 24) (.tmp 26) 23 rfl W.heap.size 59 i1 5 Tryz.underlying23 HIm.out.1 (vs 4) 0 [] rfl r0 d rfl ⟨hC, hI.s7 hls r0 (grown_refl _ _) (by simpa using r0)⟩
      | some a =>
        have hf := ((HOk.out.m.below HBw.out).below hC).flat encM_len (by decide)
        refine loudAt_append (.tmp 24) (.tmp 26) 23 rfl W.heap.size 59 i1 (.agg #[.int .i64 0, .int .i64 0, .int .i64 0, .int .i64 0, .int .i64 0]) 5 40 Tryz.underlying23 HIm.out.1 HIm.out.2.1 HIm.out.2.2.1 HIm.out.2.2.2 rfl (by decide) (vs 4) 0 [] rfl r0 a m d (ms.flatMap encM) rfl (by rw [flat_len encM_len, HLm.out]) hf (encM_one ms) (by unfold maxLen; omega) (by omega) hC.size ?_
        intro v' w3 hown hgrow hat
        exact ⟨hC.grown hgrow hC.size (fun r hr => (own_lt r0 hr).1), hI.s7 hls r0 hgrow (by simpa using hown)⟩
    · have h3 := hw (3, 23) (by simp) (by kernel_rfl)
      have h7 := hw (7, 27) (by simp) (by kernel_rfl)
      obtain ⟨A1, c1, e3⟩ := owns_slice (hI.r3 h3)
      obtain ⟨B1, d1, e7⟩ := owns_slice (hI.r7 h7)
      have hI8 := hI.s8 h3 h7
      simp only [List.getElem?_cons_succ, List.getElem?_cons_zero, Option.some.injEq] at ho
      subst ho
      simp [loudAt, loudUpon, go_sem, execOp, putsL, Act.put, e3, e7]
      rw [e3, e7] at hI8
      exact ⟨hC, hI8⟩
    · simp only [List.getElem?_cons_succ, List.getElem?_cons_zero, Option.some.injEq] at ho
      subst ho
      simp [loudAt, loudUpon, go_sem, execOp]
      exact ⟨hC.alloc hC.size _, hI.s9 hC.size⟩
  case last =>
  rintro ls vs V hV hI hls
  have r3 := hI.r3 (hls (3, 23) (by simp))
  have r7 := hI.r7 (hls (7, 27) (by simp))
  obtain ⟨-, -, e8⟩ := hI.p8 (hls (8, 28) (by simp))
  obtain ⟨g, e9, hgL, hbk⟩ := hI.p9 (hls (9, 5) (by simp))
  obtain ⟨A1, c1, e3⟩ := owns_slice r3
  obtain ⟨B1, d1, e7⟩ := owns_slice r7
  rw [e3, e7] at e8
  rw [e3] at r3
  rw [e7] at r7
  have HVb := Lib.hid hV
  have HVg := Lib.hid hgL
  have HVk := Lib.hid hbk
  have HVh := Lib.hid r3
  have HVm := Lib.hid r7
  clear hI hls hV hgL hbk r3 r7
  simp only [putsL, List.foldl_cons, List.foldl_nil, List.drop_succ_cons, List.drop_zero, Act.put, e3, e7, e8, e9, List.setIfInBounds_toArray, List.set_cons_succ, List.set_cons_zero]
  generalize vs 0 = v0 at *
  generalize vs 4 = v4 at *
  clear e3 e7 e8 e9
  have k0 := HVk.out.cell 0
  have k1 := HVk.out.cell 1
  simp only [List.getElem?_toArray, List.getElem?_cons_zero, List.getElem?_cons_succ] at k0 k1
  have kl := HVk.out.lt
  have kf0 := HVk.out.frozen 0
  have kf1 := HVk.out.frozen 1
  have hWs := HWs.out
  have hgL := HVg.out
  have hgr := grown_set2 V g (.slice A1 n c1) (.slice B1 m d1)
  have hnh := own_ne HVh.out HVk.out (by decide)
  have hnm := own_ne HVm.out HVk.out (by decide)
  have HB1 := Lib.hid (below_set2 (HBw.out.trans (HVb.out.mono HBw.out.size)) (g := g) (by omega) (.slice A1 n c1) (.slice B1 m d1))
  have HT1 := Lib.hid ((HT0.out.below HVb.out).grown hgr (fun e => by have e2 := Option.some.inj e; omega))
  have HR1 := Lib.hid ((HR0.out.below HVb.out).grown hgr (fun e => by have e2 := Option.some.inj e; omega))
  have HQ1 := Lib.hid (blk_set2 HVk.out (.slice A1 n c1) (.slice B1 m d1))
  have HH1 := Lib.hid (owns_grown HVh.out hgr (fun r hr e => hnh (by rw [hr, ← e])))
  have HM1 := Lib.hid (owns_grown HVm.out hgr (fun r hr e => hnm (by rw [hr, ← e])))
  clear hgr hnh hnm HVb HVk HVh HVm HBw HT0 HR0
  go_upto_region 9 with fail
  clear k0 k1 kl kf0 kf1
  generalize hV1 : (V.setCell ⟨g, 0, none⟩ (.slice A1 n c1)).setCell ⟨g, 1, none⟩ (.slice B1 m d1) = V1 at *
  generalize hL : W.heap.size = L at *
  have HVg2 := Lib.hid hgL
  have HWs2 := Lib.hid hWs
  clear hV1 hL HVg HWs hgL hWs
  go_loopw [6] (fun i wx => ∃ j : Nat, j ≤ n ∧ i = .int .i64 (j : Int) ∧ wx.ownsRow L 118 6 (.slice A1 n c1) n ((mapT (fN hs ms) hs j).flatMap encH) ∧ wx.ownsRow L 59 5 (.slice B1 m d1) m (ms.flatMap encM) ∧ Below w.heap.size w wx ∧ Blk wx w.heap.size 25 #[.slice A n c, .slice B m d] ∧ Blk wx (w.heap.size + 1) 38 #[.slice none 0 0, .slice none 0 0, .int .i64 0] ∧ Blk wx g 25 #[.slice A1 n c1, .slice B1 m d1]) (fun i _ => n - (intOf i).toNat)
  case atStart => exact ⟨0, Nat.zero_le _, rfl, by rw [mapT_zero]; exact HH1.out, HM1.out, HB1.out, HT1.out, HR1.out, HQ1.out⟩
  case round =>
    clear HM1 HH1 HB1 HT1 HR1 HQ1
    obtain ⟨j, hj, rfl, oh, om, hb, ht, hr, hq⟩ := hrel
    have OM := Lib.hid om
    have OH := Lib.hid oh
    have HBk := Lib.hid hb
    have HTk := Lib.hid ht
    have HRk := Lib.hid hr
    have HQk := Lib.hid hq
    clear om oh hb ht hr hq
    have y0 := HTk.out.cell 0
    have y1 := HTk.out.cell 1
    have q0 := HQk.out.cell 0
    have q1 := HQk.out.cell 1
    simp only [List.getElem?_toArray, List.getElem?_cons_zero, List.getElem?_cons_succ] at y0 y1 q0 q1
    have yl := HTk.out.lt
    have ql := HQk.out.lt
    by_cases hjn : j < n
    case pos =>
      have hjl : j < hs.length := by rw [HLh.out]; exact hjn
      obtain ⟨ga, hga'⟩ := form_some OH.out
      obtain rfl := hga' (by omega)
      have hrow := Ls_of_row (enc := encH) (zs := mapT (fN hs ms) hs j) encH_len (by rw [mapT_len]; exact HLh.out) OH.out
      obtain ⟨u0, u1, u2, u3, u4, u5⟩ := Hds.at_ hrow (List.getElem?_eq_getElem (by rw [mapT_len]; exact hjl))
      rw [mapT_at hjl] at u0 u1 u2 u3 u4 u5
      simp only [Nat.zero_add] at u0 u1 u2 u3 u4 u5
      have ul := hrow.lt
      have HS12 := Lib.hid (HNs.out j hjl)
      have HE13 := Lib.hid (HNe.out j hjl)
      have hst := mapT_step (f := fN hs ms) hjl
      unfold fN fNs at hst
      obtain ⟨x, hx⟩ : ∃ x, hs[j] = x := ⟨_, rfl⟩
      rw [hx] at u0 u1 u2 u3 u4 u5 HS12 HE13 hst
      obtain ⟨lo, hlo⟩ : ∃ y, narLo hs ms (posN hs x.id) = y := ⟨_, rfl⟩
      obtain ⟨hi, hhi⟩ : ∃ y, narHi hs ms (posN hs x.id) = y := ⟨_, rfl⟩
      obtain ⟨lo2, hlo2⟩ : ∃ y, narLo hs ms (hs.length + posN hs x.id) = y := ⟨_, rfl⟩
      obtain ⟨hi2, hhi2⟩ : ∃ y, narHi hs ms (hs.length + posN hs x.id) = y := ⟨_, rfl⟩
      rw [hlo, hhi] at HS12 hst
      rw [hlo2, hhi2] at HE13 hst
      have HMe := Lib.hid (show hs[j]'hjl = x from hx)
      have HSt : Hid (mapT (fN hs ms) hs (j + 1) = (mapT (fN hs ms) hs j).set j (setE lo2 hi2 (setS lo hi x))) := Lib.hid hst
      obtain ⟨xi, xsl, xsh, xel, xeh, xbk⟩ := x
      dsimp only at u0 u1 u2 u3 u4 u5 HS12 HE13
      clear hrow hx hga' hst hlo hhi hlo2 hhi2 u1 u2 u3 u4 u5
      go_upto_region 12 with fail
      obtain ⟨xc, xf'⟩ := xcell (W := wr)
      refine wp_region_quiet_tail 9 (by kernel_rfl) (by kernel_rfl) ?_
      simp only [List.take_succ_cons, List.take_zero, List.drop_succ_cons, List.drop_zero]
      repeat (first | go_big_quiet_step ((go_at_call 62; with_reducible refine calls_ext (HS12.out _ ?_); exact HBk.out.trans ((Ext.below _).mono HBk.out.size))) | quiet_step ((go_at_call 62; with_reducible refine calls_ext (HS12.out _ ?_); exact HBk.out.trans ((Ext.below _).mono HBk.out.size))))
      refine wpQuiet_nil ?_
      intro w5 hb5
      have OM5 := Lib.hid (owns_below OM.out hb5)
      have OH5 := Lib.hid (owns_below OH.out hb5)
      have HBk5 := Lib.hid (HBk.out.trans (hb5.mono HBk.out.size))
      have HTk5 := Lib.hid (HTk.out.below hb5)
      have HRk5 := Lib.hid (HRk.out.below hb5)
      have HQk5 := Lib.hid (HQk.out.below hb5)
      clear y0 y1 q0 q1 yl ql u0 ul xc xf' hb5
      have q0 := HQk5.out.cell 0
      have q1 := HQk5.out.cell 1
      have y0 := HTk5.out.cell 0
      have y1 := HTk5.out.cell 1
      simp only [List.getElem?_toArray, List.getElem?_cons_zero, List.getElem?_cons_succ] at q0 q1 y0 y1
      have ql := HQk5.out.lt
      have yl := HTk5.out.lt
      have hrow := Ls_of_row (enc := encH) (zs := mapT (fN hs ms) hs j) encH_len (by rw [mapT_len]; exact HLh.out) OH5.out
      obtain ⟨u0, u1, u2, u3, u4, u5⟩ := Hds.at_ hrow (List.getElem?_eq_getElem (by rw [mapT_len]; exact hjl))
      rw [mapT_at hjl, HMe.out] at u0 u1 u2 u3 u4 u5
      simp only [Nat.zero_add] at u0 u1 u2 u3 u4 u5
      have ul := hrow.lt
      clear hrow
      obtain ⟨cur0, hb0⟩ := own_blk OH5.out (g := ga) rfl
      have fb1 : w5.frozen? ⟨ga, j * 6 + 1, none⟩ = false := Blk.frozen (show Blk w5 ga _ cur0 from hb0) _
      have fb2 : w5.frozen? ⟨ga, j * 6 + 1 + 1, none⟩ = false := Blk.frozen (show Blk w5 ga _ cur0 from hb0) _
      have hga2 : L ≤ ga := (own_lt OH5.out (g := ga) rfl).1
      have hnm := own_ne2 OM5.out OH5.out (by decide) (g := ga) rfl
      have hnq : g ≠ ga := fun e => own_ne OH5.out HQk5.out (by decide) (by rw [e]; rfl)
      have hws := HWs2.out
      clear hb0
      go_upto_region 13 with fail
      have k1 := owns_set OH5.out (j * 6 + 1) (by rw [flat_len encH_len, mapT_len]; omega) (.int .i64 lo)
      have k2 := owns_set k1 (j * 6 + 2) (by rw [List.length_set, flat_len encH_len, mapT_len]; omega) (.int .i64 hi)
      rw [flat_setS _ _ _ _ (by rw [mapT_len]; exact hjl), modify_at (by rw [mapT_len]; exact hjl), mapT_at hjl, HMe.out] at k2
      have g2 := grown_trans (grownBy_set w5 ga (j * 6 + 1) (.int .i64 lo)) (grownBy_set _ ga (j * 6 + 2) (.int .i64 hi))
      have OH6 := Lib.hid k2
      have OM6 := Lib.hid (owns_grown OM5.out g2 (fun r hr e => hnm (by rw [hr, ← e])))
      have HBk6 := Lib.hid ((HBk5.out.setCell (p := ⟨ga, j * 6 + 1, none⟩) (by simp; omega) (.int .i64 lo)).setCell (p := ⟨ga, j * 6 + 2, none⟩) (by simp; omega) (.int .i64 hi))
      have HTk6 := Lib.hid (HTk5.out.grown g2 (fun e => by have e2 := Option.some.inj e; omega))
      have HRk6 := Lib.hid (HRk5.out.grown g2 (fun e => by have e2 := Option.some.inj e; omega))
      have HQk6 := Lib.hid (HQk5.out.grown g2 (fun e => hnq (Option.some.inj e).symm))
      clear k1 k2 g2 fb1 fb2 q0 q1 y0 y1 ql yl u0 u1 u2 u3 u4 u5 ul hga2 hnm hnq
      generalize (w5.setCell ⟨ga, j * 6 + 1, none⟩ (.int .i64 lo)).setCell ⟨ga, j * 6 + 2, none⟩ (.int .i64 hi) = V6 at *
      have q0 := HQk6.out.cell 0
      have q1 := HQk6.out.cell 1
      have y0 := HTk6.out.cell 0
      have y1 := HTk6.out.cell 1
      simp only [List.getElem?_toArray, List.getElem?_cons_zero, List.getElem?_cons_succ] at q0 q1 y0 y1
      have ql := HQk6.out.lt
      have yl := HTk6.out.lt
      obtain ⟨xc, xf'⟩ := xcell (W := V6)
      refine wp_region_quiet_tail 9 (by kernel_rfl) (by kernel_rfl) ?_
      simp only [List.take_succ_cons, List.take_zero, List.drop_succ_cons, List.drop_zero]
      repeat (first | go_big_quiet_step ((go_at_call 62; with_reducible refine calls_ext (HE13.out _ ?_); exact HBk6.out.trans ((Ext.below _).mono HBk6.out.size))) | quiet_step ((go_at_call 62; with_reducible refine calls_ext (HE13.out _ ?_); exact HBk6.out.trans ((Ext.below _).mono HBk6.out.size))))
      refine wpQuiet_nil ?_
      intro w7 hb7
      have OM7 := Lib.hid (owns_below OM6.out hb7)
      have OH7 := Lib.hid (owns_below OH6.out hb7)
      have HBk7 := Lib.hid (HBk6.out.trans (hb7.mono HBk6.out.size))
      have HTk7 := Lib.hid (HTk6.out.below hb7)
      have HRk7 := Lib.hid (HRk6.out.below hb7)
      have HQk7 := Lib.hid (HQk6.out.below hb7)
      clear q0 q1 y0 y1 ql yl xc xf' hb7
      have hrow := Ls_of_row (enc := encH) (zs := (mapT (fN hs ms) hs j).set j (setS lo hi ⟨xi, xsl, xsh, xel, xeh, xbk⟩)) encH_len (by rw [List.length_set, mapT_len]; exact HLh.out) OH7.out
      obtain ⟨u0, u1, u2, u3, u4, u5⟩ := Hds.at_ hrow (List.getElem?_eq_getElem (by rw [List.length_set, mapT_len]; exact hjl))
      rw [List.getElem_set_self] at u3 u4
      simp only [Nat.zero_add, setS] at u3 u4
      have ul := hrow.lt
      clear hrow u0 u1 u2 u5
      obtain ⟨cur0, hb0⟩ := own_blk OH7.out (g := ga) rfl
      have fb1 : w7.frozen? ⟨ga, j * 6 + 3, none⟩ = false := Blk.frozen (show Blk w7 ga _ cur0 from hb0) _
      have fb2 : w7.frozen? ⟨ga, j * 6 + 3 + 1, none⟩ = false := Blk.frozen (show Blk w7 ga _ cur0 from hb0) _
      have hga2 : L ≤ ga := (own_lt OH7.out (g := ga) rfl).1
      have hnm := own_ne2 OM7.out OH7.out (by decide) (g := ga) rfl
      have hnq : g ≠ ga := fun e => own_ne OH7.out HQk7.out (by decide) (by rw [e]; rfl)
      have hws := HWs2.out
      clear hb0
      go_wp2
      go_roundw
      case rel =>
        have k1 := owns_set OH7.out (j * 6 + 3) (by rw [flat_len encH_len, List.length_set, mapT_len]; omega) (.int .i64 lo2)
        have k2 := owns_set k1 (j * 6 + 4) (by rw [List.length_set, flat_len encH_len, List.length_set, mapT_len]; omega) (.int .i64 hi2)
        rw [flat_setE _ _ _ _ (by rw [List.length_set, mapT_len]; exact hjl), modify_set, ← HSt.out] at k2
        have g2 := grown_trans (grownBy_set w7 ga (j * 6 + 3) (.int .i64 lo2)) (grownBy_set _ ga (j * 6 + 4) (.int .i64 hi2))
        exact ⟨j + 1, by omega, by go_num, k2, owns_grown OM7.out g2 (fun r hr e => hnm (by rw [hr, ← e])), (HBk7.out.setCell (p := ⟨ga, j * 6 + 3, none⟩) (by simp; omega) _).setCell (p := ⟨ga, j * 6 + 4, none⟩) (by simp; omega) _, HTk7.out.grown g2 (fun e => by have e2 := Option.some.inj e; omega), HRk7.out.grown g2 (fun e => by have e2 := Option.some.inj e; omega), HQk7.out.grown g2 (fun e => hnq (Option.some.inj e).symm)⟩
      case measure => simp [intOf]; omega
    case neg =>
      have HH1 := Lib.hid (show wr.ownsRow L 118 6 (.slice A1 n c1) n ((narH hs ms).flatMap encH) by have := OH.out; rw [mapT_end (by rw [HLh.out]; omega), HFh.out] at this; exact this)
      clear OH
      go_upto_region 15 with fail
      clear y0 y1 q0 q1 yl ql
      go_loopw [8] (fun i wx => ∃ k : Nat, k ≤ m ∧ i = .int .i64 (k : Int) ∧ wx.ownsRow L 59 5 (.slice B1 m d1) m ((mapT (fNm hs ms) ms k).flatMap encM) ∧ wx.ownsRow L 118 6 (.slice A1 n c1) n ((narH hs ms).flatMap encH) ∧ Below w.heap.size w wx ∧ Blk wx w.heap.size 25 #[.slice A n c, .slice B m d] ∧ Blk wx (w.heap.size + 1) 38 #[.slice none 0 0, .slice none 0 0, .int .i64 0] ∧ Blk wx g 25 #[.slice A1 n c1, .slice B1 m d1]) (fun i _ => m - (intOf i).toNat)
      case atStart => exact ⟨0, Nat.zero_le _, rfl, by rw [mapT_zero]; exact OM.out, HH1.out, HBk.out, HTk.out, HRk.out, HQk.out⟩
      case round =>
        clear OM HH1 HBk HTk HRk HQk
        obtain ⟨k, hk, rfl, om, oh, hb, ht, hr, hq⟩ := hrel
        have OM := Lib.hid om
        have OH := Lib.hid oh
        have HBk := Lib.hid hb
        have HTk := Lib.hid ht
        have HRk := Lib.hid hr
        have HQk := Lib.hid hq
        clear om oh hb ht hr hq
        have y0 := HTk.out.cell 0
        have y1 := HTk.out.cell 1
        have q0 := HQk.out.cell 0
        have q1 := HQk.out.cell 1
        simp only [List.getElem?_toArray, List.getElem?_cons_zero, List.getElem?_cons_succ] at y0 y1 q0 q1
        have yl := HTk.out.lt
        have ql := HQk.out.lt
        by_cases hkm : k < m
        case pos =>
          have hkl : k < ms.length := by rw [HLm.out]; exact hkm
          obtain ⟨gb, hgb'⟩ := form_some OM.out
          obtain rfl := hgb' (by omega)
          have hrow := Ls_of_row (enc := encM) (zs := mapT (fNm hs ms) ms k) encM_len (by rw [mapT_len]; exact HLm.out) OM.out
          obtain ⟨u0, u1, u2, u3, u4⟩ := Mvs.at_ hrow (List.getElem?_eq_getElem (by rw [mapT_len]; exact hkl))
          rw [mapT_at hkl] at u0 u1 u2 u3 u4
          simp only [Nat.zero_add] at u0 u1 u2 u3 u4
          have ul := hrow.lt
          have HS17 := Lib.hid (HNm.out k hkl)
          have hst := mapT_step (f := fNm hs ms) hkl
          unfold fNm at hst
          obtain ⟨x, hx⟩ : ∃ x, ms[k] = x := ⟨_, rfl⟩
          rw [hx] at u0 u1 u2 u3 u4 HS17 hst
          obtain ⟨lo, hlo⟩ : ∃ y, narLo hs ms (2 * hs.length + posM ms x.id) = y := ⟨_, rfl⟩
          obtain ⟨hi, hhi⟩ : ∃ y, narHi hs ms (2 * hs.length + posM ms x.id) = y := ⟨_, rfl⟩
          rw [hlo, hhi] at HS17 hst
          have HMe := Lib.hid (show ms[k]'hkl = x from hx)
          have HSt : Hid (mapT (fNm hs ms) ms (k + 1) = (mapT (fNm hs ms) ms k).set k (setM lo hi x)) := Lib.hid hst
          obtain ⟨xi, xf, xt, xl, xh⟩ := x
          dsimp only at u0 u1 u2 u3 u4 HS17
          clear hrow hx hgb' hst hlo hhi u1 u2 u3 u4
          go_upto_region 17 with fail
          obtain ⟨xc, xf'⟩ := xcell (W := wr)
          refine wp_region_quiet_tail 14 (by kernel_rfl) (by kernel_rfl) ?_
          simp only [List.take_succ_cons, List.take_zero, List.drop_succ_cons, List.drop_zero]
          repeat (first | go_big_quiet_step ((go_at_call 62; with_reducible refine calls_ext (HS17.out _ ?_); exact HBk.out.trans ((Ext.below _).mono HBk.out.size))) | quiet_step ((go_at_call 62; with_reducible refine calls_ext (HS17.out _ ?_); exact HBk.out.trans ((Ext.below _).mono HBk.out.size))))
          refine wpQuiet_nil ?_
          intro w5 hb5
          have OM5 := Lib.hid (owns_below OM.out hb5)
          have OH5 := Lib.hid (owns_below OH.out hb5)
          have HBk5 := Lib.hid (HBk.out.trans (hb5.mono HBk.out.size))
          have HTk5 := Lib.hid (HTk.out.below hb5)
          have HRk5 := Lib.hid (HRk.out.below hb5)
          have HQk5 := Lib.hid (HQk.out.below hb5)
          clear y0 y1 q0 q1 yl ql u0 ul xc xf' hb5
          have hrow := Ls_of_row (enc := encM) (zs := mapT (fNm hs ms) ms k) encM_len (by rw [mapT_len]; exact HLm.out) OM5.out
          obtain ⟨u0, u1, u2, u3, u4⟩ := Mvs.at_ hrow (List.getElem?_eq_getElem (by rw [mapT_len]; exact hkl))
          rw [mapT_at hkl, HMe.out] at u3 u4
          simp only [Nat.zero_add] at u3 u4
          have ul := hrow.lt
          clear hrow u0 u1 u2
          obtain ⟨cur0, hb0⟩ := own_blk OM5.out (g := gb) rfl
          have fb1 : w5.frozen? ⟨gb, k * 5 + 3, none⟩ = false := Blk.frozen (show Blk w5 gb _ cur0 from hb0) _
          have fb2 : w5.frozen? ⟨gb, k * 5 + 3 + 1, none⟩ = false := Blk.frozen (show Blk w5 gb _ cur0 from hb0) _
          have hga2 : L ≤ gb := (own_lt OM5.out (g := gb) rfl).1
          have hnm := own_ne2 OH5.out OM5.out (by decide) (g := gb) rfl
          have hnq : g ≠ gb := fun e => own_ne OM5.out HQk5.out (by decide) (by rw [e]; rfl)
          have hws := HWs2.out
          clear hb0
          go_wp2
          go_roundw
          case rel =>
            have k1 := owns_set OM5.out (k * 5 + 3) (by rw [flat_len encM_len, mapT_len]; omega) (.int .i64 lo)
            have k2 := owns_set k1 (k * 5 + 4) (by rw [List.length_set, flat_len encM_len, mapT_len]; omega) (.int .i64 hi)
            rw [flat_setM _ _ _ _ (by rw [mapT_len]; exact hkl), modify_at (by rw [mapT_len]; exact hkl), mapT_at hkl, HMe.out, ← HSt.out] at k2
            have g2 := grown_trans (grownBy_set w5 gb (k * 5 + 3) (.int .i64 lo)) (grownBy_set _ gb (k * 5 + 4) (.int .i64 hi))
            exact ⟨k + 1, by omega, by go_num, k2, owns_grown OH5.out g2 (fun r hr e => hnm (by rw [hr, ← e])), (HBk5.out.setCell (p := ⟨gb, k * 5 + 3, none⟩) (by simp; omega) _).setCell (p := ⟨gb, k * 5 + 4, none⟩) (by simp; omega) _, HTk5.out.grown g2 (fun e => by have e2 := Option.some.inj e; omega), HRk5.out.grown g2 (fun e => by have e2 := Option.some.inj e; omega), HQk5.out.grown g2 (fun e => hnq (Option.some.inj e).symm)⟩
          case measure => simp [intOf]; omega
        case neg =>
          have HM9 := Lib.hid (show wr.ownsRow L 59 5 (.slice B1 m d1) m ((narM hs ms).flatMap encM) by have := OM.out; rw [mapT_end (by rw [HLm.out]; omega), HFm.out] at this; exact this)
          have HLp := Lib.hid (show (narH hs ms).length = n ∧ (narM hs ms).length = m from ⟨by rw [narH_len, HLh.out], by rw [narM_len, HLm.out]⟩)
          have z0 := HRk.out.cell 0
          have z1 := HRk.out.cell 1
          have z2 := HRk.out.cell 2
          simp only [List.getElem?_toArray, List.getElem?_cons_zero, List.getElem?_cons_succ] at z0 z1 z2
          have zl := HRk.out.lt
          have zf0 := HRk.out.frozen 0
          have zf1 := HRk.out.frozen 1
          have zf2 := HRk.out.frozen 2
          have hws := HWs2.out
          go_wp2
          have hf := blk_set3 HRk.out (.slice A1 n c1) (.slice B1 m d1) (.int .i64 0)
          have x0 := hf.cell 0
          have x1 := hf.cell 1
          have x2 := hf.cell 2
          simp only [List.getElem?_toArray, List.getElem?_cons_zero, List.getElem?_cons_succ] at x0 x1 x2
          have hgz := grown_set3 wr (w.heap.size + 1) (.slice A1 n c1) (.slice B1 m d1) (.int .i64 0)
          refine bodyPost_ret (v := .agg #[.slice A1 n c1, .slice B1 m d1, .int .i64 0]) (by simp [results, Tryz.results17, go_sem, x0, x1, x2]) rfl ⟨_, _, by rw [HZ.out.1], ?_, below_set3 HBk.out (by omega) _ _ _⟩
          rw [HZ.out.2.1, HZ.out.2.2]
          refine ⟨?_, ?_⟩
          · rw [HLp.out.1]
            exact owns_weak (owns_grown OH.out hgz (fun r hr e => by have := (own_lt OH.out hr).1; have e2 := Option.some.inj e; omega)) (by omega)
          · rw [HLp.out.2]
            exact owns_weak (owns_grown HM9.out hgz (fun r hr e => by have := (own_lt HM9.out hr).1; have e2 := Option.some.inj e; omega)) (by omega)
end Go.Proofs.YtighfmgkoepfkaaGreat
