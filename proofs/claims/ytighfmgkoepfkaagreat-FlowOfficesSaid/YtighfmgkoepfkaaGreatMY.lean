/- The specification's drop: a trade without some movements. -/
import Derived.Laws.AppendOwnNone
import Derived.Test.YtighfmgkoepfkaaGreatMI
import Derived.Test.YtighfmgkoepfkaaGreatMGy
namespace Go.Proofs.YtighfmgkoepfkaaGreat
open Go.RowKit

set_option maxRecDepth 100000 in
set_option maxHeartbeats 12800000 in
theorem drop_any (t : TR) (A' : Option Addr) (n' c' : Nat) (l : List Int) (w : World) (h : t.Ok w) (hl : SAt encI 1 w A' n' l) (hn' : n' ≤ 1000000) (hn : t.n ≤ 1000000) (hm : t.m ≤ 1000000) (hA : t.A = none → t.c = 0) :
    Calls Tryz.prog 69 #[t.v, .slice A' n' c'] w fun e w' => ∃ v1 v2, e = .returned (.agg #[v1, v2]) ∧ OwnT w' w.heap.size v1 v2 t.hs (dropL t.ms l) ∧ Below w.heap.size w w' := by
  obtain ⟨A, n, c, B, m, d, hs, ms⟩ := t
  dsimp only [TR.v] at *
  have hb0 := ((Below.refl w.heap.size w).alloc (Nat.le_refl _) (.cells #[.slice A n c, .slice B m d] 25)).alloc (by simp) (.cells #[.slice none 0 0, .slice none 0 0] 25)
  have t0 := ((Blk.new w 25 #[.slice A n c, .slice B m d]).alloc (.cells #[.slice none 0 0, .slice none 0 0] 25))
  have r0 := (Blk.at_new (W := w.alloc (.cells #[.slice A n c, .slice B m d] 25)) (g := w.heap.size + 1) 25 #[.slice none 0 0, .slice none 0 0] (by simp))
  have HLh := Lib.hid (show hs.length = n from h.h.len)
  have HLm := Lib.hid (show ms.length = m from h.m.len)
  have HH := Lib.hid h.h
  have HM := Lib.hid (show SAt encM 5 w B m ms from h.m)
  have HSl := Lib.hid hl
  obtain ⟨i0, hi0, hi1, hi2, hi3⟩ := info_parts info_hd
  obtain ⟨ii, hj0, hj1, hj2, hj3⟩ := info_parts info_mv
  have HII := Lib.hid (And.intro hj0 (And.intro hj1 (And.intro hj2 hj3)))
  clear h hl hj0 hj1 hj2 hj3
  go_enter Tryz.func69, Tryz.ntmps69
  go_upto_region 1 with fail
  generalize hW : (w.alloc (.cells #[.slice A n c, .slice B m d] 25)).alloc (.cells #[.slice none 0 0, .slice none 0 0] 25) = W at *
  have hws : W.heap.size = w.heap.size + 2 := by rw [← hW]; simp
  have HWs := Lib.hid hws
  clear hW hws
  have HT := Lib.hid t0
  have HR := Lib.hid r0
  have HBw := Lib.hid hb0
  have y0 := t0.cell 0
  have y1 := t0.cell 1
  simp only [List.getElem?_toArray, List.getElem?_cons_zero, List.getElem?_cons_succ] at y0 y1
  have yl := t0.lt
  clear t0 r0 hb0
  cases A with
  | none =>
    obtain rfl : c = 0 := hA rfl
    obtain rfl : n = 0 := by
      refine Nat.eq_zero_of_not_pos fun q => ?_
      obtain ⟨b, off, e, _⟩ := HH.out.at_ q
      cases e
    obtain rfl : hs = [] := List.eq_nil_of_length_eq_zero HLh.out
    clear HH hA
    go_wp2_with (at_builtin; go_loud (refine wpList_append_own_none rfl (.tmp 8) (.tmp 10) 22 rfl (w.heap.size + 2) 118 i0 6 Tryz.underlying22 hi0 _ 0 [] rfl ?q0 rfl ?_))
    case q0 => exact World.ownsRow_made W #[] 0 (by rw [HWs.out]; exact Nat.le_refl _) (Nat.zero_le _) (by simp)
    have HBU := Lib.hid ((Below.refl W.heap.size W).alloc (Nat.le_refl _) (.cells #[] 118))
    have HRow := Lib.hid (show (W.alloc (.cells #[] 118)).ownsRow (w.heap.size + 2) 118 6 (.slice (some ⟨W.heap.size, 0, none⟩) 0 0) 0 (([] : List Hd).flatMap encH) from World.ownsRow_made W #[] 0 (by rw [HWs.out]; exact Nat.le_refl _) (Nat.zero_le _) (by simp))
    have hu0 : (W.alloc (.cells #[] 118)).heap.size = W.heap.size + 1 := by simp
    generalize W.alloc (.cells #[] 118) = U0 at *
    have hbo := below_new U0 (.cells #[.slice (some ⟨W.heap.size, 0, none⟩) 0 0, .slice none 0 0] 25)
    generalize hv1 : Value.slice (some ⟨W.heap.size, 0, none⟩) 0 0 = v1 at *
    clear hv1 y0 y1 yl
    go_upto_region 3 with fail
    rw [← hu0]
    clear hu0
    have HO := Lib.hid (Blk.new U0 25 #[v1, .slice none 0 0])
    have HT1 := Lib.hid (HT.out.below (HBU.out.trans (hbo.mono HBU.out.size)))
    have HR1 := Lib.hid (HR.out.below (HBU.out.trans (hbo.mono HBU.out.size)))
    have HB1 := Lib.hid (HBw.out.trans ((HBU.out.trans (hbo.mono HBU.out.size)).mono (by have := HWs.out; omega)))
    have HV1 := Lib.hid (owns_below HRow.out hbo)
    have HVl := Lib.hid (fun (r : Nat) hr => own_lt (g := r) HRow.out hr)
    have HWg := Lib.hid (show w.heap.size + 2 ≤ U0.heap.size from by have := HWs.out; have := HBU.out.size; omega)
    generalize hU : U0.alloc (.cells #[v1, .slice none 0 0] 25) = U at *
    have hgs : U0.heap.size + 1 ≤ U.heap.size := by rw [← hU]; simp
    generalize hg : U0.heap.size = g1 at *
    have HG := Lib.hid hgs
    clear hU hg hgs hbo HT HR HBw HRow HBU
    obtain ⟨A0, c0, hv1⟩ := owns_slice HV1.out
    subst hv1
    go_loopw [6, 7] (fun i _ wx => ∃ (k q : Nat) (A1 : Option Addr) (c1 : Nat), k ≤ m ∧ i = .int .i64 (k : Int) ∧ (dropL (ms.take k) l).length = q ∧ wx.ownsRow (g1 + 1) 59 5 (.slice A1 q c1) q ((dropL (ms.take k) l).flatMap encM) ∧ g1 + 1 ≤ wx.heap.size ∧ Below w.heap.size w wx ∧ Blk wx w.heap.size 25 #[.slice none 0 0, .slice B m d] ∧ Blk wx (w.heap.size + 1) 25 #[.slice none 0 0, .slice none 0 0] ∧ Blk wx g1 25 #[.slice A0 0 c0, .slice A1 q c1] ∧ wx.ownsRow (w.heap.size + 2) 118 6 (.slice A0 0 c0) 0 (([] : List Hd).flatMap encH)) (fun i _ _ => m - (intOf i).toNat)
    case atStart => exact ⟨0, 0, none, 0, Nat.zero_le _, rfl, rfl, by simpa [dropL] using World.ownsRow_nil _ _ _ _, HG.out, HB1.out, HT1.out, HR1.out, HO.out, HV1.out⟩
    case round =>
      obtain ⟨k, q, A1, c1, hk, rfl, hq, ow, hgs, hb, ht, hr, ho, hv⟩ := hrel
      have HQ := Lib.hid hq
      have OW := Lib.hid ow
      have HBk := Lib.hid hb
      have HTk := Lib.hid ht
      have HRk := Lib.hid hr
      have HOk := Lib.hid ho
      have HVk := Lib.hid hv
      have HLT := Lib.hid (fun (r : Nat) hr => own_lt (g := r) ow hr)
      have hqm : q ≤ 1000000 := by
        rw [← hq]
        refine Nat.le_trans (List.length_filter_le _ _) ?_
        rw [List.length_take]
        omega
      have HVl2 := Lib.hid (fun (r : Nat) hr => own_lt (g := r) hv hr)
      clear hq ow hb ht hr ho hv
      have y0 := HTk.out.cell 0
      have y1 := HTk.out.cell 1
      have z0 := HRk.out.cell 0
      have z1 := HRk.out.cell 1
      have o0 := HOk.out.cell 0
      have o1 := HOk.out.cell 1
      simp only [List.getElem?_toArray, List.getElem?_cons_zero, List.getElem?_cons_succ] at y0 y1 z0 z1 o0 o1
      have yl := HTk.out.lt
      have zl := HRk.out.lt
      have ol := HOk.out.lt
      by_cases hkm : k < m
      case neg =>
        obtain rfl : k = m := by omega
        have HEnd := Lib.hid (show dropL (ms.take k) l = dropL ms l by rw [List.take_of_length_le (by have := HLm.out; omega)])
        have f0 := HRk.out.frozen 0
        have f1 := HRk.out.frozen 1
        go_wp2
        have hf := blk_set2 HRk.out (.slice A0 0 c0) (.slice A1 q c1)
        have x0 := hf.cell 0
        have x1 := hf.cell 1
        simp only [List.getElem?_toArray, List.getElem?_cons_zero, List.getElem?_cons_succ] at x0 x1
        refine bodyPost_ret (v := .agg #[.slice A0 0 c0, .slice A1 q c1]) (by simp [results, Tryz.results69, go_sem, x0, x1]) rfl ?_
        refine ⟨_, _, rfl, ?_, below_set2 HBk.out (by omega) _ _⟩
        refine ((show OwnT wr (w.heap.size + 2) (.slice A0 0 c0) (.slice A1 q c1) ([] : List Hd) (dropL ms l) from ⟨?_, ?_⟩).grown (grown_set2 wr (w.heap.size + 1) (.slice A0 0 c0) (.slice A1 q c1)) (fun g hg => by have e2 : w.heap.size + 1 = g := Option.some.inj hg; omega)).weak (by omega)
        · rw [HLh.out]; exact HVk.out
        · have e := HQ.out
          rw [HEnd.out] at e
          rw [e, ← HEnd.out]
          exact owns_weak OW.out (by have := HWg.out; omega)
      case pos =>
        have hkl : k < ms.length := by rw [HLm.out]; exact hkm
        obtain ⟨b, off, eB, hl0⟩ := HM.out.at_ (by omega)
        subst eB
        have HLs := Lib.hid hl0
        have hl2 := hl0.below HBk.out
        obtain ⟨u0, u1, u2, u3, u4⟩ := Mvs.at_ hl2 (List.getElem?_eq_getElem hkl)
        have ul := hl2.lt
        have HTake := Lib.hid (List.take_succ_eq_append_getElem hkl)
        have HAt := Lib.hid (List.getElem?_eq_getElem hkl)
        clear hl0 hl2
        generalize ms[k] = x at *
        obtain ⟨xi, xf, xt, xl, xh⟩ := x
        dsimp only at u0 u1 u2 u3 u4
        have HIn := Lib.hid (fun (W : World) (hW : Below w.heap.size w W) => in_any A' n' c' l xi W (HSl.out.below hW) hn')
        have HSt := Lib.hid (show dropL (ms.take (k + 1)) l = dropL (ms.take k) l ++ (if l.contains xi = true then [] else [⟨xi, xf, xt, xl, xh⟩]) by
          rw [HTake.out]
          unfold dropL
          rw [List.filter_append]
          congr 1
          have e1 : List.filter (fun m : Mv => !l.contains m.id) [(⟨xi, xf, xt, xl, xh⟩ : Mv)] = if (!l.contains xi) = true then [⟨xi, xf, xt, xl, xh⟩] else [] := by rw [List.filter_cons]; rfl
          rw [e1]
          cases l.contains xi <;> rfl)
        generalize l.contains xi = bx at *
        cases bx with
        | true =>
          go_wp2_with (go_at_call 112; with_reducible refine (HIn.out _ HBk.out).mono ?_; rintro e w2 ⟨rfl, hb2⟩)
          go_roundw
          case rel => exact ⟨k + 1, q, A1, c1, by omega, by go_num, by rw [HSt.out]; simpa using HQ.out, by rw [HSt.out]; simpa using owns_below OW.out hb2, Nat.le_trans hgs hb2.size, HBk.out.trans (hb2.mono HBk.out.size), HTk.out.below hb2, HRk.out.below hb2, HOk.out.below hb2, owns_below HVk.out hb2⟩
          case measure => simp [intOf]; omega
        | false =>
          go_upto_region 7 with (go_at_call 112; with_reducible refine (HIn.out _ HBk.out).mono ?_; rintro e w2 ⟨rfl, hb2⟩)
          have HB2 := Lib.hid (HBk.out.trans (hb2.mono HBk.out.size))
          have OW2 := Lib.hid (owns_below OW.out hb2)
          have HT2 := Lib.hid (HTk.out.below hb2)
          have HR2 := Lib.hid (HRk.out.below hb2)
          have HO2 := Lib.hid (HOk.out.below hb2)
          have HV2 := Lib.hid (owns_below HVk.out hb2)
          have hgs2 : g1 + 1 ≤ w2.heap.size := Nat.le_trans hgs hb2.size
          clear y0 y1 z0 z1 o0 o1 yl zl ol u0 u1 u2 u3 u4 ul hb2 OW HTk HRk HOk HVk HBk HVl2
          refine wp_region_preC 10 [(7, 37), (8, 38)] (fun v' => Below w.heap.size w v' ∧ g1 + 1 ≤ v'.heap.size ∧ Blk v' w.heap.size 25 #[.slice none 0 0, .slice (some ⟨b, off, none⟩) m d] ∧ Blk v' (w.heap.size + 1) 25 #[.slice none 0 0, .slice none 0 0] ∧ Blk v' g1 25 #[.slice A0 0 c0, .slice A1 q c1] ∧ v'.ownsRow (w.heap.size + 2) 118 6 (.slice A0 0 c0) 0 (([] : List Hd).flatMap encH)) (OneRow 59 5 (g1 + 1) q 7 8 (.slice A1 q c1) ((dropL (ms.take k) l).flatMap encM) [.int .i64 xi, .int .i64 xf, .int .i64 xt, .int .i64 xl, .int .i64 xh]) (by kernel_rfl) (by kernel_rfl) ?hw ?hC ?h0 ?hP ?ex
          case hw => exact ⟨HB2.out, hgs2, HT2.out, HR2.out, HO2.out, HV2.out⟩
          case hC =>
            rintro v1 v2 ⟨h0, hb0, qt, qr, qo, qv⟩ kk
            exact ⟨h0.trans (kk.mono h0.size), Nat.le_trans hb0 kk.size, qt.below kk, qr.below kk, qo.below kk, owns_below qv kk⟩
          case h0 =>
            intro v' hv'
            refine OneRow.below (W := w2) ?_ hv'
            exact ⟨by simpa using OW2.out, fun h => (by cases h)⟩
          case hP => exact fun ls vs v v' _ h kk => h.below kk
          case ex =>
            apply Exists.intro
            refine ⟨?walk, ?loud⟩
            case walk =>
              rintro V ⟨h0, hb0, qt, qr, qo, qv⟩
              have yc0 := qt.cell 0
              have yc1 := qt.cell 1
              have oc0 := qo.cell 0
              have oc1 := qo.cell 1
              simp only [List.getElem?_toArray, List.getElem?_cons_zero, List.getElem?_cons_succ] at yc0 yc1 oc0 oc1
              have yl := qt.lt
              have ol := qo.lt
              have hl2 := HLs.out.below h0
              obtain ⟨u0, u1, u2, u3, u4⟩ := Mvs.at_ hl2 HAt.out
              dsimp only at u0 u1 u2 u3 u4
              have ul := hl2.lt
              clear hl2
              obtain ⟨xc, xf'⟩ := xcell (W := V)
              simp only [List.take_succ_cons, List.take_zero, qOf, isLoud, List.any_cons, List.any_nil, Nat.reduceBEq, Bool.or_false, Bool.or_true, Nat.reduceAdd, Bool.false_eq_true, if_true, if_false, beq_self_eq_true, Nat.zero_add]
              repeat (first | go_big_quiet_step (fail) | quiet_step (fail))
              exact wpQuiet_nil rfl
            case loud =>
              simp only [List.drop_succ_cons, List.drop_zero]
              refine ⟨?_, ?_⟩
              · rintro p hp vs V ⟨h0, hb0, qt, qr, qo, qv⟩ ls hI hls hw o ho
                simp only [List.mem_cons, List.not_mem_nil, or_false] at hp
                rcases hp with rfl | rfl
                · simp only [List.getElem?_cons_succ, List.getElem?_cons_zero, Option.some.injEq] at ho
                  subst ho
                  simp [loudAt, loudUpon, go_sem, execOp, putsL, Act.put]
                  exact ⟨⟨h0.alloc h0.size _, by omega, qt.alloc _, qr.alloc _, qo.alloc _, qv.alloc _⟩, hI.lay (by decide)⟩
                · have h9 := hw (7, 37) (by simp) (by kernel_rfl)
                  obtain ⟨g, e, hbk⟩ := hI.new h9 hls
                  have hrow := hI.row
                  have h8 := hls
                  simp only [h8, cond_false, Nat.add_zero, List.append_nil] at hrow
                  simp only [List.getElem?_cons_succ, List.getElem?_cons_zero, Option.some.injEq] at ho
                  subst ho
                  refine loudAt_append (.tmp 31) (.tmp 37) 23 rfl (g1 + 1) 59 ii (.agg #[.int .i64 0, .int .i64 0, .int .i64 0, .int .i64 0, .int .i64 0]) 5 40 Tryz.underlying23 HII.out.1 HII.out.2.1 HII.out.2.2.1 HII.out.2.2.2 rfl (by decide) (.slice A1 q c1) q ((dropL (ms.take k) l).flatMap encM) rfl hrow ⟨g, 0, none⟩ 1 1 [.int .i64 xi, .int .i64 xf, .int .i64 xt, .int .i64 xl, .int .i64 xh] e rfl ?c1 (one_intsL [xi, xf, xt, xl, xh]) (by unfold maxLen; omega) (by omega) hb0 ?_
                  case c1 =>
                    have g0 := hbk.cell 0
                    have g1 := hbk.cell 1
                    have g2 := hbk.cell 2
                    have g3 := hbk.cell 3
                    have g4 := hbk.cell 4
                    simp only [List.getElem?_toArray, List.getElem?_cons_zero, List.getElem?_cons_succ] at g0 g1 g2 g3 g4
                    intro j' u hj'
                    match j', hj' with
                    | 0, hj' => simp at hj'; subst hj'; simpa [Addr.add] using g0
                    | 1, hj' => simp at hj'; subst hj'; simpa [Addr.add] using g1
                    | 2, hj' => simp at hj'; subst hj'; simpa [Addr.add] using g2
                    | 3, hj' => simp at hj'; subst hj'; simpa [Addr.add] using g3
                    | 4, hj' => simp at hj'; subst hj'; simpa [Addr.add] using g4
                  intro v' w3 hown' hgrow hat
                  have hWg := HWg.out
                  refine ⟨⟨h0.grown hgrow h0.size (fun kk hk => by have := (HLT.out _ hk).1; omega), Nat.le_trans hb0 hgrow.size, qt.grown hgrow (fun h => by have := (HLT.out _ h).1; omega), qr.grown hgrow (fun h => by have := (HLT.out _ h).1; omega), qo.grown hgrow (fun h => by have := (HLT.out _ h).1; omega), owns_grown qv hgrow (fun r hr e => by have := (HLT.out _ e).1; have := (HVl.out r hr).2; omega)⟩, hI.app v' hown'⟩
              · rintro ls vs V22 ⟨B22, hbase22, t_22, r_22, o_22, v_22⟩ hI hls
                have h8 := hls (8, 38) (by simp)
                have hrow := hI.row
                simp only [h8, cond_true] at hrow
                have HN := Lib.hid hrow
                clear hrow hI hls h8
                simp only [putsL, List.foldl_cons, List.foldl_nil, Act.put, List.setIfInBounds_toArray, List.set_cons_succ, List.set_cons_zero]
                generalize vs 8 = v8 at *
                generalize vs 7 = v7 at *
                obtain ⟨g', cap', rfl⟩ := ownsRow_succ HN.out
                have oc0 := o_22.cell 0
                have oc1 := o_22.cell 1
                simp only [List.getElem?_toArray, List.getElem?_cons_zero, List.getElem?_cons_succ] at oc0 oc1
                have ol := o_22.lt
                have of1 := o_22.frozen 1
                have HB22 := Lib.hid B22
                have HT22 := Lib.hid t_22
                have HR22 := Lib.hid r_22
                have HO22 := Lib.hid o_22
                have HV22 := Lib.hid v_22
                have hWg := HWg.out
                clear B22 t_22 r_22 o_22 v_22
                go_wp2
                go_roundw
                case rel =>
                  refine ⟨k + 1, q + 1, some ⟨g', 0, none⟩, cap', by omega, by go_num, by rw [HSt.out, List.length_append, HQ.out]; rfl, ?_, by simpa [World.setCell] using hbase22, HB22.out.setCell (p := ⟨g1, 1, none⟩) (by simp; omega) _, HT22.out.far (p := ⟨g1, 1, none⟩) (by simp; omega) _, HR22.out.far (p := ⟨g1, 1, none⟩) (by simp; omega) _, by simpa using HO22.out.set_ 1 (.slice (some ⟨g', 0, none⟩) (q + 1) cap'), ?_⟩
                  · rw [HSt.out, List.flatMap_append]
                    exact owns_grown HN.out (grownBy_set V22 g1 1 _) (fun r hr e => by have := (own_lt HN.out hr).1; have e2 := Option.some.inj e; omega)
                  · exact owns_grown HV22.out (grownBy_set V22 g1 1 _) (fun r hr e => by have := (HVl.out r hr).2; have e2 := Option.some.inj e; omega)
                case measure => simp [intOf]; omega
  | some a =>
    have HF := Lib.hid (show ∀ (j : Nat) (u : Value), (hs.flatMap encH)[j]? = some u → w.cell? (a.add j) = some u from HH.out.flat encH_len (by decide))
    have HFw := Lib.hid (show ∀ (j : Nat) (u : Value), (hs.flatMap encH)[j]? = some u → W.cell? (a.add j) = some u from fun j u hj => by
      have h1 := HF.out j u hj
      have h2 := (cell_lt h1).1
      rw [← h1]
      exact HBw.out.cell h2)
    clear HH hA
    go_wp2_with (at_builtin; go_loud (refine wpList_append_own _ rfl (.tmp 8) (.tmp 10) 22 rfl (w.heap.size + 2) 118 i0 (.agg #[.int .i64 0, .int .i64 0, .int .i64 0, .int .i64 0, .int .i64 0, .int .i64 0]) 6 48 Tryz.underlying22 hi0 hi1 hi2 hi3 rfl (by decide) _ 0 [] rfl ?q0 a n c (hs.flatMap encH) rfl ?q1 ?q2 ?q3 ?q4 ?q5 ?q6 ?_))
    case q0 => exact World.ownsRow_made W #[] 0 (by rw [HWs.out]; exact Nat.le_refl _) (Nat.zero_le _) (by simp)
    case q1 => rw [flat_len encH_len, HLh.out]
    case q2 =>
      intro j u hj
      exact Lib.cell?_alloc_some _ (HFw.out j u hj)
    case q3 => exact encH_one hs
    case q4 => unfold maxLen; omega
    case q5 => omega
    case q6 => have := HWs.out; simp; omega
    intro v1 U0 hown hgrow _
    have HRow := Lib.hid (show U0.ownsRow (w.heap.size + 2) 118 6 v1 n (hs.flatMap encH) by simpa using hown)
    have HBU := Lib.hid (show Below W.heap.size W U0 from ((Below.refl _ W).alloc (Nat.le_refl _) _).grown hgrow (by simp) (by intro k hk; simp [Value.ownBlock] at hk; omega))
    obtain ⟨Av, cv, rfl⟩ := owns_slice HRow.out
    have hbo := below_new U0 (.cells #[.slice Av n cv, .slice none 0 0] 25)
    clear hown hgrow y0 y1 yl
    go_upto_region 3 with fail
    generalize hv1 : Value.slice Av n cv = v1 at *
    clear hv1
    have HO := Lib.hid (Blk.new U0 25 #[v1, .slice none 0 0])
    have HT1 := Lib.hid (HT.out.below (HBU.out.trans (hbo.mono HBU.out.size)))
    have HR1 := Lib.hid (HR.out.below (HBU.out.trans (hbo.mono HBU.out.size)))
    have HB1 := Lib.hid (HBw.out.trans ((HBU.out.trans (hbo.mono HBU.out.size)).mono (by have := HWs.out; omega)))
    have HV1 := Lib.hid (owns_below HRow.out hbo)
    have HVl := Lib.hid (fun (r : Nat) hr => own_lt (g := r) HRow.out hr)
    have HWg := Lib.hid (show w.heap.size + 2 ≤ U0.heap.size from by have := HWs.out; have := HBU.out.size; omega)
    generalize hU : U0.alloc (.cells #[v1, .slice none 0 0] 25) = U at *
    have hgs : U0.heap.size + 1 ≤ U.heap.size := by rw [← hU]; simp
    generalize hg : U0.heap.size = g1 at *
    have HG := Lib.hid hgs
    clear hU hg hgs hbo HT HR HBw HRow HBU
    obtain ⟨A0, c0, hv1⟩ := owns_slice HV1.out
    subst hv1
    go_loopw [6, 7] (fun i _ wx => ∃ (k q : Nat) (A1 : Option Addr) (c1 : Nat), k ≤ m ∧ i = .int .i64 (k : Int) ∧ (dropL (ms.take k) l).length = q ∧ wx.ownsRow (g1 + 1) 59 5 (.slice A1 q c1) q ((dropL (ms.take k) l).flatMap encM) ∧ g1 + 1 ≤ wx.heap.size ∧ Below w.heap.size w wx ∧ Blk wx w.heap.size 25 #[.slice (some a) n c, .slice B m d] ∧ Blk wx (w.heap.size + 1) 25 #[.slice none 0 0, .slice none 0 0] ∧ Blk wx g1 25 #[.slice A0 n c0, .slice A1 q c1] ∧ wx.ownsRow (w.heap.size + 2) 118 6 (.slice A0 n c0) n (hs.flatMap encH)) (fun i _ _ => m - (intOf i).toNat)
    case atStart => exact ⟨0, 0, none, 0, Nat.zero_le _, rfl, rfl, by simpa [dropL] using World.ownsRow_nil _ _ _ _, HG.out, HB1.out, HT1.out, HR1.out, HO.out, HV1.out⟩
    case round =>
      obtain ⟨k, q, A1, c1, hk, rfl, hq, ow, hgs, hb, ht, hr, ho, hv⟩ := hrel
      have HQ := Lib.hid hq
      have OW := Lib.hid ow
      have HBk := Lib.hid hb
      have HTk := Lib.hid ht
      have HRk := Lib.hid hr
      have HOk := Lib.hid ho
      have HVk := Lib.hid hv
      have HLT := Lib.hid (fun (r : Nat) hr => own_lt (g := r) ow hr)
      have hqm : q ≤ 1000000 := by
        rw [← hq]
        refine Nat.le_trans (List.length_filter_le _ _) ?_
        rw [List.length_take]
        omega
      have HVl2 := Lib.hid (fun (r : Nat) hr => own_lt (g := r) hv hr)
      clear hq ow hb ht hr ho hv
      have y0 := HTk.out.cell 0
      have y1 := HTk.out.cell 1
      have z0 := HRk.out.cell 0
      have z1 := HRk.out.cell 1
      have o0 := HOk.out.cell 0
      have o1 := HOk.out.cell 1
      simp only [List.getElem?_toArray, List.getElem?_cons_zero, List.getElem?_cons_succ] at y0 y1 z0 z1 o0 o1
      have yl := HTk.out.lt
      have zl := HRk.out.lt
      have ol := HOk.out.lt
      by_cases hkm : k < m
      case neg =>
        obtain rfl : k = m := by omega
        have HEnd := Lib.hid (show dropL (ms.take k) l = dropL ms l by rw [List.take_of_length_le (by have := HLm.out; omega)])
        have f0 := HRk.out.frozen 0
        have f1 := HRk.out.frozen 1
        go_wp2
        have hf := blk_set2 HRk.out (.slice A0 n c0) (.slice A1 q c1)
        have x0 := hf.cell 0
        have x1 := hf.cell 1
        simp only [List.getElem?_toArray, List.getElem?_cons_zero, List.getElem?_cons_succ] at x0 x1
        refine bodyPost_ret (v := .agg #[.slice A0 n c0, .slice A1 q c1]) (by simp [results, Tryz.results69, go_sem, x0, x1]) rfl ?_
        refine ⟨_, _, rfl, ?_, below_set2 HBk.out (by omega) _ _⟩
        refine ((show OwnT wr (w.heap.size + 2) (.slice A0 n c0) (.slice A1 q c1) hs (dropL ms l) from ⟨?_, ?_⟩).grown (grown_set2 wr (w.heap.size + 1) (.slice A0 n c0) (.slice A1 q c1)) (fun g hg => by have e2 : w.heap.size + 1 = g := Option.some.inj hg; omega)).weak (by omega)
        · rw [HLh.out]; exact HVk.out
        · have e := HQ.out
          rw [HEnd.out] at e
          rw [e, ← HEnd.out]
          exact owns_weak OW.out (by have := HWg.out; omega)
      case pos =>
        have hkl : k < ms.length := by rw [HLm.out]; exact hkm
        obtain ⟨b, off, eB, hl0⟩ := HM.out.at_ (by omega)
        subst eB
        have HLs := Lib.hid hl0
        have hl2 := hl0.below HBk.out
        obtain ⟨u0, u1, u2, u3, u4⟩ := Mvs.at_ hl2 (List.getElem?_eq_getElem hkl)
        have ul := hl2.lt
        have HTake := Lib.hid (List.take_succ_eq_append_getElem hkl)
        have HAt := Lib.hid (List.getElem?_eq_getElem hkl)
        clear hl0 hl2
        generalize ms[k] = x at *
        obtain ⟨xi, xf, xt, xl, xh⟩ := x
        dsimp only at u0 u1 u2 u3 u4
        have HIn := Lib.hid (fun (W : World) (hW : Below w.heap.size w W) => in_any A' n' c' l xi W (HSl.out.below hW) hn')
        have HSt := Lib.hid (show dropL (ms.take (k + 1)) l = dropL (ms.take k) l ++ (if l.contains xi = true then [] else [⟨xi, xf, xt, xl, xh⟩]) by
          rw [HTake.out]
          unfold dropL
          rw [List.filter_append]
          congr 1
          have e1 : List.filter (fun m : Mv => !l.contains m.id) [(⟨xi, xf, xt, xl, xh⟩ : Mv)] = if (!l.contains xi) = true then [⟨xi, xf, xt, xl, xh⟩] else [] := by rw [List.filter_cons]; rfl
          rw [e1]
          cases l.contains xi <;> rfl)
        generalize l.contains xi = bx at *
        cases bx with
        | true =>
          go_wp2_with (go_at_call 112; with_reducible refine (HIn.out _ HBk.out).mono ?_; rintro e w2 ⟨rfl, hb2⟩)
          go_roundw
          case rel => exact ⟨k + 1, q, A1, c1, by omega, by go_num, by rw [HSt.out]; simpa using HQ.out, by rw [HSt.out]; simpa using owns_below OW.out hb2, Nat.le_trans hgs hb2.size, HBk.out.trans (hb2.mono HBk.out.size), HTk.out.below hb2, HRk.out.below hb2, HOk.out.below hb2, owns_below HVk.out hb2⟩
          case measure => simp [intOf]; omega
        | false =>
          go_upto_region 7 with (go_at_call 112; with_reducible refine (HIn.out _ HBk.out).mono ?_; rintro e w2 ⟨rfl, hb2⟩)
          have HB2 := Lib.hid (HBk.out.trans (hb2.mono HBk.out.size))
          have OW2 := Lib.hid (owns_below OW.out hb2)
          have HT2 := Lib.hid (HTk.out.below hb2)
          have HR2 := Lib.hid (HRk.out.below hb2)
          have HO2 := Lib.hid (HOk.out.below hb2)
          have HV2 := Lib.hid (owns_below HVk.out hb2)
          have hgs2 : g1 + 1 ≤ w2.heap.size := Nat.le_trans hgs hb2.size
          clear y0 y1 z0 z1 o0 o1 yl zl ol u0 u1 u2 u3 u4 ul hb2 OW HTk HRk HOk HVk HBk HVl2
          refine wp_region_preC 10 [(7, 37), (8, 38)] (fun v' => Below w.heap.size w v' ∧ g1 + 1 ≤ v'.heap.size ∧ Blk v' w.heap.size 25 #[.slice (some a) n c, .slice (some ⟨b, off, none⟩) m d] ∧ Blk v' (w.heap.size + 1) 25 #[.slice none 0 0, .slice none 0 0] ∧ Blk v' g1 25 #[.slice A0 n c0, .slice A1 q c1] ∧ v'.ownsRow (w.heap.size + 2) 118 6 (.slice A0 n c0) n (hs.flatMap encH)) (OneRow 59 5 (g1 + 1) q 7 8 (.slice A1 q c1) ((dropL (ms.take k) l).flatMap encM) [.int .i64 xi, .int .i64 xf, .int .i64 xt, .int .i64 xl, .int .i64 xh]) (by kernel_rfl) (by kernel_rfl) ?hw ?hC ?h0 ?hP ?ex
          case hw => exact ⟨HB2.out, hgs2, HT2.out, HR2.out, HO2.out, HV2.out⟩
          case hC =>
            rintro v1 v2 ⟨h0, hb0, qt, qr, qo, qv⟩ kk
            exact ⟨h0.trans (kk.mono h0.size), Nat.le_trans hb0 kk.size, qt.below kk, qr.below kk, qo.below kk, owns_below qv kk⟩
          case h0 =>
            intro v' hv'
            refine OneRow.below (W := w2) ?_ hv'
            exact ⟨by simpa using OW2.out, fun h => (by cases h)⟩
          case hP => exact fun ls vs v v' _ h kk => h.below kk
          case ex =>
            apply Exists.intro
            refine ⟨?walk, ?loud⟩
            case walk =>
              rintro V ⟨h0, hb0, qt, qr, qo, qv⟩
              have yc0 := qt.cell 0
              have yc1 := qt.cell 1
              have oc0 := qo.cell 0
              have oc1 := qo.cell 1
              simp only [List.getElem?_toArray, List.getElem?_cons_zero, List.getElem?_cons_succ] at yc0 yc1 oc0 oc1
              have yl := qt.lt
              have ol := qo.lt
              have hl2 := HLs.out.below h0
              obtain ⟨u0, u1, u2, u3, u4⟩ := Mvs.at_ hl2 HAt.out
              dsimp only at u0 u1 u2 u3 u4
              have ul := hl2.lt
              clear hl2
              obtain ⟨xc, xf'⟩ := xcell (W := V)
              simp only [List.take_succ_cons, List.take_zero, qOf, isLoud, List.any_cons, List.any_nil, Nat.reduceBEq, Bool.or_false, Bool.or_true, Nat.reduceAdd, Bool.false_eq_true, if_true, if_false, beq_self_eq_true, Nat.zero_add]
              repeat (first | go_big_quiet_step (fail) | quiet_step (fail))
              exact wpQuiet_nil rfl
            case loud =>
              simp only [List.drop_succ_cons, List.drop_zero]
              refine ⟨?_, ?_⟩
              · rintro p hp vs V ⟨h0, hb0, qt, qr, qo, qv⟩ ls hI hls hw o ho
                simp only [List.mem_cons, List.not_mem_nil, or_false] at hp
                rcases hp with rfl | rfl
                · simp only [List.getElem?_cons_succ, List.getElem?_cons_zero, Option.some.injEq] at ho
                  subst ho
                  simp [loudAt, loudUpon, go_sem, execOp, putsL, Act.put]
                  exact ⟨⟨h0.alloc h0.size _, by omega, qt.alloc _, qr.alloc _, qo.alloc _, qv.alloc _⟩, hI.lay (by decide)⟩
                · have h9 := hw (7, 37) (by simp) (by kernel_rfl)
                  obtain ⟨g, e, hbk⟩ := hI.new h9 hls
                  have hrow := hI.row
                  have h8 := hls
                  simp only [h8, cond_false, Nat.add_zero, List.append_nil] at hrow
                  simp only [List.getElem?_cons_succ, List.getElem?_cons_zero, Option.some.injEq] at ho
                  subst ho
                  refine loudAt_append (.tmp 31) (.tmp 37) 23 rfl (g1 + 1) 59 ii (.agg #[.int .i64 0, .int .i64 0, .int .i64 0, .int .i64 0, .int .i64 0]) 5 40 Tryz.underlying23 HII.out.1 HII.out.2.1 HII.out.2.2.1 HII.out.2.2.2 rfl (by decide) (.slice A1 q c1) q ((dropL (ms.take k) l).flatMap encM) rfl hrow ⟨g, 0, none⟩ 1 1 [.int .i64 xi, .int .i64 xf, .int .i64 xt, .int .i64 xl, .int .i64 xh] e rfl ?c1 (one_intsL [xi, xf, xt, xl, xh]) (by unfold maxLen; omega) (by omega) hb0 ?_
                  case c1 =>
                    have g0 := hbk.cell 0
                    have g1 := hbk.cell 1
                    have g2 := hbk.cell 2
                    have g3 := hbk.cell 3
                    have g4 := hbk.cell 4
                    simp only [List.getElem?_toArray, List.getElem?_cons_zero, List.getElem?_cons_succ] at g0 g1 g2 g3 g4
                    intro j' u hj'
                    match j', hj' with
                    | 0, hj' => simp at hj'; subst hj'; simpa [Addr.add] using g0
                    | 1, hj' => simp at hj'; subst hj'; simpa [Addr.add] using g1
                    | 2, hj' => simp at hj'; subst hj'; simpa [Addr.add] using g2
                    | 3, hj' => simp at hj'; subst hj'; simpa [Addr.add] using g3
                    | 4, hj' => simp at hj'; subst hj'; simpa [Addr.add] using g4
                  intro v' w3 hown' hgrow hat
                  have hWg := HWg.out
                  refine ⟨⟨h0.grown hgrow h0.size (fun kk hk => by have := (HLT.out _ hk).1; omega), Nat.le_trans hb0 hgrow.size, qt.grown hgrow (fun h => by have := (HLT.out _ h).1; omega), qr.grown hgrow (fun h => by have := (HLT.out _ h).1; omega), qo.grown hgrow (fun h => by have := (HLT.out _ h).1; omega), owns_grown qv hgrow (fun r hr e => by have := (HLT.out _ e).1; have := (HVl.out r hr).2; omega)⟩, hI.app v' hown'⟩
              · rintro ls vs V22 ⟨B22, hbase22, t_22, r_22, o_22, v_22⟩ hI hls
                have h8 := hls (8, 38) (by simp)
                have hrow := hI.row
                simp only [h8, cond_true] at hrow
                have HN := Lib.hid hrow
                clear hrow hI hls h8
                simp only [putsL, List.foldl_cons, List.foldl_nil, Act.put, List.setIfInBounds_toArray, List.set_cons_succ, List.set_cons_zero]
                generalize vs 8 = v8 at *
                generalize vs 7 = v7 at *
                obtain ⟨g', cap', rfl⟩ := ownsRow_succ HN.out
                have oc0 := o_22.cell 0
                have oc1 := o_22.cell 1
                simp only [List.getElem?_toArray, List.getElem?_cons_zero, List.getElem?_cons_succ] at oc0 oc1
                have ol := o_22.lt
                have of1 := o_22.frozen 1
                have HB22 := Lib.hid B22
                have HT22 := Lib.hid t_22
                have HR22 := Lib.hid r_22
                have HO22 := Lib.hid o_22
                have HV22 := Lib.hid v_22
                have hWg := HWg.out
                clear B22 t_22 r_22 o_22 v_22
                go_wp2
                go_roundw
                case rel =>
                  refine ⟨k + 1, q + 1, some ⟨g', 0, none⟩, cap', by omega, by go_num, by rw [HSt.out, List.length_append, HQ.out]; rfl, ?_, by simpa [World.setCell] using hbase22, HB22.out.setCell (p := ⟨g1, 1, none⟩) (by simp; omega) _, HT22.out.far (p := ⟨g1, 1, none⟩) (by simp; omega) _, HR22.out.far (p := ⟨g1, 1, none⟩) (by simp; omega) _, by simpa using HO22.out.set_ 1 (.slice (some ⟨g', 0, none⟩) (q + 1) cap'), ?_⟩
                  · rw [HSt.out, List.flatMap_append]
                    exact owns_grown HN.out (grownBy_set V22 g1 1 _) (fun r hr e => by have := (own_lt HN.out hr).1; have e2 := Option.some.inj e; omega)
                  · exact owns_grown HV22.out (grownBy_set V22 g1 1 _) (fun r hr e => by have := (HVl.out r hr).2; have e2 := Option.some.inj e; omega)
                case measure => simp [intOf]; omega
end Go.Proofs.YtighfmgkoepfkaaGreat
