/- Deeds of an office. -/
import Derived.Test.YtighfmgkoepfkaaGreatMOa
import Derived.Test.YtighfmgkoepfkaaGreatMRb
import Derived.Test.YtighfmgkoepfkaaGreatMY
import Derived.Test.YtighfmgkoepfkaaGreatMWa
import Derived.Test.YtighfmgkoepfkaaGreatMW
import Derived.Test.YtighfmgkoepfkaaGreatMP
namespace Go.Proofs.YtighfmgkoepfkaaGreat
open Go.RowKit

/-- What New of the specification returns. -/
def RnOut (w : World) (hs : List Hd) (e : Ending) (w' : World) : Prop :=
  ∃ A n c B m d, e = .returned (.tuple #[.agg #[.slice A n c, .slice B m d], .int .i64 (tcheck hs [])]) ∧ Below w.heap.size w w' ∧ (tcheck hs [] = 0 → OwnT w' w.heap.size (.slice A n c) (.slice B m d) hs [])
/-- A trade of one's own, as an argument. -/
theorem OwnT.arg {w : World} {L : Nat} {v1 v2 : Value} {hs : List Hd} {ms : List Mv} (h : OwnT w L v1 v2 hs ms) (h1 : hs.length ≤ 1000000) (h2 : ms.length ≤ 1000000) :
    ∃ t : TR, t.v = .agg #[v1, v2] ∧ t.Ok w ∧ t.hs = hs ∧ t.ms = ms ∧ t.n = hs.length ∧ t.m = ms.length ∧ (t.A = none → t.c = 0) ∧ (t.B = none → t.d = 0) := by
  obtain ⟨A, c, B, d, e1, e2, s1, s2, c1, c2, _, _⟩ := h.form
  subst e1 e2
  refine ⟨⟨A, hs.length, c, B, ms.length, d, hs, ms⟩, rfl, ⟨s1, s2, by dsimp only; omega, by dsimp only; omega, c1, c2⟩, rfl, rfl, rfl, rfl, fun e => ?_, fun e => ?_⟩
  · dsimp only at e ⊢
    subst e
    rcases h.h.2 with ⟨q, _⟩ | ⟨g, cap, cur, q, _⟩
    · exact (Value.slice.inj q).2.2
    · cases q
  · dsimp only at e ⊢
    subst e
    rcases h.m.2 with ⟨q, _⟩ | ⟨g, cap, cur, q, _⟩
    · exact (Value.slice.inj q).2.2
    · cases q
set_option maxRecDepth 100000 in
set_option maxHeartbeats 12800000 in
theorem RNew_any (A : Option Addr) (n c : Nat) (hs : List Hd) (w : World) (h : SAt encH 6 w A n hs) (hn : n ≤ 1000000) :
    Calls Tryz.prog 37 #[.slice A n c] w (RnOut w hs) := by
  have b0 := below_new w (.cells #[.slice none 0 0, .slice none 0 0] 74)
  have r0 := Blk.new w 74 #[.slice none 0 0, .slice none 0 0]
  have HLh := Lib.hid (show hs.length = n from h.len)
  have HH := Lib.hid h
  obtain ⟨i0, hi0, hi1, hi2, hi3⟩ := info_parts info_hd
  obtain ⟨tk, htk⟩ : ∃ tk, tcheck hs [] = tk := ⟨_, rfl⟩
  clear h
  go_enter Tryz.func37, Tryz.ntmps37
  go_upto_region 1 with fail
  generalize hW : w.alloc (.cells #[.slice none 0 0, .slice none 0 0] 74) = W at *
  have HWs := Lib.hid (show W.heap.size = w.heap.size + 1 by rw [← hW]; simp)
  have HR := Lib.hid r0
  have HBw := Lib.hid b0
  clear hW r0 b0
  cases A with
  | none =>
    obtain rfl : n = 0 := by
      refine Nat.eq_zero_of_not_pos fun q => ?_
      obtain ⟨b, off, e, _⟩ := HH.out.at_ q
      cases e
    have HE0 := Lib.hid (show hs = [] from List.eq_nil_of_length_eq_zero HLh.out)
    clear HH
    go_wp2_with (at_builtin; go_loud (refine wpList_append_own_nil rfl (.tmp 6) (.tmp 7) 22 rfl (w.heap.size + 1) 118 i0 6 Tryz.underlying22 hi0 _ 0 [] rfl ?q0 c rfl ?_))
    case q0 => exact World.ownsRow_made W #[] 0 (by rw [HWs.out]; exact Nat.le_refl _) (Nat.zero_le _) (by simp)
    have HBU := Lib.hid ((Below.refl W.heap.size W).alloc (Nat.le_refl _) (.cells #[] 118))
    have hrow : (W.alloc (.cells #[] 118)).ownsRow (w.heap.size + 1) 118 6 (.slice (some ⟨W.heap.size, 0, none⟩) 0 0) 0 (hs.flatMap encH) := by rw [HE0.out]; exact World.ownsRow_made W #[] 0 (by rw [HWs.out]; exact Nat.le_refl _) (Nat.zero_le _) (by simp)
    have hu0 : (W.alloc (.cells #[] 118)).heap.size = W.heap.size + 1 := by simp
    generalize W.alloc (.cells #[] 118) = U0 at *
    generalize hv1 : Value.slice (some ⟨W.heap.size, 0, none⟩) 0 0 = v1 at *
    clear hv1
    obtain ⟨n, hnn⟩ : ∃ n, n = 0 := ⟨0, rfl⟩
    rw [← hnn] at hrow HLh hn
    clear hnn HE0
    have HRow := Lib.hid hrow
    obtain ⟨Av, cv, rfl⟩ := owns_slice HRow.out
    have hbo := below_new U0 (.cells #[.slice Av n cv, .slice none 0 0] 25)
    clear hrow
    go_upto_region 2 with fail
    rw [← hu0]
    clear hu0
    have HT1 := Lib.hid (Blk.new U0 25 #[.slice Av n cv, .slice none 0 0])
    have HR1 := Lib.hid (HR.out.below (HBU.out.trans (hbo.mono HBU.out.size)))
    have HB1 := Lib.hid (HBw.out.trans ((HBU.out.trans (hbo.mono HBU.out.size)).mono (by have := HWs.out; omega)))
    have HV1 := Lib.hid (owns_below HRow.out hbo)
    generalize hU : U0.alloc (.cells #[.slice Av n cv, .slice none 0 0] 25) = U at *
    generalize hg : U0.heap.size = g1 at *
    clear hU hg hbo HBw HBU HRow HR
    have HCk := Lib.hid (fun (q : SAt encH 6 U Av n hs) (qc : n ≤ cv) => RCheck_any ⟨Av, n, cv, none, 0, 0, hs, []⟩ U ⟨q, ⟨rfl, fun q => absurd q (Nat.lt_irrefl 0)⟩, by dsimp only; omega, Nat.zero_le _, qc, Nat.le_refl 0⟩)
    dsimp only [TR.v] at HCk
    rw [htk] at HCk
    have HTk := Lib.hid htk
    clear htk
    obtain ⟨A', c', e', s', _, hc'⟩ := SAt_of_row encH_len HLh.out HV1.out
    cases e'
    have HC := Lib.hid (HCk.out s' hc')
    clear HCk s' hc'
    have t0 := HT1.out.cell 0
    have t1 := HT1.out.cell 1
    simp only [List.getElem?_toArray, List.getElem?_cons_zero, List.getElem?_cons_succ] at t0 t1
    have tl := HT1.out.lt
    go_upto_region 3 with (go_at_call 61; go_loud (with_reducible refine HC.out.mono ?_); rintro e u3 ⟨rfl, hb3⟩)
    clear t0 t1 tl HC
    have HT3 := Lib.hid (HT1.out.below hb3)
    have HR3 := Lib.hid (HR1.out.below hb3)
    have HB3 := Lib.hid (HB1.out.trans (hb3.mono (by have := HB1.out.size; omega)))
    have HV3 := Lib.hid (owns_below HV1.out hb3)
    clear hb3 HT1 HR1 HB1 HV1
    have t0 := HT3.out.cell 0
    have t1 := HT3.out.cell 1
    have r0 := HR3.out.cell 0
    have r1 := HR3.out.cell 1
    simp only [List.getElem?_toArray, List.getElem?_cons_zero, List.getElem?_cons_succ] at t0 t1 r0 r1
    have tl := HT3.out.lt
    have rl := HR3.out.lt
    have f0 := HR3.out.frozen 0
    have f1 := HR3.out.frozen 1
    by_cases hq : tk = 0
    case neg =>
      have hqb : decide (tk = 0) = false := decide_eq_false hq
      go_wp2
      have hf := blk_set2 HR3.out (.slice none 0 0) (.slice none 0 0)
      have x0 := hf.cell 0
      have x1 := hf.cell 1
      simp only [List.getElem?_toArray, List.getElem?_cons_zero, List.getElem?_cons_succ] at x0 x1
      refine bodyPost_ret (v := .tuple #[.agg #[.slice none 0 0, .slice none 0 0], .int .i64 tk]) (by simp [results, Tryz.results37, go_sem, x0, x1]) rfl ⟨_, _, _, _, _, _, by rw [HTk.out], below_set2 HB3.out (Nat.le_refl _) _ _, fun q => absurd (HTk.out.symm.trans q) hq⟩
    case pos =>
      subst hq
      go_wp2
      have hf := blk_set2 HR3.out (.slice Av n cv) (.slice none 0 0)
      have x0 := hf.cell 0
      have x1 := hf.cell 1
      simp only [List.getElem?_toArray, List.getElem?_cons_zero, List.getElem?_cons_succ] at x0 x1
      have hgz := grown_set2 u3 w.heap.size (.slice Av n cv) (.slice none 0 0)
      refine bodyPost_ret (v := .tuple #[.agg #[.slice Av n cv, .slice none 0 0], .int .i64 0]) (by simp [results, Tryz.results37, go_sem, x0, x1]) rfl ⟨_, _, _, _, _, _, by rw [HTk.out], below_set2 HB3.out (Nat.le_refl _) _ _, fun _ => ⟨?_, World.ownsRow_nil _ _ _ _⟩⟩
      rw [HLh.out]
      exact owns_weak (owns_grown HV3.out hgz (fun r hr e => own_ne HV3.out HR3.out (by decide) (by rw [hr, ← e]))) (by omega)
  | some a =>
    have HF := Lib.hid (show ∀ (j : Nat) (u : Value), (hs.flatMap encH)[j]? = some u → w.cell? (a.add j) = some u from HH.out.flat encH_len (by decide))
    have HFw := Lib.hid (show ∀ (j : Nat) (u : Value), (hs.flatMap encH)[j]? = some u → W.cell? (a.add j) = some u from fun j u hj => by
      have h1 := HF.out j u hj
      have h2 := (cell_lt h1).1
      rw [← h1]
      exact HBw.out.cell h2)
    clear HH
    go_wp2_with (at_builtin; go_loud (refine wpList_append_own _ rfl (.tmp 6) (.tmp 7) 22 rfl (w.heap.size + 1) 118 i0 (.agg #[.int .i64 0, .int .i64 0, .int .i64 0, .int .i64 0, .int .i64 0, .int .i64 0]) 6 48 Tryz.underlying22 hi0 hi1 hi2 hi3 rfl (by decide) _ 0 [] rfl ?q0 a n c (hs.flatMap encH) rfl ?q1 ?q2 ?q3 ?q4 ?q5 ?q6 ?_))
    case q0 => exact World.ownsRow_made W #[] 0 (by rw [HWs.out]; exact Nat.le_refl _) (Nat.zero_le _) (by simp)
    case q1 => rw [flat_len encH_len, HLh.out]
    case q2 =>
      intro j u hj
      exact Lib.cell?_alloc_some _ (HFw.out j u hj)
    case q3 => exact encH_one hs
    case q4 => unfold maxLen; omega
    case q5 => omega
    case q6 => have := HWs.out; simp; omega
    intro v1 U0 hown hgrow _
    have hrow : U0.ownsRow (w.heap.size + 1) 118 6 v1 n (hs.flatMap encH) := by simpa using hown
    have HBU := Lib.hid (show Below W.heap.size W U0 from ((Below.refl _ W).alloc (Nat.le_refl _) _).grown hgrow (by simp) (by intro k hk; simp [Value.ownBlock] at hk; omega))
    clear hown hgrow
    have HRow := Lib.hid hrow
    obtain ⟨Av, cv, rfl⟩ := owns_slice HRow.out
    have hbo := below_new U0 (.cells #[.slice Av n cv, .slice none 0 0] 25)
    clear hrow
    go_upto_region 2 with fail
    have HT1 := Lib.hid (Blk.new U0 25 #[.slice Av n cv, .slice none 0 0])
    have HR1 := Lib.hid (HR.out.below (HBU.out.trans (hbo.mono HBU.out.size)))
    have HB1 := Lib.hid (HBw.out.trans ((HBU.out.trans (hbo.mono HBU.out.size)).mono (by have := HWs.out; omega)))
    have HV1 := Lib.hid (owns_below HRow.out hbo)
    generalize hU : U0.alloc (.cells #[.slice Av n cv, .slice none 0 0] 25) = U at *
    generalize hg : U0.heap.size = g1 at *
    clear hU hg hbo HBw HBU HRow HR
    have HCk := Lib.hid (fun (q : SAt encH 6 U Av n hs) (qc : n ≤ cv) => RCheck_any ⟨Av, n, cv, none, 0, 0, hs, []⟩ U ⟨q, ⟨rfl, fun q => absurd q (Nat.lt_irrefl 0)⟩, by dsimp only; omega, Nat.zero_le _, qc, Nat.le_refl 0⟩)
    dsimp only [TR.v] at HCk
    rw [htk] at HCk
    have HTk := Lib.hid htk
    clear htk
    obtain ⟨A', c', e', s', _, hc'⟩ := SAt_of_row encH_len HLh.out HV1.out
    cases e'
    have HC := Lib.hid (HCk.out s' hc')
    clear HCk s' hc'
    have t0 := HT1.out.cell 0
    have t1 := HT1.out.cell 1
    simp only [List.getElem?_toArray, List.getElem?_cons_zero, List.getElem?_cons_succ] at t0 t1
    have tl := HT1.out.lt
    go_upto_region 3 with (go_at_call 61; go_loud (with_reducible refine HC.out.mono ?_); rintro e u3 ⟨rfl, hb3⟩)
    clear t0 t1 tl HC
    have HT3 := Lib.hid (HT1.out.below hb3)
    have HR3 := Lib.hid (HR1.out.below hb3)
    have HB3 := Lib.hid (HB1.out.trans (hb3.mono (by have := HB1.out.size; omega)))
    have HV3 := Lib.hid (owns_below HV1.out hb3)
    clear hb3 HT1 HR1 HB1 HV1
    have t0 := HT3.out.cell 0
    have t1 := HT3.out.cell 1
    have r0 := HR3.out.cell 0
    have r1 := HR3.out.cell 1
    simp only [List.getElem?_toArray, List.getElem?_cons_zero, List.getElem?_cons_succ] at t0 t1 r0 r1
    have tl := HT3.out.lt
    have rl := HR3.out.lt
    have f0 := HR3.out.frozen 0
    have f1 := HR3.out.frozen 1
    by_cases hq : tk = 0
    case neg =>
      have hqb : decide (tk = 0) = false := decide_eq_false hq
      go_wp2
      have hf := blk_set2 HR3.out (.slice none 0 0) (.slice none 0 0)
      have x0 := hf.cell 0
      have x1 := hf.cell 1
      simp only [List.getElem?_toArray, List.getElem?_cons_zero, List.getElem?_cons_succ] at x0 x1
      refine bodyPost_ret (v := .tuple #[.agg #[.slice none 0 0, .slice none 0 0], .int .i64 tk]) (by simp [results, Tryz.results37, go_sem, x0, x1]) rfl ⟨_, _, _, _, _, _, by rw [HTk.out], below_set2 HB3.out (Nat.le_refl _) _ _, fun q => absurd (HTk.out.symm.trans q) hq⟩
    case pos =>
      subst hq
      go_wp2
      have hf := blk_set2 HR3.out (.slice Av n cv) (.slice none 0 0)
      have x0 := hf.cell 0
      have x1 := hf.cell 1
      simp only [List.getElem?_toArray, List.getElem?_cons_zero, List.getElem?_cons_succ] at x0 x1
      have hgz := grown_set2 u3 w.heap.size (.slice Av n cv) (.slice none 0 0)
      refine bodyPost_ret (v := .tuple #[.agg #[.slice Av n cv, .slice none 0 0], .int .i64 0]) (by simp [results, Tryz.results37, go_sem, x0, x1]) rfl ⟨_, _, _, _, _, _, by rw [HTk.out], below_set2 HB3.out (Nat.le_refl _) _ _, fun _ => ⟨?_, World.ownsRow_nil _ _ _ _⟩⟩
      rw [HLh.out]
      exact owns_weak (owns_grown HV3.out hgz (fun r hr e => own_ne HV3.out HR3.out (by decide) (by rw [hr, ← e]))) (by omega)
end Go.Proofs.YtighfmgkoepfkaaGreat

namespace Go.Proofs.YtighfmgkoepfkaaGreat
open Go.RowKit

theorem row_arg {α : Type} {enc : α → List Value} {k : Nat} (hk : ∀ x, (enc x).length = k) {W : World} {base t n : Nat} {v : Value} {zs : List α} (hn : zs.length = n) (h : W.ownsRow base t k v n (zs.flatMap enc)) :
    ∃ A c, v = .slice A n c ∧ SAt enc k W A n zs ∧ n ≤ c ∧ (A = none → c = 0) := by
  obtain ⟨A, c, e, s, _, hc⟩ := SAt_of_row hk hn h
  refine ⟨A, c, e, s, hc, fun q => ?_⟩
  rcases h.2 with ⟨q2, _⟩ | ⟨g, cap, cur, q2, _⟩
  · rw [e] at q2; exact (Value.slice.inj q2).2.2
  · rw [e, q] at q2; cases q2
/-- What Put and Take of the specification return. -/
def RoOut (w : World) (L : Nat) (hs : List Hd) (er : Int) (ms : List Mv) (e : Ending) (w' : World) : Prop :=
  ∃ u1 u2, e = .returned (.tuple #[.agg #[u1, u2], .int .i64 er]) ∧ OwnT w' L u1 u2 hs ms ∧ Below w.heap.size w w'
set_option maxRecDepth 100000 in
set_option maxHeartbeats 12800000 in
theorem RTake_any (L : Nat) (v1 v2 : Value) (hs : List Hd) (ms : List Mv) (x : Int) (w : World) (h : OwnT w L v1 v2 hs ms) (hl : hs.length ≤ 9 ∧ ms.length ≤ 24) (hL : L ≤ w.heap.size) :
    Calls Tryz.prog 38 #[.agg #[v1, v2], .int .i64 x] w (RoOut w L hs (toE ms x) (dropL ms [x])) := by
  have ho1 := h.h
  have ho2 := h.m
  obtain ⟨n, hn⟩ : ∃ n, hs.length = n := ⟨_, rfl⟩
  obtain ⟨m, hm⟩ : ∃ m, ms.length = m := ⟨_, rfl⟩
  have HLh := Lib.hid hn
  have HLm := Lib.hid hm
  obtain ⟨hn9, hm24⟩ := hl
  rw [hn] at ho1 hn9
  rw [hm] at ho2 hm24
  clear hn hm h
  obtain ⟨A, c, rfl, hA, hc, hA0⟩ := row_arg encH_len HLh.out ho1
  obtain ⟨B, d, rfl, hB, hd, hB0⟩ := row_arg encM_len HLm.out ho2
  have b0 : Below w.heap.size w ((w.alloc (.cells #[.slice A n c, .slice B m d] 74)).alloc (.cells #[.slice none 0 0, .slice none 0 0] 74)) := ((Below.refl w.heap.size w).alloc (Nat.le_refl _) _).alloc (by simp) _
  have t0 := (Blk.new w 74 #[.slice A n c, .slice B m d]).alloc (.cells #[.slice none 0 0, .slice none 0 0] 74)
  have r0 := Blk.at_new (W := w.alloc (.cells #[.slice A n c, .slice B m d] 74)) (g := w.heap.size + 1) 74 #[.slice none 0 0, .slice none 0 0] (by simp)
  have HHo := Lib.hid (owns_below ho1 b0)
  have HMo := Lib.hid (owns_below ho2 b0)
  have HAt := Lib.hid (hA.below b0)
  have HBt := Lib.hid (hB.below b0)
  have HDr := Lib.hid (fun (u : World) (g : Nat) (q1 : SAt encH 6 u A n hs) (q2 : SAt encM 5 u B m ms) (q3 : Blk u g 3 #[.int .i64 x]) => drop_any ⟨A, n, c, B, m, d, hs, ms⟩ (some ⟨g, 0, none⟩) 1 1 [x] u ⟨q1, q2, by dsimp only; omega, by dsimp only; omega, hc, hd⟩ (one_sat q3) (by decide) (by dsimp only; omega) (by dsimp only; omega) hA0)
  dsimp only [TR.v] at HDr
  have HTe := Lib.hid (show (dropL ms [x]).length = m ↔ toE ms x = 5 by
    rw [← HLm.out]
    unfold toE
    constructor
    · intro q
      rw [if_neg]
      intro c
      obtain ⟨y, hy, e⟩ := List.any_eq_true.1 c
      have e := of_decide_eq_true e
      have h2 := (List.filter_eq_self (p := fun m : Mv => ![x].contains m.id)).1 ((List.filter_sublist (l := ms) (p := fun m : Mv => ![x].contains m.id)).eq_of_length q) y hy
      simp [e] at h2
    · intro q
      split at q
      · cases q
      · rename_i c
        rw [drop_none (by simpa using c)])
  have HTo := Lib.hid (show toE ms x = 0 ∨ toE ms x = 5 by unfold toE; split <;> simp)
  have HNo := Lib.hid (show toE ms x = 5 → dropL ms [x] = ms from fun q => drop_none (by
    unfold toE at q
    split at q
    · cases q
    · rename_i c; simpa using c))
  have hk : (dropL ms [x]).length ≤ 24 := Nat.le_trans (List.length_filter_le _ _) (by rw [HLm.out]; exact hm24)
  generalize toE ms x = te at *
  generalize hds : dropL ms [x] = ds at *
  clear hds
  obtain ⟨k, hkk⟩ : ∃ k, ds.length = k := ⟨_, rfl⟩
  have HLk := Lib.hid hkk
  rw [hkk] at HTe hk
  clear hA hB hc hd hA0 hB0 ho1 ho2 hkk
  go_enter Tryz.func38, Tryz.ntmps38
  go_upto_region 1 with fail
  generalize hW : (w.alloc (.cells #[.slice A n c, .slice B m d] 74)).alloc (.cells #[.slice none 0 0, .slice none 0 0] 74) = W at *
  have HWs := Lib.hid (show W.heap.size = w.heap.size + 2 by rw [← hW]; simp)
  have HT := Lib.hid t0
  have HR := Lib.hid r0
  have HB0 := Lib.hid b0
  clear hW t0 r0 b0
  have y0 := HT.out.cell 0
  have y1 := HT.out.cell 1
  simp only [List.getElem?_toArray, List.getElem?_cons_zero, List.getElem?_cons_succ] at y0 y1
  have yl := HT.out.lt
  have b1 := below_new W (.cells #[.int .i64 x] 3)
  have HC := Lib.hid (HDr.out _ W.heap.size (HAt.out.below b1) (HBt.out.below b1) (Blk.new W _ _))
  go_upto_region 2 with (go_at_call 69; (with_reducible refine HC.out.mono ?_); rintro e u2 ⟨w1, w2, rfl, ho, hb2⟩; have ho1 := ho.h; have ho2 := ho.m; rw [HLh.out] at ho1; rw [HLk.out] at ho2; obtain ⟨A2, c2, rfl⟩ := owns_slice ho1; obtain ⟨B2, d2, rfl⟩ := owns_slice ho2)
  have bq := below_new u2 (.cells #[.slice A2 n c2, .slice B2 k d2] 25)
  have bn := (b1.trans (hb2.mono b1.size)).trans (bq.mono (Nat.le_trans b1.size hb2.size))
  have HT2 := Lib.hid (HT.out.below bn)
  have HR2 := Lib.hid (HR.out.below bn)
  have HB2 := Lib.hid (HB0.out.trans (bn.mono HB0.out.size))
  have HHo2 := Lib.hid (owns_below HHo.out bn)
  have HMo2 := Lib.hid (owns_below HMo.out bn)
  have HD2 := Lib.hid (Blk.new u2 25 #[.slice A2 n c2, .slice B2 k d2])
  have HNh := Lib.hid (owns_below ho1 bq)
  have HNm := Lib.hid (owns_below ho2 bq)
  have HGw := Lib.hid (show w.heap.size + 2 ≤ u2.heap.size by have := HWs.out; have := b1.size; have := hb2.size; omega)
  generalize hV : u2.alloc (.cells #[.slice A2 n c2, .slice B2 k d2] 25) = V2 at *
  have HLw := Lib.hid (show L ≤ (W.alloc (.cells #[.int .i64 x] 3)).heap.size by have := HWs.out; simp; omega)
  generalize (W.alloc (.cells #[.int .i64 x] 3)).heap.size = s1 at *
  generalize hg : u2.heap.size = g2 at *
  clear hV hg bq bn b1 ho ho1 ho2 hb2 HC y0 y1 yl HT HR HB0 HHo HMo HAt HBt HDr
  have t0 := HT2.out.cell 0
  have t1 := HT2.out.cell 1
  have d0 := HD2.out.cell 0
  have d1 := HD2.out.cell 1
  simp only [List.getElem?_toArray, List.getElem?_cons_zero, List.getElem?_cons_succ] at t0 t1 d0 d1
  have tl := HT2.out.lt
  have dl := HD2.out.lt
  have tf0 := HT2.out.frozen 0
  have tf1 := HT2.out.frozen 1
  have r0 := HR2.out.cell 0
  have r1 := HR2.out.cell 1
  simp only [List.getElem?_toArray, List.getElem?_cons_zero, List.getElem?_cons_succ] at r0 r1
  have rl := HR2.out.lt
  have f0 := HR2.out.frozen 0
  have f1 := HR2.out.frozen 1
  by_cases hq : k = m
  case pos =>
    subst hq
    have HE := Lib.hid (HTe.out.1 rfl)
    have HN := Lib.hid (HNo.out HE.out)
    clear HTe HNo HTo
    go_wp2
    have hf := blk_set2 HR2.out (.slice A n c) (.slice B k d)
    have x0 := hf.cell 0
    have x1 := hf.cell 1
    simp only [List.getElem?_toArray, List.getElem?_cons_zero, List.getElem?_cons_succ] at x0 x1
    have hgz := grown_set2 V2 (w.heap.size + 1) (.slice A n c) (.slice B k d)
    refine bodyPost_ret (v := .tuple #[.agg #[.slice A n c, .slice B k d], .int .i64 5]) (by simp [results, Tryz.results38, go_sem, x0, x1]) rfl ⟨_, _, by rw [HE.out], ⟨?_, ?_⟩, below_set2 HB2.out (Nat.le_succ _) _ _⟩
    · rw [HLh.out]
      exact owns_grown HHo2.out hgz (fun r hr e => own_ne HHo2.out HR2.out (by decide) (by rw [hr, ← e]))
    · rw [HN.out, HLm.out]
      exact owns_grown HMo2.out hgz (fun r hr e => own_ne HMo2.out HR2.out (by decide) (by rw [hr, ← e]))
  case neg =>
    have hkb : ((k : Int) == (m : Int)) = false := by simp; omega
    have HE := Lib.hid (show te = 0 by
      rcases HTo.out with q | q
      · exact q
      · exact absurd (HTe.out.2 q) hq)
    clear HTe HNo HTo hq
    go_upto_region 5 with fail
    have hf1 := blk_set2 HT2.out (.slice A2 n c2) (.slice B2 k d2)
    have hg1 := grown_set2 V2 w.heap.size (.slice A2 n c2) (.slice B2 k d2)
    have HB3 := Lib.hid (below_set2 HB2.out (Nat.le_refl _) (.slice A2 n c2) (.slice B2 k d2))
    have HR3 := Lib.hid (HR2.out.grown hg1 (fun e => by have := Option.some.inj e; omega))
    have HNh3 := Lib.hid (owns_grown HNh.out hg1 (fun r hr e => own_ne HNh.out HT2.out (by decide) (by rw [hr, ← e])))
    have HNm3 := Lib.hid (owns_grown HNm.out hg1 (fun r hr e => own_ne HNm.out HT2.out (by decide) (by rw [hr, ← e])))
    have HT3 := Lib.hid hf1
    clear t0 t1 d0 d1 tl dl tf0 tf1 r0 r1 rl f0 f1 hf1 hg1 HR2 HB2 HNh HNm HT2 HHo2 HMo2 HD2
    generalize (V2.setCell ⟨w.heap.size, 0, none⟩ (.slice A2 n c2)).setCell ⟨w.heap.size, 1, none⟩ (.slice B2 k d2) = V3 at *
    have t0 := HT3.out.cell 0
    have t1 := HT3.out.cell 1
    have r0 := HR3.out.cell 0
    have r1 := HR3.out.cell 1
    simp only [List.getElem?_toArray, List.getElem?_cons_zero, List.getElem?_cons_succ] at t0 t1 r0 r1
    have tl := HT3.out.lt
    have rl := HR3.out.lt
    have f0 := HR3.out.frozen 0
    have f1 := HR3.out.frozen 1
    go_wp2
    have hf := blk_set2 HR3.out (.slice A2 n c2) (.slice B2 k d2)
    have x0 := hf.cell 0
    have x1 := hf.cell 1
    simp only [List.getElem?_toArray, List.getElem?_cons_zero, List.getElem?_cons_succ] at x0 x1
    have hgz := grown_set2 V3 (w.heap.size + 1) (.slice A2 n c2) (.slice B2 k d2)
    refine bodyPost_ret (v := .tuple #[.agg #[.slice A2 n c2, .slice B2 k d2], .int .i64 0]) (by simp [results, Tryz.results38, go_sem, x0, x1]) rfl ⟨_, _, by rw [HE.out], ⟨?_, ?_⟩, below_set2 HB3.out (Nat.le_succ _) _ _⟩
    · rw [HLh.out]
      exact owns_weak (owns_grown HNh3.out hgz (fun r hr e => own_ne HNh3.out HR3.out (by decide) (by rw [hr, ← e]))) HLw.out
    · rw [HLk.out]
      exact owns_weak (owns_grown HNm3.out hgz (fun r hr e => own_ne HNm3.out HR3.out (by decide) (by rw [hr, ← e]))) HLw.out
end Go.Proofs.YtighfmgkoepfkaaGreat

namespace Go.Proofs.YtighfmgkoepfkaaGreat
open Go.RowKit

/-- A row is copied and added to in one region that draws its order. -/
structure ApP (L m : Nat) (rows p : List Value) (ls : Nat → Bool) (vs : Nat → Value) (v : World) : Prop where
  row : ls 0 = true → ls 7 = false → v.ownsRow L 59 5 (cond (ls 4) (vs 4) (vs 0)) (cond (ls 4) m 0) (cond (ls 4) rows [])
  new : ls 6 = true → ls 7 = false → ∃ g, vs 6 = .slice (some ⟨g, 0, none⟩) 1 1 ∧ Blk v g 59 p.toArray ∧ (ls 0 = true → (cond (ls 4) (vs 4) (vs 0)).ownBlock ≠ some g)
  fin : ls 7 = true → v.ownsRow L 59 5 (vs 7) (m + 1) (rows ++ p)
  o4 : ls 4 = true → ls 0 = true
  o7 : ls 7 = true → ls 4 = true
section
variable {L m : Nat} {rows p : List Value} {ls : Nat → Bool} {vs : Nat → Value} {v v' : World}
theorem ApP.init : ApP L m rows p (fun _ => false) (fun _ => undef) v := ⟨fun h _ => (by cases h), fun h _ => (by cases h), fun h => (by cases h), fun h => (by cases h), fun h => (by cases h)⟩
theorem ApP.below (h : ApP L m rows p ls vs v) (hb : Below v.heap.size v v') : ApP L m rows p ls vs v' :=
  ⟨fun a b => owns_below (h.row a b) hb, fun a b => let ⟨g, x, y, z⟩ := h.new a b; ⟨g, x, y.below hb, z⟩, fun a => owns_below (h.fin a) hb, h.o4, h.o7⟩
theorem ApP.s0 (h : ApP L m rows p ls vs v) (hl : ls 0 = false) (hL : L ≤ v.heap.size) : ApP L m rows p (updB ls 0) (upd vs 0 (.slice (some ⟨v.heap.size, 0, none⟩) 0 0)) (v.alloc (.cells #[] 59)) := by
  have h4 : ls 4 = false := by cases e : ls 4 with | false => rfl | true => rw [h.o4 e] at hl; cases hl
  have h7 : ls 7 = false := by cases e : ls 7 with | false => rfl | true => rw [h.o7 e] at h4; cases h4
  have h2 := h.below (below_new v (.cells #[] 59))
  refine ⟨fun _ _ => ?_, fun a _ => ?_, fun a => ?_, fun _ => by simp [updB], fun a => ?_⟩
  · simpa [updB, upd, h4] using World.ownsRow_made (base := L) v #[] 0 hL (Nat.zero_le _) (by simp)
  · obtain ⟨g, x, y, z⟩ := h.new (by simpa [updB] using a) h7
    refine ⟨g, by simpa [upd] using x, y.below (below_new _ _), fun _ => ?_⟩
    have := y.lt
    simp [updB, upd, h4, Value.ownBlock]
    omega
  · simp [updB, h7] at a
  · simp [updB, h7] at a
theorem ApP.s6 (h : ApP L m rows p ls vs v) : ApP L m rows p (updB ls 6) (upd vs 6 (.slice (some ⟨v.heap.size, 0, none⟩) 1 1)) (v.alloc (.cells p.toArray 59)) := by
  have h2 := h.below (below_new v (.cells p.toArray 59))
  refine ⟨fun a b => ?_, fun _ b => ⟨v.heap.size, by simp [upd], Blk.new _ _ _, fun a e => ?_⟩, fun a => ?_, fun a => ?_, fun a => ?_⟩
  · simpa [updB, upd] using h2.row (by simpa [updB] using a) (by simpa [updB] using b)
  · have hr := h.row (by simpa [updB] using a) (by simpa [updB] using b)
    have := (own_lt hr (g := v.heap.size) (by simpa [updB, upd] using e)).2
    omega
  · simpa [updB, upd] using h2.fin (by simpa [updB] using a)
  · simpa [updB] using h.o4 (by simpa [updB] using a)
  · simpa [updB] using h.o7 (by simpa [updB] using a)
theorem ApP.s4 (h : ApP L m rows p ls vs v) (h0 : ls 0 = true) (h4 : ls 4 = false) {x : Value} (hg : v.grownBy v' (vs 0).ownBlock) (hr : v'.ownsRow L 59 5 x m rows) (hx : x.ownBlock = (vs 0).ownBlock ∨ x.ownBlock = some v.heap.size) : ApP L m rows p (updB ls 4) (upd vs 4 x) v' := by
  have h7 : ls 7 = false := by cases e : ls 7 with | false => rfl | true => rw [h.o7 e] at h4; cases h4
  refine ⟨fun _ _ => by simpa [updB, upd] using hr, fun a _ => ?_, fun a => ?_, fun _ => by simpa [updB] using h0, fun a => ?_⟩
  · obtain ⟨g, x1, y, z⟩ := h.new (by simpa [updB] using a) h7
    have z := z h0
    rw [h4, cond_false] at z
    refine ⟨g, by simpa [upd] using x1, y.grown hg z, fun _ => ?_⟩
    simp only [updB, upd, if_true, cond_true]
    rcases hx with e | e
    · simpa [e] using z
    · have := y.lt
      simp [e]
      omega
  · simp [updB, h7] at a
  · simp [updB, h7] at a
theorem ApP.s7 (h : ApP L m rows p ls vs v) (h4 : ls 4 = true) {x : Value} (hr : v'.ownsRow L 59 5 x (m + 1) (rows ++ p)) : ApP L m rows p (updB ls 7) (upd vs 7 x) v' := by
  have h0 := h.o4 h4
  exact ⟨fun _ b => by simp [updB] at b, fun _ b => by simp [updB] at b, fun _ => by simpa [upd] using hr, fun _ => by simpa [updB] using h0, fun _ => by simpa [updB] using h4⟩
end
set_option maxRecDepth 100000 in
set_option maxHeartbeats 12800000 in
theorem RPut_any (L : Nat) (v1 v2 : Value) (hs : List Hd) (ms : List Mv) (x : Mv) (w : World) (h : OwnT w L v1 v2 hs ms) (hl : hs.length ≤ 9 ∧ ms.length ≤ 24) (hL : L ≤ w.heap.size) :
    Calls Tryz.prog 39 #[.agg #[v1, v2], vMv x] w (RoOut w L hs (poE hs ms x) (poM hs ms x)) := by
  have ho1 := h.h
  have ho2 := h.m
  obtain ⟨n, hn⟩ : ∃ n, hs.length = n := ⟨_, rfl⟩
  obtain ⟨m, hm⟩ : ∃ m, ms.length = m := ⟨_, rfl⟩
  have HLh := Lib.hid hn
  have HLm := Lib.hid hm
  obtain ⟨hn9, hm24⟩ := hl
  rw [hn] at ho1 hn9
  rw [hm] at ho2 hm24
  clear hn hm h
  obtain ⟨A, c, rfl, hA, hc, hA0⟩ := row_arg encH_len HLh.out ho1
  obtain ⟨B, d, rfl, hB, hd, hB0⟩ := row_arg encM_len HLm.out ho2
  have b0 : Below w.heap.size w (((w.alloc (.cells #[.slice A n c, .slice B m d] 74)).alloc (.cells #[.int .i64 x.id, .int .i64 x.fr, .int .i64 x.to, .int .i64 x.lo, .int .i64 x.hi] 59)).alloc (.cells #[.slice none 0 0, .slice none 0 0] 74)) := (((Below.refl w.heap.size w).alloc (Nat.le_refl _) _).alloc (by simp) _).alloc (by simp; omega) _
  have t0 := ((Blk.new w 74 #[.slice A n c, .slice B m d]).alloc (.cells #[.int .i64 x.id, .int .i64 x.fr, .int .i64 x.to, .int .i64 x.lo, .int .i64 x.hi] 59)).alloc (.cells #[.slice none 0 0, .slice none 0 0] 74)
  have x0 := (Blk.at_new (W := w.alloc (.cells #[.slice A n c, .slice B m d] 74)) (g := w.heap.size + 1) 59 #[.int .i64 x.id, .int .i64 x.fr, .int .i64 x.to, .int .i64 x.lo, .int .i64 x.hi] (by simp)).alloc (.cells #[.slice none 0 0, .slice none 0 0] 74)
  have r0 := Blk.at_new (W := (w.alloc (.cells #[.slice A n c, .slice B m d] 74)).alloc (.cells #[.int .i64 x.id, .int .i64 x.fr, .int .i64 x.to, .int .i64 x.lo, .int .i64 x.hi] 59)) (g := w.heap.size + 2) 74 #[.slice none 0 0, .slice none 0 0] (by simp)
  have HHo := Lib.hid (owns_below ho1 b0)
  have HMo := Lib.hid (owns_below ho2 b0)
  have HAt := Lib.hid (hA.below b0)
  have HBt := Lib.hid (hB.below b0)
  have HMv := Lib.hid (fun (u : World) (q1 : SAt encH 6 u A n hs) (q2 : SAt encM 5 u B m ms) => Moved_any ⟨A, n, c, B, m, d, hs, ms⟩ x u ⟨q1, q2, by dsimp only; omega, by dsimp only; omega, hc, hd⟩ (by dsimp only; omega))
  dsimp only [TR.v] at HMv
  obtain ⟨me, hme⟩ : ∃ me, mvE hs x = me := ⟨_, rfl⟩
  rw [hme] at HMv
  have HPE := Lib.hid (show poE hs ms x = if 24 ≤ m then 2 else if me ≠ 0 then me else if dupB ms x.id = true then 6 else 0 by unfold poE mvE2; rw [HLm.out, hme])
  have HPM := Lib.hid (show poM hs ms x = if poE hs ms x = 0 then ms ++ [x] else ms from rfl)
  generalize poE hs ms x = pe at *
  generalize poM hs ms x = pm at *
  clear hA hB hc hd hA0 hB0 ho1 ho2 hme
  have HDu := Lib.hid (show dupB ms x.id = ms.any (fun y => y.id == x.id) from rfl)
  obtain ⟨ii, hj0, hj1, hj2, hj3⟩ := info_parts info_mv
  have HII := Lib.hid (And.intro hj0 (And.intro hj1 (And.intro hj2 hj3)))
  clear hj0 hj1 hj2 hj3
  obtain ⟨xi, xf, xt, xl, xh⟩ := x
  dsimp only [vMv] at *
  go_enter Tryz.func39, Tryz.ntmps39
  go_upto_region 1 with fail
  generalize hW : ((w.alloc (.cells #[.slice A n c, .slice B m d] 74)).alloc (.cells #[.int .i64 xi, .int .i64 xf, .int .i64 xt, .int .i64 xl, .int .i64 xh] 59)).alloc (.cells #[.slice none 0 0, .slice none 0 0] 74) = W at *
  have HWs := Lib.hid (show W.heap.size = w.heap.size + 3 by rw [← hW]; simp)
  have HT := Lib.hid t0
  have HX := Lib.hid x0
  have HR := Lib.hid r0
  have HB0 := Lib.hid b0
  clear hW t0 r0 b0 x0
  have t0 := HT.out.cell 0
  have t1 := HT.out.cell 1
  have r0 := HR.out.cell 0
  have r1 := HR.out.cell 1
  have x0 := HX.out.cell 0
  have x1 := HX.out.cell 1
  have x2 := HX.out.cell 2
  have x3 := HX.out.cell 3
  have x4 := HX.out.cell 4
  simp only [List.getElem?_toArray, List.getElem?_cons_zero, List.getElem?_cons_succ] at t0 t1 r0 r1 x0 x1 x2 x3 x4
  have tl := HT.out.lt
  have rl := HR.out.lt
  have xl' := HX.out.lt
  have f0 := HR.out.frozen 0
  have f1 := HR.out.frozen 1
  by_cases hq : m < 24
  case neg =>
    have HP := Lib.hid (show pe = 2 by rw [HPE.out, if_pos (by omega)])
    have HP2 := Lib.hid (show pm = ms by rw [HPM.out, HP.out, if_neg (by decide)])
    clear HPE HPM
    go_wp2
    have hf := blk_set2 HR.out (.slice A n c) (.slice B m d)
    have z0 := hf.cell 0
    have z1 := hf.cell 1
    simp only [List.getElem?_toArray, List.getElem?_cons_zero, List.getElem?_cons_succ] at z0 z1
    have hgz := grown_set2 W (w.heap.size + 2) (.slice A n c) (.slice B m d)
    refine bodyPost_ret (v := .tuple #[.agg #[.slice A n c, .slice B m d], .int .i64 2]) (by simp [results, Tryz.results39, go_sem, z0, z1]) rfl ⟨_, _, by rw [HP.out], ⟨?_, ?_⟩, below_set2 HB0.out (by omega) _ _⟩
    · rw [HLh.out]
      exact owns_grown HHo.out hgz (fun r hr e => own_ne HHo.out HR.out (by decide) (by rw [hr, ← e]))
    · rw [HP2.out, HLm.out]
      exact owns_grown HMo.out hgz (fun r hr e => own_ne HMo.out HR.out (by decide) (by rw [hr, ← e]))
  case pos =>
  have HPe := Lib.hid (show pe = if me ≠ 0 then me else if dupB ms xi = true then 6 else 0 by rw [HPE.out, if_neg (by omega)])
  clear HPE
  have HC := Lib.hid (HMv.out W HAt.out HBt.out)
  go_upto_region 4 with (go_at_call 84; (with_reducible refine HC.out.mono ?_); rintro e u2 ⟨rfl, hb2⟩)
  have HT2 := Lib.hid (HT.out.below hb2)
  have HX2 := Lib.hid (HX.out.below hb2)
  have HR2 := Lib.hid (HR.out.below hb2)
  have HB2 := Lib.hid (HB0.out.trans (hb2.mono HB0.out.size))
  have HHo2 := Lib.hid (owns_below HHo.out hb2)
  have HMo2 := Lib.hid (owns_below HMo.out hb2)
  have HBt2 := Lib.hid (HBt.out.below hb2)
  clear t0 t1 r0 r1 x0 x1 x2 x3 x4 tl rl xl' f0 f1 HT HX HR HB0 HHo HMo HBt HAt hb2 HC HMv
  have t0 := HT2.out.cell 0
  have t1 := HT2.out.cell 1
  have r0 := HR2.out.cell 0
  have r1 := HR2.out.cell 1
  have x0 := HX2.out.cell 0
  have x1 := HX2.out.cell 1
  have x2 := HX2.out.cell 2
  have x3 := HX2.out.cell 3
  have x4 := HX2.out.cell 4
  simp only [List.getElem?_toArray, List.getElem?_cons_zero, List.getElem?_cons_succ] at t0 t1 r0 r1 x0 x1 x2 x3 x4
  have tl := HT2.out.lt
  have rl := HR2.out.lt
  have xl' := HX2.out.lt
  have f0 := HR2.out.frozen 0
  have f1 := HR2.out.frozen 1
  by_cases hm0 : me = 0
  case neg =>
    have hmb : decide (me = 0) = false := decide_eq_false hm0
    have HP := Lib.hid (show pe = me by rw [HPe.out, if_pos hm0])
    have HP2 := Lib.hid (show pm = ms by rw [HPM.out, HP.out, if_neg hm0])
    clear HPe HPM
    go_wp2
    have hf := blk_set2 HR2.out (.slice A n c) (.slice B m d)
    have z0 := hf.cell 0
    have z1 := hf.cell 1
    simp only [List.getElem?_toArray, List.getElem?_cons_zero, List.getElem?_cons_succ] at z0 z1
    have hgz := grown_set2 u2 (w.heap.size + 2) (.slice A n c) (.slice B m d)
    refine bodyPost_ret (v := .tuple #[.agg #[.slice A n c, .slice B m d], .int .i64 me]) (by simp [results, Tryz.results39, go_sem, z0, z1]) rfl ⟨_, _, by rw [HP.out], ⟨?_, ?_⟩, below_set2 HB2.out (by omega) _ _⟩
    · rw [HLh.out]
      exact owns_grown HHo2.out hgz (fun r hr e => own_ne HHo2.out HR2.out (by decide) (by rw [hr, ← e]))
    · rw [HP2.out, HLm.out]
      exact owns_grown HMo2.out hgz (fun r hr e => own_ne HMo2.out HR2.out (by decide) (by rw [hr, ← e]))
  case pos =>
  subst hm0
  have HPf := Lib.hid (show pe = if dupB ms xi = true then 6 else 0 by rw [HPe.out, if_neg (by decide)])
  clear HPe
  go_upto_region 6 with fail
  clear t0 t1 r0 r1 x0 x1 x2 x3 x4 tl rl xl' f0 f1
  go_upto_region 7 with fail
  go_loopw [7] (fun i wx => ∃ j : Nat, j ≤ m ∧ i = .int .i64 (j : Int) ∧ (∀ y ∈ ms.take j, y.id ≠ xi) ∧ Below w.heap.size w wx ∧ Blk wx w.heap.size 74 #[.slice A n c, .slice B m d] ∧ Blk wx (w.heap.size + 1) 59 #[.int .i64 xi, .int .i64 xf, .int .i64 xt, .int .i64 xl, .int .i64 xh] ∧ Blk wx (w.heap.size + 2) 74 #[.slice none 0 0, .slice none 0 0] ∧ wx.ownsRow L 118 6 (.slice A n c) n (hs.flatMap encH) ∧ wx.ownsRow L 59 5 (.slice B m d) m (ms.flatMap encM) ∧ SAt encM 5 wx B m ms) (fun i _ => m - (intOf i).toNat)
  case atStart => exact ⟨0, Nat.zero_le _, rfl, fun y h => by simp at h, HB2.out, HT2.out, HX2.out, HR2.out, HHo2.out, HMo2.out, HBt2.out⟩
  case round =>
    clear HB2 HT2 HX2 HR2 HHo2 HMo2 HBt2
    obtain ⟨j, hj, rfl, hno, hb, ht, hx, hr, hh, hmm, hs2⟩ := hrel
    have HNo := Lib.hid hno
    have HBk := Lib.hid hb
    have HTk := Lib.hid ht
    have HXk := Lib.hid hx
    have HRk := Lib.hid hr
    have HHk := Lib.hid hh
    have HMk := Lib.hid hmm
    have HSk := Lib.hid hs2
    clear hno hb ht hx hr hh hmm hs2
    have t0 := HTk.out.cell 0
    have t1 := HTk.out.cell 1
    have r0 := HRk.out.cell 0
    have r1 := HRk.out.cell 1
    have x0 := HXk.out.cell 0
    have x1 := HXk.out.cell 1
    have x2 := HXk.out.cell 2
    have x3 := HXk.out.cell 3
    have x4 := HXk.out.cell 4
    simp only [List.getElem?_toArray, List.getElem?_cons_zero, List.getElem?_cons_succ] at t0 t1 r0 r1 x0 x1 x2 x3 x4
    have tl := HTk.out.lt
    have rl := HRk.out.lt
    have xl' := HXk.out.lt
    by_cases hjm : j < m
    case neg =>
      obtain rfl : j = m := by omega
      have HD := Lib.hid (show dupB ms xi = false by
        rw [HDu.out, List.any_eq_false]
        intro y hy
        have := HNo.out y (by rw [List.take_of_length_le (by rw [HLm.out]; exact Nat.le_refl _)]; exact hy)
        simpa using this)
      have HP := Lib.hid (show pe = 0 by rw [HPf.out, HD.out, if_neg (by decide)])
      have HP2 := Lib.hid (show pm = ms ++ [⟨xi, xf, xt, xl, xh⟩] by rw [HPM.out, HP.out, if_pos rfl])
      clear HPf HPM HDu HD HNo
      go_upto_region 11 with fail
      clear t0 t1 r0 r1 x0 x1 x2 x3 x4 tl rl xl'
      refine wp_region_preC 10 [(0, 41), (4, 45), (6, 47), (7, 48)] (fun v => Below wr.heap.size wr v) (ApP wr.heap.size j (ms.flatMap encM) [.int .i64 xi, .int .i64 xf, .int .i64 xt, .int .i64 xl, .int .i64 xh]) (by kernel_rfl) (by kernel_rfl) (Below.refl _ _) (fun v1 v2 h kk => h.trans (kk.mono h.size)) (fun v' hv' => ApP.init) (fun ls vs v v' _ h kk => h.below kk) ?ex
      case ex =>
      apply Exists.intro
      refine ⟨?walk, ?loud, ?last⟩
      case walk =>
        intro V hV
        have t1 := (HTk.out.below hV).cell 1
        have x0 := (HXk.out.below hV).cell 0
        have x1 := (HXk.out.below hV).cell 1
        have x2 := (HXk.out.below hV).cell 2
        have x3 := (HXk.out.below hV).cell 3
        have x4 := (HXk.out.below hV).cell 4
        simp only [List.getElem?_toArray, List.getElem?_cons_zero, List.getElem?_cons_succ] at t1 x0 x1 x2 x3 x4
        have tl := (HTk.out.below hV).lt
        have xl' := (HXk.out.below hV).lt
        obtain ⟨xc, xf'⟩ := xcell (W := V)
        simp only [List.take_succ_cons, List.take_zero, qOf, isLoud, List.any_cons, List.any_nil, Nat.reduceBEq, Bool.or_false, Bool.or_true, Nat.reduceAdd, Bool.false_eq_true, if_true, if_false, beq_self_eq_true, Nat.zero_add]
        repeat (first | go_big_quiet_step (fail) | quiet_step (fail))
        exact wpQuiet_nil rfl
      case loud =>
        rintro pp hpp vs v hC ls hI hls hw o ho
        simp only [List.mem_cons, List.not_mem_nil, or_false] at hpp
        rcases hpp with rfl | rfl | rfl | rfl
        · simp only [List.getElem?_cons_zero, Option.some.injEq] at ho
          subst ho
          simp [loudAt, loudUpon, go_sem, execOp, putsL, Act.put]
          exact ⟨hC.alloc hC.size _, hI.s0 hls hC.size⟩
        · have h0 := hw (0, 41) (by simp) (by kernel_rfl)
          have h4 : ls 4 = false := hls
          have h7 : ls 7 = false := by cases e : ls 7 with | false => rfl | true => rw [hI.o7 e] at h4; cases h4
          have hrow := hI.row h0 h7
          simp only [h4, cond_false] at hrow
          simp only [List.getElem?_cons_succ, List.getElem?_cons_zero, Option.some.injEq] at ho
          subst ho
          cases B with
          | none =>
            obtain rfl : j = 0 := by
              refine Nat.eq_zero_of_not_pos fun q => ?_
              obtain ⟨b, off, e, _⟩ := HSk.out.at_ q
              cases e
            have hms : ms = [] := List.eq_nil_of_length_eq_zero HLm.out
            exact loudAt_append_nil (.tmp 41) (.tmp 44) 23 rfl wr.heap.size 59 ii 5 Tryz.underlying23 HII.out.1 (vs 0) 0 [] rfl hrow d rfl ⟨hC, hI.s4 h0 h4 (grown_refl _ _) (by rw [hms]; simpa using hrow) (.inl rfl)⟩
          | some a =>
            have hf := (HSk.out.below hC).flat encM_len (by decide)
            refine loudAt_append (.tmp 41) (.tmp 44) 23 rfl wr.heap.size 59 ii (.agg #[.int .i64 0, .int .i64 0, .int .i64 0, .int .i64 0, .int .i64 0]) 5 40 Tryz.underlying23 HII.out.1 HII.out.2.1 HII.out.2.2.1 HII.out.2.2.2 rfl (by decide) (vs 0) 0 [] rfl hrow a j d (ms.flatMap encM) rfl (by rw [flat_len encM_len, HLm.out]) hf (encM_one ms) (by unfold maxLen; omega) (by omega) hC.size ?_
            intro v' w3 hown hgrow hat
            exact ⟨hC.grown hgrow hC.size (fun r hr => (own_lt hrow hr).1), hI.s4 h0 h4 hgrow (by simpa using hown) hat⟩
        · simp only [List.getElem?_cons_succ, List.getElem?_cons_zero, Option.some.injEq] at ho
          subst ho
          simp [loudAt, loudUpon, go_sem, execOp, putsL, Act.put]
          exact ⟨hC.alloc hC.size _, hI.s6⟩
        · have h4 := hw (4, 45) (by simp) (by kernel_rfl)
          have h6 := hw (6, 47) (by simp) (by kernel_rfl)
          have h7 : ls 7 = false := hls
          have hrow := hI.row (hI.o4 h4) h7
          obtain ⟨g, e6, hbk, hne⟩ := hI.new h6 h7
          have h4' : ls 4 = true := h4
          simp only [h4', cond_true] at hrow
          simp only [List.getElem?_cons_succ, List.getElem?_cons_zero, Option.some.injEq] at ho
          subst ho
          refine loudAt_append (.tmp 45) (.tmp 47) 23 rfl wr.heap.size 59 ii (.agg #[.int .i64 0, .int .i64 0, .int .i64 0, .int .i64 0, .int .i64 0]) 5 40 Tryz.underlying23 HII.out.1 HII.out.2.1 HII.out.2.2.1 HII.out.2.2.2 rfl (by decide) (vs 4) j (ms.flatMap encM) rfl hrow ⟨g, 0, none⟩ 1 1 [.int .i64 xi, .int .i64 xf, .int .i64 xt, .int .i64 xl, .int .i64 xh] e6 rfl (fun t u ht => ?_) (one_intsL [xi, xf, xt, xl, xh]) (by unfold maxLen; omega) (by omega) hC.size ?_
          · have hadd : (⟨g, 0, none⟩ : Addr).add t = ⟨g, t, none⟩ := by unfold Addr.add; split <;> simp_all
            rw [hadd, hbk.cell t]
            simpa using ht
          intro v' w3 hown hgrow hat
          exact ⟨hC.grown hgrow hC.size (fun r hr => (own_lt hrow hr).1), hI.s7 h4 hown⟩
      case last =>
      rintro ls vs V hV hI hls
      have hfin := hI.fin (hls (7, 48) (by simp))
      obtain ⟨B7, d7, e7⟩ := owns_slice hfin
      rw [e7] at hfin
      have HFn := Lib.hid hfin
      clear hI hls hfin
      simp only [putsL, List.foldl_cons, List.foldl_nil, List.drop_succ_cons, List.drop_zero, Act.put, List.setIfInBounds_toArray, List.set_cons_succ, List.set_cons_zero, e7]
      generalize vs 0 = v0 at *
      generalize vs 4 = v4 at *
      generalize vs 6 = v6 at *
      clear e7 vs ls
      have HBw := Lib.hid HBk.out
      have HBV := Lib.hid (HBk.out.trans (hV.mono HBk.out.size))
      have HTV := Lib.hid (HTk.out.below hV)
      have HRV := Lib.hid (HRk.out.below hV)
      have HHV := Lib.hid (owns_below HHk.out hV)
      clear hV HBk HTk HXk HRk HHk HMk HSk
      have t0 := HTV.out.cell 0
      have t1 := HTV.out.cell 1
      simp only [List.getElem?_toArray, List.getElem?_cons_zero, List.getElem?_cons_succ] at t0 t1
      have tl := HTV.out.lt
      have tf1 := HTV.out.frozen 1
      go_upto_region 12 with fail
      have hg1 := grownBy_set V w.heap.size 1 (.slice B7 (j + 1) d7)
      have HT3 := Lib.hid (show Blk (V.setCell ⟨w.heap.size, 1, none⟩ (.slice B7 (j + 1) d7)) w.heap.size 74 #[.slice A n c, .slice B7 (j + 1) d7] by simpa using HTV.out.set_ 1 (.slice B7 (j + 1) d7))
      have HR3 := Lib.hid (HRV.out.grown hg1 (fun e => by have := Option.some.inj e; omega))
      have HH3 := Lib.hid (owns_grown HHV.out hg1 (fun r hr e => own_ne HHV.out HTV.out (by decide) (by rw [hr, ← e])))
      have HF3 := Lib.hid (owns_grown HFn.out hg1 (fun r hr e => own_ne HFn.out HTV.out (by decide) (by rw [hr, ← e])))
      have HB3 := Lib.hid (HBV.out.setCell (p := ⟨w.heap.size, 1, none⟩) (Nat.le_refl _) (.slice B7 (j + 1) d7))
      have HLw := Lib.hid (show L ≤ wr.heap.size by have := HBw.out.size; omega)
      clear t0 t1 tl tf1 hg1 HTV HRV HHV HFn HBV
      generalize V.setCell ⟨w.heap.size, 1, none⟩ (.slice B7 (j + 1) d7) = V3 at *
      have t0 := HT3.out.cell 0
      have t1 := HT3.out.cell 1
      have r0 := HR3.out.cell 0
      have r1 := HR3.out.cell 1
      simp only [List.getElem?_toArray, List.getElem?_cons_zero, List.getElem?_cons_succ] at t0 t1 r0 r1
      have tl := HT3.out.lt
      have rl := HR3.out.lt
      have f0 := HR3.out.frozen 0
      have f1 := HR3.out.frozen 1
      go_wp2
      have hf := blk_set2 HR3.out (.slice A n c) (.slice B7 (j + 1) d7)
      have x0 := hf.cell 0
      have x1 := hf.cell 1
      simp only [List.getElem?_toArray, List.getElem?_cons_zero, List.getElem?_cons_succ] at x0 x1
      have hgz := grown_set2 V3 (w.heap.size + 2) (.slice A n c) (.slice B7 (j + 1) d7)
      refine bodyPost_ret (v := .tuple #[.agg #[.slice A n c, .slice B7 (j + 1) d7], .int .i64 0]) (by simp [results, Tryz.results39, go_sem, x0, x1]) rfl ⟨_, _, by rw [HP.out], ⟨?_, ?_⟩, below_set2 HB3.out (by omega) _ _⟩
      · rw [HLh.out]
        exact owns_grown HH3.out hgz (fun r hr e => own_ne HH3.out HR3.out (by decide) (by rw [hr, ← e]))
      · rw [HP2.out, List.length_append, HLm.out, List.flatMap_append]
        exact owns_weak (owns_grown HF3.out hgz (fun r hr e => own_ne HF3.out HR3.out (by decide) (by rw [hr, ← e]))) HLw.out
    case pos =>
      have hjl : j < ms.length := by rw [HLm.out]; exact hjm
      have HTk1 := Lib.hid (List.take_succ_eq_append_getElem hjl)
      have HMem := Lib.hid (List.getElem_mem hjl)
      obtain ⟨bB, oB, eB, hl⟩ := HSk.out.at_ (by omega)
      subst eB
      obtain ⟨u0, u1, u2', u3, u4⟩ := Mvs.at_ hl (List.getElem?_eq_getElem hjl)
      have ul := hl.lt
      generalize ms[j] = y at *
      clear hl
      go_upto_region 9 with fail
      obtain ⟨xc, xf'⟩ := xcell (W := wr)
      by_cases hyx : y.id = xi
      case pos =>
        have hyb : (y.id == xi) = true := by simpa using hyx
        have HD := Lib.hid (show dupB ms xi = true by rw [HDu.out]; exact List.any_eq_true.2 ⟨y, HMem.out, hyb⟩)
        clear hyx
        have HP := Lib.hid (show pe = 6 by rw [HPf.out, HD.out, if_pos rfl])
        have HP2 := Lib.hid (show pm = ms by rw [HPM.out, HP.out, if_neg (by decide)])
        clear HPf HPM HDu
        refine wp_region_quiet_tail 9 (by kernel_rfl) (by kernel_rfl) ?_
        simp only [List.take_succ_cons, List.take_zero, List.drop_succ_cons, List.drop_zero]
        repeat (first | go_big_quiet_step (fail) | quiet_step (fail))
        refine wpQuiet_nil ?_
        intro w9 hb9
        have HBk := Lib.hid (HBk.out.trans (hb9.mono HBk.out.size))
        have HTk := Lib.hid (HTk.out.below hb9)
        have HXk := Lib.hid (HXk.out.below hb9)
        have HRk := Lib.hid (HRk.out.below hb9)
        have HHk := Lib.hid (owns_below HHk.out hb9)
        have HMk := Lib.hid (owns_below HMk.out hb9)
        clear t0 t1 r0 r1 x0 x1 x2 x3 x4 tl rl xl' xc xf'
        have t0 := HTk.out.cell 0
        have t1 := HTk.out.cell 1
        have r0 := HRk.out.cell 0
        have r1 := HRk.out.cell 1
        have x0 := HXk.out.cell 0
        have x1 := HXk.out.cell 1
        have x2 := HXk.out.cell 2
        have x3 := HXk.out.cell 3
        have x4 := HXk.out.cell 4
        simp only [List.getElem?_toArray, List.getElem?_cons_zero, List.getElem?_cons_succ] at t0 t1 r0 r1 x0 x1 x2 x3 x4
        have tl := HTk.out.lt
        have rl := HRk.out.lt
        have xl' := HXk.out.lt
        have f0 := HRk.out.frozen 0
        have f1 := HRk.out.frozen 1
        go_wp2
        have hf := blk_set2 HRk.out (.slice A n c) (.slice (some ⟨bB, oB, none⟩) m d)
        have z0 := hf.cell 0
        have z1 := hf.cell 1
        simp only [List.getElem?_toArray, List.getElem?_cons_zero, List.getElem?_cons_succ] at z0 z1
        have hgz := grown_set2 w9 (w.heap.size + 2) (.slice A n c) (.slice (some ⟨bB, oB, none⟩) m d)
        refine bodyPost_ret (v := .tuple #[.agg #[.slice A n c, .slice (some ⟨bB, oB, none⟩) m d], .int .i64 6]) (by simp [results, Tryz.results39, go_sem, z0, z1]) rfl ⟨_, _, by rw [HP.out], ⟨?_, ?_⟩, below_set2 HBk.out (by omega) _ _⟩
        · rw [HLh.out]
          exact owns_grown HHk.out hgz (fun r hr e => own_ne HHk.out HRk.out (by decide) (by rw [hr, ← e]))
        · rw [HP2.out, HLm.out]
          exact owns_grown HMk.out hgz (fun r hr e => own_ne HMk.out HRk.out (by decide) (by rw [hr, ← e]))
      case neg =>
        have hyb : (y.id == xi) = false := by simpa using hyx
        have HYn := Lib.hid hyx
        clear hyx
        refine wp_region_quiet_tail 9 (by kernel_rfl) (by kernel_rfl) ?_
        simp only [List.take_succ_cons, List.take_zero, List.drop_succ_cons, List.drop_zero]
        repeat (first | go_big_quiet_step (fail) | quiet_step (fail))
        refine wpQuiet_nil ?_
        intro w9 hb9
        have HBk := Lib.hid (HBk.out.trans (hb9.mono HBk.out.size))
        have HTk := Lib.hid (HTk.out.below hb9)
        have HXk := Lib.hid (HXk.out.below hb9)
        have HRk := Lib.hid (HRk.out.below hb9)
        have HHk := Lib.hid (owns_below HHk.out hb9)
        have HMk := Lib.hid (owns_below HMk.out hb9)
        have HSk := Lib.hid (HSk.out.below hb9)
        clear t0 t1 r0 r1 x0 x1 x2 x3 x4 tl rl xl' xc xf'
        go_wp2
        go_roundw
        case rel =>
          refine ⟨j + 1, by omega, by go_num, fun z hz => ?_, HBk.out, HTk.out, HXk.out, HRk.out, HHk.out, HMk.out, HSk.out⟩
          rw [HTk1.out] at hz
          rcases List.mem_append.1 hz with hz | hz
          · exact HNo.out z hz
          · rw [List.mem_singleton.1 hz]; exact HYn.out
        case measure => simp [intOf]; omega
end Go.Proofs.YtighfmgkoepfkaaGreat

namespace Go.Proofs.YtighfmgkoepfkaaGreat
open Go.RowKit

/-- A deed: a movement is put, or the one with its ID is taken. -/
structure Dd where
  tk : Bool
  mv : Mv
def encD (d : Dd) : List Value := [.bool d.tk, .int .i64 d.mv.id, .int .i64 d.mv.fr, .int .i64 d.mv.to, .int .i64 d.mv.lo, .int .i64 d.mv.hi]
theorem encD_len (d : Dd) : (encD d).length = 6 := rfl
theorem Dds.at_ {w : World} {b off : Nat} {ds : List Dd} (h : Ls encD 6 w b off ds) {i : Nat} {x : Dd} (hi : ds[i]? = some x) :
    w.cell? ⟨b, off + i * 6, none⟩ = some (.bool x.tk) ∧ w.cell? ⟨b, off + i * 6 + 1, none⟩ = some (.int .i64 x.mv.id) ∧ w.cell? ⟨b, off + i * 6 + 2, none⟩ = some (.int .i64 x.mv.fr) ∧
    w.cell? ⟨b, off + i * 6 + 3, none⟩ = some (.int .i64 x.mv.to) ∧ w.cell? ⟨b, off + i * 6 + 4, none⟩ = some (.int .i64 x.mv.lo) ∧ w.cell? ⟨b, off + i * 6 + 5, none⟩ = some (.int .i64 x.mv.hi) :=
  ⟨h.c i x hi 0 _ rfl, h.c i x hi 1 _ rfl, h.c i x hi 2 _ rfl, h.c i x hi 3 _ rfl, h.c i x hi 4 _ rfl, h.c i x hi 5 _ rfl⟩
theorem TV.add {hs : List Hd} {ms : List Mv} {x : Mv} (h : TV hs ms) (hp : poE hs ms x = 0) : TV hs (ms ++ [x]) := by
  unfold poE at hp
  by_cases c : 24 ≤ ms.length
  · rw [if_pos c] at hp; cases hp
  rw [if_neg c] at hp
  have hi := (mvE2_id hp).2
  unfold mvE2 at hp
  by_cases e : mvE hs x = 0
  · unfold mvE at e
    split at e
    · cases e
    rename_i q1
    split at e
    · cases e
    rename_i q2
    have q1 := Decidable.not_not.1 q1
    refine ⟨h.lenH, by rw [List.length_append, List.length_singleton]; omega, h.hd, h.ids, fun m hm => ?_, ?_⟩
    · rcases List.mem_append.1 hm with hm | hm
      · exact h.mv m hm
      · rw [List.mem_singleton.1 hm]
        exact ⟨q1.1, q1.2.1, q1.2.2, pos_id.1 (by omega), pos_id.1 (by omega)⟩
    · rw [List.map_append, List.nodup_append]
      refine ⟨h.mids, by simp, fun a ha b hb => ?_⟩
      obtain ⟨y, hy, rfl⟩ := List.mem_map.1 ha
      have hb : b = x.id := by simpa using hb
      rw [hb]
      exact hi y hy
  · rw [if_pos e] at hp
    exact absurd hp e
/-- A deed's error, and the movements behind it. -/
def ddE (hs : List Hd) (ms : List Mv) (d : Dd) : Int := if d.tk = true then toE ms d.mv.id else poE hs ms d.mv
def ddM (hs : List Hd) (ms : List Mv) (d : Dd) : List Mv := if d.tk = true then dropL ms [d.mv.id] else poM hs ms d.mv
theorem TV.poM {hs : List Hd} {ms : List Mv} (h : TV hs ms) (x : Mv) : TV hs (poM hs ms x) := by
  unfold Go.Proofs.YtighfmgkoepfkaaGreat.poM
  split
  · rename_i c; exact h.add c
  · exact h
end Go.Proofs.YtighfmgkoepfkaaGreat
