/- Merged of the specification. -/
import Derived.Deep.DeepCutAuto
import Derived.Test.YtighfmgkoepfkaaGreatMWa
import Derived.Test.YtighfmgkoepfkaaGreatMQ2
import Derived.Test.YtighfmgkoepfkaaGreatMY
import Derived.Test.YtighfmgkoepfkaaGreatMR2
import Derived.Test.YtighfmgkoepfkaaGreatMV
import Derived.Test.YtighfmgkoepfkaaGreatMW
import Derived.Test.YtighfmgkoepfkaaGreatMEm
import Derived.Test.YtighfmgkoepfkaaGreatMH
namespace Go.Proofs.YtighfmgkoepfkaaGreat
open Go.RowKit

/-- Without one movement something is wider, or there is no course: whether Rests names it. -/
def widB (hs : List Hd) (ms : List Mv) (kind xi lo hi id : Int) : Bool := !decide (kind = 1 ∧ xi = id) && decide (asE hs (dropL ms [id]) kind xi ≠ 0 ∨ asV hs (dropL ms [id]) kind xi false ≠ lo ∨ asV hs (dropL ms [id]) kind xi true ≠ hi)
def reT (hs : List Hd) (ms : List Mv) (kind xi lo hi : Int) (k : Nat) : List Int := ((ms.take k).map Mv.id).filter fun x => widB hs ms kind xi lo hi x
/-- What Rests tells. -/
def restL (hs : List Hd) (ms : List Mv) (kind xi : Int) : List Int := if asE hs ms kind xi ≠ 0 then [] else sortI (reT hs ms kind xi (asV hs ms kind xi false) (asV hs ms kind xi true) ms.length)
theorem reT_step {hs : List Hd} {ms : List Mv} {kind xi lo hi : Int} {k : Nat} (hk : k < ms.length) : reT hs ms kind xi lo hi (k + 1) = reT hs ms kind xi lo hi k ++ (if widB hs ms kind xi lo hi (ms[k]).id = true then [(ms[k]).id] else []) := by
  unfold reT
  rw [List.take_succ_eq_append_getElem hk, List.map_append, List.filter_append]
  congr 1
  rw [List.map_cons, List.map_nil, List.filter_cons, List.filter_nil]
theorem reT_len (hs : List Hd) (ms : List Mv) (kind xi lo hi : Int) (k : Nat) : (reT hs ms kind xi lo hi k).length ≤ k := by
  unfold reT
  refine Nat.le_trans (List.length_filter_le _ _) ?_
  rw [List.length_map, List.length_take]
  omega
def RReOut (w : World) (hs : List Hd) (ms : List Mv) (kind xi : Int) (en : Ending) (w' : World) : Prop :=
  Below w.heap.size w w' ∧ ∃ v, en = .returned (.agg #[v, .int .i64 (asE hs ms kind xi)]) ∧ w'.ownsRow w.heap.size 3 1 v (restL hs ms kind xi).length ((restL hs ms kind xi).flatMap encI)
/-- What is known in the region that asks without one movement. -/
structure ReP (L : Nat) (hs : List Hd) (ms : List Mv) (x lo hi ae : Int) (ls : Nat → Bool) (vs : Nat → Value) (v : World) : Prop where
  p2 : ls 2 = true → ∃ g, vs 2 = .slice (some ⟨g, 0, none⟩) 1 1 ∧ Blk v g 3 #[.int .i64 x]
  p3 : ls 3 = true → ∃ A n c B m d, vs 3 = .agg #[.slice A n c, .slice B m d] ∧ TR.Ok v ⟨A, n, c, B, m, d, hs, dropL ms [x]⟩
  p5 : ls 5 = true → vs 5 = .agg #[.int .i64 lo, .int .i64 hi, .int .i64 ae]
  p6 : ls 6 = true → ∃ g, vs 6 = .pointer (some ⟨g, 0, none⟩) ∧ L ≤ g ∧ Blk v g 90 #[.int .i64 0, .int .i64 0, .int .i64 0]
theorem ReP.below {L : Nat} {hs : List Hd} {ms : List Mv} {x lo hi ae : Int} {ls : Nat → Bool} {vs : Nat → Value} {v v' : World} (h : ReP L hs ms x lo hi ae ls vs v) (hb : Below v.heap.size v v') : ReP L hs ms x lo hi ae ls vs v' :=
  ⟨fun l => let ⟨g, e, k⟩ := h.p2 l; ⟨g, e, k.below hb⟩, fun l => let ⟨A, n, c, B, m, d, e, k⟩ := h.p3 l; ⟨A, n, c, B, m, d, e, k.below hb⟩, h.p5, fun l => let ⟨g, e, i, k⟩ := h.p6 l; ⟨g, e, i, k.below hb⟩⟩
/-- One more slot is laid; the others stay. -/
theorem ReP.step {L : Nat} {hs : List Hd} {ms : List Mv} {x lo hi ae : Int} {ls : Nat → Bool} {vs : Nat → Value} {v v' : World} (h : ReP L hs ms x lo hi ae ls vs v) (hb : Below v.heap.size v v') {p : Nat} {u : Value}
    (h2 : p = 2 → ∃ g, u = .slice (some ⟨g, 0, none⟩) 1 1 ∧ Blk v' g 3 #[.int .i64 x]) (h3 : p = 3 → ∃ A n c B m d, u = .agg #[.slice A n c, .slice B m d] ∧ TR.Ok v' ⟨A, n, c, B, m, d, hs, dropL ms [x]⟩)
    (h5 : p = 5 → u = .agg #[.int .i64 lo, .int .i64 hi, .int .i64 ae]) (h6 : p = 6 → ∃ g, u = .pointer (some ⟨g, 0, none⟩) ∧ L ≤ g ∧ Blk v' g 90 #[.int .i64 0, .int .i64 0, .int .i64 0]) : ReP L hs ms x lo hi ae (updB ls p) (upd vs p u) v' := by
  have k := h.below hb
  refine ⟨fun l => ?_, fun l => ?_, fun l => ?_, fun l => ?_⟩
  · by_cases e : 2 = p
    · simpa [upd, e.symm] using h2 e.symm
    · simpa [upd, e] using k.p2 (by simpa [updB, e] using l)
  · by_cases e : 3 = p
    · simpa [upd, e.symm] using h3 e.symm
    · simpa [upd, e] using k.p3 (by simpa [updB, e] using l)
  · by_cases e : 5 = p
    · simpa [upd, e.symm] using h5 e.symm
    · simpa [upd, e] using k.p5 (by simpa [updB, e] using l)
  · by_cases e : 6 = p
    · simpa [upd, e.symm] using h6 e.symm
    · simpa [upd, e] using k.p6 (by simpa [updB, e] using l)
set_option maxRecDepth 100000 in
set_option maxHeartbeats 12800000 in
theorem RRests_any (t : TR) (kind xi : Int) (w : World) (h : t.Ok w) (hA : t.A = none → t.c = 0) : Calls Tryz.prog 42 #[t.v, vAt kind xi] w (RReOut w t.hs t.ms kind xi) := by
  obtain ⟨A, n, c, B, m, d, hs, ms⟩ := t
  have HLs := Lib.hid (fun (u : World) (hu : TR.Ok u ⟨A, n, c, B, m, d, hs, ms⟩) => Limits_any ⟨A, n, c, B, m, d, hs, ms⟩ kind xi u hu)
  have HDr := Lib.hid (fun (u : World) (hu : TR.Ok u ⟨A, n, c, B, m, d, hs, ms⟩) (hv : TV hs ms) (A' : Option Addr) (n' c' : Nat) (l : List Int) (hl : SAt encI 1 u A' n' l) (hn' : n' ≤ 1000000) => drop_any ⟨A, n, c, B, m, d, hs, ms⟩ A' n' c' l u hu hl hn' (by have := hv.lenH; have := hu.h.len; dsimp only at *; omega) (by have := hv.lenM; have := hu.m.len; dsimp only at *; omega) hA)
  have HLd := Lib.hid (fun (x : Int) (A' : Option Addr) (n' c' : Nat) (B' : Option Addr) (m' d' : Nat) (u : World) (hu : TR.Ok u ⟨A', n', c', B', m', d', hs, dropL ms [x]⟩) => Limits_any ⟨A', n', c', B', m', d', hs, dropL ms [x]⟩ kind xi u hu)
  have HO0 := Lib.hid h
  have HLm := Lib.hid (show ms.length = m from h.m.len)
  dsimp only [TR.v, vAt] at *
  have HTv := Lib.hid (fun (q : asE hs ms kind xi = 0) => (asE_zero q).2.2.1)
  have HEc := Lib.hid (fun q : asE hs ms kind xi ≠ 0 => (show restL hs ms kind xi = [] by unfold restL; rw [if_pos q]))
  have HEz := Lib.hid (fun q : asE hs ms kind xi = 0 => (show restL hs ms kind xi = sortI (reT hs ms kind xi (asV hs ms kind xi false) (asV hs ms kind xi true) ms.length) by unfold restL; rw [if_neg (by simpa using q)]))
  obtain ⟨lo, hlo⟩ : ∃ x, asV hs ms kind xi false = x := ⟨_, rfl⟩
  obtain ⟨hi, hhi⟩ : ∃ x, asV hs ms kind xi true = x := ⟨_, rfl⟩
  obtain ⟨tc, htc⟩ : ∃ x, asE hs ms kind xi = x := ⟨_, rfl⟩
  have HTc := Lib.hid htc
  rw [htc] at HEc HTv HEz HLs
  rw [hlo, hhi] at HEz HLs
  clear htc hlo hhi
  have HB0 : Hid (Below w.heap.size w (((w.alloc (.cells #[.slice A n c, .slice B m d] 25)).alloc (.cells #[.int .i64 kind, .int .i64 xi] 83)).alloc (.cells #[.slice none 0 0, .int .i64 0] 46))) := Lib.hid ((((Below.refl w.heap.size w).alloc (Nat.le_refl _) _).alloc (by simp) _).alloc (by simp; omega) _)
  have T0 : Hid (Blk (((w.alloc (.cells #[.slice A n c, .slice B m d] 25)).alloc (.cells #[.int .i64 kind, .int .i64 xi] 83)).alloc (.cells #[.slice none 0 0, .int .i64 0] 46)) w.heap.size 25 #[.slice A n c, .slice B m d]) := Lib.hid (((Blk.at_new 25 #[.slice A n c, .slice B m d] rfl).alloc _).alloc _)
  have X0 : Hid (Blk (((w.alloc (.cells #[.slice A n c, .slice B m d] 25)).alloc (.cells #[.int .i64 kind, .int .i64 xi] 83)).alloc (.cells #[.slice none 0 0, .int .i64 0] 46)) (w.heap.size + 1) 83 #[.int .i64 kind, .int .i64 xi]) := Lib.hid ((Blk.at_new 83 #[.int .i64 kind, .int .i64 xi] (by simp)).alloc _)
  have K0 : Hid (Blk (((w.alloc (.cells #[.slice A n c, .slice B m d] 25)).alloc (.cells #[.int .i64 kind, .int .i64 xi] 83)).alloc (.cells #[.slice none 0 0, .int .i64 0] 46)) (w.heap.size + 2) 46 #[.slice none 0 0, .int .i64 0]) := Lib.hid (Blk.at_new 46 #[.slice none 0 0, .int .i64 0] (by simp))
  have O0 := Lib.hid ((h).below HB0.out)
  go_enter Tryz.func42, Tryz.ntmps42
  go_upto_region 1 with fail
  generalize hV : ((w.alloc (.cells #[.slice A n c, .slice B m d] 25)).alloc (.cells #[.int .i64 kind, .int .i64 xi] 83)).alloc (.cells #[.slice none 0 0, .int .i64 0] 46) = V0 at *
  clear hV
  clear h
  have yT0 := T0.out.cell 0
  have yT1 := T0.out.cell 1
  have yX0 := X0.out.cell 0
  have yX1 := X0.out.cell 1
  have yK0 := K0.out.cell 0
  have yK1 := K0.out.cell 1
  simp only [List.getElem?_toArray, List.getElem?_cons_zero, List.getElem?_cons_succ] at yT0 yT1 yX0 yX1 yK0 yK1
  have yTl := T0.out.lt
  have yXl := X0.out.lt
  have yKl := K0.out.lt
  have HC := Lib.hid (HLs.out _ O0.out)
  try dsimp only [TR.v, vCt] at HC
  go_upto_region 2 with (go_at_call 45; (with_reducible refine HC.out.mono ?_); rintro e u1 ⟨rfl, hb⟩)
  clear yT0 yT1 yX0 yX1 yK0 yK1 yTl yXl yKl
  clear HC
  have bn := hb
  have bq : Below u1.heap.size u1 (u1.alloc (.cells #[.int .i64 lo, .int .i64 hi, .int .i64 tc] 90)) := ((Below.refl u1.heap.size u1).alloc (Nat.le_refl _) _)
  have bn := hb.trans (bq.mono hb.size)
  have T1 := Lib.hid (T0.out.below bn)
  have X1 := Lib.hid (X0.out.below bn)
  have K1 := Lib.hid (K0.out.below bn)
  have O1 := Lib.hid (O0.out.below bn)
  have HB1 := Lib.hid (HB0.out.trans (bn.mono HB0.out.size))
  have M1 : Hid (Blk (u1.alloc (.cells #[.int .i64 lo, .int .i64 hi, .int .i64 tc] 90)) u1.heap.size 90 #[.int .i64 lo, .int .i64 hi, .int .i64 tc]) := Lib.hid (Blk.at_new 90 #[.int .i64 lo, .int .i64 hi, .int .i64 tc] rfl)
  generalize hV : u1.alloc (.cells #[.int .i64 lo, .int .i64 hi, .int .i64 tc] 90) = V1 at *
  generalize hp : u1.heap.size = p1 at *
  clear hV hp bq
  clear hb bn T0 X0 K0 O0 HB0
  by_cases hc : tc = 0
  case neg =>
    have hz : (tc != 0) = true := by simpa using hc
    have HE := Lib.hid (HEc.out hc)
    clear hc
    have yT0 := T1.out.cell 0
    have yT1 := T1.out.cell 1
    have yX0 := X1.out.cell 0
    have yX1 := X1.out.cell 1
    have yK0 := K1.out.cell 0
    have yK1 := K1.out.cell 1
    have yM0 := M1.out.cell 0
    have yM1 := M1.out.cell 1
    have yM2 := M1.out.cell 2
    simp only [List.getElem?_toArray, List.getElem?_cons_zero, List.getElem?_cons_succ] at yT0 yT1 yX0 yX1 yK0 yK1 yM0 yM1 yM2
    have yTl := T1.out.lt
    have yXl := X1.out.lt
    have yKl := K1.out.lt
    have yMl := M1.out.lt
    have f0 := K1.out.frozen 0
    have f1 := K1.out.frozen 1
    go_wp2
    have hf := blk_set2 K1.out (.slice none 0 0) (.int .i64 tc)
    have x0 := hf.cell 0
    have x1 := hf.cell 1
    simp only [List.getElem?_toArray, List.getElem?_cons_zero, List.getElem?_cons_succ] at x0 x1
    refine bodyPost_ret (v := .agg #[.slice none 0 0, .int .i64 tc]) (by simp [results, Tryz.results42, go_sem, x0, x1]) rfl ⟨below_set2 HB1.out (by omega) _ _, _, by rw [HTc.out], ?_⟩
    rw [HE.out]
    exact World.ownsRow_nil _ _ _ _
  case pos =>
  subst hc
  have hz : ((0 : Int) != 0) = false := by decide
  have hv := HTv.out rfl
  have HTV := Lib.hid hv
  have hm24 : m ≤ 24 := by rw [← HLm.out]; exact hv.lenM
  have HS := Lib.hid (HEz.out rfl)
  clear hv HTv HEc HEz HLs
  have yT0 := T1.out.cell 0
  have yT1 := T1.out.cell 1
  have yX0 := X1.out.cell 0
  have yX1 := X1.out.cell 1
  have yK0 := K1.out.cell 0
  have yK1 := K1.out.cell 1
  have yM0 := M1.out.cell 0
  have yM1 := M1.out.cell 1
  have yM2 := M1.out.cell 2
  simp only [List.getElem?_toArray, List.getElem?_cons_zero, List.getElem?_cons_succ] at yT0 yT1 yX0 yX1 yK0 yK1 yM0 yM1 yM2
  have yTl := T1.out.lt
  have yXl := X1.out.lt
  have yKl := K1.out.lt
  have yMl := M1.out.lt
  go_upto_region 6 with fail
  clear hz yT0 yT1 yX0 yX1 yK0 yK1 yM0 yM1 yM2 yTl yXl yKl yMl
  have HTb := Lib.hid (T1.out)
  have HXb := Lib.hid (X1.out)
  have HKb := Lib.hid (K1.out)
  have HMb := Lib.hid (M1.out)
  have HBb := Lib.hid (HB1.out)
  clear T1 X1 K1 O1 M1 HB1
  go_loopw [6, 7, 8, 9] (fun v i _ _ wx => ∃ k p : Nat, k ≤ m ∧ i = .int .i64 (k : Int) ∧ (reT hs ms kind xi lo hi k).length = p ∧ wx.ownsRow w.heap.size 3 1 v p ((sortI (reT hs ms kind xi lo hi k)).flatMap encI) ∧ (reT hs ms kind xi lo hi k = [] → v = .slice none 0 0) ∧ Below w.heap.size w wx ∧ Blk wx w.heap.size 25 #[.slice A n c, .slice B m d] ∧ Blk wx (w.heap.size + 1) 83 #[.int .i64 kind, .int .i64 xi] ∧ Blk wx (w.heap.size + 2) 46 #[.slice none 0 0, .int .i64 0] ∧ Blk wx p1 90 #[.int .i64 lo, .int .i64 hi, .int .i64 0]) (fun _ i _ _ _ => m - (intOf i).toNat)
  case atStart => exact ⟨0, 0, Nat.zero_le _, rfl, rfl, by simpa [reT, sortI] using World.ownsRow_nil _ _ _ _, fun _ => rfl, HBb.out, HTb.out, HXb.out, HKb.out, HMb.out⟩
  case round =>
    clear HBb HTb HXb HKb HMb
    obtain ⟨k, p, hk, rfl, hp, ow, hnl, hb, ht, hxb, hkb, hmb⟩ := hrel
    have HP := Lib.hid hp
    have OW := Lib.hid ow
    have HNl := Lib.hid hnl
    have HBk := Lib.hid hb
    have HTk := Lib.hid ht
    have HXk := Lib.hid hxb
    have HKk := Lib.hid hkb
    have HMk := Lib.hid hmb
    have hpk : p ≤ 24 := by rw [← hp]; exact Nat.le_trans (reT_len hs ms kind xi lo hi k) (by omega)
    obtain ⟨Ao, co, rfl⟩ := owns_slice ow
    clear hp ow hnl hb ht hxb hkb hmb
    have y0 := HTk.out.cell 0
    have y1 := HTk.out.cell 1
    simp only [List.getElem?_toArray, List.getElem?_cons_zero, List.getElem?_cons_succ] at y0 y1
    have yl := HTk.out.lt
    by_cases hkm : k < m
    case neg =>
      obtain rfl : k = m := by omega
      have k0 := HKk.out.cell 0
      have k1 := HKk.out.cell 1
      simp only [List.getElem?_toArray, List.getElem?_cons_zero, List.getElem?_cons_succ] at k0 k1
      have kl := HKk.out.lt
      have f0 := HKk.out.frozen 0
      have f1 := HKk.out.frozen 1
      go_wp2
      have hf := blk_set2 HKk.out (.slice Ao p co) (.int .i64 0)
      have x0 := hf.cell 0
      have x1 := hf.cell 1
      simp only [List.getElem?_toArray, List.getElem?_cons_zero, List.getElem?_cons_succ] at x0 x1
      refine bodyPost_ret (v := .agg #[.slice Ao p co, .int .i64 0]) (by simp [results, Tryz.results42, go_sem, x0, x1]) rfl ⟨below_set2 HBk.out (by omega) _ _, _, by rw [HTc.out], ?_⟩
      have := owns_grown OW.out (grown_set2 wr (w.heap.size + 2) (.slice Ao p co) (.int .i64 0)) (fun r hr e => own_ne OW.out HKk.out (by decide) (by rw [hr, ← e]))
      have e2 : (restL hs ms kind xi).length = p := by rw [HS.out, sortI_len, HLm.out]; exact HP.out
      rw [e2, HS.out, HLm.out]
      exact this
    case pos =>
      have hkl : k < ms.length := by rw [HLm.out]; exact hkm
      have HT := Lib.hid (reT_step (hs := hs) (kind := kind) (xi := xi) (lo := lo) (hi := hi) hkl)
      obtain ⟨bM, oM, eM, hM⟩ := HO0.out.m.at_ (by dsimp only; omega)
      dsimp only at eM
      subst eM
      have HAt := Lib.hid (List.getElem?_eq_getElem hkl)
      have hl2 := hM.below HBk.out
      have ul := hl2.lt
      obtain ⟨u0, _, _, _, _⟩ := Mvs.at_ hl2 HAt.out
      clear hM hl2
      generalize ms[k] = xm at *
      obtain ⟨x, xf, xt, xl, xh⟩ := xm
      dsimp only at HT u0
      have q0 := HXk.out.cell 0
      have q1 := HXk.out.cell 1
      simp only [List.getElem?_toArray, List.getElem?_cons_zero, List.getElem?_cons_succ] at q0 q1
      have ql := HXk.out.lt
      by_cases ck : kind = 1 ∧ xi = x
      case pos =>
        have c1 : (kind == 1) = true := by simpa using ck.1
        have c2 : (xi == x) = true := by simpa using ck.2
        have HE := Lib.hid (show reT hs ms kind xi lo hi (k + 1) = reT hs ms kind xi lo hi k by
          rw [HT.out, if_neg (by unfold widB; rw [decide_eq_true ck]; simp), List.append_nil])
        clear ck
        go_wp2_with fail
        go_roundw
        case rel => exact ⟨k + 1, p, by omega, by go_num, by rw [HE.out]; exact HP.out, by rw [HE.out]; exact OW.out, by rw [HE.out]; exact HNl.out, HBk.out, HTk.out, HXk.out, HKk.out, HMk.out⟩
        case measure => simp [intOf]; omega
      case neg =>
        obtain ⟨lo2, hlo2⟩ : ∃ z, asV hs (dropL ms [x]) kind xi false = z := ⟨_, rfl⟩
        obtain ⟨hi2, hhi2⟩ : ∃ z, asV hs (dropL ms [x]) kind xi true = z := ⟨_, rfl⟩
        obtain ⟨ae2, hae2⟩ : ∃ z, asE hs (dropL ms [x]) kind xi = z := ⟨_, rfl⟩
        have HWi := Lib.hid (show widB hs ms kind xi lo hi x = decide (ae2 ≠ 0 ∨ lo2 ≠ lo ∨ hi2 ≠ hi) by unfold widB; rw [decide_eq_false ck, hlo2, hhi2, hae2]; simp)
        have HLx := Lib.hid (fun A' n' c' B' m' d' u hu => HLd.out x A' n' c' B' m' d' u hu)
        rw [hlo2, hhi2, hae2] at HLx
        clear hlo2 hhi2 hae2
        have HCk := Lib.hid ck
        go_upto_region 9 with fail
        go_cut [40] (fun q wx => q = .bool false ∧ wr = wx)
        case first =>
          by_cases ck1 : kind = 1
          case pos =>
            have c1 : (kind == 1) = true := by simpa using ck1
            have c2 : (xi == x) = false := by simp; exact fun e => ck ⟨ck1, e⟩
            clear ck1
            go_wp2_with fail
            go_meet
            exact ⟨by simp, rfl⟩
          case neg =>
            have c1 : (kind == 1) = false := by simpa using ck1
            go_wp2_with fail
            go_meet
            exact ⟨by simp, rfl⟩
        case rest =>
          obtain ⟨hq, hb⟩ := hcut
          subst hq
          subst hb
          clear ck
          go_upto_region 10 with fail
          clear y0 y1 yl q0 q1 ql u0 ul
          refine wp_region_preC 7 [(2, 43), (3, 44), (5, 46), (6, 9)] (fun v => Below wr.heap.size wr v) (ReP wr.heap.size hs ms x lo2 hi2 ae2) (by kernel_rfl) (by kernel_rfl) (Below.refl _ _) (fun v v' h k => h.trans (k.mono h.size)) (fun v _ => ⟨fun h => (by cases h), fun h => (by cases h), fun h => (by cases h), fun h => (by cases h)⟩) (fun ls vs v v' _ h kk => h.below kk) ?_
          apply Exists.intro
          refine ⟨?walk, ?loud, ?last⟩
          case walk =>
            intro V hV
            have tt := HTk.out.below hV
            have y0 := tt.cell 0
            have y1 := tt.cell 1
            have tx := HXk.out.below hV
            have q0 := tx.cell 0
            have q1 := tx.cell 1
            simp only [List.getElem?_toArray, List.getElem?_cons_zero, List.getElem?_cons_succ] at y0 y1 q0 q1
            have yl := tt.lt
            have ql := tx.lt
            clear tt tx
            obtain ⟨xc, xf'⟩ := xcell (W := V)
            simp only [List.take_succ_cons, List.take_zero, qOf, isLoud, List.any_cons, List.any_nil, Nat.reduceBEq, Bool.or_false, Bool.or_true, Nat.reduceAdd, Bool.false_eq_true, if_true, if_false, beq_self_eq_true, Nat.zero_add]
            repeat (first | go_big_quiet_step (fail) | quiet_step (fail))
            exact wpQuiet_nil rfl
          case loud =>
            rintro pp hpp vs v hC ls hI hls hw o ho
            simp only [List.mem_cons, List.not_mem_nil, or_false] at hpp
            rcases hpp with rfl | rfl | rfl | rfl
            · have h2 := hI.step (below_new v (.cells #[.int .i64 x] 3)) (p := 2) (u := .slice (some ⟨v.heap.size, 0, none⟩) 1 1) (fun _ => ⟨_, rfl, Blk.new _ _ _⟩) (fun e => absurd e (by decide)) (fun e => absurd e (by decide)) (fun e => absurd e (by decide))
              simp only [List.getElem?_cons_succ, List.getElem?_cons_zero, Option.some.injEq] at ho
              subst ho
              simp [loudAt, loudUpon, go_sem, execOp, putsL, Act.put]
              exact ⟨hC.alloc hC.size _, h2⟩
            · have h7 := hw (2, 43) (by simp) (by kernel_rfl)
              obtain ⟨g7, e7, b7⟩ := hI.p2 h7
              simp only [List.getElem?_cons_succ, List.getElem?_cons_zero, Option.some.injEq] at ho
              subst ho
              simp [loudAt, loudUpon, go_sem, putsL, Act.put, e7]
              refine (HDr.out v (HO0.out.below (HBk.out.trans (hC.mono HBk.out.size))) HTV.out (some ⟨g7, 0, none⟩) 1 1 [x] (one_sat b7) (by decide)).mono ?_
              rintro e w' ⟨v1, v2, rfl, ho, hb5⟩
              obtain ⟨A5, c5, B5, d5, rfl, rfl, a1, a2, a3, a4, _, _⟩ := ho.form
              have l1 := HTV.out.lenH
              have l2 : (dropL ms [x]).length ≤ 24 := (HTV.out.drop [x]).lenM
              exact ⟨_, rfl, hC.trans (hb5.mono hC.size), hI.step hb5 (fun e => absurd e (by decide)) (fun _ => ⟨A5, _, c5, B5, _, d5, rfl, ⟨a1, a2, by show hs.length ≤ _; omega, by show (dropL ms [x]).length ≤ _; omega, a3, a4⟩⟩) (fun e => absurd e (by decide)) (fun e => absurd e (by decide))⟩
            · have h8 := hw (3, 44) (by simp) (by kernel_rfl)
              obtain ⟨A5, n5, c5, B5, m5, d5, e8, k8⟩ := hI.p3 h8
              simp only [List.getElem?_cons_succ, List.getElem?_cons_zero, Option.some.injEq] at ho
              subst ho
              simp [loudAt, loudUpon, go_sem, putsL, Act.put, e8]
              refine (HLx.out A5 n5 c5 B5 m5 d5 v k8).mono ?_
              rintro e w' ⟨rfl, hb5⟩
              exact ⟨_, rfl, hC.trans (hb5.mono hC.size), hI.step hb5 (fun e => absurd e (by decide)) (fun e => absurd e (by decide)) (fun _ => rfl) (fun e => absurd e (by decide))⟩
            · have h2 := hI.step (below_new v (.cells #[.int .i64 0, .int .i64 0, .int .i64 0] 90)) (p := 6) (u := .pointer (some ⟨v.heap.size, 0, none⟩)) (fun e => absurd e (by decide)) (fun e => absurd e (by decide)) (fun e => absurd e (by decide)) (fun _ => ⟨_, rfl, hC.size, Blk.new _ _ _⟩)
              simp only [List.getElem?_cons_succ, List.getElem?_cons_zero, Option.some.injEq] at ho
              subst ho
              simp [loudAt, loudUpon, go_sem, execOp]
              exact ⟨hC.alloc hC.size _, h2⟩
          case last =>
          rintro ls vs V hV hI hls
          have e5 := hI.p5 (hls (5, 46) (by simp))
          obtain ⟨g, e6, hgL, hbk⟩ := hI.p6 (hls (6, 9) (by simp))
          have hxl := HXk.out.lt
          have hkl2 := HKk.out.lt
          have hml := HMk.out.lt
          have hbs := HBk.out.size
          have HBV := Lib.hid (HBk.out.trans (hV.mono HBk.out.size))
          have HTV2 := Lib.hid (HTk.out.below hV)
          have HXV := Lib.hid (HXk.out.below hV)
          have HKV := Lib.hid (HKk.out.below hV)
          have HMV := Lib.hid (HMk.out.below hV)
          have OWV := Lib.hid (owns_below OW.out hV)
          have HGV := Lib.hid hbk
          clear hI hls hV HBk HTk HXk HKk HMk hbk
          simp only [putsL, List.foldl_cons, List.foldl_nil, List.drop_succ_cons, List.drop_zero, Act.put, e5, e6, List.setIfInBounds_toArray, List.set_cons_succ, List.set_cons_zero]
          generalize vs 2 = v2 at *
          generalize vs 3 = v3 at *
          clear e5 e6
          have k0 := HGV.out.cell 0
          have k1 := HGV.out.cell 1
          have k2 := HGV.out.cell 2
          simp only [List.getElem?_toArray, List.getElem?_cons_zero, List.getElem?_cons_succ] at k0 k1 k2
          have kl := HGV.out.lt
          have f0 := HGV.out.frozen 0
          have f1 := HGV.out.frozen 1
          have f2 := HGV.out.frozen 2
          have hgr := grown_set3 V g (.int .i64 lo2) (.int .i64 hi2) (.int .i64 ae2)
          have HB6 := Lib.hid (below_set3 HBV.out (g := g) (by omega) (.int .i64 lo2) (.int .i64 hi2) (.int .i64 ae2))
          have HT6 := Lib.hid (HTV2.out.grown hgr (fun e => by have e2 := Option.some.inj e; omega))
          have HX6 := Lib.hid (HXV.out.grown hgr (fun e => by have e2 := Option.some.inj e; omega))
          have HK6 := Lib.hid (HKV.out.grown hgr (fun e => by have e2 := Option.some.inj e; omega))
          have HM6 := Lib.hid (HMV.out.grown hgr (fun e => by have e2 := Option.some.inj e; omega))
          have HG6 := Lib.hid (blk_set3 HGV.out (.int .i64 lo2) (.int .i64 hi2) (.int .i64 ae2))
          have OW6 := Lib.hid (owns_grown OWV.out hgr (fun r hr e => own_ne OWV.out HGV.out (by decide) (by rw [hr, ← e])))
          clear hgr
          go_upto_region 11 with fail
          clear k0 k1 k2 kl f0 f1 f2 HBV HTV2 HXV HKV HMV HGV OWV OW
          generalize hW : ((V.setCell ⟨g, 0, none⟩ (.int .i64 lo2)).setCell ⟨g, 1, none⟩ (.int .i64 hi2)).setCell ⟨g, 2, none⟩ (.int .i64 ae2) = W6 at *
          clear hW
          have k0 := HG6.out.cell 0
          have k1 := HG6.out.cell 1
          have k2 := HG6.out.cell 2
          have m0 := HM6.out.cell 0
          have m1 := HM6.out.cell 1
          simp only [List.getElem?_toArray, List.getElem?_cons_zero, List.getElem?_cons_succ] at k0 k1 k2 m0 m1
          have kl := HG6.out.lt
          have ml := HM6.out.lt
          go_cut [56] (fun q wx => q = .bool (decide (ae2 ≠ 0 ∨ lo2 ≠ lo ∨ hi2 ≠ hi)) ∧ W6 = wx)
          case first =>
            by_cases ca : ae2 = 0
            case neg =>
              have d0 : (ae2 != 0) = true := by simpa using ca
              go_wp2_with fail
              go_meet
              exact ⟨by rw [decide_eq_true (.inl ca)], rfl⟩
            case pos =>
              subst ca
              by_cases cl : lo2 = lo
              case neg =>
                have d1 : (lo2 == lo) = false := by simpa using cl
                go_wp2_with fail
                go_meet
                exact ⟨by rw [decide_eq_true (.inr (.inl cl))], rfl⟩
              case pos =>
                have d1 : (lo2 == lo) = true := by simpa using cl
                have CL := Lib.hid cl
                clear cl
                by_cases ch : hi2 = hi
                case neg =>
                  have d2 : (hi2 == hi) = false := by simpa using ch
                  go_wp2_with fail
                  go_meet
                  exact ⟨by rw [decide_eq_true (.inr (.inr ch))], rfl⟩
                case pos =>
                  have d2 : (hi2 == hi) = true := by simpa using ch
                  have CH := Lib.hid ch
                  clear ch
                  go_wp2_with fail
                  go_meet
                  exact ⟨by rw [decide_eq_false (by rw [CL.out, CH.out]; simp)], rfl⟩
          case rest =>
            obtain ⟨hq, hb⟩ := hcut
            subst hb
            obtain ⟨b, hbq⟩ : ∃ b, decide (ae2 ≠ 0 ∨ lo2 ≠ lo ∨ hi2 ≠ hi) = b := ⟨_, rfl⟩
            rw [hbq] at hq
            subst hq
            have HWb := Lib.hid (show widB hs ms kind xi lo hi x = b by rw [HWi.out, hbq])
            clear hbq k0 k1 k2 kl m0 m1 ml
            cases b with
            | true =>
              have HY := HWb
              have HE := Lib.hid (show reT hs ms kind xi lo hi (k + 1) = reT hs ms kind xi lo hi k ++ [x] by rw [HT.out, if_pos HY.out])
              have HAd := Lib.hid (add_any x (AdIn.row OW6.out (by rw [sortI_len]; exact HP.out) (fun e => HNl.out (List.eq_nil_of_length_eq_zero (by rw [← sortI_len, e]; rfl)))) (by rw [sortI_len, HP.out]; omega))
              go_wp2_with (go_at_call 70; go_loud (with_reducible refine HAd.out.mono ?_); go_loud (rintro e u ⟨v, rfl, ho, hb⟩))
              have HO := Lib.hid ho
              have HB := Lib.hid hb
              clear ho hb
              go_roundw
              case rel =>
                refine ⟨k + 1, p + 1, by omega, by go_num, by rw [HE.out, List.length_append, HP.out]; rfl, ?_, fun e => ?_, HB6.out.trans (HB.out.mono HB6.out.size), HT6.out.below HB.out, HX6.out.below HB.out, HK6.out.below HB.out, HM6.out.below HB.out⟩
                · have := HO.out
                  rw [insI_sort, sortI_len, HP.out, ← HE.out] at this
                  exact owns_weak this HB6.out.size
                · rw [HE.out] at e; simp at e
              case measure => simp [intOf]; omega
            | false =>
              have HY := Lib.hid (show ¬ widB hs ms kind xi lo hi x = true by rw [HWb.out]; decide)
              have HE := Lib.hid (show reT hs ms kind xi lo hi (k + 1) = reT hs ms kind xi lo hi k by rw [HT.out, if_neg HY.out, List.append_nil])
              go_wp2_with fail
              go_roundw
              case rel => exact ⟨k + 1, p, by omega, by go_num, by rw [HE.out]; exact HP.out, by rw [HE.out]; exact OW6.out, by rw [HE.out]; exact HNl.out, HB6.out, HT6.out, HX6.out, HK6.out, HM6.out⟩
              case measure => simp [intOf]; omega
end Go.Proofs.YtighfmgkoepfkaaGreat

namespace Go.Proofs.YtighfmgkoepfkaaGreat
open Go.RowKit

theorem pl_drop {hs : List Hd} {ms : List Mv} {kind xi id : Int} (h : plE hs ms kind xi = 0) (hne : ¬ (kind = 1 ∧ xi = id)) : plE hs (dropL ms [id]) kind xi = 0 := by
  obtain ⟨hv, hp⟩ := plE_tv h
  unfold plE
  rw [if_neg (by rw [tcheck_zero.2 (hv.drop [id])]; simp)]
  unfold placeE at hp ⊢
  by_cases k1 : kind = 1
  · rw [if_pos k1] at hp ⊢
    have hlt : posM ms xi < ms.length := by
      refine Classical.byContradiction fun c => ?_
      rw [if_neg c] at hp
      cases hp
    have hid := posM_at ms xi hlt
    have hm : ms[posM ms xi] ∈ dropL ms [id] := by
      unfold dropL
      refine List.mem_filter.2 ⟨List.getElem_mem hlt, ?_⟩
      have : xi ≠ id := fun e => hne ⟨k1, e⟩
      rw [hid]
      simpa using this
    obtain ⟨i, hi, he⟩ := List.getElem_of_mem hm
    have := posM_first (dropL ms [id]) xi i hi (by rw [he]; exact hid)
    rw [if_pos (by omega)]
  · rw [if_neg k1] at hp ⊢
    exact hp
theorem both_as {w w' : World} {hs : List Hd} {ms : List Mv} {kind xi : Int} {en : Ending} (h : plE hs ms kind xi = 0) (hb : BothOut w hs ms (placeN hs ms kind xi) en w') :
    ∃ lo hi : Int, en = .returned (.tuple #[vSp lo hi, .int .i64 (asE hs ms kind xi)]) ∧ (asE hs ms kind xi = 0 → lo = asV hs ms kind xi false ∧ hi = asV hs ms kind xi true) ∧ Below w.heap.size w w' := by
  obtain ⟨b, ⟨ha, rfl⟩ | ⟨ha, rfl⟩⟩ := hb
  · have e : asE hs ms kind xi = 9 := by unfold asE; rw [if_neg (by simpa using h), if_neg (by rw [ha]; decide)]
    exact ⟨0, 0, by rw [e], fun q => (by rw [e] at q; cases q), b⟩
  · have e : asE hs ms kind xi = 0 := by unfold asE; rw [if_neg (by simpa using h), if_pos ha]
    exact ⟨_, _, by rw [e], fun _ => ⟨by unfold asV limN; rw [if_pos e, if_neg (by decide)], by unfold asV limN; rw [if_pos e, if_pos rfl]⟩, b⟩
theorem rest_sort {hs : List Hd} {ms : List Mv} {kind xi : Int} (h : asE hs ms kind xi = 0) : restL hs ms kind xi = (idsL ms).filter fun x => widB hs ms kind xi (asV hs ms kind xi false) (asV hs ms kind xi true) x := by
  unfold restL reT idsL
  rw [if_neg (by simpa using h), List.take_length, sort_filter]
/-- Of the first k of some numbers those that are kept. -/
def keepT (keep : Int → Bool) (l : List Int) (k : Nat) : List Int := (l.take k).filter keep
theorem keepT_step {keep : Int → Bool} {l : List Int} {k : Nat} (hk : k < l.length) : keepT keep l (k + 1) = keepT keep l k ++ (if keep l[k] = true then [l[k]] else []) := by
  unfold keepT
  rw [List.take_succ_eq_append_getElem hk, List.filter_append, List.filter_cons, List.filter_nil]
theorem keepT_len (keep : Int → Bool) (l : List Int) (k : Nat) : (keepT keep l k).length ≤ k := by
  unfold keepT
  refine Nat.le_trans (List.length_filter_le _ _) ?_
  rw [List.length_take]
  omega
end Go.Proofs.YtighfmgkoepfkaaGreat

namespace Go.Proofs.YtighfmgkoepfkaaGreat
open Go.RowKit

def ReOut (w : World) (hs : List Hd) (ms : List Mv) (kind xi : Int) (en : Ending) (w' : World) : Prop :=
  Below w.heap.size w w' ∧ ∃ v, en = .returned (.tuple #[v, .int .i64 (asE hs ms kind xi)]) ∧ w'.ownsRow w.heap.size 3 1 v (restL hs ms kind xi).length ((restL hs ms kind xi).flatMap encI)
set_option maxRecDepth 100000 in
set_option maxHeartbeats 12800000 in
theorem Rests_any (t : TR) (kind xi : Int) (w : World) (h : t.Ok w) : Calls Tryz.prog 41 #[t.v, vAt kind xi] w (ReOut w t.hs t.ms kind xi) := by
  obtain ⟨A, n, c, B, m, d, hs, ms⟩ := t
  have HPl := Lib.hid (fun (u : World) (hu : TR.Ok u ⟨A, n, c, B, m, d, hs, ms⟩) => place_any ⟨A, n, c, B, m, d, hs, ms⟩ kind xi u hu)
  have HBo := Lib.hid (fun (u : World) (hu : TR.Ok u ⟨A, n, c, B, m, d, hs, ms⟩) (hp : plE hs ms kind xi = 0) => (both_any ⟨A, n, c, B, m, d, hs, ms⟩ (placeN hs ms kind xi) u hu (plE_tv hp).1 (placeN_lt (plE_tv hp).2)).mono fun e w' hb => both_as hp hb)
  have HWo := Lib.hid (fun (u : World) (hu : TR.Ok u ⟨A, n, c, B, m, d, hs, ms⟩) (hv : TV hs ms) (A' : Option Addr) (x : Int) (hl : SAt encI 1 u A' 1 [x]) => without_any ⟨A, n, c, B, m, d, hs, ms⟩ A' 1 1 [x] u hu (by have := hv.lenH; have := hu.h.len; dsimp only at *; omega) (by have := hv.lenM; have := hu.m.len; dsimp only at *; omega) hl (by decide))
  have HPd := Lib.hid (fun (x : Int) (A' : Option Addr) (n' c' : Nat) (B' : Option Addr) (m' d' : Nat) (u : World) (hu : TR.Ok u ⟨A', n', c', B', m', d', hs, dropL ms [x]⟩) => place_any ⟨A', n', c', B', m', d', hs, dropL ms [x]⟩ kind xi u hu)
  have HBd := Lib.hid (fun (x : Int) (hp : plE hs (dropL ms [x]) kind xi = 0) (A' : Option Addr) (n' c' : Nat) (B' : Option Addr) (m' d' : Nat) (u : World) (hu : TR.Ok u ⟨A', n', c', B', m', d', hs, dropL ms [x]⟩) => (both_any ⟨A', n', c', B', m', d', hs, dropL ms [x]⟩ (placeN hs (dropL ms [x]) kind xi) u hu (plE_tv hp).1 (placeN_lt (plE_tv hp).2)).mono fun e w' hb => both_as hp hb)
  have HLm := Lib.hid (show ms.length = m from h.m.len)
  dsimp only [TR.v, vAt, vSp] at *
  obtain ⟨ii, hi0, hi1, hi2, hi3⟩ := info_parts info_int
  have HI := Lib.hid (And.intro hi0 (And.intro hi1 (And.intro hi2 hi3)))
  clear hi0 hi1 hi2 hi3
  have HPt := Lib.hid (fun (q : plE hs ms kind xi ≠ 0) => (show asE hs ms kind xi = plE hs ms kind xi by unfold asE; rw [if_pos q]))
  have HEc := Lib.hid (fun q : asE hs ms kind xi ≠ 0 => (show restL hs ms kind xi = [] by unfold restL; rw [if_pos q]))
  have HEz := Lib.hid (fun q : asE hs ms kind xi = 0 => rest_sort q)
  have HPn := Lib.hid (fun (q : plE hs ms kind xi = 0) => (plE_zero q).2.2)
  have HPx := Lib.hid (fun (q : plE hs ms kind xi = 0) x (hne : ¬ (kind = 1 ∧ xi = x)) => pl_drop q hne)
  have HTv := Lib.hid (fun (q : plE hs ms kind xi = 0) => (plE_tv q).1)
  have HKp := Lib.hid (show ∀ x, widB hs ms kind xi (asV hs ms kind xi false) (asV hs ms kind xi true) x = (!decide (kind = 1 ∧ xi = x) && decide (asE hs (dropL ms [x]) kind xi ≠ 0 ∨ asV hs (dropL ms [x]) kind xi false ≠ asV hs ms kind xi false ∨ asV hs (dropL ms [x]) kind xi true ≠ asV hs ms kind xi true)) from fun x => rfl)
  obtain ⟨lv, hlo⟩ : ∃ x, asV hs ms kind xi false = x := ⟨_, rfl⟩
  obtain ⟨hv_, hhi⟩ : ∃ x, asV hs ms kind xi true = x := ⟨_, rfl⟩
  obtain ⟨pe, hpe⟩ : ∃ x, plE hs ms kind xi = x := ⟨_, rfl⟩
  obtain ⟨pn, hpn⟩ : ∃ x, plN hs ms kind xi = x := ⟨_, rfl⟩
  obtain ⟨ae, hae⟩ : ∃ x, asE hs ms kind xi = x := ⟨_, rfl⟩
  have HAe := Lib.hid hae
  rw [hpe, hpn] at HPl
  rw [hpe] at HPt HPn HPx HTv HBo
  rw [hpn] at HPn
  rw [hae] at HPt HEc HEz HBo
  rw [hlo, hhi] at HEz HBo HKp
  clear hlo hhi hpe hpn hae
  have HB0 : Hid (Below w.heap.size w ((w.alloc (.cells #[.slice A n c, .slice B m d] 25)).alloc (.cells #[.int .i64 kind, .int .i64 xi] 83))) := Lib.hid (((Below.refl w.heap.size w).alloc (Nat.le_refl _) _).alloc (by simp) _)
  have T0 : Hid (Blk ((w.alloc (.cells #[.slice A n c, .slice B m d] 25)).alloc (.cells #[.int .i64 kind, .int .i64 xi] 83)) w.heap.size 25 #[.slice A n c, .slice B m d]) := Lib.hid ((Blk.at_new 25 #[.slice A n c, .slice B m d] rfl).alloc _)
  have X0 : Hid (Blk ((w.alloc (.cells #[.slice A n c, .slice B m d] 25)).alloc (.cells #[.int .i64 kind, .int .i64 xi] 83)) (w.heap.size + 1) 83 #[.int .i64 kind, .int .i64 xi]) := Lib.hid (Blk.at_new 83 #[.int .i64 kind, .int .i64 xi] (by simp))
  have O0 := Lib.hid ((h).below HB0.out)
  go_enter Tryz.func41, Tryz.ntmps41
  go_upto_region 1 with fail
  generalize hV : (w.alloc (.cells #[.slice A n c, .slice B m d] 25)).alloc (.cells #[.int .i64 kind, .int .i64 xi] 83) = V0 at *
  clear hV
  clear h
  have yT0 := T0.out.cell 0
  have yT1 := T0.out.cell 1
  have yX0 := X0.out.cell 0
  have yX1 := X0.out.cell 1
  simp only [List.getElem?_toArray, List.getElem?_cons_zero, List.getElem?_cons_succ] at yT0 yT1 yX0 yX1
  have yTl := T0.out.lt
  have yXl := X0.out.lt
  have HC := Lib.hid (HPl.out _ O0.out)
  try dsimp only [TR.v, vCt] at HC
  go_upto_region 2 with (go_at_call 87; (with_reducible refine HC.out.mono ?_); rintro e u1 ⟨rfl, hb⟩)
  clear yT0 yT1 yX0 yX1 yTl yXl
  clear HC
  have bn := hb
  have T1 := Lib.hid (T0.out.below bn)
  have X1 := Lib.hid (X0.out.below bn)
  have O1 := Lib.hid (O0.out.below bn)
  have HB1 := Lib.hid (HB0.out.trans (bn.mono HB0.out.size))
  clear hb bn T0 X0 O0 HB0
  by_cases hp0 : pe = 0
  case neg =>
    have hz : (pe != 0) = true := by simpa using hp0
    have HQ := Lib.hid (HPt.out hp0)
    have HE := Lib.hid (HEc.out (by rw [HQ.out]; exact hp0))
    clear hp0
    have yT0 := T1.out.cell 0
    have yT1 := T1.out.cell 1
    have yX0 := X1.out.cell 0
    have yX1 := X1.out.cell 1
    simp only [List.getElem?_toArray, List.getElem?_cons_zero, List.getElem?_cons_succ] at yT0 yT1 yX0 yX1
    have yTl := T1.out.lt
    have yXl := X1.out.lt
    go_wp2
    refine bodyPost_ret (v := .tuple #[.slice none 0 0, .int .i64 pe]) (by simp [results, Tryz.results41, go_sem]) rfl ⟨HB1.out, _, by rw [HAe.out, HQ.out], ?_⟩
    rw [HE.out]
    exact World.ownsRow_nil _ _ _ _
  case pos =>
  have hz : (pe != 0) = false := by simpa using hp0
  have HP0 := Lib.hid hp0
  have HTV := Lib.hid (HTv.out hp0)
  have HNn := Lib.hid (HPn.out hp0)
  have HBn := Lib.hid (fun (u : World) (hu : TR.Ok u ⟨A, n, c, B, m, d, hs, ms⟩) => HBo.out u hu hp0)
  rw [← HNn.out] at HBn
  have hm24 : m ≤ 24 := by rw [← HLm.out]; exact HTV.out.lenM
  clear hp0 HBo HPl HPt HPn HTv
  have yT0 := T1.out.cell 0
  have yT1 := T1.out.cell 1
  have yX0 := X1.out.cell 0
  have yX1 := X1.out.cell 1
  simp only [List.getElem?_toArray, List.getElem?_cons_zero, List.getElem?_cons_succ] at yT0 yT1 yX0 yX1
  have yTl := T1.out.lt
  have yXl := X1.out.lt
  have HC := Lib.hid (HBn.out _ O1.out)
  try dsimp only [TR.v, vCt] at HC
  go_upto_region 5 with (go_at_call 88; (with_reducible refine HC.out.mono ?_); rintro e u2 ⟨lo, hi, rfl, hlh, hb⟩)
  clear yT0 yT1 yX0 yX1 yTl yXl
  clear HC
  have bn := hb
  have bq : Below u2.heap.size u2 (u2.alloc (.cells #[.int .i64 lo, .int .i64 hi] 57)) := ((Below.refl u2.heap.size u2).alloc (Nat.le_refl _) _)
  have bn := hb.trans (bq.mono hb.size)
  have T2 := Lib.hid (T1.out.below bn)
  have X2 := Lib.hid (X1.out.below bn)
  have O2 := Lib.hid (O1.out.below bn)
  have HB2 := Lib.hid (HB1.out.trans (bn.mono HB1.out.size))
  have S2 : Hid (Blk (u2.alloc (.cells #[.int .i64 lo, .int .i64 hi] 57)) u2.heap.size 57 #[.int .i64 lo, .int .i64 hi]) := Lib.hid (Blk.at_new 57 #[.int .i64 lo, .int .i64 hi] rfl)
  generalize hV : u2.alloc (.cells #[.int .i64 lo, .int .i64 hi] 57) = V2 at *
  generalize hp : u2.heap.size = p2 at *
  clear hV hp bq
  clear hb bn T1 X1 O1 HB1
  have HLH := Lib.hid hlh
  clear hlh hz
  by_cases hc : ae = 0
  case neg =>
    have hz : (ae != 0) = true := by simpa using hc
    have HE := Lib.hid (HEc.out hc)
    clear hc
    have yT0 := T2.out.cell 0
    have yT1 := T2.out.cell 1
    have yX0 := X2.out.cell 0
    have yX1 := X2.out.cell 1
    have yS0 := S2.out.cell 0
    have yS1 := S2.out.cell 1
    simp only [List.getElem?_toArray, List.getElem?_cons_zero, List.getElem?_cons_succ] at yT0 yT1 yX0 yX1 yS0 yS1
    have yTl := T2.out.lt
    have yXl := X2.out.lt
    have ySl := S2.out.lt
    go_wp2
    refine bodyPost_ret (v := .tuple #[.slice none 0 0, .int .i64 ae]) (by simp [results, Tryz.results41, go_sem]) rfl ⟨HB2.out, _, by rw [HAe.out], ?_⟩
    rw [HE.out]
    exact World.ownsRow_nil _ _ _ _
  case pos =>
  subst hc
  have hz : ((0 : Int) != 0) = false := by decide
  obtain ⟨hl1, hl2⟩ := HLH.out rfl
  subst hl1 hl2
  have HS := Lib.hid (HEz.out rfl)
  clear HEz HEc HLH
  have yT0 := T2.out.cell 0
  have yT1 := T2.out.cell 1
  have yX0 := X2.out.cell 0
  have yX1 := X2.out.cell 1
  have yS0 := S2.out.cell 0
  have yS1 := S2.out.cell 1
  simp only [List.getElem?_toArray, List.getElem?_cons_zero, List.getElem?_cons_succ] at yT0 yT1 yX0 yX1 yS0 yS1
  have yTl := T2.out.lt
  have yXl := X2.out.lt
  have ySl := S2.out.lt
  have HId := Lib.hid (ids_any B m d ms _ O2.out.m (by omega))
  go_upto_region 9 with (go_at_call 66; go_loud (with_reducible refine HId.out.mono ?_); go_loud (rintro e u9 ⟨vi, rfl, hoi, hb⟩; obtain ⟨Ai, ci, rfl, hsi, hfi, _⟩ := SAt_of_row encI_len (by rw [idsL_len]; exact HLm.out) hoi; clear hoi))
  clear hz HId yT0 yT1 yX0 yX1 yS0 yS1 yTl yXl ySl
  have HLi := Lib.hid (show (idsL ms).length = m by rw [idsL_len]; exact HLm.out)
  have HTb := Lib.hid (T2.out.below hb)
  have HXb := Lib.hid (X2.out.below hb)
  have HSb := Lib.hid (S2.out.below hb)
  have HOb := Lib.hid (O2.out.below hb)
  have HBb := Lib.hid (HB2.out.trans (hb.mono HB2.out.size))
  have HIb := Lib.hid hsi
  have HOf := HOb
  clear hb hsi hfi T2 X2 O2 S2 HB2
  obtain ⟨l, hl⟩ : ∃ l, idsL ms = l := ⟨_, rfl⟩
  rw [hl] at HLi HIb HS
  clear hl
  obtain ⟨keep, hkp⟩ : ∃ f : Int → Bool, (fun x => widB hs ms kind xi lo hi x) = f := ⟨_, rfl⟩
  have HKe := Lib.hid (fun x => (show keep x = (!decide (kind = 1 ∧ xi = x) && decide (asE hs (dropL ms [x]) kind xi ≠ 0 ∨ asV hs (dropL ms [x]) kind xi false ≠ lo ∨ asV hs (dropL ms [x]) kind xi true ≠ hi)) by rw [← hkp]; exact HKp.out x))
  rw [hkp] at HS
  clear hkp HKp
  go_loopw [9, 11, 12, 13, 14, 15, 16, 39] (fun v _ _ _ _ _ _ i wx => ∃ k p : Nat, k ≤ m ∧ i = .int .i64 (k : Int) ∧ (keepT keep l k).length = p ∧ wx.ownsRow u9.heap.size 3 1 v p ((keepT keep l k).flatMap encI) ∧ u9.heap.size ≤ wx.heap.size ∧ Below w.heap.size w wx ∧ Blk wx w.heap.size 25 #[.slice A n c, .slice B m d] ∧ Blk wx (w.heap.size + 1) 83 #[.int .i64 kind, .int .i64 xi] ∧ Blk wx p2 57 #[.int .i64 lo, .int .i64 hi] ∧ TR.Ok wx ⟨A, n, c, B, m, d, hs, ms⟩ ∧ SAt encI 1 wx Ai m l) (fun _ _ _ _ _ _ _ i _ => m - (intOf i).toNat)
  case atStart => exact ⟨0, 0, Nat.zero_le _, rfl, rfl, by simpa [keepT] using World.ownsRow_nil _ _ _ _, Nat.le_refl _, HBb.out, HTb.out, HXb.out, HSb.out, HOb.out, HIb.out⟩
  case round =>
    clear HTb HXb HSb HOb
    obtain ⟨k, p, hk, rfl, hp, ow, hws, hb, ht, hxb, hsb, hok, hib⟩ := hrel
    have HP := Lib.hid hp
    have OW := Lib.hid ow
    have HWs := Lib.hid hws
    have HBk := Lib.hid hb
    have HTk := Lib.hid ht
    have HXk := Lib.hid hxb
    have HSk := Lib.hid hsb
    have HOk := Lib.hid hok
    have HIk := Lib.hid hib
    have hpk : p ≤ 24 := by rw [← hp]; exact Nat.le_trans (keepT_len keep l k) (by omega)
    obtain ⟨Ao, co, rfl⟩ := owns_slice ow
    clear hp ow hws hb ht hxb hsb hok hib
    by_cases hkm : k < m
    case neg =>
      obtain rfl : k = m := by omega
      have HR := Lib.hid (show restL hs ms kind xi = keepT keep l k by rw [HS.out]; unfold keepT; rw [List.take_of_length_le (by rw [HLi.out]; exact Nat.le_refl _)])
      go_wp2
      refine bodyPost_ret (v := .tuple #[.slice Ao p co, .int .i64 0]) (by simp [results, Tryz.results41, go_sem]) rfl ⟨HBk.out, _, by rw [HAe.out], ?_⟩
      rw [HR.out, HP.out]
      exact owns_weak OW.out HBb.out.size
    case pos =>
      have hkl : k < l.length := by rw [HLi.out]; exact hkm
      have HT := Lib.hid (keepT_step (keep := keep) hkl)
      obtain ⟨bI, oI, eI, hI⟩ := HIb.out.at_ (by omega)
      subst eI
      have HFr := Lib.hid hI.lt
      obtain ⟨bI2, oI2, eI2, hI2⟩ := HIk.out.at_ (by omega)
      cases eI2
      have u0 := hI2.c k _ (List.getElem?_eq_getElem hkl) 0 _ rfl
      rw [Nat.mul_one, Nat.add_zero] at u0
      have ul := hI2.lt
      clear hI hI2
      generalize l[k] = x at *
      have q0 := HXk.out.cell 0
      have q1 := HXk.out.cell 1
      have y0 := HTk.out.cell 0
      have y1 := HTk.out.cell 1
      simp only [List.getElem?_toArray, List.getElem?_cons_zero, List.getElem?_cons_succ] at q0 q1 y0 y1
      have ql := HXk.out.lt
      have yl := HTk.out.lt
      by_cases ck : kind = 1 ∧ xi = x
      case pos =>
        have c1 : (kind == 1) = true := by simpa using ck.1
        have c2 : (x == xi) = true := by simpa using ck.2.symm
        have HE := Lib.hid (show keepT keep l (k + 1) = keepT keep l k by rw [HT.out, if_neg (by rw [HKe.out, decide_eq_true ck]; simp), List.append_nil])
        clear ck
        go_wp2_with fail
        go_roundw
        case rel => exact ⟨k + 1, p, by omega, by go_num, by rw [HE.out]; exact HP.out, by rw [HE.out]; exact OW.out, HWs.out, HBk.out, HTk.out, HXk.out, HSk.out, HOk.out, HIk.out⟩
        case measure => simp [intOf]; omega
      case neg =>
        have HW := Lib.hid (show keep x = decide (asE hs (dropL ms [x]) kind xi ≠ 0 ∨ asV hs (dropL ms [x]) kind xi false ≠ lo ∨ asV hs (dropL ms [x]) kind xi true ≠ hi) by rw [HKe.out, decide_eq_false ck]; simp)
        have HPe := Lib.hid (HPx.out HP0.out x ck)
        have HPN := Lib.hid (plE_zero HPe.out).2.2
        have HPl2 := Lib.hid (fun A' n' c' B' m' d' u hu => HPd.out x A' n' c' B' m' d' u hu)
        have HBd2 := Lib.hid (fun A' n' c' B' m' d' u hu => HBd.out x HPe.out A' n' c' B' m' d' u hu)
        rw [HPe.out, HPN.out] at HPl2
        obtain ⟨pn2, hpn2⟩ : ∃ z, placeN hs (dropL ms [x]) kind xi = z := ⟨_, rfl⟩
        obtain ⟨ae2, hae2⟩ : ∃ z, asE hs (dropL ms [x]) kind xi = z := ⟨_, rfl⟩
        obtain ⟨lv2, hlv2⟩ : ∃ z, asV hs (dropL ms [x]) kind xi false = z := ⟨_, rfl⟩
        obtain ⟨hv2, hhv2⟩ : ∃ z, asV hs (dropL ms [x]) kind xi true = z := ⟨_, rfl⟩
        rw [hpn2] at HPl2 HBd2
        rw [hae2, hlv2, hhv2] at HBd2 HW
        clear hpn2 hae2 hlv2 hhv2 HPe HPN
        have HCk := Lib.hid ck
        go_upto_region 11 with fail
        go_cut [51] (fun q wx => q = .bool false ∧ wr = wx)
        case first =>
          by_cases ck1 : kind = 1
          case pos =>
            have c1 : (kind == 1) = true := by simpa using ck1
            have c2 : (x == xi) = false := by simp; exact fun e => ck ⟨ck1, e.symm⟩
            clear ck1
            go_wp2_with fail
            go_meet
            exact ⟨by simp, rfl⟩
          case neg =>
            have c1 : (kind == 1) = false := by simpa using ck1
            go_wp2_with fail
            go_meet
            exact ⟨by simp, rfl⟩
        case rest =>
          obtain ⟨hq, hb⟩ := hcut
          subst hq
          subst hb
          clear ck
          have b1 := (Below.refl wr.heap.size wr).alloc (Nat.le_refl _) (.cells #[.int .i64 x] 3)
          have HWx := Lib.hid (HWo.out _ (HOk.out.below b1) HTV.out (some ⟨wr.heap.size, 0, none⟩) x (one_sat (Blk.new wr _ _)))
          go_upto_region 13 with (go_at_call 68; go_loud (with_reducible refine HWx.out.mono ?_); go_loud (rintro e u5 ⟨v1, v2, rfl, ho, hb⟩; obtain ⟨A5, c5, B5, d5, rfl, rfl, a1, a2, a3, a4, _, _⟩ := ho.form; clear ho))
          clear q0 q1 y0 y1 ql yl u0 ul HWx
          have l1 := HTV.out.lenH
          have l2 : (dropL ms [x]).length ≤ 24 := (HTV.out.drop [x]).lenM
          have ok5 : TR.Ok u5 ⟨A5, hs.length, c5, B5, (dropL ms [x]).length, d5, hs, dropL ms [x]⟩ := ⟨a1, a2, by show hs.length ≤ _; omega, by show (dropL ms [x]).length ≤ _; omega, a3, a4⟩
          have bn := b1.trans (hb.mono b1.size)
          have bq : Below u5.heap.size u5 (u5.alloc (.cells #[.slice A5 hs.length c5, .slice B5 (dropL ms [x]).length d5] 25)) := (Below.refl u5.heap.size u5).alloc (Nat.le_refl _) _
          have bm := bn.trans (bq.mono bn.size)
          have HT5 := Lib.hid (HTk.out.below bm)
          have HX5 := Lib.hid (HXk.out.below bm)
          have HS5 := Lib.hid (HSk.out.below bm)
          have HO5 := Lib.hid (HOk.out.below bm)
          have HI5 := Lib.hid (HIk.out.below bm)
          have HB5 := Lib.hid (HBk.out.trans (bm.mono HBk.out.size))
          have HW5 := Lib.hid (Nat.le_trans HWs.out bm.size)
          have OW5 := Lib.hid (owns_below OW.out bm)
          have HL5 : Hid (Blk (u5.alloc (.cells #[.slice A5 hs.length c5, .slice B5 (dropL ms [x]).length d5] 25)) u5.heap.size 25 #[.slice A5 hs.length c5, .slice B5 (dropL ms [x]).length d5]) := Lib.hid (Blk.at_new _ _ rfl)
          have HK5 := Lib.hid (ok5.below bq)
          clear bn bm b1 hb a1 a2 a3 a4 l1 l2 ok5 HTk HXk HSk HOk HIk HBk HWs OW
          generalize hV : u5.alloc (.cells #[.slice A5 hs.length c5, .slice B5 (dropL ms [x]).length d5] 25) = V5 at *
          generalize hg : u5.heap.size = g5 at *
          generalize hs.length = nh at *
          generalize (dropL ms [x]).length = nd at *
          clear hV hg bq
          have z0 := HL5.out.cell 0
          have z1 := HL5.out.cell 1
          have q0 := HX5.out.cell 0
          have q1 := HX5.out.cell 1
          simp only [List.getElem?_toArray, List.getElem?_cons_zero, List.getElem?_cons_succ] at q0 q1 z0 z1
          have ql := HX5.out.lt
          have zl := HL5.out.lt
          have HPx2 := Lib.hid (HPl2.out _ _ _ _ _ _ V5 HK5.out)
          go_upto_region 14 with (go_at_call 87; go_loud (with_reducible refine HPx2.out.mono ?_); go_loud (rintro e u6 ⟨rfl, hb⟩))
          clear z0 z1 q0 q1 ql zl HPx2
          have HT6 := Lib.hid (HT5.out.below hb)
          have HX6 := Lib.hid (HX5.out.below hb)
          have HS6 := Lib.hid (HS5.out.below hb)
          have HO6 := Lib.hid (HO5.out.below hb)
          have HI6 := Lib.hid (HI5.out.below hb)
          have HB6 := Lib.hid (HB5.out.trans (hb.mono HB5.out.size))
          have HW6 := Lib.hid (Nat.le_trans HW5.out hb.size)
          have OW6 := Lib.hid (owns_below OW5.out hb)
          have HL6 := Lib.hid (HL5.out.below hb)
          have HK6 := Lib.hid (HK5.out.below hb)
          clear hb HT5 HX5 HS5 HO5 HI5 HB5 HW5 OW5 HL5 HK5
          have z0 := HL6.out.cell 0
          have z1 := HL6.out.cell 1
          simp only [List.getElem?_toArray, List.getElem?_cons_zero, List.getElem?_cons_succ] at z0 z1
          have zl := HL6.out.lt
          have HBx2 := Lib.hid (HBd2.out _ _ _ _ _ _ u6 HK6.out)
          go_upto_region 15 with (go_at_call 88; go_loud (with_reducible refine HBx2.out.mono ?_); go_loud (rintro e u7 ⟨lo2, hi2, rfl, hlh, hb⟩))
          clear z0 z1 zl HBx2 HL6 HK6
          have bq : Below u7.heap.size u7 (u7.alloc (.cells #[.int .i64 lo2, .int .i64 hi2] 57)) := (Below.refl u7.heap.size u7).alloc (Nat.le_refl _) _
          have bm := hb.trans (bq.mono hb.size)
          have HT7 := Lib.hid (HT6.out.below bm)
          have HX7 := Lib.hid (HX6.out.below bm)
          have HS7 := Lib.hid (HS6.out.below bm)
          have HO7 := Lib.hid (HO6.out.below bm)
          have HI7 := Lib.hid (HI6.out.below bm)
          have HB7 := Lib.hid (HB6.out.trans (bm.mono HB6.out.size))
          have HW7 := Lib.hid (Nat.le_trans HW6.out bm.size)
          have OW7 := Lib.hid (owns_below OW6.out bm)
          have HQ7 : Hid (Blk (u7.alloc (.cells #[.int .i64 lo2, .int .i64 hi2] 57)) u7.heap.size 57 #[.int .i64 lo2, .int .i64 hi2]) := Lib.hid (Blk.at_new _ _ rfl)
          have HLH := Lib.hid hlh
          clear bm hb hlh HT6 HX6 HS6 HO6 HI6 HB6 HW6 OW6
          generalize hV : u7.alloc (.cells #[.int .i64 lo2, .int .i64 hi2] 57) = V7 at *
          generalize hg : u7.heap.size = g7 at *
          clear hV hg bq
          have s0 := HS7.out.cell 0
          have s1 := HS7.out.cell 1
          have r0 := HQ7.out.cell 0
          have r1 := HQ7.out.cell 1
          simp only [List.getElem?_toArray, List.getElem?_cons_zero, List.getElem?_cons_succ] at s0 s1 r0 r1
          have sl := HS7.out.lt
          have rl := HQ7.out.lt
          go_cut [74] (fun q wx => q = .bool (decide (ae2 ≠ 0 ∨ lv2 ≠ lo ∨ hv2 ≠ hi)) ∧ V7 = wx)
          case first =>
            by_cases ca : ae2 = 0
            case neg =>
              have d0 : (ae2 != 0) = true := by simpa using ca
              go_wp2_with fail
              go_meet
              exact ⟨by rw [decide_eq_true (.inl ca)], rfl⟩
            case pos =>
              subst ca
              obtain ⟨e1, e2⟩ := HLH.out rfl
              subst e1 e2
              by_cases cl : lo2 = lo
              case neg =>
                have d1 : (lo2 == lo) = false := by simpa using cl
                go_wp2_with fail
                go_meet
                exact ⟨by rw [decide_eq_true (.inr (.inl cl))], rfl⟩
              case pos =>
                have d1 : (lo2 == lo) = true := by simpa using cl
                have CL := Lib.hid cl
                clear cl
                by_cases ch : hi2 = hi
                case neg =>
                  have d2 : (hi2 == hi) = false := by simpa using ch
                  go_wp2_with fail
                  go_meet
                  exact ⟨by rw [decide_eq_true (.inr (.inr ch))], rfl⟩
                case pos =>
                  have d2 : (hi2 == hi) = true := by simpa using ch
                  have CH := Lib.hid ch
                  clear ch
                  go_wp2_with fail
                  go_meet
                  exact ⟨by rw [decide_eq_false (by rw [CL.out, CH.out]; simp)], rfl⟩
          case rest =>
            obtain ⟨hq, hb⟩ := hcut
            subst hb
            obtain ⟨b, hbq⟩ : ∃ b, decide (ae2 ≠ 0 ∨ lv2 ≠ lo ∨ hv2 ≠ hi) = b := ⟨_, rfl⟩
            rw [hbq] at hq
            subst hq
            have HWb := Lib.hid (show keep x = b by rw [HW.out, hbq])
            clear hbq
            cases b with
            | true =>
              have HY := HWb
              have HE := Lib.hid (show keepT keep l (k + 1) = keepT keep l k ++ [x] by rw [HT.out, if_pos HY.out])
              have b8 := below_new V7 (.cells #[.int .i64 x] 3)
              have OW8 := Lib.hid (owns_below OW7.out b8)
              have HL8 := Lib.hid (fun (r : Nat) hr => own_lt (g := r) OW8.out hr)
              have hws := HW7.out
              have hbb := HBb.out.size
              have hfr := HFr.out
              go_wp2_with (at_builtin; go_loud (refine wpList_append_own _ rfl (.tmp 75) (.tmp 77) 42 rfl u9.heap.size 3 ii (.int .i64 0) 1 8 Tryz.underlying42 HI.out.1 HI.out.2.1 HI.out.2.2.1 HI.out.2.2.2 rfl (by decide) _ p ((keepT keep l k).flatMap encI) rfl OW8.out ⟨V7.heap.size, 0, none⟩ 1 1 [.int .i64 x] rfl rfl (fun j u h => by match j, h with | 0, h => (simp at h; subst h; exact (Blk.new V7 _ _).cell 0)) (one_intsL [x]) (by unfold maxLen; omega) (by omega) (by simp; omega) ?_))
              intro v' w9 ho hgr _
              obtain ⟨g9, c9, rfl⟩ := ownsRow_succ ho
              have HO := Lib.hid ho
              have bg := hgr
              have HB9 := Lib.hid ((HB7.out.trans (b8.mono HB7.out.size)).grown hgr (HB7.out.trans (b8.mono HB7.out.size)).size (fun r hr => by have := HL8.out _ hr; omega))
              have HT9 := Lib.hid ((HT7.out.below b8).grown hgr (own_ne OW8.out (HT7.out.below b8) (by decide)))
              have HX9 := Lib.hid ((HX7.out.below b8).grown hgr (own_ne OW8.out (HX7.out.below b8) (by decide)))
              have HS9 := Lib.hid ((HS7.out.below b8).grown hgr (own_ne OW8.out (HS7.out.below b8) (by decide)))
              have HO9 := Lib.hid (HOf.out.farw (HO7.out.below b8) hgr (fun r hr => (HL8.out _ hr).1))
              have HI9 := Lib.hid (HIb.out.farw (HI7.out.below b8) hgr (fun r hr => (HL8.out _ hr).1))
              have HW9 := Lib.hid (Nat.le_trans HW7.out (Nat.le_trans b8.size hgr.size))
              clear ho hgr bg b8 s0 s1 r0 r1 sl rl hws hbb hfr
              go_wp2
              go_roundw
              case rel => exact ⟨k + 1, p + 1, by omega, by go_num, by rw [HE.out, List.length_append, HP.out]; rfl, by rw [HE.out, List.flatMap_append]; exact HO.out, HW9.out, HB9.out, HT9.out, HX9.out, HS9.out, HO9.out, HI9.out⟩
              case measure => simp [intOf]; omega
            | false =>
              have HY := Lib.hid (show ¬ keep x = true by rw [HWb.out]; decide)
              have HE := Lib.hid (show keepT keep l (k + 1) = keepT keep l k by rw [HT.out, if_neg HY.out, List.append_nil])
              go_wp2_with fail
              go_roundw
              case rel => exact ⟨k + 1, p, by omega, by go_num, by rw [HE.out]; exact HP.out, by rw [HE.out]; exact OW7.out, HW7.out, HB7.out, HT7.out, HX7.out, HS7.out, HO7.out, HI7.out⟩
              case measure => simp [intOf]; omega
end Go.Proofs.YtighfmgkoepfkaaGreat

namespace Go.Proofs.YtighfmgkoepfkaaGreat
open Go.RowKit

theorem mg_no {hs : List Hd} {ms : List Mv} {a b e : Int} (h : mgE hs ms a b = e) (he : e ≠ 0) : mgE hs ms a b = e ∧ mgH hs ms a b = [] ∧ mgM hs ms a b = [] := by
  unfold mgH mgM
  rw [if_neg (by rw [h]; exact he), if_neg (by rw [h]; exact he)]
  exact ⟨h, rfl, rfl⟩
theorem erase_step {α : Type} {l : List α} {j k : Nat} (hj : j < l.length) : (l.take (j + 1)).eraseIdx k = (l.take j).eraseIdx k ++ (if j = k then [] else [l[j]]) := by
  rw [List.take_succ_eq_append_getElem hj]
  have hl : (l.take j).length = j := by rw [List.length_take]; omega
  by_cases c : k < j
  · rw [List.eraseIdx_append_of_lt_length (by omega), if_neg (by omega)]
  · rw [List.eraseIdx_append_of_length_le (by omega), hl, List.eraseIdx_of_length_le (by omega : (l.take j).length ≤ k)]
    by_cases e : j = k
    · subst e; rw [if_pos rfl, Nat.sub_self]; rfl
    · rw [if_neg e, List.eraseIdx_of_length_le (by simp; omega)]
/-- The movements of the first ones, with one holder's ID in the place of another's. -/
def mgMt (ms : List Mv) (a b : Int) (k : Nat) : List Mv := ((ms.take k).map (renM a b)).filter fun m => !decide (m.fr = m.to)
theorem mgMt_step {ms : List Mv} {a b : Int} {k : Nat} (hk : k < ms.length) : mgMt ms a b (k + 1) = mgMt ms a b k ++ (if (renM a b ms[k]).fr = (renM a b ms[k]).to then [] else [renM a b ms[k]]) := by
  unfold mgMt
  rw [List.take_succ_eq_append_getElem hk, List.map_append, List.filter_append, List.map_cons, List.map_nil, List.filter_cons, List.filter_nil]
  congr 1
  by_cases c : (renM a b ms[k]).fr = (renM a b ms[k]).to
  · rw [if_pos c, decide_eq_true c]; rfl
  · rw [if_neg c, decide_eq_false c]; rfl
def RMgOut (w : World) (hs : List Hd) (ms : List Mv) (a b : Int) (en : Ending) (w' : World) : Prop :=
  ∃ v1 v2, en = .returned (.agg #[v1, v2, .int .i64 (mgE hs ms a b)]) ∧ OwnT w' w.heap.size v1 v2 (mgH hs ms a b) (mgM hs ms a b) ∧ Below w.heap.size w w'
theorem cells2 {W : World} {g : Nat} {t : TypeId} {p q : Value} (h : Blk W g t #[p, q]) : W.cell? ⟨g, 0, none⟩ = some p ∧ W.cell? ⟨g, 1, none⟩ = some q ∧ g < W.heap.size := ⟨by simpa using h.cell 0, by simpa using h.cell 1, h.lt⟩
theorem cells3 {W : World} {g : Nat} {t : TypeId} {p q r : Value} (h : Blk W g t #[p, q, r]) : W.cell? ⟨g, 0, none⟩ = some p ∧ W.cell? ⟨g, 1, none⟩ = some q ∧ W.cell? ⟨g, 2, none⟩ = some r ∧ g < W.heap.size := ⟨by simpa using h.cell 0, by simpa using h.cell 1, by simpa using h.cell 2, h.lt⟩
theorem cells6 {W : World} {g : Nat} {t : TypeId} {p q r u v x : Value} (h : Blk W g t #[p, q, r, u, v, x]) : W.cell? ⟨g, 0, none⟩ = some p ∧ W.cell? ⟨g, 1, none⟩ = some q ∧ W.cell? ⟨g, 2, none⟩ = some r ∧ W.cell? ⟨g, 3, none⟩ = some u ∧ W.cell? ⟨g, 4, none⟩ = some v ∧ W.cell? ⟨g, 5, none⟩ = some x ∧ g < W.heap.size :=
  ⟨by simpa using h.cell 0, by simpa using h.cell 1, by simpa using h.cell 2, by simpa using h.cell 3, by simpa using h.cell 4, by simpa using h.cell 5, h.lt⟩
theorem cells5 {W : World} {g : Nat} {t : TypeId} {p q r u v : Value} (h : Blk W g t #[p, q, r, u, v]) : W.cell? ⟨g, 0, none⟩ = some p ∧ W.cell? ⟨g, 1, none⟩ = some q ∧ W.cell? ⟨g, 2, none⟩ = some r ∧ W.cell? ⟨g, 3, none⟩ = some u ∧ W.cell? ⟨g, 4, none⟩ = some v ∧ g < W.heap.size :=
  ⟨by simpa using h.cell 0, by simpa using h.cell 1, by simpa using h.cell 2, by simpa using h.cell 3, by simpa using h.cell 4, h.lt⟩
theorem frz3 {W : World} {g : Nat} {t : TypeId} {cs : Array Value} (h : Blk W g t cs) : W.frozen? ⟨g, 0, none⟩ = false ∧ W.frozen? ⟨g, 1, none⟩ = false ∧ W.frozen? ⟨g, 2, none⟩ = false := ⟨h.frozen 0, h.frozen 1, h.frozen 2⟩
theorem blk_list {v : World} {g : Nat} {t : TypeId} {cs : List Value} (h : Blk v g t cs.toArray) : ∀ (j : Nat) (u : Value), cs[j]? = some u → v.cell? ((⟨g, 0, none⟩ : Addr).add j) = some u := fun j u hj => by
  have hadd : (⟨g, 0, none⟩ : Addr).add j = ⟨g, j, none⟩ := by unfold Addr.add; split <;> simp_all
  rw [hadd, h.cell j]
  simpa using hj
theorem pos_of {hs : List Hd} {a : Int} (h : ¬ pos hs a < 0) : pos hs a = (posN hs a : Int) ∧ posN hs a < hs.length := by
  unfold pos at h ⊢
  by_cases c : posN hs a < hs.length
  · rw [if_pos c]; exact ⟨rfl, c⟩
  · rw [if_neg c] at h; exact absurd (by decide) h
set_option maxRecDepth 100000 in
set_option maxHeartbeats 1600000 in
theorem sum_any (a b c d : Int) (w : World) (h1 : 0 ≤ a ∧ a ≤ 65536) (h2 : 0 ≤ b ∧ b ≤ 65536) (h3 : 0 ≤ c ∧ c ≤ 65536) (h4 : 0 ≤ d ∧ d ≤ 65536) :
    Calls Tryz.prog 95 #[vSp a b, vSp c d] w fun e w' => e = .returned (vSp (a + c) (b + d)) ∧ Below w.heap.size w w' := by
  obtain ⟨a1, a2⟩ := h1
  obtain ⟨b1, b2⟩ := h2
  obtain ⟨c1, c2⟩ := h3
  obtain ⟨d1, d2⟩ := h4
  dsimp only [vSp] at *
  have hb : Below w.heap.size w (((w.alloc (.cells #[.int .i64 a, .int .i64 b] 57)).alloc (.cells #[.int .i64 c, .int .i64 d] 57)).alloc (.cells #[.int .i64 (a + c), .int .i64 (b + d)] 57)) := (((Below.refl w.heap.size w).alloc (Nat.le_refl _) _).alloc (by simp) _).alloc (by simp; omega) _
  have r0 := Blk.at_new (W := (w.alloc (.cells #[.int .i64 a, .int .i64 b] 57)).alloc (.cells #[.int .i64 c, .int .i64 d] 57)) (g := w.heap.size + 2) 57 #[.int .i64 (a + c), .int .i64 (b + d)] (by simp)
  go_enter Tryz.func95, Tryz.ntmps95
  go_wp2
  have x0 := r0.cell 0
  have x1 := r0.cell 1
  simp only [List.getElem?_toArray, List.getElem?_cons_zero, List.getElem?_cons_succ] at x0 x1
  exact bodyPost_ret (v := .agg #[.int .i64 (a + c), .int .i64 (b + d)]) (by simp [results, Tryz.results95, go_sem, x0, x1]) rfl ⟨rfl, hb⟩
set_option maxRecDepth 100000 in
set_option maxHeartbeats 12800000 in
theorem RMerged_any (t : TR) (ia ib : Int) (w : World) (h : t.Ok w) : Calls Tryz.prog 44 #[t.v, .int .i64 ia, .int .i64 ib] w (RMgOut w t.hs t.ms ia ib) := by
  obtain ⟨A, n, c, B, m, d, hs, ms⟩ := t
  have HCk := Lib.hid (fun (u : World) (hu : TR.Ok u ⟨A, n, c, B, m, d, hs, ms⟩) => RCheck_any ⟨A, n, c, B, m, d, hs, ms⟩ u hu)
  have HPa := Lib.hid (fun (u : World) (hu : TR.Ok u ⟨A, n, c, B, m, d, hs, ms⟩) => Place_any ⟨A, n, c, B, m, d, hs, ms⟩ ia u hu)
  have HPb := Lib.hid (fun (u : World) (hu : TR.Ok u ⟨A, n, c, B, m, d, hs, ms⟩) => Place_any ⟨A, n, c, B, m, d, hs, ms⟩ ib u hu)
  have HO0 := Lib.hid h
  have HLh := Lib.hid (show hs.length = n from h.h.len)
  have HLm := Lib.hid (show ms.length = m from h.m.len)
  dsimp only [TR.v] at *
  have HTv := Lib.hid (show tcheck hs ms = 0 → TV hs ms from tcheck_zero.1)
  have HEc := Lib.hid (fun q : tcheck hs ms ≠ 0 => mg_no (a := ia) (b := ib) (show mgE hs ms ia ib = tcheck hs ms by unfold mgE; rw [if_pos q]) q)
  have HE5 := Lib.hid (fun (q : tcheck hs ms = 0) (r : pos hs ia < 0 ∨ pos hs ib < 0) => mg_no (show mgE hs ms ia ib = 5 by unfold mgE; rw [if_neg (by simpa using q), if_pos r]) (by decide))
  have HE1 := Lib.hid (fun (q : tcheck hs ms = 0) (r : ¬ (pos hs ia < 0 ∨ pos hs ib < 0)) (e : pos hs ia = pos hs ib) => mg_no (show mgE hs ms ia ib = 1 by unfold mgE; rw [if_neg (by simpa using q), if_neg r, if_pos e]) (by decide))
  have HEr := Lib.hid (fun (q : tcheck hs ms = 0) (r : ¬ (pos hs ia < 0 ∨ pos hs ib < 0)) (e : ¬ pos hs ia = pos hs ib) => (show mgE hs ms ia ib = if 65536 < (mgT hs ia ib).sh ∨ 65536 < (mgT hs ia ib).eh ∨ 65536 < (mgT hs ia ib).bk then 3 else 0 by unfold mgE; rw [if_neg (by simpa using q), if_neg r, if_neg e]))
  have HPq := Lib.hid (And.intro (fun h => pos_of (hs := hs) (a := ia) h) (fun h => pos_of (hs := hs) (a := ib) h))
  obtain ⟨tc, htc⟩ : ∃ x, tcheck hs ms = x := ⟨_, rfl⟩
  obtain ⟨pa, hpa⟩ : ∃ x, pos hs ia = x := ⟨_, rfl⟩
  obtain ⟨pb, hpb⟩ : ∃ x, pos hs ib = x := ⟨_, rfl⟩
  rw [htc] at HEc HE5 HE1 HEr HTv HCk
  rw [hpa] at HE5 HE1 HEr HPa HPq
  rw [hpb] at HE5 HE1 HEr HPb HPq
  have HEq := Lib.hid (show ia = ib → pa = pb from fun e => by rw [← hpa, ← hpb, e])
  clear htc hpa hpb
  have HB0 : Hid (Below w.heap.size w ((w.alloc (.cells #[.slice A n c, .slice B m d] 25)).alloc (.cells #[.slice none 0 0, .slice none 0 0, .int .i64 0] 38))) := Lib.hid (((Below.refl w.heap.size w).alloc (Nat.le_refl _) _).alloc (by simp) _)
  have T0 : Hid (Blk ((w.alloc (.cells #[.slice A n c, .slice B m d] 25)).alloc (.cells #[.slice none 0 0, .slice none 0 0, .int .i64 0] 38)) w.heap.size 25 #[.slice A n c, .slice B m d]) := Lib.hid ((Blk.at_new 25 #[.slice A n c, .slice B m d] rfl).alloc _)
  have K0 : Hid (Blk ((w.alloc (.cells #[.slice A n c, .slice B m d] 25)).alloc (.cells #[.slice none 0 0, .slice none 0 0, .int .i64 0] 38)) (w.heap.size + 1) 38 #[.slice none 0 0, .slice none 0 0, .int .i64 0]) := Lib.hid (Blk.at_new 38 #[.slice none 0 0, .slice none 0 0, .int .i64 0] (by simp))
  have O0 := Lib.hid ((h).below HB0.out)
  go_enter Tryz.func44, Tryz.ntmps44
  go_upto_region 1 with fail
  generalize hV : (w.alloc (.cells #[.slice A n c, .slice B m d] 25)).alloc (.cells #[.slice none 0 0, .slice none 0 0, .int .i64 0] 38) = V0 at *
  clear hV
  clear h
  have yT0 := T0.out.cell 0
  have yT1 := T0.out.cell 1
  have yK0 := K0.out.cell 0
  have yK1 := K0.out.cell 1
  have yK2 := K0.out.cell 2
  simp only [List.getElem?_toArray, List.getElem?_cons_zero, List.getElem?_cons_succ] at yT0 yT1 yK0 yK1 yK2
  have yTl := T0.out.lt
  have yKl := K0.out.lt
  have HC := Lib.hid (HCk.out _ O0.out)
  try dsimp only [TR.v, vCt] at HC
  go_upto_region 2 with (go_at_call 61; (with_reducible refine HC.out.mono ?_); rintro e u1 ⟨rfl, hb⟩)
  clear yT0 yT1 yK0 yK1 yK2 yTl yKl
  clear HC
  have bn := hb
  have T1 := Lib.hid (T0.out.below bn)
  have K1 := Lib.hid (K0.out.below bn)
  have O1 := Lib.hid (O0.out.below bn)
  have HB1 := Lib.hid (HB0.out.trans (bn.mono HB0.out.size))
  clear hb bn T0 K0 O0 HB0
  by_cases hc : tc = 0
  case neg =>
    have hz : (tc != 0) = true := by simpa using hc
    have HE := Lib.hid (HEc.out hc)
    clear hc
    obtain ⟨yK0, yK1, yK2, yKl⟩ := cells3 K1.out
    obtain ⟨f0, f1, f2⟩ := frz3 K1.out
    go_wp2
    obtain ⟨x0, x1, x2, -⟩ := cells3 (blk_set3 K1.out (.slice none 0 0) (.slice none 0 0) (.int .i64 tc))
    exact bodyPost_ret (v := .agg #[.slice none 0 0, .slice none 0 0, .int .i64 tc]) (by simp [results, Tryz.results44, go_sem, x0, x1, x2]) rfl ⟨_, _, by rw [HE.out.1], by rw [HE.out.2.1, HE.out.2.2]; exact OwnT.nil _ _, below_set3 HB1.out (by omega) _ _ _⟩
  case pos =>
  subst hc
  have hz : ((0 : Int) != 0) = false := by decide
  have HTV := Lib.hid (HTv.out (by first | rfl | trivial))
  have hn9 : n ≤ 9 := by rw [← HLh.out]; exact HTV.out.lenH
  have hm24 : m ≤ 24 := by rw [← HLm.out]; exact HTV.out.lenM
  clear HTv HEc HCk
  have yT0 := T1.out.cell 0
  have yT1 := T1.out.cell 1
  have yK0 := K1.out.cell 0
  have yK1 := K1.out.cell 1
  have yK2 := K1.out.cell 2
  simp only [List.getElem?_toArray, List.getElem?_cons_zero, List.getElem?_cons_succ] at yT0 yT1 yK0 yK1 yK2
  have yTl := T1.out.lt
  have yKl := K1.out.lt
  have HC := Lib.hid (HPa.out _ O1.out (by omega))
  try dsimp only [TR.v, vCt] at HC
  go_upto_region 5 with (go_at_call 94; (with_reducible refine HC.out.mono ?_); rintro e u2 ⟨rfl, hb⟩)
  clear yT0 yT1 yK0 yK1 yK2 yTl yKl
  clear HC
  have bn := hb
  have T2 := Lib.hid (T1.out.below bn)
  have K2 := Lib.hid (K1.out.below bn)
  have O2 := Lib.hid (O1.out.below bn)
  have HB2 := Lib.hid (HB1.out.trans (bn.mono HB1.out.size))
  clear hb bn T1 K1 O1 HB1
  clear hz
  have yT0 := T2.out.cell 0
  have yT1 := T2.out.cell 1
  have yK0 := K2.out.cell 0
  have yK1 := K2.out.cell 1
  have yK2 := K2.out.cell 2
  simp only [List.getElem?_toArray, List.getElem?_cons_zero, List.getElem?_cons_succ] at yT0 yT1 yK0 yK1 yK2
  have yTl := T2.out.lt
  have yKl := K2.out.lt
  have HC := Lib.hid (HPb.out _ O2.out (by omega))
  try dsimp only [TR.v, vCt] at HC
  go_upto_region 6 with (go_at_call 94; (with_reducible refine HC.out.mono ?_); rintro e u3 ⟨rfl, hb⟩)
  clear yT0 yT1 yK0 yK1 yK2 yTl yKl
  clear HC
  have bn := hb
  have T3 := Lib.hid (T2.out.below bn)
  have K3 := Lib.hid (K2.out.below bn)
  have O3 := Lib.hid (O2.out.below bn)
  have HB3 := Lib.hid (HB2.out.trans (bn.mono HB2.out.size))
  clear hb bn T2 K2 O2 HB2
  by_cases h1 : pa < 0
  case pos =>
    have d1 : decide (pa < 0) = true := decide_eq_true h1
    have HE := Lib.hid (HE5.out (by first | rfl | trivial) (.inl h1))
    obtain ⟨yK0, yK1, yK2, yKl⟩ := cells3 K3.out
    obtain ⟨f0, f1, f2⟩ := frz3 K3.out
    go_wp2
    obtain ⟨x0, x1, x2, -⟩ := cells3 (blk_set3 K3.out (.slice none 0 0) (.slice none 0 0) (.int .i64 5))
    exact bodyPost_ret (v := .agg #[.slice none 0 0, .slice none 0 0, .int .i64 5]) (by simp [results, Tryz.results44, go_sem, x0, x1, x2]) rfl ⟨_, _, by rw [HE.out.1], by rw [HE.out.2.1, HE.out.2.2]; exact OwnT.nil _ _, below_set3 HB3.out (by omega) _ _ _⟩
  case neg =>
  have d1 : decide (pa < 0) = false := decide_eq_false h1
  by_cases h2 : pb < 0
  case pos =>
    have d2 : decide (pb < 0) = true := decide_eq_true h2
    have HE := Lib.hid (HE5.out (by first | rfl | trivial) (.inr h2))
    obtain ⟨yK0, yK1, yK2, yKl⟩ := cells3 K3.out
    obtain ⟨f0, f1, f2⟩ := frz3 K3.out
    go_wp2
    obtain ⟨x0, x1, x2, -⟩ := cells3 (blk_set3 K3.out (.slice none 0 0) (.slice none 0 0) (.int .i64 5))
    exact bodyPost_ret (v := .agg #[.slice none 0 0, .slice none 0 0, .int .i64 5]) (by simp [results, Tryz.results44, go_sem, x0, x1, x2]) rfl ⟨_, _, by rw [HE.out.1], by rw [HE.out.2.1, HE.out.2.2]; exact OwnT.nil _ _, below_set3 HB3.out (by omega) _ _ _⟩
  case neg =>
  have d2 : decide (pb < 0) = false := decide_eq_false h2
  by_cases hab : ia = ib
  case pos =>
    have d3 : (ia == ib) = true := by simpa using hab
    have HE := Lib.hid (HE1.out (by first | rfl | trivial) (by omega) (HEq.out hab))
    clear hab
    obtain ⟨yK0, yK1, yK2, yKl⟩ := cells3 K3.out
    obtain ⟨f0, f1, f2⟩ := frz3 K3.out
    go_wp2
    obtain ⟨x0, x1, x2, -⟩ := cells3 (blk_set3 K3.out (.slice none 0 0) (.slice none 0 0) (.int .i64 1))
    exact bodyPost_ret (v := .agg #[.slice none 0 0, .slice none 0 0, .int .i64 1]) (by simp [results, Tryz.results44, go_sem, x0, x1, x2]) rfl ⟨_, _, by rw [HE.out.1], by rw [HE.out.2.1, HE.out.2.2]; exact OwnT.nil _ _, below_set3 HB3.out (by omega) _ _ _⟩
  case neg =>
  have d3 : (ia == ib) = false := by simpa using hab
  obtain ⟨e1, hi1⟩ := HPq.out.1 (by omega)
  obtain ⟨e2, hk1⟩ := HPq.out.2 (by omega)
  have HTw := Lib.hid (TwoH.mk hi1 hk1 hab)
  have HNe := Lib.hid HTw.out.pos_ne
  have HEs := Lib.hid (HEr.out (by first | rfl | trivial) (by omega) (by rw [e1, e2]; have := HNe.out; omega))
  have HMg := Lib.hid (show mgHs hs ia ib = (hs.set (posN hs ia) (mgT hs ia ib)).eraseIdx (posN hs ib) from rfl)
  have HMt := Lib.hid (show mgT hs ia ib = addH (hs[posN hs ia]) (hs[posN hs ib]) by unfold mgT; rw [hat_eq hi1, hat_eq hk1])
  have hokx := HTV.out.hd (hs[posN hs ia]) (List.getElem_mem hi1)
  have hoky := HTV.out.hd (hs[posN hs ib]) (List.getElem_mem hk1)
  have HAi := Lib.hid (List.getElem?_eq_getElem hi1)
  have HAk := Lib.hid (List.getElem?_eq_getElem hk1)
  generalize hs[posN hs ia] = x at *
  generalize hs[posN hs ib] = y at *
  obtain ⟨i, hi⟩ : ∃ z, posN hs ia = z := ⟨_, rfl⟩
  obtain ⟨k, hk⟩ : ∃ z, posN hs ib = z := ⟨_, rfl⟩
  rw [hi] at e1 HNe HMg HAi hi1
  rw [hk] at e2 HNe HMg HAk hk1
  obtain ⟨xi, xsl, xsh, xel, xeh, xbk⟩ := x
  obtain ⟨yi, ysl, ysh, yel, yeh, ybk⟩ := y
  subst e1 e2
  clear hi hk hab h1 h2 HE5 HE1 HEr HPq HEq HPa HPb HTw
  unfold okHd at hokx hoky
  simp only [okSp, Bool.and_eq_true, decide_eq_true_eq] at hokx hoky
  obtain ⟨mt, hmt⟩ : ∃ z, mgT hs ia ib = z := ⟨_, rfl⟩
  rw [hmt] at HEs HMg HMt
  clear hmt
  obtain ⟨⟨⟨_, p1, p2, p3⟩, p4, p5, p6⟩, p7, p8⟩ := hokx
  obtain ⟨⟨⟨_, q1, q2, q3⟩, q4, q5, q6⟩, q7, q8⟩ := hoky
  obtain ⟨bH, oH, eH, hH⟩ := HO0.out.h.at_ (by dsimp only; have := HLh.out; omega)
  dsimp only at eH
  subst eH
  have HH := Lib.hid hH
  have hin : i < n := by rw [← HLh.out]; exact hi1
  have hkn : k < n := by rw [← HLh.out]; exact hk1
  have HS1 := Lib.hid (fun u => sum_any xsl xsh ysl ysh u (by omega) (by omega) (by omega) (by omega))
  have HS2 := Lib.hid (fun u => sum_any xel xeh yel yeh u (by omega) (by omega) (by omega) (by omega))
  dsimp only [vSp] at HS1 HS2
  clear hH
  obtain ⟨y0, y1, yl⟩ := cells2 T3.out
  have hl2 := HH.out.below HB3.out
  obtain ⟨v0, v1, v2, v3, v4, v5⟩ := Hds.at_ hl2 HAi.out
  dsimp only at v0 v1 v2 v3 v4 v5
  have vl := hl2.lt
  clear hl2
  have hkl := K3.out.lt
  go_upto_region 11 with fail
  clear y0 y1 yl v0 v1 v2 v3 v4 v5 vl d1 d2 d3
  have bn := below_new u3 (.cells #[.int .i64 xi, .int .i64 xsl, .int .i64 xsh, .int .i64 xel, .int .i64 xeh, .int .i64 xbk] 118)
  have P4 := Lib.hid (Blk.new u3 118 #[.int .i64 xi, .int .i64 xsl, .int .i64 xsh, .int .i64 xel, .int .i64 xeh, .int .i64 xbk])
  have HG := Lib.hid (show w.heap.size + 2 ≤ u3.heap.size from hkl)
  have T4 := Lib.hid (T3.out.below bn)
  have K4 := Lib.hid (K3.out.below bn)
  have HB4 := Lib.hid (HB3.out.trans (bn.mono HB3.out.size))
  clear T3 K3 HB3
  generalize hV : u3.alloc (.cells #[.int .i64 xi, .int .i64 xsl, .int .i64 xsh, .int .i64 xel, .int .i64 xeh, .int .i64 xbk] 118) = V4 at *
  generalize hg : u3.heap.size = g4 at *
  clear hV hg bn hkl
  clear O3
  obtain ⟨y0, y1, yl⟩ := cells2 T4.out
  have hl2 := HH.out.below HB4.out
  obtain ⟨v0, v1, v2, v3, v4, v5⟩ := Hds.at_ hl2 HAk.out
  dsimp only at v0 v1 v2 v3 v4 v5
  have vl := hl2.lt
  clear hl2
  obtain ⟨c0, c1, c2, c3, c4, c5, cl⟩ := cells6 P4.out
  obtain ⟨xc, xf'⟩ := xcell (W := V4)
  refine wp_region_quiet_tail 10 (by kernel_rfl) (by kernel_rfl) ?_
  simp only [List.take_succ_cons, List.take_zero, List.drop_succ_cons, List.drop_zero]
  repeat (first | go_big_quiet_step ((go_at_call 95; with_reducible refine calls_ext (HS1.out _))) | quiet_step ((go_at_call 95; with_reducible refine calls_ext (HS1.out _))))
  refine wpQuiet_nil ?_
  intro w5 hb
  clear xc xf' y0 y1 yl v0 v1 v2 v3 v4 v5 vl c0 c1 c2 c3 c4 c5 cl
  have T5 := Lib.hid (T4.out.below hb)
  have K5 := Lib.hid (K4.out.below hb)
  have P5 := Lib.hid (P4.out.below hb)
  have HB5 := Lib.hid (HB4.out.trans (hb.mono HB4.out.size))
  clear T4 K4 P4 HB4
  clear hb
  obtain ⟨c0, c1, c2, c3, c4, c5, cl⟩ := cells6 P5.out
  obtain ⟨f0, f1⟩ : _ ∧ _ := ⟨P5.out.frozen 1, P5.out.frozen 2⟩
  have hgg := HG.out
  have hgr := (grown_trans (grownBy_set w5 g4 1 (.int .i64 (xsl + ysl))) (grownBy_set _ g4 2 (.int .i64 (xsh + ysh))))
  have T6 := Lib.hid (T5.out.grown hgr (fun e => by have e2 := Option.some.inj e; omega))
  have K6 := Lib.hid (K5.out.grown hgr (fun e => by have e2 := Option.some.inj e; omega))
  have HB6 := Lib.hid (((HB5.out.setCell (p := ⟨g4, 1, none⟩) (by simp; omega) (.int .i64 (xsl + ysl))).setCell (p := ⟨g4, 2, none⟩) (by simp; omega) (.int .i64 (xsh + ysh))))
  have P6 : Hid (Blk ((w5.setCell ⟨g4, 1, none⟩ (.int .i64 (xsl + ysl))).setCell ⟨g4, 2, none⟩ (.int .i64 (xsh + ysh))) g4 118 #[.int .i64 xi, .int .i64 (xsl + ysl), .int .i64 (xsh + ysh), .int .i64 xel, .int .i64 xeh, .int .i64 xbk]) := Lib.hid (by have := ((P5.out.set_ 1 (.int .i64 (xsl + ysl))).set_ 2 (.int .i64 (xsh + ysh))); simpa using this)
  go_upto_region 12 with fail
  clear hgr hgg f0 f1 c0 c1 c2 c3 c4 c5 cl T5 K5 P5 HB5
  generalize hW : (w5.setCell ⟨g4, 1, none⟩ (.int .i64 (xsl + ysl))).setCell ⟨g4, 2, none⟩ (.int .i64 (xsh + ysh)) = V6 at *
  clear hW
  obtain ⟨y0, y1, yl⟩ := cells2 T6.out
  have hl2 := HH.out.below HB6.out
  obtain ⟨v0, v1, v2, v3, v4, v5⟩ := Hds.at_ hl2 HAk.out
  dsimp only at v0 v1 v2 v3 v4 v5
  have vl := hl2.lt
  clear hl2
  obtain ⟨c0, c1, c2, c3, c4, c5, cl⟩ := cells6 P6.out
  obtain ⟨xc, xf'⟩ := xcell (W := V6)
  refine wp_region_quiet_tail 10 (by kernel_rfl) (by kernel_rfl) ?_
  simp only [List.take_succ_cons, List.take_zero, List.drop_succ_cons, List.drop_zero]
  repeat (first | go_big_quiet_step ((go_at_call 95; with_reducible refine calls_ext (HS2.out _))) | quiet_step ((go_at_call 95; with_reducible refine calls_ext (HS2.out _))))
  refine wpQuiet_nil ?_
  intro w7 hb
  clear xc xf' y0 y1 yl v0 v1 v2 v3 v4 v5 vl c0 c1 c2 c3 c4 c5 cl
  have T7 := Lib.hid (T6.out.below hb)
  have K7 := Lib.hid (K6.out.below hb)
  have P7 := Lib.hid (P6.out.below hb)
  have HB7 := Lib.hid (HB6.out.trans (hb.mono HB6.out.size))
  clear T6 K6 P6 HB6
  clear hb
  obtain ⟨c0, c1, c2, c3, c4, c5, cl⟩ := cells6 P7.out
  obtain ⟨f0, f1⟩ : _ ∧ _ := ⟨P7.out.frozen 3, P7.out.frozen 4⟩
  have hgg := HG.out
  have hgr := (grown_trans (grownBy_set w7 g4 3 (.int .i64 (xel + yel))) (grownBy_set _ g4 4 (.int .i64 (xeh + yeh))))
  have T8 := Lib.hid (T7.out.grown hgr (fun e => by have e2 := Option.some.inj e; omega))
  have K8 := Lib.hid (K7.out.grown hgr (fun e => by have e2 := Option.some.inj e; omega))
  have HB8 := Lib.hid (((HB7.out.setCell (p := ⟨g4, 3, none⟩) (by simp; omega) (.int .i64 (xel + yel))).setCell (p := ⟨g4, 4, none⟩) (by simp; omega) (.int .i64 (xeh + yeh))))
  have P8 : Hid (Blk ((w7.setCell ⟨g4, 3, none⟩ (.int .i64 (xel + yel))).setCell ⟨g4, 4, none⟩ (.int .i64 (xeh + yeh))) g4 118 #[.int .i64 xi, .int .i64 (xsl + ysl), .int .i64 (xsh + ysh), .int .i64 (xel + yel), .int .i64 (xeh + yeh), .int .i64 xbk]) := Lib.hid (by have := ((P7.out.set_ 3 (.int .i64 (xel + yel))).set_ 4 (.int .i64 (xeh + yeh))); simpa using this)
  go_upto_region 13 with fail
  clear hgr hgg f0 f1 c0 c1 c2 c3 c4 c5 cl T7 K7 P7 HB7
  generalize hW : (w7.setCell ⟨g4, 3, none⟩ (.int .i64 (xel + yel))).setCell ⟨g4, 4, none⟩ (.int .i64 (xeh + yeh)) = V8 at *
  clear hW
  obtain ⟨y0, y1, yl⟩ := cells2 T8.out
  have hl2 := HH.out.below HB8.out
  obtain ⟨v0, v1, v2, v3, v4, v5⟩ := Hds.at_ hl2 HAk.out
  dsimp only at v0 v1 v2 v3 v4 v5
  have vl := hl2.lt
  clear hl2
  obtain ⟨c0, c1, c2, c3, c4, c5, cl⟩ := cells6 P8.out
  obtain ⟨xc, xf'⟩ := xcell (W := V8)
  refine wp_region_quiet_tail 10 (by kernel_rfl) (by kernel_rfl) ?_
  simp only [List.take_succ_cons, List.take_zero, List.drop_succ_cons, List.drop_zero]
  repeat (first | go_big_quiet_step (fail) | quiet_step (fail))
  refine wpQuiet_nil ?_
  intro w9 hb
  clear xc xf' y0 y1 yl v0 v1 v2 v3 v4 v5 vl c0 c1 c2 c3 c4 c5 cl
  have T9 := Lib.hid (T8.out.below hb)
  have K9 := Lib.hid (K8.out.below hb)
  have P9 := Lib.hid (P8.out.below hb)
  have HB9 := Lib.hid (HB8.out.trans (hb.mono HB8.out.size))
  clear T8 K8 P8 HB8
  clear hb
  obtain ⟨c0, c1, c2, c3, c4, c5, cl⟩ := cells6 P9.out
  obtain ⟨f0, f1⟩ : _ ∧ _ := ⟨P9.out.frozen 5, P9.out.frozen 5⟩
  have hgg := HG.out
  have hgr := (grownBy_set w9 g4 5 (.int .i64 (xbk + ybk)))
  have T10 := Lib.hid (T9.out.grown hgr (fun e => by have e2 := Option.some.inj e; omega))
  have K10 := Lib.hid (K9.out.grown hgr (fun e => by have e2 := Option.some.inj e; omega))
  have HB10 := Lib.hid ((HB9.out.setCell (p := ⟨g4, 5, none⟩) (by simp; omega) (.int .i64 (xbk + ybk))))
  have P10 : Hid (Blk (w9.setCell ⟨g4, 5, none⟩ (.int .i64 (xbk + ybk))) g4 118 #[.int .i64 xi, .int .i64 (xsl + ysl), .int .i64 (xsh + ysh), .int .i64 (xel + yel), .int .i64 (xeh + yeh), .int .i64 (xbk + ybk)]) := Lib.hid (by have := (P9.out.set_ 5 (.int .i64 (xbk + ybk))); simpa using this)
  go_upto_region 14 with fail
  clear hgr hgg f0 f1 c0 c1 c2 c3 c4 c5 cl T9 K9 P9 HB9
  generalize hW : w9.setCell ⟨g4, 5, none⟩ (.int .i64 (xbk + ybk)) = V10 at *
  clear hW
  obtain ⟨c0, c1, c2, c3, c4, c5, cl⟩ := cells6 P10.out
  by_cases r1 : 65536 < xsh + ysh
  case pos =>
    have s1 : decide (65536 < xsh + ysh) = true := decide_eq_true r1
    have HE := Lib.hid (mg_no (show mgE hs ms ia ib = 3 by rw [HEs.out, HMt.out, if_pos (by exact .inl r1)]) (by decide))
    obtain ⟨yK0, yK1, yK2, yKl⟩ := cells3 K10.out
    obtain ⟨f0, f1, f2⟩ := frz3 K10.out
    go_wp2
    obtain ⟨x0, x1, x2, -⟩ := cells3 (blk_set3 K10.out (.slice none 0 0) (.slice none 0 0) (.int .i64 3))
    exact bodyPost_ret (v := .agg #[.slice none 0 0, .slice none 0 0, .int .i64 3]) (by simp [results, Tryz.results44, go_sem, x0, x1, x2]) rfl ⟨_, _, by rw [HE.out.1], by rw [HE.out.2.1, HE.out.2.2]; exact OwnT.nil _ _, below_set3 HB10.out (by omega) _ _ _⟩
  case neg =>
  have s1 : decide (65536 < xsh + ysh) = false := decide_eq_false r1
  by_cases r2 : 65536 < xeh + yeh
  case pos =>
    have s2 : decide (65536 < xeh + yeh) = true := decide_eq_true r2
    have HE := Lib.hid (mg_no (show mgE hs ms ia ib = 3 by rw [HEs.out, HMt.out, if_pos (by exact .inr (.inl r2))]) (by decide))
    obtain ⟨yK0, yK1, yK2, yKl⟩ := cells3 K10.out
    obtain ⟨f0, f1, f2⟩ := frz3 K10.out
    go_wp2
    obtain ⟨x0, x1, x2, -⟩ := cells3 (blk_set3 K10.out (.slice none 0 0) (.slice none 0 0) (.int .i64 3))
    exact bodyPost_ret (v := .agg #[.slice none 0 0, .slice none 0 0, .int .i64 3]) (by simp [results, Tryz.results44, go_sem, x0, x1, x2]) rfl ⟨_, _, by rw [HE.out.1], by rw [HE.out.2.1, HE.out.2.2]; exact OwnT.nil _ _, below_set3 HB10.out (by omega) _ _ _⟩
  case neg =>
  have s2 : decide (65536 < xeh + yeh) = false := decide_eq_false r2
  by_cases r3 : 65536 < xbk + ybk
  case pos =>
    have s3 : decide (65536 < xbk + ybk) = true := decide_eq_true r3
    have HE := Lib.hid (mg_no (show mgE hs ms ia ib = 3 by rw [HEs.out, HMt.out, if_pos (by exact .inr (.inr r3))]) (by decide))
    obtain ⟨yK0, yK1, yK2, yKl⟩ := cells3 K10.out
    obtain ⟨f0, f1, f2⟩ := frz3 K10.out
    go_wp2
    obtain ⟨x0, x1, x2, -⟩ := cells3 (blk_set3 K10.out (.slice none 0 0) (.slice none 0 0) (.int .i64 3))
    exact bodyPost_ret (v := .agg #[.slice none 0 0, .slice none 0 0, .int .i64 3]) (by simp [results, Tryz.results44, go_sem, x0, x1, x2]) rfl ⟨_, _, by rw [HE.out.1], by rw [HE.out.2.1, HE.out.2.2]; exact OwnT.nil _ _, below_set3 HB10.out (by omega) _ _ _⟩
  case neg =>
  have s3 : decide (65536 < xbk + ybk) = false := decide_eq_false r3
  have HE := Lib.hid (show mgE hs ms ia ib = 0 by rw [HEs.out, HMt.out, if_neg (fun q => q.elim r1 (fun q => q.elim r2 r3))])
  have HMh := Lib.hid (show mgH hs ms ia ib = (hs.set i mt).eraseIdx k by unfold mgH; rw [if_pos HE.out, HMg.out])
  have HMm := Lib.hid (show mgM hs ms ia ib = mgMt ms ia ib ms.length by unfold mgM mgMt mgMs; rw [if_pos HE.out, List.take_length])
  go_upto_region 17 with fail
  clear s1 s2 s3 c0 c1 c2 c3 c4 c5 cl HEs HMg HS1 HS2
  have bn := below_new V10 (.cells #[.slice none 0 0, .slice none 0 0] 25)
  have U11 := Lib.hid (Blk.new V10 25 #[.slice none 0 0, .slice none 0 0])
  have hgl := P10.out.lt
  have T11 := Lib.hid (T10.out.below bn)
  have K11 := Lib.hid (K10.out.below bn)
  have P11 := Lib.hid (P10.out.below bn)
  have HB11 := Lib.hid (HB10.out.trans (bn.mono HB10.out.size))
  clear T10 K10 P10 HB10
  generalize hV : V10.alloc (.cells #[.slice none 0 0, .slice none 0 0] 25) = V9 at *
  generalize hg : V10.heap.size = g9 at *
  have HG9 := Lib.hid (And.intro HG.out hgl)
  clear hV hg bn hgl
  obtain ⟨i0, hi0, hi1_, hi2, hi3⟩ := info_parts info_hd
  have HIh := Lib.hid (And.intro hi0 (And.intro hi1_ (And.intro hi2 hi3)))
  clear hi0 hi1_ hi2 hi3
  obtain ⟨ii, hj0, hj1, hj2, hj3⟩ := info_parts info_mv
  have HIm := Lib.hid (And.intro hj0 (And.intro hj1 (And.intro hj2 hj3)))
  clear hj0 hj1 hj2 hj3
  have HLs := Lib.hid (show (hs.set i mt).length = n by rw [List.length_set]; exact HLh.out)
  obtain ⟨hs2, hhs2⟩ : ∃ z, hs.set i mt = z := ⟨_, rfl⟩
  have HAt2 := Lib.hid (fun (jj : Nat) (q : jj < hs2.length) (q2 : jj < hs.length) => (show hs2[jj] = if jj = i then mt else hs[jj] by subst hhs2; rw [List.getElem_set]; by_cases e : jj = i <;> simp [e]; intro e2; exact absurd e2.symm e))
  rw [hhs2] at HLs HMh
  clear hhs2
  go_upto_region 18 with fail
  have HTb := Lib.hid (T11.out)
  have HKb := Lib.hid (K11.out)
  have HPb := Lib.hid (P11.out)
  have HUb := Lib.hid (U11.out)
  have HBb := Lib.hid (HB11.out)
  clear T11 K11 P11 U11 HB11
  have hu9 := HUb.out.lt
  go_loopw [12] (fun iv wx => ∃ (jj q : Nat) (A1 : Option Addr) (c1 : Nat), jj ≤ n ∧ iv = .int .i64 (jj : Int) ∧ ((hs2.take jj).eraseIdx k).length = q ∧ wx.ownsRow (g9 + 1) 118 6 (.slice A1 q c1) q (((hs2.take jj).eraseIdx k).flatMap encH) ∧ g9 + 1 ≤ wx.heap.size ∧ Below w.heap.size w wx ∧ Blk wx w.heap.size 25 #[.slice (some ⟨bH, oH, none⟩) n c, .slice B m d] ∧ Blk wx (w.heap.size + 1) 38 #[.slice none 0 0, .slice none 0 0, .int .i64 0] ∧ Blk wx g4 118 #[.int .i64 xi, .int .i64 (xsl + ysl), .int .i64 (xsh + ysh), .int .i64 (xel + yel), .int .i64 (xeh + yeh), .int .i64 (xbk + ybk)] ∧ Blk wx g9 25 #[.slice A1 q c1, .slice none 0 0]) (fun iv _ => n - (intOf iv).toNat)
  case atStart => exact ⟨0, 0, none, 0, Nat.zero_le _, rfl, by simp, by simpa using World.ownsRow_nil _ _ _ _, hu9, HBb.out, HTb.out, HKb.out, HPb.out, HUb.out⟩
  case round =>
    clear HTb HKb HPb HUb HBb hu9
    obtain ⟨jj, q, A1, c1, hjj, rfl, hq, ow, hgs, hb, ht, hkb, hpb, hub⟩ := hrel
    have HQ := Lib.hid hq
    have OW := Lib.hid ow
    have HBk := Lib.hid hb
    have HTk := Lib.hid ht
    have HKk := Lib.hid hkb
    have HPk := Lib.hid hpb
    have HUk := Lib.hid hub
    have HLT := Lib.hid (fun (r : Nat) hr => own_lt (g := r) ow hr)
    obtain ⟨hg4, hg9⟩ := HG9.out
    have hqn : q ≤ 9 := by
      rw [← hq]
      refine Nat.le_trans (List.length_eraseIdx_le _ _) ?_
      rw [List.length_take]
      omega
    clear hq ow hb ht hkb hpb hub
    have y0 := HTk.out.cell 0
    have y1 := HTk.out.cell 1
    have o0 := HUk.out.cell 0
    have o1 := HUk.out.cell 1
    simp only [List.getElem?_toArray, List.getElem?_cons_zero, List.getElem?_cons_succ] at y0 y1 o0 o1
    have yl := HTk.out.lt
    have ol := HUk.out.lt
    by_cases hjn : jj < n
    case pos =>
      have hj2 : jj < hs2.length := by rw [HLs.out]; exact hjn
      have hj1 : jj < hs.length := by rw [HLh.out]; exact hjn
      have HSt := Lib.hid (erase_step (k := k) hj2)
      have HXj := Lib.hid (HAt2.out jj hj2 hj1)
      by_cases ji : jj = i
      case pos =>
        have e1 : ((jj : Int) == (i : Int)) = true := by simp; omega
        have e2 : (jj == i) = true := by simpa using ji
        have HSx := Lib.hid (show (hs2.take (jj + 1)).eraseIdx k = (hs2.take jj).eraseIdx k ++ [mt] by rw [HSt.out, if_neg (by have := HNe.out; omega), HXj.out, if_pos ji])
        clear ji HSt HXj
        have c0 := HPk.out.cell 0
        have c1_ := HPk.out.cell 1
        have c2 := HPk.out.cell 2
        have c3 := HPk.out.cell 3
        have c4 := HPk.out.cell 4
        have c5 := HPk.out.cell 5
        simp only [List.getElem?_toArray, List.getElem?_cons_zero, List.getElem?_cons_succ] at c0 c1_ c2 c3 c4 c5
        have cl := HPk.out.lt
        have b8 := below_new wr (.cells #[.int .i64 xi, .int .i64 (xsl + ysl), .int .i64 (xsh + ysh), .int .i64 (xel + yel), .int .i64 (xeh + yeh), .int .i64 (xbk + ybk)] 118)
        have OW8 := Lib.hid (owns_below OW.out b8)
        have HL8 := Lib.hid (fun (r : Nat) hr => own_lt (g := r) OW8.out hr)
        have HN8 := Lib.hid (Blk.new wr 118 #[.int .i64 xi, .int .i64 (xsl + ysl), .int .i64 (xsh + ysh), .int .i64 (xel + yel), .int .i64 (xeh + yeh), .int .i64 (xbk + ybk)])
        have of0 := (HUk.out.below b8).frozen 0

        go_wp2_with (at_builtin; go_loud (refine wpList_append_own _ rfl (.tmp 101) (.tmp 103) 22 rfl (g9 + 1) 118 i0 (.agg #[.int .i64 0, .int .i64 0, .int .i64 0, .int .i64 0, .int .i64 0, .int .i64 0]) 6 48 Tryz.underlying22 HIh.out.1 HIh.out.2.1 HIh.out.2.2.1 HIh.out.2.2.2 rfl (by decide) _ q (((hs2.take jj).eraseIdx k).flatMap encH) rfl OW8.out ⟨wr.heap.size, 0, none⟩ 1 1 [.int .i64 (xi), .int .i64 (xsl + ysl), .int .i64 (xsh + ysh), .int .i64 (xel + yel), .int .i64 (xeh + yeh), .int .i64 (xbk + ybk)] rfl rfl (blk_list HN8.out) (one_intsL [xi, xsl + ysl, xsh + ysh, xel + yel, xeh + yeh, xbk + ybk]) (by unfold maxLen; omega) (by omega) (by simp; omega) ?_))
        intro v' w4 ho hgr _
        obtain ⟨g5, cap5, rfl⟩ := ownsRow_succ ho
        have HO := Lib.hid ho
        have HB4 := Lib.hid ((HBk.out.trans (b8.mono HBk.out.size)).grown hgr (HBk.out.trans (b8.mono HBk.out.size)).size (fun r hr => by have := HL8.out _ hr; omega))
        have HT4 := Lib.hid ((HTk.out.below b8).grown hgr (own_ne OW8.out (HTk.out.below b8) (by decide)))
        have HK4 := Lib.hid ((HKk.out.below b8).grown hgr (own_ne OW8.out (HKk.out.below b8) (by decide)))
        have HP4 := Lib.hid ((HPk.out.below b8).grown hgr (fun h => by have := HL8.out _ h; omega))
        have HU4 := Lib.hid ((HUk.out.below b8).grown hgr (own_ne OW8.out (HUk.out.below b8) (by decide)))
        have hs4 : g9 + 1 ≤ w4.heap.size := Nat.le_trans hgs (Nat.le_trans b8.size hgr.size)
        clear ho hgr c0 c1_ c2 c3 c4 c5 cl y0 y1 o0 o1 yl ol of0 b8
        obtain ⟨o0, o1, ol⟩ := cells2 HU4.out
        have of0 := HU4.out.frozen 0
        go_wp2
        go_roundw
        case rel =>
          refine ⟨jj + 1, q + 1, some ⟨g5, 0, none⟩, cap5, by omega, by go_num, by rw [HSx.out, List.length_append, HQ.out]; rfl, ?_, by simpa [World.setCell] using hs4, HB4.out.setCell (p := ⟨g9, 0, none⟩) (by simp; omega) _, HT4.out.far (p := ⟨g9, 0, none⟩) (by simp; omega) _, HK4.out.far (p := ⟨g9, 0, none⟩) (by simp; omega) _, HP4.out.far (p := ⟨g9, 0, none⟩) (by simp; omega) _, by simpa using HU4.out.set_ 0 (.slice (some ⟨g5, 0, none⟩) (q + 1) cap5)⟩
          rw [HSx.out, List.flatMap_append, HMt.out]
          exact owns_grown HO.out (grownBy_set w4 g9 0 _) (fun r hr e => own_ne HO.out HU4.out (by decide) (by rw [hr, ← e]))
        case measure => simp [intOf]; omega
      case neg =>
        have e1 : ((jj : Int) == (i : Int)) = false := by simp; omega
        have e2 : (jj == i) = false := by simpa using ji
        by_cases jk : jj = k
        case pos =>
          have e3 : ((jj : Int) != (k : Int)) = false := by simp; omega
          have e4 : (jj != k) = false := by simpa using jk
          have HSx := Lib.hid (show (hs2.take (jj + 1)).eraseIdx k = (hs2.take jj).eraseIdx k by rw [HSt.out, if_pos jk, List.append_nil])
          clear ji jk
          go_wp2_with fail
          go_roundw
          case rel => exact ⟨jj + 1, q, A1, c1, by omega, by go_num, by rw [HSx.out]; exact HQ.out, by rw [HSx.out]; exact OW.out, hgs, HBk.out, HTk.out, HKk.out, HPk.out, HUk.out⟩
          case measure => simp [intOf]; omega
        case neg =>
          have e3 : ((jj : Int) != (k : Int)) = true := by simp; omega
          have e4 : (jj != k) = true := by simpa using jk
          have HSx := Lib.hid (show (hs2.take (jj + 1)).eraseIdx k = (hs2.take jj).eraseIdx k ++ [hs[jj]] by rw [HSt.out, if_neg jk, HXj.out, if_neg ji])
          have HAt := Lib.hid (List.getElem?_eq_getElem hj1)
          clear ji jk HSt HXj
          generalize hs[jj] = xx at *
          obtain ⟨zi, zsl, zsh, zel, zeh, zbk⟩ := xx
          go_upto_region 23 with fail
          clear y0 y1 o0 o1 yl ol
          refine wp_region_preC 10 [(7, 116), (8, 117)] (fun v' => Below w.heap.size w v' ∧ g9 + 1 ≤ v'.heap.size ∧ Blk v' w.heap.size 25 #[.slice (some ⟨bH, oH, none⟩) n c, .slice B m d] ∧ Blk v' (w.heap.size + 1) 38 #[.slice none 0 0, .slice none 0 0, .int .i64 0] ∧ Blk v' g4 118 #[.int .i64 xi, .int .i64 (xsl + ysl), .int .i64 (xsh + ysh), .int .i64 (xel + yel), .int .i64 (xeh + yeh), .int .i64 (xbk + ybk)] ∧ Blk v' g9 25 #[.slice A1 q c1, .slice none 0 0]) (OneRow 118 6 (g9 + 1) q 7 8 (.slice A1 q c1) (((hs2.take jj).eraseIdx k).flatMap encH) [.int .i64 zi, .int .i64 zsl, .int .i64 zsh, .int .i64 zel, .int .i64 zeh, .int .i64 zbk]) (by kernel_rfl) (by kernel_rfl) ?hw ?hC ?h0 ?hP ?ex
          case hw => exact ⟨HBk.out, hgs, HTk.out, HKk.out, HPk.out, HUk.out⟩
          case hC =>
            rintro v1 v2 ⟨h0, hb0, qt, qr, qp, qo⟩ kk
            exact ⟨h0.trans (kk.mono h0.size), Nat.le_trans hb0 kk.size, qt.below kk, qr.below kk, qp.below kk, qo.below kk⟩
          case h0 =>
            intro v' hv'
            refine OneRow.below (W := wr) ?_ hv'
            exact ⟨by simpa using OW.out, fun h => (by cases h)⟩
          case hP => exact fun ls vs v v' _ h kk => h.below kk
          case ex =>
            apply Exists.intro
            refine ⟨?walk, ?loud⟩
            case walk =>
              rintro V ⟨h0, hb0, qt, qr, qp, qo⟩
              have yc0 := qt.cell 0
              have yc1 := qt.cell 1
              have oc0 := qo.cell 0
              have oc1 := qo.cell 1
              simp only [List.getElem?_toArray, List.getElem?_cons_zero, List.getElem?_cons_succ] at yc0 yc1 oc0 oc1
              have yl := qt.lt
              have ol := qo.lt
              have hl2 := HH.out.below h0
              obtain ⟨u0, u1, u2, u3, u4, u5⟩ := Hds.at_ hl2 HAt.out
              dsimp only at u0 u1 u2 u3 u4 u5
              have ul := hl2.lt
              clear hl2
              obtain ⟨xc, xf'⟩ := xcell (W := V)
              simp only [List.take_succ_cons, List.take_zero, qOf, isLoud, List.any_cons, List.any_nil, Nat.reduceBEq, Bool.or_false, Bool.or_true, Nat.reduceAdd, Bool.false_eq_true, if_true, if_false, beq_self_eq_true, Nat.zero_add]
              repeat (first | go_big_quiet_step (fail) | quiet_step (fail))
              exact wpQuiet_nil rfl
            case loud =>
              simp only [List.drop_succ_cons, List.drop_zero]
              refine ⟨?_, ?_⟩
              · rintro p hp vs V ⟨h0, hb0, qt, qr, qp, qo⟩ ls hI hls hw o ho
                simp only [List.mem_cons, List.not_mem_nil, or_false] at hp
                rcases hp with rfl | rfl
                · simp only [List.getElem?_cons_succ, List.getElem?_cons_zero, Option.some.injEq] at ho
                  subst ho
                  simp [loudAt, loudUpon, go_sem, execOp, putsL, Act.put]
                  exact ⟨⟨h0.alloc h0.size _, by omega, qt.alloc _, qr.alloc _, qp.alloc _, qo.alloc _⟩, hI.lay (by decide)⟩
                · have h9 := hw (7, 116) (by simp) (by kernel_rfl)
                  obtain ⟨g, e, hbk⟩ := hI.new h9 hls
                  have hrow := hI.row
                  have h8 := hls
                  simp only [h8, cond_false, Nat.add_zero, List.append_nil] at hrow
                  simp only [List.getElem?_cons_succ, List.getElem?_cons_zero, Option.some.injEq] at ho
                  subst ho
                  refine loudAt_append (.tmp 110) (.tmp 116) 22 rfl (g9 + 1) 118 i0 (.agg #[.int .i64 0, .int .i64 0, .int .i64 0, .int .i64 0, .int .i64 0, .int .i64 0]) 6 48 Tryz.underlying22 HIh.out.1 HIh.out.2.1 HIh.out.2.2.1 HIh.out.2.2.2 rfl (by decide) (.slice A1 q c1) q (((hs2.take jj).eraseIdx k).flatMap encH) rfl hrow ⟨g, 0, none⟩ 1 1 [.int .i64 zi, .int .i64 zsl, .int .i64 zsh, .int .i64 zel, .int .i64 zeh, .int .i64 zbk] e rfl (blk_list hbk) (one_intsL [zi, zsl, zsh, zel, zeh, zbk]) (by unfold maxLen; omega) (by omega) hb0 ?_
                  intro v' w3 hown' hgrow hat
                  refine ⟨⟨h0.grown hgrow h0.size (fun kk hk => by have := (HLT.out _ hk).1; omega), Nat.le_trans hb0 hgrow.size, qt.grown hgrow (fun h => by have := (HLT.out _ h).1; omega), qr.grown hgrow (fun h => by have := (HLT.out _ h).1; omega), qp.grown hgrow (fun h => by have := (HLT.out _ h).1; omega), qo.grown hgrow (fun h => by have := (HLT.out _ h).1; omega)⟩, hI.app v' hown'⟩
              · rintro ls vs V22 ⟨B22, hbase22, t_22, r_22, p_22, o_22⟩ hI hls
                have h8 := hls (8, 117) (by simp)
                have hrow := hI.row
                simp only [h8, cond_true] at hrow
                have HN := Lib.hid hrow
                clear hrow hI hls h8
                simp only [putsL, List.foldl_cons, List.foldl_nil, Act.put, List.setIfInBounds_toArray, List.set_cons_succ, List.set_cons_zero]
                generalize vs 8 = v8 at *
                generalize vs 7 = v7 at *
                obtain ⟨g', cap', rfl⟩ := ownsRow_succ HN.out
                obtain ⟨oc0, oc1, ol⟩ := cells2 o_22
                have of0 := o_22.frozen 0
                have HB22 := Lib.hid B22
                have HT22 := Lib.hid t_22
                have HR22 := Lib.hid r_22
                have HP22 := Lib.hid p_22
                have HO22 := Lib.hid o_22
                clear B22 t_22 r_22 o_22 p_22
                go_wp2
                go_roundw
                case rel =>
                  refine ⟨jj + 1, q + 1, some ⟨g', 0, none⟩, cap', by omega, by go_num, by rw [HSx.out, List.length_append, HQ.out]; rfl, ?_, by simpa [World.setCell] using hbase22, HB22.out.setCell (p := ⟨g9, 0, none⟩) (by simp; omega) _, HT22.out.far (p := ⟨g9, 0, none⟩) (by simp; omega) _, HR22.out.far (p := ⟨g9, 0, none⟩) (by simp; omega) _, HP22.out.far (p := ⟨g9, 0, none⟩) (by simp; omega) _, by simpa using HO22.out.set_ 0 (.slice (some ⟨g', 0, none⟩) (q + 1) cap')⟩
                  rw [HSx.out, List.flatMap_append]
                  exact owns_grown HN.out (grownBy_set V22 g9 0 _) (fun r hr e => own_ne HN.out HO22.out (by decide) (by rw [hr, ← e]))
                case measure => simp [intOf]; omega
    case neg =>
      have hjn2 : jj = n := by omega
      have HRh := Lib.hid (show (hs2.take jj).eraseIdx k = mgH hs ms ia ib by rw [HMh.out, List.take_of_length_le (by rw [HLs.out]; omega)])
      have HRow := Lib.hid (show wr.ownsRow (g9 + 1) 118 6 (.slice A1 q c1) q ((mgH hs ms ia ib).flatMap encH) by rw [← HRh.out]; exact OW.out)
      have HQh := Lib.hid (show (mgH hs ms ia ib).length = q by rw [← HRh.out]; exact HQ.out)
      clear hjn2
      go_upto_region 25 with fail
      clear y0 y1 o0 o1 yl ol HPk OW HQ HRh HLT
      obtain ⟨wo, hwo⟩ : ∃ wo : World, wo = wr := ⟨_, rfl⟩
      subst hwo
      go_loopw [13, 14] (fun iv _ wx => ∃ (j2 q2 : Nat) (B1 : Option Addr) (d1 : Nat), j2 ≤ m ∧ iv = .int .i64 (j2 : Int) ∧ (mgMt ms ia ib j2).length = q2 ∧ wx.ownsRow (g9 + 1) 59 5 (.slice B1 q2 d1) q2 ((mgMt ms ia ib j2).flatMap encM) ∧ wx.ownsRow (g9 + 1) 118 6 (.slice A1 q c1) q ((mgH hs ms ia ib).flatMap encH) ∧ g9 + 1 ≤ wx.heap.size ∧ Below w.heap.size w wx ∧ Blk wx w.heap.size 25 #[.slice (some ⟨bH, oH, none⟩) n c, .slice B m d] ∧ Blk wx (w.heap.size + 1) 38 #[.slice none 0 0, .slice none 0 0, .int .i64 0] ∧ Blk wx g9 25 #[.slice A1 q c1, .slice B1 q2 d1]) (fun iv _ _ => m - (intOf iv).toNat)
      case atStart => exact ⟨0, 0, none, 0, Nat.zero_le _, rfl, rfl, by simpa [mgMt] using World.ownsRow_nil _ _ _ _, HRow.out, hgs, HBk.out, HTk.out, HKk.out, HUk.out⟩
      case round =>
        clear HBk HTk HKk HUk HRow hgs
        obtain ⟨j2, q2, B1, d1, hj2, rfl, hq, ow, ow1, hgs, hb, ht, hkb, hub⟩ := hrel
        have HQ := Lib.hid hq
        have OW := Lib.hid ow
        have OH := Lib.hid ow1
        have HBk := Lib.hid hb
        have HTk := Lib.hid ht
        have HKk := Lib.hid hkb
        have HUk := Lib.hid hub
        have hq24 : q2 ≤ 24 := by
          rw [← hq]
          unfold mgMt
          refine Nat.le_trans (List.length_filter_le _ _) ?_
          rw [List.length_map, List.length_take]
          omega
        clear hq ow ow1 hb ht hkb hub
        obtain ⟨y0, y1, yl⟩ := cells2 HTk.out
        by_cases hjm : j2 < m
        case neg =>
          obtain rfl : j2 = m := by omega
          have HRm := Lib.hid (show mgMt ms ia ib j2 = mgM hs ms ia ib by rw [HMm.out, HLm.out])
          have o0 := HUk.out.cell 0
          have o1 := HUk.out.cell 1
          have k0 := HKk.out.cell 0
          have k1 := HKk.out.cell 1
          have k2 := HKk.out.cell 2
          simp only [List.getElem?_toArray, List.getElem?_cons_zero, List.getElem?_cons_succ] at o0 o1 k0 k1 k2
          have ol := HUk.out.lt
          have kl := HKk.out.lt
          have f0 := HKk.out.frozen 0
          have f1 := HKk.out.frozen 1
          have f2 := HKk.out.frozen 2
          go_wp2
          have hf := blk_set3 HKk.out (.slice A1 q c1) (.slice B1 q2 d1) (.int .i64 0)
          have x0 := hf.cell 0
          have x1 := hf.cell 1
          have x2 := hf.cell 2
          simp only [List.getElem?_toArray, List.getElem?_cons_zero, List.getElem?_cons_succ] at x0 x1 x2
          have hgz := grown_set3 wr (w.heap.size + 1) (.slice A1 q c1) (.slice B1 q2 d1) (.int .i64 0)
          refine bodyPost_ret (v := .agg #[.slice A1 q c1, .slice B1 q2 d1, .int .i64 0]) (by simp [results, Tryz.results44, go_sem, x0, x1, x2]) rfl ⟨_, _, by rw [HE.out], ⟨?_, ?_⟩, below_set3 HBk.out (by omega) _ _ _⟩
          · rw [HQh.out]
            exact owns_weak (owns_grown OH.out hgz (fun r hr e => own_ne OH.out HKk.out (by decide) (by rw [hr, ← e]))) (by omega)
          · have e := HQ.out
            rw [HRm.out] at e
            rw [e, ← HRm.out]
            exact owns_weak (owns_grown OW.out hgz (fun r hr e => own_ne OW.out HKk.out (by decide) (by rw [hr, ← e]))) (by omega)
        case pos =>
          have hjl : j2 < ms.length := by rw [HLm.out]; exact hjm
          have HSt := Lib.hid (mgMt_step (a := ia) (b := ib) hjl)
          obtain ⟨bM, oM, eM, hM⟩ := HO0.out.m.at_ (by dsimp only; omega)
          dsimp only at eM
          subst eM
          have hl2 := hM.below HBk.out
          have ul := hl2.lt
          obtain ⟨u0, u1, u2, u3, u4⟩ := Mvs.at_ hl2 (List.getElem?_eq_getElem hjl)
          clear hM hl2
          generalize ms[j2] = xm at *
          obtain ⟨mi, mf, mo, ml, mh⟩ := xm
          dsimp only at u0 u1 u2 u3 u4
          go_upto_region 28 with fail
          have b1 := below_new wr (.cells #[.int .i64 mi, .int .i64 mf, .int .i64 mo, .int .i64 ml, .int .i64 mh] 59)
          have HM5 := Lib.hid (Blk.new wr 59 #[.int .i64 mi, .int .i64 mf, .int .i64 mo, .int .i64 ml, .int .i64 mh])
          have OW5 := Lib.hid (owns_below OW.out b1)
          have OH5 := Lib.hid (owns_below OH.out b1)
          have HB5 := Lib.hid (HBk.out.trans (b1.mono HBk.out.size))
          have HT5 := Lib.hid (HTk.out.below b1)
          have HK5 := Lib.hid (HKk.out.below b1)
          have HU5 := Lib.hid (HUk.out.below b1)
          have HS5 := Lib.hid (Nat.le_trans hgs b1.size)
          have HLm5 := Lib.hid (fun (r : Nat) hr => (own_lt (g := r) OW.out hr).2)
          have HLh5 := Lib.hid (fun (r : Nat) hr => (own_lt (g := r) OH.out hr).2)
          clear b1 u0 u1 u2 u3 u4 ul y0 y1 yl OW OH HBk HTk HKk HUk
          generalize hV : wr.alloc (.cells #[.int .i64 mi, .int .i64 mf, .int .i64 mo, .int .i64 ml, .int .i64 mh] 59) = V5 at *
          generalize hg : wr.heap.size = g7 at *
          clear hV hg
          have HG7 := Lib.hid hgs
          obtain ⟨m0, m1, m2, m3, m4, ml5⟩ := cells5 HM5.out
          have mf1 := HM5.out.frozen 1
          have mf2 := HM5.out.frozen 2
          obtain ⟨fr, hfr⟩ : ∃ z, (if mf = ib then ia else mf) = z := ⟨_, rfl⟩
          go_upto_if 134 with fail
          go_cut [14] (fun q wx => q = .pointer (some ⟨g7, 0, none⟩) ∧ V5.grownBy wx (some g7) ∧ Blk wx g7 59 #[.int .i64 mi, .int .i64 fr, .int .i64 mo, .int .i64 ml, .int .i64 mh])
          case first =>
            by_cases h1 : mf = ib
            case pos =>
              rw [if_pos h1] at hfr
              subst hfr
              have x1 : (mf == ib) = true := by simpa using h1
              clear h1
              go_wp2_with fail
              go_meet
              exact ⟨by simp, grownBy_set _ _ _ _, by have := HM5.out.set_ 1 (.int .i64 ia); simpa using this⟩
            case neg =>
              rw [if_neg h1] at hfr
              subst hfr
              have x1 : (mf == ib) = false := by simpa using h1
              clear h1
              go_wp2_with fail
              go_meet
              exact ⟨by simp, grown_refl _ _, by simpa using HM5.out⟩
          case rest =>
            obtain ⟨hq, hgr1, hbk1⟩ := hcut
            subst hq
            have Hfr := Lib.hid hfr
            have HM1 := Lib.hid hbk1
            have HGr1 := Lib.hid hgr1
            clear hfr hbk1 hgr1 m0 m1 m2 m3 m4 ml5 mf1 mf2
            generalize wc = W1 at *
            obtain ⟨m0, m1, m2, m3, m4, ml5⟩ := cells5 HM1.out
            obtain ⟨-, mf1, mf2⟩ := frz3 HM1.out
            obtain ⟨tt, htt⟩ : ∃ z, (if mo = ib then ia else mo) = z := ⟨_, rfl⟩
            go_upto_if 140 with fail
            go_cut [14] (fun q wx => q = .pointer (some ⟨g7, 0, none⟩) ∧ W1.grownBy wx (some g7) ∧ Blk wx g7 59 #[.int .i64 mi, .int .i64 fr, .int .i64 tt, .int .i64 ml, .int .i64 mh])
            case first =>
              by_cases h1 : mo = ib
              case pos =>
                rw [if_pos h1] at htt
                subst htt
                have x1 : (mo == ib) = true := by simpa using h1
                clear h1
                go_wp2_with fail
                go_meet
                exact ⟨by simp, grownBy_set _ _ _ _, by have := HM1.out.set_ 2 (.int .i64 ia); simpa using this⟩
              case neg =>
                rw [if_neg h1] at htt
                subst htt
                have x1 : (mo == ib) = false := by simpa using h1
                clear h1
                go_wp2_with fail
                go_meet
                exact ⟨by simp, grown_refl _ _, by simpa using HM1.out⟩
            case rest =>
              obtain ⟨hq, hgr2, hbk2⟩ := hcut
              subst hq
              have Htt := Lib.hid htt
              have HM2 := Lib.hid hbk2
              have HGr2 := Lib.hid hgr2
              clear htt hbk2 hgr2 m0 m1 m2 m3 m4 ml5 mf1 mf2
              generalize wc = W2 at *
              have hg7 := HG7.out
              have hgr := grown_trans HGr1.out HGr2.out
              have OW6 := Lib.hid (owns_grown OW5.out hgr (fun r hr e => by have := HLm5.out r hr; have e2 := Option.some.inj e; omega))
              have OH6 := Lib.hid (owns_grown OH5.out hgr (fun r hr e => by have := HLh5.out r hr; have e2 := Option.some.inj e; omega))
              have HT6 := Lib.hid (HT5.out.grown hgr (fun e => by have e2 := Option.some.inj e; omega))
              have HK6 := Lib.hid (HK5.out.grown hgr (fun e => by have e2 := Option.some.inj e; omega))
              have HU6 := Lib.hid (HU5.out.grown hgr (fun e => by have e2 := Option.some.inj e; omega))
              have HB6 := Lib.hid (HB5.out.grown hgr HB5.out.size (fun r hr => by have e2 := Option.some.inj hr; omega))
              have HS6 := Lib.hid (Nat.le_trans HS5.out hgr.size)
              have HM6 := HM2
              have HRn := Lib.hid (show renM ia ib ⟨mi, mf, mo, ml, mh⟩ = ⟨mi, fr, tt, ml, mh⟩ by unfold renM; dsimp only; rw [Hfr.out, Htt.out])
              clear hgr OW5 OH5 HT5 HK5 HU5 HB5 HS5 HM5 HM1 HM2 HGr1 HGr2
              generalize W2 = V6 at *
              have m0 := HM6.out.cell 0
              have m1 := HM6.out.cell 1
              have m2 := HM6.out.cell 2
              have m3 := HM6.out.cell 3
              have m4 := HM6.out.cell 4
              have o0 := HU6.out.cell 0
              have o1 := HU6.out.cell 1
              simp only [List.getElem?_toArray, List.getElem?_cons_zero, List.getElem?_cons_succ] at m0 m1 m2 m3 m4 o0 o1
              have mlt := HM6.out.lt
              have ol := HU6.out.lt
              by_cases hft : fr = tt
              case pos =>
                have x3 : (fr != tt) = false := by simpa using hft
                have HSx := Lib.hid (show mgMt ms ia ib (j2 + 1) = mgMt ms ia ib j2 by rw [HSt.out, HRn.out]; dsimp only; rw [if_pos hft, List.append_nil])
                clear hft
                go_wp2_with fail
                go_roundw
                case rel => exact ⟨j2 + 1, q2, B1, d1, by omega, by go_num, by rw [HSx.out]; exact HQ.out, by rw [HSx.out]; exact OW6.out, OH6.out, HS6.out, HB6.out, HT6.out, HK6.out, HU6.out⟩
                case measure => simp [intOf]; omega
              case neg =>
                have x3 : (fr != tt) = true := by simpa using hft
                have HSx := Lib.hid (show mgMt ms ia ib (j2 + 1) = mgMt ms ia ib j2 ++ [⟨mi, fr, tt, ml, mh⟩] by rw [HSt.out, HRn.out]; dsimp only; rw [if_neg hft])
                clear hft
                have b8 := below_new V6 (.cells #[.int .i64 mi, .int .i64 fr, .int .i64 tt, .int .i64 ml, .int .i64 mh] 59)
                have OW8 := Lib.hid (owns_below OW6.out b8)
                have OH8 := Lib.hid (owns_below OH6.out b8)
                have HL8 := Lib.hid (fun (r : Nat) hr => own_lt (g := r) OW8.out hr)
                have HN8 := Lib.hid (Blk.new V6 59 #[.int .i64 mi, .int .i64 fr, .int .i64 tt, .int .i64 ml, .int .i64 mh])
                have hs6 := HS6.out
                go_wp2_with (at_builtin; go_loud (refine wpList_append_own _ rfl (.tmp 149) (.tmp 151) 23 rfl (g9 + 1) 59 ii (.agg #[.int .i64 0, .int .i64 0, .int .i64 0, .int .i64 0, .int .i64 0]) 5 40 Tryz.underlying23 HIm.out.1 HIm.out.2.1 HIm.out.2.2.1 HIm.out.2.2.2 rfl (by decide) _ q2 ((mgMt ms ia ib j2).flatMap encM) rfl OW8.out ⟨V6.heap.size, 0, none⟩ 1 1 [.int .i64 mi, .int .i64 fr, .int .i64 tt, .int .i64 ml, .int .i64 mh] rfl rfl (blk_list HN8.out) (one_intsL [mi, fr, tt, ml, mh]) (by unfold maxLen; omega) (by omega) (by simp; omega) ?_))
                intro v' w9 ho hgr _
                obtain ⟨g5, c5, rfl⟩ := ownsRow_succ ho
                have HO := Lib.hid ho
                have HB9 := Lib.hid ((HB6.out.trans (b8.mono HB6.out.size)).grown hgr (HB6.out.trans (b8.mono HB6.out.size)).size (fun r hr => by have := HL8.out _ hr; omega))
                have HT9 := Lib.hid ((HT6.out.below b8).grown hgr (own_ne OW8.out (HT6.out.below b8) (by decide)))
                have HK9 := Lib.hid ((HK6.out.below b8).grown hgr (own_ne OW8.out (HK6.out.below b8) (by decide)))
                have HU9 := Lib.hid ((HU6.out.below b8).grown hgr (own_ne OW8.out (HU6.out.below b8) (by decide)))
                have OH9 := Lib.hid (owns_grown OH8.out hgr (fun r hr e => own_ne2 OH8.out OW8.out (by decide) e hr))
                have hs9 : g9 + 1 ≤ w9.heap.size := Nat.le_trans hs6 (Nat.le_trans b8.size hgr.size)
                clear ho hgr m0 m1 m2 m3 m4 mlt o0 o1 ol b8 hs6
                obtain ⟨o0, o1, ol⟩ := cells2 HU9.out
                have of1 := HU9.out.frozen 1
                go_wp2
                go_roundw
                case rel =>
                  refine ⟨j2 + 1, q2 + 1, some ⟨g5, 0, none⟩, c5, by omega, by go_num, by rw [HSx.out, List.length_append, HQ.out]; rfl, ?_, ?_, by simpa [World.setCell] using hs9, HB9.out.setCell (p := ⟨g9, 1, none⟩) (by simp; omega) _, HT9.out.far (p := ⟨g9, 1, none⟩) (by simp; omega) _, HK9.out.far (p := ⟨g9, 1, none⟩) (by simp; omega) _, by simpa using HU9.out.set_ 1 (.slice (some ⟨g5, 0, none⟩) (q2 + 1) c5)⟩
                  · rw [HSx.out, List.flatMap_append]
                    exact owns_grown HO.out (grownBy_set w9 g9 1 _) (fun r hr e => own_ne HO.out HU9.out (by decide) (by rw [hr, ← e]))
                  · exact owns_grown OH9.out (grownBy_set w9 g9 1 _) (fun r hr e => own_ne OH9.out HU9.out (by decide) (by rw [hr, ← e]))
                case measure => simp [intOf]; omega
end Go.Proofs.YtighfmgkoepfkaaGreat
