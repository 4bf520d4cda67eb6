/- Lacking of the specification. -/
import Derived.Test.YtighfmgkoepfkaaGreatMH
import Derived.Test.YtighfmgkoepfkaaGreatMZ
import Derived.Test.YtighfmgkoepfkaaGreatML2
import Derived.Test.YtighfmgkoepfkaaGreatMQ2
import Derived.Test.YtighfmgkoepfkaaGreatMY
namespace Go.Proofs.YtighfmgkoepfkaaGreat
open Go.RowKit

set_option maxRecDepth 100000 in
set_option maxHeartbeats 1600000 in
theorem SameGaps_same (A : Option Addr) (n c : Nat) (B : Option Addr) (m d : Nat) (a : List Gp) (w : World) (ha : SAt encGp 3 w A n a) (hb : SAt encGp 3 w B m a) (hn : n ≤ 1000000) :
    Calls Tryz.prog 29 #[.slice A n c, .slice B m d] w fun e w' => e = .returned (.bool true) ∧ Below w.heap.size w w' := by
  obtain rfl : n = m := ha.len.symm.trans hb.len
  have HA := Lib.hid ha
  have HB := Lib.hid hb
  have HLa := Lib.hid ha.len
  clear ha hb
  go_enter Tryz.func29, Tryz.ntmps29
  go_wp2
  go_loopw [5] (fun i wx => ∃ k : Nat, k ≤ n ∧ i = .int .i64 (k : Int) ∧ Below w.heap.size w wx) (fun i _ => n - (intOf i).toNat)
  case atStart => exact ⟨0, Nat.zero_le _, rfl, Below.refl _ _⟩
  case round =>
    obtain ⟨k, hk, rfl, hb⟩ := hrel
    have HBw := Lib.hid hb
    clear hb
    by_cases hkn : k < n
    case neg =>
      go_wp2
      exact bodyPost_ret (v := .bool true) (by simp [results, Tryz.results29, go_sem]) rfl ⟨rfl, HBw.out⟩
    case pos =>
      have hka : k < a.length := by rw [HLa.out]; exact hkn
      obtain ⟨ba, oa, rfl, hla⟩ := HA.out.at_ (by omega)
      obtain ⟨bb, ob, rfl, hlb⟩ := HB.out.at_ (by omega)
      have hla2 := hla.below HBw.out
      have hlb2 := hlb.below HBw.out
      obtain ⟨x, hx⟩ : ∃ x, a[k] = x := ⟨_, rfl⟩
      obtain ⟨x1, x2, x3⟩ := x
      have u0 := hla2.c k ⟨x1, x2, x3⟩ (by rw [List.getElem?_eq_getElem hka, hx]) 0 _ rfl
      have u1 := hla2.c k ⟨x1, x2, x3⟩ (by rw [List.getElem?_eq_getElem hka, hx]) 1 _ rfl
      have u2 := hla2.c k ⟨x1, x2, x3⟩ (by rw [List.getElem?_eq_getElem hka, hx]) 2 _ rfl
      have v0 := hlb2.c k ⟨x1, x2, x3⟩ (by rw [List.getElem?_eq_getElem hka, hx]) 0 _ rfl
      have v1 := hlb2.c k ⟨x1, x2, x3⟩ (by rw [List.getElem?_eq_getElem hka, hx]) 1 _ rfl
      have v2 := hlb2.c k ⟨x1, x2, x3⟩ (by rw [List.getElem?_eq_getElem hka, hx]) 2 _ rfl
      rw [Nat.add_zero] at u0 v0
      have ul := hla2.lt
      have vl := hlb2.lt
      clear hla hlb hla2 hlb2 hx
      go_upto_region 6 with fail
      obtain ⟨xc, xf'⟩ := xcell (W := wr)
      refine wp_region_quiet_tail 8 (by kernel_rfl) (by kernel_rfl) ?_
      simp only [List.take_succ_cons, List.take_zero, List.drop_succ_cons, List.drop_zero]
      repeat (first | go_big_quiet_step (fail) | quiet_step (fail))
      refine wpQuiet_nil ?_
      intro w2 hb2
      have HB2 := Lib.hid (HBw.out.trans (hb2.mono HBw.out.size))
      clear xc xf' hb2 u0 u1 u2 v0 v1 v2 ul vl
      go_wp2
      go_roundw
      case rel => exact ⟨k + 1, by omega, by go_num, HB2.out⟩
      case measure => simp [intOf]; omega
end Go.Proofs.YtighfmgkoepfkaaGreat

namespace Go.Proofs.YtighfmgkoepfkaaGreat
open Go.RowKit

theorem place_hd3 {hs : List Hd} {ms : List Mv} (hv : TV hs ms) {k : Nat} (hk : k < hs.length) : placeE hs ms 3 (hs[k]).id = 0 ∧ placeN hs ms 3 (hs[k]).id = hs.length + k := by
  have := nodup_ids.1 hv.ids k hk
  unfold placeE placeN
  simp [this, hk]
theorem nwH_at {hs : List Hd} {ms : List Mv} (hn : nwE hs ms = 0) : nwH hs ms = (List.range hs.length).map (nH hs ms) := by unfold nwH; rw [if_pos hn, narH_eq]
theorem gaps_take {hs : List Hd} {ms : List Mv} (hn : nwE hs ms = 0) {k : Nat} (hk : k < hs.length) : (gapsL hs ms).take (k + 1) = (gapsL hs ms).take k ++ [⟨(hs[k]).id, (hs[k]).bk - narHi hs ms (hs.length + k), (hs[k]).bk - narLo hs ms (hs.length + k)⟩] := by
  have hk2 : k < (gapsL hs ms).length := by unfold gapsL; rw [List.length_map, nwH_at hn]; simpa using hk
  rw [List.take_succ_eq_append_getElem hk2]
  congr 2
  simp [gapsL, nwH_at hn, nH, hat_eq hk]
theorem gaps_bd {hs : List Hd} {ms : List Mv} (hn : nwE hs ms = 0) {k : Nat} (hk : k < hs.length) : 0 ≤ (hs[k]).bk ∧ (hs[k]).bk ≤ 65536 ∧ 0 ≤ narLo hs ms (hs.length + k) ∧ narLo hs ms (hs.length + k) ≤ 65536 ∧ 0 ≤ narHi hs ms (hs.length + k) ∧ narHi hs ms (hs.length + k) ≤ 65536 := by
  have h := nwH_bd (hs := hs) (ms := ms) (x := nH hs ms k) (by rw [nwH_at hn]; exact List.mem_map.2 ⟨k, List.mem_range.2 hk, rfl⟩)
  simpa [nH, hat_eq hk] using h
theorem gaps_len {hs : List Hd} {ms : List Mv} (hn : nwE hs ms = 0) : (gapsL hs ms).length = hs.length := by unfold gapsL; rw [List.length_map, nwH_at hn]; simp
def GqOut (w : World) (hs : List Hd) (ms : List Mv) (en : Ending) (w' : World) : Prop :=
  Below w.heap.size w w' ∧ ∃ v, en = .returned (.agg #[v, .int .i64 (nwE hs ms)]) ∧ w'.ownsRow w.heap.size 116 3 v (gapsL hs ms).length ((gapsL hs ms).flatMap encGp)
set_option maxRecDepth 100000 in
set_option maxHeartbeats 12800000 in
theorem RGaps_any (t : TR) (w : World) (h : t.Ok w) : Calls Tryz.prog 26 #[t.v] w (GqOut w t.hs t.ms) := by
  obtain ⟨A, n, c, B, m, d, hs, ms⟩ := t
  have HCk := Lib.hid (fun (u : World) (hu : TR.Ok u ⟨A, n, c, B, m, d, hs, ms⟩) => RCheck_any ⟨A, n, c, B, m, d, hs, ms⟩ u hu)
  have HRa := Lib.hid (fun (u : World) (hu : TR.Ok u ⟨A, n, c, B, m, d, hs, ms⟩) (hv : TV hs ms) => RAgrees_any ⟨A, n, c, B, m, d, hs, ms⟩ u hu hv)
  have HNr := Lib.hid (fun (u : World) (hu : TR.Ok u ⟨A, n, c, B, m, d, hs, ms⟩) (hv : TV hs ms) (id : Int) (hp : placeE hs ms 3 id = 0) (ha : agrL hs ms = true) => narrow_any ⟨A, n, c, B, m, d, hs, ms⟩ 3 id u hu hv hp ha)
  have HO0 := Lib.hid h
  have HLh := Lib.hid (show hs.length = n from h.h.len)
  dsimp only [TR.v, vAt, vSp] at *
  obtain ⟨ii, hi0, hi1, hi2, hi3⟩ := info_parts info_gap
  have HII := Lib.hid (And.intro hi0 (And.intro hi1 (And.intro hi2 hi3)))
  clear hi0 hi1 hi2 hi3
  have HEc := Lib.hid (fun q : tcheck hs ms ≠ 0 => (show nwE hs ms = tcheck hs ms ∧ gapsL hs ms = [] by
    have e : nwE hs ms = tcheck hs ms := by unfold nwE; rw [if_pos q]
    exact ⟨e, by unfold gapsL nwH; rw [if_neg (by rw [e]; exact q)]; rfl⟩))
  have HEa := Lib.hid (fun (q : tcheck hs ms = 0) (a : agrL hs ms = false) => (show nwE hs ms = 9 ∧ gapsL hs ms = [] by
    have e : nwE hs ms = 9 := by unfold nwE; rw [if_neg (by simpa using q), if_pos a]
    exact ⟨e, by unfold gapsL nwH; rw [if_neg (by rw [e]; decide)]; rfl⟩))
  have HEz := Lib.hid (fun (q : tcheck hs ms = 0) (a : agrL hs ms = true) => (show nwE hs ms = 0 by unfold nwE; rw [if_neg (by simpa using q), if_neg (by rw [a]; decide)]))
  have HTv := Lib.hid (show tcheck hs ms = 0 → TV hs ms from tcheck_zero.1)
  obtain ⟨tc, htc⟩ : ∃ x, tcheck hs ms = x := ⟨_, rfl⟩
  rw [htc] at HEc HEa HEz HTv HCk
  clear htc
  have HB0 : Hid (Below w.heap.size w ((w.alloc (.cells #[.slice A n c, .slice B m d] 25)).alloc (.cells #[.slice none 0 0, .int .i64 0] 53))) := Lib.hid (((Below.refl w.heap.size w).alloc (Nat.le_refl _) _).alloc (by simp) _)
  have T0 : Hid (Blk ((w.alloc (.cells #[.slice A n c, .slice B m d] 25)).alloc (.cells #[.slice none 0 0, .int .i64 0] 53)) w.heap.size 25 #[.slice A n c, .slice B m d]) := Lib.hid ((Blk.at_new 25 #[.slice A n c, .slice B m d] rfl).alloc _)
  have K0 : Hid (Blk ((w.alloc (.cells #[.slice A n c, .slice B m d] 25)).alloc (.cells #[.slice none 0 0, .int .i64 0] 53)) (w.heap.size + 1) 53 #[.slice none 0 0, .int .i64 0]) := Lib.hid (Blk.at_new 53 #[.slice none 0 0, .int .i64 0] (by simp))
  have O0 := Lib.hid ((h).below HB0.out)
  go_enter Tryz.func26, Tryz.ntmps26
  go_upto_region 1 with fail
  generalize hV : (w.alloc (.cells #[.slice A n c, .slice B m d] 25)).alloc (.cells #[.slice none 0 0, .int .i64 0] 53) = V0 at *
  clear hV
  clear h
  have yT0 := T0.out.cell 0
  have yT1 := T0.out.cell 1
  have yK0 := K0.out.cell 0
  have yK1 := K0.out.cell 1
  simp only [List.getElem?_toArray, List.getElem?_cons_zero, List.getElem?_cons_succ] at yT0 yT1 yK0 yK1
  have yTl := T0.out.lt
  have yKl := K0.out.lt
  have HC := Lib.hid (HCk.out _ O0.out)
  try dsimp only [TR.v, vCt] at HC
  go_upto_region 2 with (go_at_call 61; with_reducible refine HC.out.mono ?_; rintro e u1 ⟨rfl, hb⟩)
  clear yT0 yT1 yK0 yK1 yTl yKl
  clear HC
  have bn := hb
  have T1 := Lib.hid (T0.out.below bn)
  have K1 := Lib.hid (K0.out.below bn)
  have O1 := Lib.hid (O0.out.below bn)
  have HB1 := Lib.hid (HB0.out.trans (bn.mono HB0.out.size))
  clear hb bn T0 K0 O0 HB0
  by_cases hc : tc = 0
  case neg =>
    have hz : (tc != 0) = true := by simpa using hc
    have HE := Lib.hid (HEc.out hc)
    clear hc
    have yT0 := T1.out.cell 0
    have yT1 := T1.out.cell 1
    have yK0 := K1.out.cell 0
    have yK1 := K1.out.cell 1
    simp only [List.getElem?_toArray, List.getElem?_cons_zero, List.getElem?_cons_succ] at yT0 yT1 yK0 yK1
    have yTl := T1.out.lt
    have yKl := K1.out.lt
    have f0 := K1.out.frozen 0
    have f1 := K1.out.frozen 1
    go_wp2
    have hf := blk_set2 K1.out (.slice none 0 0) (.int .i64 tc)
    have x0 := hf.cell 0
    have x1 := hf.cell 1
    simp only [List.getElem?_toArray, List.getElem?_cons_zero, List.getElem?_cons_succ] at x0 x1
    refine bodyPost_ret (v := .agg #[.slice none 0 0, .int .i64 tc]) (by simp [results, Tryz.results26, go_sem, x0, x1]) rfl ⟨below_set2 HB1.out (by omega) _ _, _, by rw [HE.out.1], ?_⟩
    rw [HE.out.2]
    exact World.ownsRow_nil _ _ _ _
  case pos =>
  subst hc
  have hz : ((0 : Int) != 0) = false := by decide
  have hv := HTv.out rfl
  have HTV := Lib.hid hv
  have hm24 : n ≤ 9 := by rw [← HLh.out]; exact hv.lenH
  clear hv HTv HEc HCk
  have HRb := Lib.hid (fun (u : World) (hu : TR.Ok u ⟨A, n, c, B, m, d, hs, ms⟩) => HRa.out u hu HTV.out)
  have HEb := Lib.hid (HEa.out rfl)
  have HEy := Lib.hid (HEz.out rfl)
  obtain ⟨ab, hab⟩ : ∃ x, agrL hs ms = x := ⟨_, rfl⟩
  rw [hab] at HRb HEb HEy
  have HAb := Lib.hid hab
  clear hab HRa HEa HEz
  have yT0 := T1.out.cell 0
  have yT1 := T1.out.cell 1
  have yK0 := K1.out.cell 0
  have yK1 := K1.out.cell 1
  simp only [List.getElem?_toArray, List.getElem?_cons_zero, List.getElem?_cons_succ] at yT0 yT1 yK0 yK1
  have yTl := T1.out.lt
  have yKl := K1.out.lt
  have HC := Lib.hid (HRb.out _ O1.out)
  try dsimp only [TR.v, vCt] at HC
  go_upto_region 5 with (go_at_call 40; with_reducible refine HC.out.mono ?_; rintro e u2 ⟨rfl, hb⟩)
  clear yT0 yT1 yK0 yK1 yTl yKl
  clear HC
  have bn := hb
  have T2 := Lib.hid (T1.out.below bn)
  have K2 := Lib.hid (K1.out.below bn)
  have O2 := Lib.hid (O1.out.below bn)
  have HB2 := Lib.hid (HB1.out.trans (bn.mono HB1.out.size))
  clear hb bn T1 K1 O1 HB1
  cases ab with
  | false =>
    have HE := Lib.hid (HEb.out rfl)
    have yT0 := T2.out.cell 0
    have yT1 := T2.out.cell 1
    have yK0 := K2.out.cell 0
    have yK1 := K2.out.cell 1
    simp only [List.getElem?_toArray, List.getElem?_cons_zero, List.getElem?_cons_succ] at yT0 yT1 yK0 yK1
    have yTl := T2.out.lt
    have yKl := K2.out.lt
    have f0 := K2.out.frozen 0
    have f1 := K2.out.frozen 1
    go_wp2
    have hf := blk_set2 K2.out (.slice none 0 0) (.int .i64 9)
    have x0 := hf.cell 0
    have x1 := hf.cell 1
    simp only [List.getElem?_toArray, List.getElem?_cons_zero, List.getElem?_cons_succ] at x0 x1
    refine bodyPost_ret (v := .agg #[.slice none 0 0, .int .i64 9]) (by simp [results, Tryz.results26, go_sem, x0, x1]) rfl ⟨below_set2 HB2.out (by omega) _ _, _, by rw [HE.out.1], ?_⟩
    rw [HE.out.2]
    exact World.ownsRow_nil _ _ _ _
  | true =>
  have HZ := Lib.hid (HEy.out rfl)
  have HSt := Lib.hid (fun (k : Nat) (hk : k < hs.length) => And.intro (gaps_take HZ.out hk) (gaps_bd HZ.out hk))
  have HSl := Lib.hid (show (gapsL hs ms).length = n by rw [gaps_len HZ.out, HLh.out])
  have HNn := Lib.hid (fun (k : Nat) (hk : k < hs.length) (v : World) (hb : Below w.heap.size w v) => by
    have q := place_hd3 HTV.out hk
    have r := HNr.out v (HO0.out.below hb) HTV.out (hs[k]).id q.1 HAb.out
    rw [q.2] at r
    exact r)
  clear HRb HEb HEy HNr
  go_upto_region 9 with fail
  clear hz
  have hu0 : w.heap.size + 2 ≤ u2.heap.size := K2.out.lt
  have HU0 := Lib.hid hu0
  have HTb := Lib.hid (T2.out)
  have HKb := Lib.hid (K2.out)
  have HBb := Lib.hid (HB2.out)
  generalize u2 = U at *
  clear hu0 T2 K2 O2 HB2
  go_loopw [5, 6] (fun v i wx => ∃ (k : Nat) (A' : Option Addr) (a' : Nat), k ≤ n ∧ v = .slice A' k a' ∧ i = .int .i64 (k : Int) ∧ wx.ownsRow (w.heap.size + 2) 116 3 (.slice A' k a') k (((gapsL hs ms).take k).flatMap encGp) ∧ Below w.heap.size w wx ∧ w.heap.size + 2 ≤ wx.heap.size ∧ Blk wx w.heap.size 25 #[.slice A n c, .slice B m d] ∧ Blk wx (w.heap.size + 1) 53 #[.slice none 0 0, .int .i64 0]) (fun _ i _ => n - (intOf i).toNat)
  case atStart => exact ⟨0, none, 0, Nat.zero_le _, rfl, rfl, by simpa using World.ownsRow_nil _ _ _ _, HBb.out, HU0.out, HTb.out, HKb.out⟩
  case round =>
    obtain ⟨k, A', a', hk, rfl, rfl, ow, hb, hs2, ht, hkb⟩ := hrel
    have OW := Lib.hid ow
    have HLT := Lib.hid (fun (r : Nat) hr => own_lt (g := r) ow hr)
    have HBk := Lib.hid hb
    have HS2 := Lib.hid hs2
    have HTk := Lib.hid ht
    have HKk := Lib.hid hkb
    clear ow hb hs2 ht hkb
    have y0 := HTk.out.cell 0
    have y1 := HTk.out.cell 1
    simp only [List.getElem?_toArray, List.getElem?_cons_zero, List.getElem?_cons_succ] at y0 y1
    have yl := HTk.out.lt
    by_cases hkn : k < n
    case neg =>
      have HK := Lib.hid (show k = (gapsL hs ms).length by have := HSl.out; omega)
      have k0 := HKk.out.cell 0
      have k1 := HKk.out.cell 1
      simp only [List.getElem?_toArray, List.getElem?_cons_zero, List.getElem?_cons_succ] at k0 k1
      have kl := HKk.out.lt
      have f0 := HKk.out.frozen 0
      have f1 := HKk.out.frozen 1
      go_wp2
      have hf := blk_set2 HKk.out (.slice A' k a') (.int .i64 0)
      have x0 := hf.cell 0
      have x1 := hf.cell 1
      simp only [List.getElem?_toArray, List.getElem?_cons_zero, List.getElem?_cons_succ] at x0 x1
      refine bodyPost_ret (v := .agg #[.slice A' k a', .int .i64 0]) (by simp [results, Tryz.results26, go_sem, x0, x1]) rfl ⟨below_set2 HBk.out (by omega) _ _, _, by rw [HZ.out], ?_⟩
      have := owns_grown OW.out (grown_set2 wr (w.heap.size + 1) (.slice A' k a') (.int .i64 0)) (fun r hr e => by have := (own_lt OW.out hr).1; have e2 := Option.some.inj e; omega)
      rw [HK.out, List.take_length] at this
      rw [HK.out]
      exact owns_weak this (by omega)
    case pos =>
      have hkl : k < hs.length := by have := HLh.out; omega
      have HNk := Lib.hid (HNn.out k hkl)
      obtain ⟨lo, hlo⟩ : ∃ x, narLo hs ms (hs.length + k) = x := ⟨_, rfl⟩
      obtain ⟨hi, hhi⟩ : ∃ x, narHi hs ms (hs.length + k) = x := ⟨_, rfl⟩
      obtain ⟨hst, b1, b2, b3, b4, b5, b6⟩ := HSt.out k hkl
      obtain ⟨bM, oM, eM, hM⟩ := HO0.out.h.at_ (by dsimp only; omega)
      dsimp only at eM
      subst eM
      have hl2 := hM.below HBk.out
      obtain ⟨u0, u1, u2, u3, u4, u5⟩ := Hds.at_ hl2 (List.getElem?_eq_getElem hkl)
      have ul := hl2.lt
      rw [hlo] at hst HNk b3 b4
      rw [hhi] at hst HNk b5 b6
      obtain ⟨x, hx⟩ : ∃ x, hs[k]'hkl = x := ⟨_, rfl⟩
      rw [hx] at hst HNk b1 b2 u0 u1 u2 u3 u4 u5
      obtain ⟨xi, xsl, xsh, xel, xeh, xbk⟩ := x
      dsimp only at hst HNk b1 b2 u0 u1 u2 u3 u4 u5
      have HSk := Lib.hid hst
      clear hst hM hl2 hx hlo hhi
      go_upto_region 12 with fail
      have bn := below_new wr (.cells #[.int .i64 xi, .int .i64 xsl, .int .i64 xsh, .int .i64 xel, .int .i64 xeh, .int .i64 xbk] 118)
      have HH6 := Lib.hid (Blk.new wr 118 #[.int .i64 xi, .int .i64 xsl, .int .i64 xsh, .int .i64 xel, .int .i64 xeh, .int .i64 xbk])
      have OW6 := Lib.hid (owns_below OW.out bn)
      have HB6 := Lib.hid (HBk.out.trans (bn.mono HBk.out.size))
      have HS6 := Lib.hid (Nat.le_trans HS2.out bn.size)
      have HT6 := Lib.hid (HTk.out.below bn)
      have HK6 := Lib.hid (HKk.out.below bn)
      clear bn u0 u1 u2 u3 u4 u5 ul y0 y1 yl
      generalize hV6 : wr.alloc (.cells #[.int .i64 xi, .int .i64 xsl, .int .i64 xsh, .int .i64 xel, .int .i64 xeh, .int .i64 xbk] 118) = V6 at *
      generalize wr.heap.size = g6 at *
      clear hV6
      have y0 := HT6.out.cell 0
      have y1 := HT6.out.cell 1
      have h0 := HH6.out.cell 0
      simp only [List.getElem?_toArray, List.getElem?_cons_zero, List.getElem?_cons_succ] at y0 y1 h0
      have yl := HT6.out.lt
      have hl := HH6.out.lt
      have HN6 := Lib.hid (HNk.out V6 HB6.out)
      go_upto_region 13 with (go_at_call 62; with_reducible refine HN6.out.mono ?_; rintro e u7 ⟨rfl, hb7⟩)
      have bq := below_new u7 (.cells #[.int .i64 lo, .int .i64 hi] 57)
      have bn := hb7.trans (bq.mono hb7.size)
      have HH7 := Lib.hid (HH6.out.below bn)
      have HG7 := Lib.hid (Blk.new u7 57 #[.int .i64 lo, .int .i64 hi])
      have OW7 := Lib.hid (owns_below OW6.out bn)
      have HB7 := Lib.hid (HB6.out.trans (bn.mono HB6.out.size))
      have HS7 := Lib.hid (Nat.le_trans HS6.out bn.size)
      have HT7 := Lib.hid (HT6.out.below bn)
      have HK7 := Lib.hid (HK6.out.below bn)
      clear bn bq hb7 y0 y1 h0 yl hl
      generalize hV7 : u7.alloc (.cells #[.int .i64 lo, .int .i64 hi] 57) = V7 at *
      generalize u7.heap.size = g7 at *
      clear hV7
      have h0 := HH7.out.cell 0
      have h5 := HH7.out.cell 5
      have s0 := HG7.out.cell 0
      have s1 := HG7.out.cell 1
      simp only [List.getElem?_toArray, List.getElem?_cons_zero, List.getElem?_cons_succ] at h0 h5 s0 s1
      have hl := HH7.out.lt
      have sl := HG7.out.lt
      have b8 := below_new V7 (.cells #[.int .i64 xi, .int .i64 (xbk - hi), .int .i64 (xbk - lo)] 116)
      have HB8 := Lib.hid (HB7.out.trans (b8.mono HB7.out.size))
      have HS8 := Lib.hid (Nat.le_trans HS7.out b8.size)
      have HT8 := Lib.hid (HT7.out.below b8)
      have HK8 := Lib.hid (HK7.out.below b8)
      have OW8 := Lib.hid (owns_below OW7.out b8)
      have HL8 := Lib.hid (fun (r : Nat) hr => own_lt (g := r) OW8.out hr)
      have hs7 := HS7.out
      clear b8
      go_wp2_with (at_builtin; go_loud (refine wpList_append_own _ rfl (.tmp 37) (.tmp 52) 49 rfl (w.heap.size + 2) 116 ii (.agg #[.int .i64 0, .int .i64 0, .int .i64 0]) 3 24 Tryz.underlying49 HII.out.1 HII.out.2.1 HII.out.2.2.1 HII.out.2.2.2 rfl (by decide) _ k (((gapsL hs ms).take k).flatMap encGp) rfl OW8.out ⟨V7.heap.size, 0, none⟩ 1 1 [.int .i64 xi, .int .i64 (xbk - hi), .int .i64 (xbk - lo)] rfl rfl ?c1 (one_intsL [xi, xbk - hi, xbk - lo]) (by unfold maxLen; omega) (by omega) (by simp; omega) ?_))
      case c1 =>
        intro j u hj
        have := (Blk.new V7 116 #[.int .i64 xi, .int .i64 (xbk - hi), .int .i64 (xbk - lo)]).cell j
        have hadd : (⟨V7.heap.size, 0, none⟩ : Addr).add j = ⟨V7.heap.size, j, none⟩ := by unfold Addr.add; split <;> simp_all
        rw [hadd, this]
        simpa using hj
      intro v' w9 ho hgr _
      obtain ⟨g5, c5, rfl⟩ := ownsRow_succ ho
      have HO := Lib.hid ho
      have HB9 := Lib.hid (HB8.out.grown hgr HB8.out.size (fun r hr => by have := HL8.out _ hr; omega))
      have HS9 := Lib.hid (Nat.le_trans HS8.out hgr.size)
      have HT9 := Lib.hid (HT8.out.grown hgr (fun h => by have := HL8.out _ h; omega))
      have HK9 := Lib.hid (HK8.out.grown hgr (fun h => by have := HL8.out _ h; omega))
      clear ho hgr h0 h5 s0 s1 hl sl
      go_wp2
      go_roundw
      case rel => exact ⟨k + 1, some ⟨g5, 0, none⟩, c5, by omega, rfl, by go_num, by rw [HSk.out, List.flatMap_append]; exact HO.out, HB9.out, HS9.out, HT9.out, HK9.out⟩
      case measure => simp [intOf]; omega
end Go.Proofs.YtighfmgkoepfkaaGreat

namespace Go.Proofs.YtighfmgkoepfkaaGreat
open Go.RowKit

def RLkOut (w : World) (hs : List Hd) (ms : List Mv) (en : Ending) (w' : World) : Prop :=
  Below w.heap.size w w' ∧ ∃ v, en = .returned (.agg #[v, .int .i64 (nwE hs ms)]) ∧ w'.ownsRow w.heap.size 3 1 v (lackL hs ms).length ((lackL hs ms).flatMap encI)
set_option maxRecDepth 100000 in
set_option maxHeartbeats 12800000 in
theorem RLacking_any (t : TR) (w : World) (h : t.Ok w) : Calls Tryz.prog 28 #[t.v] w (RLkOut w t.hs t.ms) := by
  obtain ⟨A, n, c, B, m, d, hs, ms⟩ := t
  have HGa := Lib.hid (fun (u : World) (hu : TR.Ok u ⟨A, n, c, B, m, d, hs, ms⟩) => RGaps_any ⟨A, n, c, B, m, d, hs, ms⟩ u hu)
  dsimp only [TR.v] at *
  have HB0 : Hid (Below w.heap.size w ((w.alloc (.cells #[.slice A n c, .slice B m d] 25)).alloc (.cells #[.slice none 0 0, .int .i64 0] 46))) := Lib.hid (((Below.refl w.heap.size w).alloc (Nat.le_refl _) _).alloc (by simp) _)
  have T0 : Hid (Blk ((w.alloc (.cells #[.slice A n c, .slice B m d] 25)).alloc (.cells #[.slice none 0 0, .int .i64 0] 46)) w.heap.size 25 #[.slice A n c, .slice B m d]) := Lib.hid ((Blk.at_new 25 #[.slice A n c, .slice B m d] rfl).alloc _)
  have K0 : Hid (Blk ((w.alloc (.cells #[.slice A n c, .slice B m d] 25)).alloc (.cells #[.slice none 0 0, .int .i64 0] 46)) (w.heap.size + 1) 46 #[.slice none 0 0, .int .i64 0]) := Lib.hid (Blk.at_new 46 #[.slice none 0 0, .int .i64 0] (by simp))
  have O0 := Lib.hid ((h).below HB0.out)
  go_enter Tryz.func28, Tryz.ntmps28
  go_upto_region 1 with fail
  generalize hV : (w.alloc (.cells #[.slice A n c, .slice B m d] 25)).alloc (.cells #[.slice none 0 0, .int .i64 0] 46) = V0 at *
  clear hV
  clear h
  obtain ⟨ne, hne⟩ : ∃ x, nwE hs ms = x := ⟨_, rfl⟩
  have HNe := Lib.hid hne
  have yT0 := T0.out.cell 0
  have yT1 := T0.out.cell 1
  have yK0 := K0.out.cell 0
  have yK1 := K0.out.cell 1
  simp only [List.getElem?_toArray, List.getElem?_cons_zero, List.getElem?_cons_succ] at yT0 yT1 yK0 yK1
  have yTl := T0.out.lt
  have yKl := K0.out.lt
  have HC := Lib.hid (HGa.out _ O0.out)
  try dsimp only [TR.v] at HC
  unfold GqOut at HC
  try dsimp only at HC
  rw [hne] at HC
  clear hne
  go_upto_region 2 with (go_at_call 26; with_reducible refine HC.out.mono ?_; rintro e u1 ⟨hb, vg, rfl, hog⟩; obtain ⟨Ag, cg, rfl, hsg, _, _⟩ := SAt_of_row encGp_len rfl hog; clear hog)
  clear HC HGa yT0 yT1 yK0 yK1 yTl yKl
  obtain ⟨q, hq⟩ : ∃ q, (gapsL hs ms).length = q := ⟨_, rfl⟩
  rw [hq] at hsg
  have HL := Lib.hid hq
  have hq9 : q ≤ 9 := by rw [← hq]; exact gapsL_len hs ms
  rw [hq]
  clear hq
  have bq : Below u1.heap.size u1 (u1.alloc (.cells #[.slice Ag q cg, .int .i64 ne] 53)) := (Below.refl u1.heap.size u1).alloc (Nat.le_refl _) _
  have bn := hb.trans (bq.mono hb.size)
  have HT1 := Lib.hid (T0.out.below bn)
  have HK1 := Lib.hid (K0.out.below bn)
  have HB1 := Lib.hid (HB0.out.trans (bn.mono HB0.out.size))
  have HS1 := Lib.hid (hsg.below bq)
  have HG1 : Hid (Blk (u1.alloc (.cells #[.slice Ag q cg, .int .i64 ne] 53)) u1.heap.size 53 #[.slice Ag q cg, .int .i64 ne]) := Lib.hid (Blk.at_new _ _ rfl)
  generalize hV : u1.alloc (.cells #[.slice Ag q cg, .int .i64 ne] 53) = V1 at *
  generalize hp : u1.heap.size = p1 at *
  clear hV hp bq bn hb hsg O0 T0 K0 HB0
  go_upto_region 4 with fail
  go_loopw [4, 5] (fun v i wx => ∃ k p : Nat, k ≤ q ∧ i = .int .i64 (k : Int) ∧ (lackT hs ms k).length = p ∧ wx.ownsRow w.heap.size 3 1 v p ((sortI (lackT hs ms k)).flatMap encI) ∧ (lackT hs ms k = [] → v = .slice none 0 0) ∧ Below w.heap.size w wx ∧ Blk wx (w.heap.size + 1) 46 #[.slice none 0 0, .int .i64 0] ∧ Blk wx p1 53 #[.slice Ag q cg, .int .i64 ne] ∧ SAt encGp 3 wx Ag q (gapsL hs ms)) (fun _ i _ => q - (intOf i).toNat)
  case atStart => exact ⟨0, 0, Nat.zero_le _, rfl, rfl, by simpa [lackT, sortI] using World.ownsRow_nil _ _ _ _, fun _ => rfl, HB1.out, HK1.out, HG1.out, HS1.out⟩
  case round =>
    obtain ⟨k, p, hk, rfl, hp, ow, hnl, hb, hkb, hgb, hsat⟩ := hrel
    have HP := Lib.hid hp
    have OW := Lib.hid ow
    have HNl := Lib.hid hnl
    have HBk := Lib.hid hb
    have HKk := Lib.hid hkb
    have HGk := Lib.hid hgb
    have HSk := Lib.hid hsat
    have hp9 : p ≤ 9 := by rw [← hp]; exact lackT_len hs ms k
    obtain ⟨Ao, co, rfl⟩ := owns_slice ow
    clear hp ow hnl hb hkb hgb hsat
    have y0 := HGk.out.cell 0
    have y1 := HGk.out.cell 1
    simp only [List.getElem?_toArray, List.getElem?_cons_zero, List.getElem?_cons_succ] at y0 y1
    have yl := HGk.out.lt
    by_cases hkq : k < q
    case neg =>
      obtain rfl : k = q := by omega
      have k0 := HKk.out.cell 0
      have k1 := HKk.out.cell 1
      simp only [List.getElem?_toArray, List.getElem?_cons_zero, List.getElem?_cons_succ] at k0 k1
      have kl := HKk.out.lt
      have f0 := HKk.out.frozen 0
      have f1 := HKk.out.frozen 1
      go_wp2
      have hf := blk_set2 HKk.out (.slice Ao p co) (.int .i64 ne)
      have x0 := hf.cell 0
      have x1 := hf.cell 1
      simp only [List.getElem?_toArray, List.getElem?_cons_zero, List.getElem?_cons_succ] at x0 x1
      refine bodyPost_ret (v := .agg #[.slice Ao p co, .int .i64 ne]) (by simp [results, Tryz.results28, go_sem, x0, x1]) rfl ⟨below_set2 HBk.out (by omega) _ _, _, by rw [HNe.out], ?_⟩
      have := owns_grown OW.out (grown_set2 wr (w.heap.size + 1) (.slice Ao p co) (.int .i64 ne)) (fun r hr e => own_ne OW.out HKk.out (by decide) (by rw [hr, ← e]))
      have e : lackL hs ms = sortI (lackT hs ms k) := by unfold lackL; rw [HL.out]
      have e2 : (lackL hs ms).length = p := by rw [e, sortI_len]; exact HP.out
      rw [e2, e]
      exact this
    case pos =>
      have hkl : k < (gapsL hs ms).length := by rw [HL.out]; exact hkq
      obtain ⟨b, off, eA, hl⟩ := HSk.out.at_ (by omega)
      subst eA
      have x0 := hl.c k _ (List.getElem?_eq_getElem hkl) 0 _ rfl
      have x1 := hl.c k _ (List.getElem?_eq_getElem hkl) 1 _ rfl
      have x2 := hl.c k _ (List.getElem?_eq_getElem hkl) 2 _ rfl
      rw [Nat.add_zero] at x0
      have xl := hl.lt
      have HT := Lib.hid (lackT_step hkl)
      clear hl
      generalize (gapsL hs ms)[k] = x at *
      obtain ⟨xi, xa, xb⟩ := x
      dsimp only at x0 x1 x2
      have HT2 := Lib.hid (show lackT hs ms (k + 1) = lackT hs ms k ++ (if 0 < xa then [xi] else []) from HT.out)
      clear HT
      by_cases ha : 0 < xa
      case pos =>
        have hab : decide (0 < xa) = true := decide_eq_true ha
        have HE := Lib.hid (show lackT hs ms (k + 1) = lackT hs ms k ++ [xi] by rw [HT2.out, if_pos ha])
        clear ha HT2
        have HAd := Lib.hid (add_any xi (AdIn.row OW.out (by rw [sortI_len]; exact HP.out) (fun e => HNl.out (List.eq_nil_of_length_eq_zero (by rw [← sortI_len, e]; rfl)))) (by rw [sortI_len, HP.out]; omega))
        go_wp2_with (go_at_call 70; go_loud (with_reducible refine HAd.out.mono ?_); go_loud (rintro e u ⟨v, rfl, ho, hb⟩))
        have HO := Lib.hid ho
        have HB := Lib.hid hb
        clear ho hb
        go_roundw
        case rel =>
          refine ⟨k + 1, p + 1, by omega, by go_num, by rw [HE.out, List.length_append, HP.out]; rfl, ?_, fun e => ?_, HBk.out.trans (HB.out.mono HBk.out.size), HKk.out.below HB.out, HGk.out.below HB.out, HSk.out.below HB.out⟩
          · have := HO.out
            rw [insI_sort, sortI_len, HP.out, ← HE.out] at this
            exact owns_weak this HBk.out.size
          · rw [HE.out] at e; simp at e
        case measure => simp [intOf]; omega
      case neg =>
        have hab : decide (0 < xa) = false := decide_eq_false ha
        have HE := Lib.hid (show lackT hs ms (k + 1) = lackT hs ms k by rw [HT2.out, if_neg ha, List.append_nil])
        clear ha HT2
        go_wp2_with fail
        go_roundw
        case rel => exact ⟨k + 1, p, by omega, by go_num, by rw [HE.out]; exact HP.out, by rw [HE.out]; exact OW.out, by rw [HE.out]; exact HNl.out, HBk.out, HKk.out, HGk.out, HSk.out⟩
        case measure => simp [intOf]; omega
end Go.Proofs.YtighfmgkoepfkaaGreat
