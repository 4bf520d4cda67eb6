/- A movement is taken from an office. -/
import Derived.Test.YtighfmgkoepfkaaGreatMX
import Derived.Test.YtighfmgkoepfkaaGreatMW
import Derived.Test.YtighfmgkoepfkaaGreatMS
import Derived.Test.YtighfmgkoepfkaaGreatMH
import Derived.Test.YtighfmgkoepfkaaGreatMU
import Derived.Test.YtighfmgkoepfkaaGreatMA
namespace Go.Proofs.YtighfmgkoepfkaaGreat
open Go.RowKit

/-- How a movement in a map reads. -/
def rdMv (v : Value) : Option (DataW Unit × List MemPlace) :=
  match v with
  | .agg a => match a.toList with
    | [.int .i64 x, .int .i64 y, .int .i64 z, .int .i64 p, .int .i64 q] => some (.agg [.lit (.int .i64 x), .lit (.int .i64 y), .lit (.int .i64 z), .lit (.int .i64 p), .lit (.int .i64 q)], [])
    | _ => none
  | _ => none
def dMv (m : Mv) : DataW Unit := .agg [.lit (.int .i64 m.id), .lit (.int .i64 m.fr), .lit (.int .i64 m.to), .lit (.int .i64 m.lo), .lit (.int .i64 m.hi)]
theorem rdMv_mv (m : Mv) : rdMv (vMv m) = some (dMv m, []) := rfl
theorem rdMv_form {v : Value} {d : DataW Unit} {ps : List MemPlace} (h : rdMv v = some (d, ps)) : ∃ m : Mv, v = vMv m ∧ d = dMv m := by
  unfold rdMv at h
  split at h
  · rename_i a
    split at h
    · rename_i x y z p q e
      obtain ⟨l⟩ := a
      dsimp only at e
      subst e
      simp only [Option.some.injEq, Prod.mk.injEq] at h
      exact ⟨⟨x, y, z, p, q⟩, rfl, h.1.symm⟩
    · cases h
  · cases h
theorem dMv_inj {m m' : Mv} (h : dMv m = dMv m') : m = m' := by
  obtain ⟨a, b, c, d, e⟩ := m
  obtain ⟨a', b', c', d', e'⟩ := m'
  unfold dMv at h
  simp only [DataW.agg.injEq, List.cons.injEq, DataW.lit.injEq, Lit.int.injEq, true_and, and_true] at h
  obtain ⟨h1, h2, h3, h4, h5⟩ := h
  rw [h1, h2, h3, h4, h5]
/-- Block b is a map that holds the movements ms, by their IDs. -/
def MvMap (W : World) (b n : Nat) (ms : List Mv) : Prop :=
  ∃ D : DataW Unit, W.ownsMap Tryz.prog 3 rdMv b n D ∧ Maps.IsMap D ∧ (∀ x, Maps.has D (.int .i64 x) = ms.any fun m => decide (m.id = x)) ∧ ∀ m ∈ ms, ∀ zd, D.atKey (.int .i64 m.id) zd = dMv m
section
variable {w w' : World} {b n : Nat} {ms : List Mv}
theorem MvMap.made (w : World) : MvMap (w.alloc (.map #[] 0)) w.heap.size 0 [] :=
  ⟨_, World.ownsMap_made _ _ _ _, Maps.isMap_empty, fun _ => rfl, fun _ h => by cases h⟩
theorem MvMap.kept {row : Option Nat} (h : MvMap w b n ms) (hg : w.grownBy w' row) (hne : some b ≠ row) : MvMap w' b n ms := by
  obtain ⟨D, ho, h1, h2, h3⟩ := h
  exact ⟨D, ho.kept hg hne, h1, h2, h3⟩
theorem MvMap.below (h : MvMap w b n ms) (hb : Below w.heap.size w w') : MvMap w' b n ms := h.kept (grown_of hb (Nat.le_refl _)) (by simp)
theorem MvMap.lt (h : MvMap w b n ms) : b < w.heap.size := by
  obtain ⟨D, ho, _⟩ := h
  exact ho.lt
set_option maxRecDepth 100000 in
theorem zero_mv (w : World) : (zeroValue 59).run Tryz.prog w = .ok (vMv ⟨0, 0, 0, 0, 0⟩) w := by kernel_rfl
set_option maxRecDepth 100000 in
theorem MvMap.look (h : MvMap w b n ms) {m : Mv} (hm : m ∈ ms) (hx : -9223372036854775808 ≤ m.id ∧ m.id ≤ 9223372036854775807) :
    (Instr.lookup 137 (.map (some b)) (.int .i64 m.id) false).run Tryz.prog w = .ok (vMv m) w := by
  obtain ⟨D, ho, h1, h2, h3⟩ := h
  obtain ⟨v, ps, hrun, hv⟩ := ho.lookup int_key Tryz.underlying137 (zero_mv w) (rdMv_mv _) (Go.Maps.keyOf_int_mk Tryz.underlying3 (wf_lit hx))
  rw [h3 m hm] at hv
  obtain ⟨m', e, e2⟩ := rdMv_form hv
  have e3 := dMv_inj e2
  subst e3
  rw [← e]
  exact hrun
set_option maxRecDepth 100000 in
theorem MvMap.look_ok (h : MvMap w b n ms) {x : Int} (hx : -9223372036854775808 ≤ x ∧ x ≤ 9223372036854775807) :
    ∃ m : Mv, (Instr.lookup 137 (.map (some b)) (.int .i64 x) true).run Tryz.prog w = .ok (.tuple #[vMv m, .bool (ms.any fun m => decide (m.id = x))]) w := by
  obtain ⟨D, ho, h1, h2, h3⟩ := h
  obtain ⟨v, ps, hrun, hv⟩ := ho.look_ok int_key Tryz.underlying137 (zero_mv w) (rdMv_mv _) (Go.Maps.keyOf_int_mk Tryz.underlying3 (wf_lit hx))
  rw [h2] at hrun
  obtain ⟨m', e, _⟩ := rdMv_form hv
  exact ⟨m', by rw [← e]; exact hrun⟩
set_option maxRecDepth 100000 in
theorem MvMap.store (h : MvMap w b n ms) (hn : n < 100000) (m : Mv) (hx : -9223372036854775808 ≤ m.id ∧ m.id ≤ 9223372036854775807) (hnew : ∀ y ∈ ms, y.id ≠ m.id) :
    ∃ w', (Instr.mapUpdate 137 (.map (some b)) (.int .i64 m.id) (vMv m)).run Tryz.prog w = .ok () w' ∧ MvMap w' b (n + 1) (ms ++ [m]) ∧ w.grownBy w' (some b) := by
  obtain ⟨D, ho, h1, h2, h3⟩ := h
  obtain ⟨w', hrun, ho', hg⟩ := ho.update int_key Tryz.underlying137 (by unfold maxLen; omega) (Go.Maps.keyOf_int_mk Tryz.underlying3 (wf_lit hx)) (rdMv_mv m)
  refine ⟨w', hrun, ⟨_, ho', h1.put _ _, fun y => ?_, fun y hy zd => ?_⟩, hg⟩
  · rw [List.any_append]
    by_cases e : y = m.id
    · subst e; rw [Maps.has_put_same h1 (show WideAt.IsKeyLit (.int .i64 m.id) from trivial)]; simp
    · rw [Maps.has_put_other (lit_ne e), h2]; simp; exact fun q => absurd q.symm e
  · rcases List.mem_append.1 hy with q | q
    · rw [Maps.atKey_put_other (lit_ne (hnew y q))]
      exact h3 y q zd
    · obtain rfl := List.mem_singleton.1 q
      rw [Maps.atKey_put_same h1 (show WideAt.IsKeyLit (.int .i64 y.id) from trivial)]
set_option maxRecDepth 100000 in
theorem MvMap.drop (h : MvMap w b n ms) {x : Int} (hx : -9223372036854775808 ≤ x ∧ x ≤ 9223372036854775807) (ty : TypeId) :
    ∃ w', (Builtin.delete_ #[137, 3] ty #[.map (some b), .int .i64 x]).run Tryz.prog w = .ok (.tuple #[]) w' ∧ MvMap w' b n (dropL ms [x]) ∧ w.grownBy w' (some b) := by
  obtain ⟨D, ho, h1, h2, h3⟩ := h
  obtain ⟨w', hrun, ho', ht⟩ := ho.drop int_key Tryz.underlying137 (Go.Maps.keyOf_int_mk Tryz.underlying3 (wf_lit hx)) ty
  refine ⟨w', hrun, ⟨_, ho', h1.del _, fun y => ?_, fun y hy zd => ?_⟩, ht.grown⟩
  · by_cases e : y = x
    · subst e
      rw [Maps.has_del_same]
      symm
      rw [List.any_eq_false]
      intro m hm
      unfold dropL at hm
      have := (List.mem_filter.1 hm).2
      simpa using this
    · rw [Maps.has_del_other (lit_ne e), h2]
      unfold dropL
      rw [Bool.eq_iff_iff, List.any_eq_true, List.any_eq_true]
      constructor
      · rintro ⟨m, a, c⟩
        refine ⟨m, List.mem_filter.2 ⟨a, ?_⟩, c⟩
        have c : m.id = y := by simpa using c
        simp [c, e]
      · rintro ⟨m, a, c⟩
        exact ⟨m, (List.mem_filter.1 a).1, c⟩
  · unfold dropL at hy
    obtain ⟨a, c⟩ := List.mem_filter.1 hy
    have c : y.id ≠ x := by simpa using c
    rw [Maps.atKey_del_other (lit_ne c)]
    exact h3 y a zd
end
end Go.Proofs.YtighfmgkoepfkaaGreat

namespace Go.Proofs.YtighfmgkoepfkaaGreat
open Go.RowKit

/-- An office: its holders, its movements by their IDs, and their order. -/
structure OfIn (w : World) (L p : Nat) (A : Option Addr) (n c b k : Nat) (O : Option Addr) (q oc : Nat) (hs : List Hd) (ms : List Mv) : Prop where
  blk : Blk w p 139 #[.slice A n c, .map (some b), .slice O q oc]
  hrow : w.ownsRow L 118 6 (.slice A n c) n (hs.flatMap encH)
  mp : MvMap w b k ms
  orow : w.ownsRow L 3 1 (.slice O q oc) q ((ms.map Mv.id).flatMap encI)
  lh : hs.length = n
  lm : ms.length = q
  hp : L ≤ p
  hb : L ≤ b
  n9 : n ≤ 9
  q24 : q ≤ 24
  ids : ∀ m ∈ ms, 1 ≤ m.id ∧ m.id ≤ 1099511627776
theorem OfIn.below {w w' : World} {L p : Nat} {A : Option Addr} {n c b k : Nat} {O : Option Addr} {q oc : Nat} {hs : List Hd} {ms : List Mv} (h : OfIn w L p A n c b k O q oc hs ms) (hb : Below w.heap.size w w') : OfIn w' L p A n c b k O q oc hs ms :=
  ⟨h.blk.below hb, owns_below h.hrow hb, h.mp.below hb, owns_below h.orow hb, h.lh, h.lm, h.hp, h.hb, h.n9, h.q24, h.ids⟩
/-- What is made in a world behind the office's leaves it as it is: the office lies below the block that is turned. -/
theorem OfIn.grown {w w' : World} {L p : Nat} {A : Option Addr} {n c b k : Nat} {O : Option Addr} {q oc : Nat} {hs : List Hd} {ms : List Mv} {row : Option Nat} (h : OfIn w L p A n c b k O q oc hs ms) (hg : w.grownBy w' row) (hp : ∀ r, row = some r → r ≠ p ∧ r ≠ b ∧ (Value.slice A n c).ownBlock ≠ some r ∧ (Value.slice O q oc).ownBlock ≠ some r) : OfIn w' L p A n c b k O q oc hs ms :=
  ⟨h.blk.grown hg (fun e => (hp _ e).1 rfl), owns_grown h.hrow hg (fun _ hr e => (hp _ e).2.2.1 hr), h.mp.kept hg (fun e => (hp _ e.symm).2.1 rfl), owns_grown h.orow hg (fun _ hr e => (hp _ e).2.2.2 hr), h.lh, h.lm, h.hp, h.hb, h.n9, h.q24, h.ids⟩
set_option maxRecDepth 100000 in
set_option maxHeartbeats 12800000 in
theorem Trade_any (L p : Nat) (A : Option Addr) (n c b k : Nat) (O : Option Addr) (q oc : Nat) (hs : List Hd) (ms : List Mv) (w : World) (h : OfIn w L p A n c b k O q oc hs ms) :
    Calls Tryz.prog 34 #[.pointer (some ⟨p, 0, none⟩)] w fun e w' => ∃ v1 v2, e = .returned (.agg #[v1, v2]) ∧ OwnT w' w.heap.size v1 v2 hs ms ∧ Below w.heap.size w w' := by
  have HO0 := Lib.hid h
  have hq24 := h.q24
  have hn9 := h.n9
  have HLm := Lib.hid h.lm
  have HLh := Lib.hid h.lh
  have hpw : p < w.heap.size := h.blk.lt
  have hbw : b < w.heap.size := h.mp.lt
  obtain ⟨ii, hj0, hj1, hj2, hj3⟩ := info_parts info_mv
  have HII := Lib.hid (And.intro hj0 (And.intro hj1 (And.intro hj2 hj3)))
  clear hj0 hj1 hj2 hj3 h
  have b0 := below_new w (.cells #[.slice none 0 0, .slice none 0 0] 25)
  have HR0 := Lib.hid (Blk.new w 25 #[.slice none 0 0, .slice none 0 0])
  have HO1 := Lib.hid (HO0.out.below b0)
  have HB1 := Lib.hid b0
  clear b0
  go_enter Tryz.func34, Tryz.ntmps34
  go_upto_region 1 with fail
  generalize hV : w.alloc (.cells #[.slice none 0 0, .slice none 0 0] 25) = V1 at *
  clear hV
  have o0 := HO1.out.blk.cell 0
  have o1 := HO1.out.blk.cell 1
  have o2 := HO1.out.blk.cell 2
  simp only [List.getElem?_toArray, List.getElem?_cons_zero, List.getElem?_cons_succ] at o0 o1 o2
  have ol := HO1.out.blk.lt
  obtain ⟨Ah, ch, eh, hsat, _, _⟩ := SAt_of_row encH_len HLh.out HO1.out.hrow
  cases eh
  have HCl := Lib.hid (cloneH_any A n c hs V1 hsat (by omega))
  clear hsat
  go_upto_region 2 with (go_at_call 79; go_loud (with_reducible refine HCl.out.mono ?_); go_loud (rintro e u2 ⟨v0, rfl, ho, hb⟩; obtain ⟨A0, c0, rfl⟩ := owns_slice ho))
  clear o0 o1 o2 ol HCl
  have bq : Below u2.heap.size u2 (u2.alloc (.cells #[.slice A0 n c0, .slice none 0 0] 25)) := (Below.refl u2.heap.size u2).alloc (Nat.le_refl _) _
  have bn := hb.trans (bq.mono hb.size)
  have HO2 := Lib.hid (HO1.out.below bn)
  have HR2 := Lib.hid (HR0.out.below bn)
  have HB2 := Lib.hid (HB1.out.trans (bn.mono HB1.out.size))
  have HW2 := Lib.hid (owns_below ho bq)
  have HLr := Lib.hid (fun (r : Nat) hr => own_lt (g := r) ho hr)
  have HT2 : Hid (Blk (u2.alloc (.cells #[.slice A0 n c0, .slice none 0 0] 25)) u2.heap.size 25 #[.slice A0 n c0, .slice none 0 0]) := Lib.hid (Blk.at_new _ _ rfl)
  have hs2 := hb.size
  have hs1 := HR0.out.lt
  generalize hV : u2.alloc (.cells #[.slice A0 n c0, .slice none 0 0] 25) = V2 at *
  have hgs : u2.heap.size + 1 ≤ V2.heap.size := by rw [← hV]; simp
  generalize hg : u2.heap.size = g1 at *
  have HG := Lib.hid hgs
  have HGw := Lib.hid (show w.heap.size + 1 ≤ g1 by omega)
  have HG1 := Lib.hid hs2
  have HG0 := Lib.hid (show w.heap.size + 1 ≤ V1.heap.size by omega)
  clear hV hg bq bn hb ho HR0 HO1 HB1 hgs hs2 hs1
  have o0 := HO2.out.blk.cell 0
  have o1 := HO2.out.blk.cell 1
  have o2 := HO2.out.blk.cell 2
  simp only [List.getElem?_toArray, List.getElem?_cons_zero, List.getElem?_cons_succ] at o0 o1 o2
  have ol := HO2.out.blk.lt
  go_upto_region 3 with fail
  clear o0 o1 o2 ol
  go_loopw [5, 17] (fun _ i wx => ∃ (j : Nat) (A1 : Option Addr) (c1 : Nat), j ≤ q ∧ i = .int .i64 (j : Int) ∧ wx.ownsRow (g1 + 1) 59 5 (.slice A1 j c1) j ((ms.take j).flatMap encM) ∧ g1 + 1 ≤ wx.heap.size ∧ Below w.heap.size w wx ∧ OfIn wx L p A n c b k O q oc hs ms ∧ Blk wx w.heap.size 25 #[.slice none 0 0, .slice none 0 0] ∧ Blk wx g1 25 #[.slice A0 n c0, .slice A1 j c1] ∧ wx.ownsRow V1.heap.size 118 6 (.slice A0 n c0) n (hs.flatMap encH)) (fun _ i _ => q - (intOf i).toNat)
  case atStart => exact ⟨0, none, 0, Nat.zero_le _, rfl, by simpa using World.ownsRow_nil _ _ _ _, HG.out, HB2.out, HO2.out, HR2.out, HT2.out, HW2.out⟩
  case round =>
    clear HO2 HR2 HB2 HW2 HT2
    obtain ⟨j, A1, c1, hj, rfl, ow, hgs, hb, hok, hr, ho, hv⟩ := hrel
    have OW := Lib.hid ow
    have HBk := Lib.hid hb
    have HOk := Lib.hid hok
    have HRk := Lib.hid hr
    have HUk := Lib.hid ho
    have HVk := Lib.hid hv
    have HLT := Lib.hid (fun (r : Nat) hr => own_lt (g := r) ow hr)
    clear ow hb hok hr ho hv
    have u0 := HUk.out.cell 0
    have u1 := HUk.out.cell 1
    simp only [List.getElem?_toArray, List.getElem?_cons_zero, List.getElem?_cons_succ] at u0 u1
    have ul := HUk.out.lt
    by_cases hjq : j < q
    case neg =>
      obtain rfl : j = q := by omega
      have HE := Lib.hid (show ms.take j = ms by rw [List.take_of_length_le (by rw [HLm.out]; exact Nat.le_refl _)])
      have z0 := HRk.out.cell 0
      have z1 := HRk.out.cell 1
      simp only [List.getElem?_toArray, List.getElem?_cons_zero, List.getElem?_cons_succ] at z0 z1
      have zl := HRk.out.lt
      have f0 := HRk.out.frozen 0
      have f1 := HRk.out.frozen 1
      go_wp2
      have hf := blk_set2 HRk.out (.slice A0 n c0) (.slice A1 j c1)
      have x0 := hf.cell 0
      have x1 := hf.cell 1
      simp only [List.getElem?_toArray, List.getElem?_cons_zero, List.getElem?_cons_succ] at x0 x1
      have hgz := grown_set2 wr w.heap.size (.slice A0 n c0) (.slice A1 j c1)
      refine bodyPost_ret (v := .agg #[.slice A0 n c0, .slice A1 j c1]) (by simp [results, Tryz.results34, go_sem, x0, x1]) rfl ⟨_, _, rfl, ⟨?_, ?_⟩, below_set2 HBk.out (Nat.le_refl _) _ _⟩
      · rw [HLh.out]
        exact owns_weak (owns_grown HVk.out hgz (fun r hr e => own_ne HVk.out HRk.out (by decide) (by rw [hr, ← e]))) (by have := HG1.out; have := HG0.out; omega)
      · rw [HLm.out, ← HE.out]
        exact owns_weak (owns_grown OW.out hgz (fun r hr e => own_ne OW.out HRk.out (by decide) (by rw [hr, ← e]))) (by have := HGw.out; omega)
    case pos =>
      have hjl : j < ms.length := by rw [HLm.out]; exact hjq
      have HTake := Lib.hid (List.take_succ_eq_append_getElem hjl)
      have HMem := Lib.hid (List.getElem_mem hjl)
      obtain ⟨Ai, ci, ei, hsi, _, _⟩ := SAt_of_row encI_len (by rw [List.length_map]; exact HLm.out) HOk.out.orow
      cases ei
      obtain ⟨bI, oI, eI, hI⟩ := hsi.at_ (by omega)
      subst eI
      have i0 := hI.c j _ (List.getElem?_eq_getElem (show j < (ms.map Mv.id).length by rw [List.length_map]; exact hjl)) 0 _ rfl
      rw [Nat.mul_one, Nat.add_zero, List.getElem_map] at i0
      have il := hI.lt
      clear hI hsi
      have HIb := Lib.hid (HOk.out.ids ms[j] (List.getElem_mem hjl))
      generalize ms[j] = x at *
      have HLk := Lib.hid (fun (v : World) (hm : MvMap v b k ms) => hm.look HMem.out (by have := HIb.out; omega))
      obtain ⟨xi, xf, xt, xl, xh⟩ := x
      dsimp only [vMv] at HLk i0
      go_upto_region 5 with fail
      clear u0 u1 ul i0 il
      refine wp_region_preC 11 [(8, 29), (9, 30)] (fun v' => Below w.heap.size w v' ∧ g1 + 1 ≤ v'.heap.size ∧ OfIn v' L p A n c b k (some ⟨bI, oI, none⟩) q oc hs ms ∧ Blk v' w.heap.size 25 #[.slice none 0 0, .slice none 0 0] ∧ Blk v' g1 25 #[.slice A0 n c0, .slice A1 j c1] ∧ v'.ownsRow V1.heap.size 118 6 (.slice A0 n c0) n (hs.flatMap encH)) (OneRow 59 5 (g1 + 1) j 8 9 (.slice A1 j c1) ((ms.take j).flatMap encM) [.int .i64 xi, .int .i64 xf, .int .i64 xt, .int .i64 xl, .int .i64 xh]) (by kernel_rfl) (by kernel_rfl) ?hw ?hC ?h0 ?hP ?ex
      case hw => exact ⟨HBk.out, hgs, HOk.out, HRk.out, HUk.out, HVk.out⟩
      case hC =>
        rintro v1 v2 ⟨h0, hb0, qk, qr, qo, qv⟩ kk
        exact ⟨h0.trans (kk.mono h0.size), Nat.le_trans hb0 kk.size, qk.below kk, qr.below kk, qo.below kk, owns_below qv kk⟩
      case h0 =>
        intro v' hv'
        refine OneRow.below (W := wr) ?_ hv'
        exact ⟨by simpa using OW.out, fun h => (by cases h)⟩
      case hP => exact fun ls vs v v' _ h kk => h.below kk
      case ex =>
        apply Exists.intro
        refine ⟨?walk, ?loud⟩
        case walk =>
          rintro V ⟨h0, hb0, qk, qr, qo, qv⟩
          have oc0 := qo.cell 0
          have oc1 := qo.cell 1
          have pc0 := qk.blk.cell 0
          have pc1 := qk.blk.cell 1
          have pc2 := qk.blk.cell 2
          simp only [List.getElem?_toArray, List.getElem?_cons_zero, List.getElem?_cons_succ] at oc0 oc1 pc0 pc1 pc2
          have ol := qo.lt
          have pl := qk.blk.lt
          have xm : ∀ x : Ext V, (Instr.lookup 137 (.map (some b)) (.int .i64 xi) false).run Tryz.prog x.w = .ok (.agg #[.int .i64 xi, .int .i64 xf, .int .i64 xt, .int .i64 xl, .int .i64 xh]) x.w := fun x => HLk.out x.w (qk.mp.below x.below)
          obtain ⟨xc, xf'⟩ := xcell (W := V)
          simp only [List.take_succ_cons, List.take_zero, qOf, isLoud, List.any_cons, List.any_nil, Nat.reduceBEq, Bool.or_false, Bool.or_true, Nat.reduceAdd, Bool.false_eq_true, if_true, if_false, beq_self_eq_true, Nat.zero_add]
          repeat (first | go_big_quiet_step (fail) | quiet_step (fail))
          exact wpQuiet_nil rfl
        case loud =>
          simp only [List.drop_succ_cons, List.drop_zero]
          refine ⟨?_, ?_⟩
          · rintro pp hp vs V ⟨h0, hb0, qk, qr, qo, qv⟩ ls hI hls hw o ho
            simp only [List.mem_cons, List.not_mem_nil, or_false] at hp
            rcases hp with rfl | rfl
            · simp only [List.getElem?_cons_succ, List.getElem?_cons_zero, Option.some.injEq] at ho
              subst ho
              simp [loudAt, loudUpon, go_sem, execOp, putsL, Act.put]
              have bw := below_new V (.cells #[.int .i64 xi, .int .i64 xf, .int .i64 xt, .int .i64 xl, .int .i64 xh] 59)
              exact ⟨⟨h0.alloc h0.size _, by omega, qk.below bw, qr.alloc _, qo.alloc _, qv.alloc _⟩, hI.lay (by decide)⟩
            · have h9 := hw (8, 29) (by simp) (by kernel_rfl)
              obtain ⟨g, e, hbk⟩ := hI.new h9 hls
              have hrow := hI.row
              have h8 := hls
              simp only [h8, cond_false, Nat.add_zero, List.append_nil] at hrow
              simp only [List.getElem?_cons_succ, List.getElem?_cons_zero, Option.some.injEq] at ho
              subst ho
              refine loudAt_append (.tmp 22) (.tmp 29) 23 rfl (g1 + 1) 59 ii (.agg #[.int .i64 0, .int .i64 0, .int .i64 0, .int .i64 0, .int .i64 0]) 5 40 Tryz.underlying23 HII.out.1 HII.out.2.1 HII.out.2.2.1 HII.out.2.2.2 rfl (by decide) (.slice A1 j c1) j ((ms.take j).flatMap encM) rfl hrow ⟨g, 0, none⟩ 1 1 [.int .i64 xi, .int .i64 xf, .int .i64 xt, .int .i64 xl, .int .i64 xh] e rfl (fun t u ht => ?_) (one_intsL [xi, xf, xt, xl, xh]) (by unfold maxLen; omega) (by omega) hb0 ?_
              · have hadd : (⟨g, 0, none⟩ : Addr).add t = ⟨g, t, none⟩ := by unfold Addr.add; split <;> simp_all
                rw [hadd, hbk.cell t]
                simpa using ht
              intro v' w3 hown' hgrow hat
              have hg0 := HGw.out
              have hg1 := HG1.out
              refine ⟨⟨h0.grown hgrow h0.size (fun kk hk => by have := (HLT.out _ hk).1; omega), Nat.le_trans hb0 hgrow.size, qk.grown hgrow (fun r hr => by have hq := (HLT.out _ hr).1; exact ⟨by omega, by omega, fun e => own_ne2 hrow qk.hrow (by decide) e hr, fun e => own_ne2 hrow qk.orow (by decide) e hr⟩), qr.grown hgrow (own_ne hrow qr (by decide)), qo.grown hgrow (own_ne hrow qo (by decide)), owns_grown qv hgrow (fun r hr e => own_ne2 hrow qv (by decide) hr e)⟩, hI.app v' hown'⟩
          · rintro ls vs V22 ⟨B22, hbase22, k_22, r_22, o_22, v_22⟩ hI hls
            have h8 := hls (9, 30) (by simp)
            have hrow := hI.row
            simp only [h8, cond_true] at hrow
            have HN := Lib.hid hrow
            clear hrow hI hls h8
            simp only [putsL, List.foldl_cons, List.foldl_nil, Act.put, List.setIfInBounds_toArray, List.set_cons_succ, List.set_cons_zero]
            generalize vs 8 = v8 at *
            generalize vs 9 = v9 at *
            obtain ⟨g', cap', rfl⟩ := ownsRow_succ HN.out
            have oc0 := o_22.cell 0
            have oc1 := o_22.cell 1
            simp only [List.getElem?_toArray, List.getElem?_cons_zero, List.getElem?_cons_succ] at oc0 oc1
            have ol := o_22.lt
            have of1 := o_22.frozen 1
            have HB22 := Lib.hid B22
            have HK22 := Lib.hid k_22
            have HR22 := Lib.hid r_22
            have HO22 := Lib.hid o_22
            have HV22 := Lib.hid v_22
            have hg0 := HGw.out
            have hg1 := HG1.out
            clear B22 k_22 r_22 o_22 v_22
            go_wp2
            go_roundw
            case rel =>
              refine ⟨j + 1, some ⟨g', 0, none⟩, cap', by omega, by go_num, ?_, by simpa [World.setCell] using hbase22, HB22.out.setCell (p := ⟨g1, 1, none⟩) (by simp; omega) _, HK22.out.grown (grownBy_set V22 g1 1 _) (fun r hr => by have e2 := Option.some.inj hr; exact ⟨by omega, by omega, fun e => own_ne HK22.out.hrow HO22.out (by decide) (by rw [e, e2]), fun e => own_ne HK22.out.orow HO22.out (by decide) (by rw [e, e2])⟩), HR22.out.far (p := ⟨g1, 1, none⟩) (by simp; omega) _, by simpa using HO22.out.set_ 1 (.slice (some ⟨g', 0, none⟩) (j + 1) cap'), ?_⟩
              · rw [HTake.out, List.flatMap_append]
                exact owns_grown HN.out (grownBy_set V22 g1 1 _) (fun r hr e => own_ne HN.out HO22.out (by decide) (by rw [hr, ← e]))
              · exact owns_grown HV22.out (grownBy_set V22 g1 1 _) (fun r hr e => own_ne HV22.out HO22.out (by decide) (by rw [hr, ← e]))
            case measure => simp [intOf]; omega
end Go.Proofs.YtighfmgkoepfkaaGreat

namespace Go.Proofs.YtighfmgkoepfkaaGreat
open Go.RowKit

/-- An office at block p. -/
def OfE (w : World) (L p K : Nat) (hs : List Hd) (ms : List Mv) : Prop :=
  ∃ A n c b k O q oc, k ≤ K ∧ OfIn w L p A n c b k O q oc hs ms
theorem OfE.below {w w' : World} {L p K : Nat} {hs : List Hd} {ms : List Mv} (h : OfE w L p K hs ms) (hb : Below w.heap.size w w') : OfE w' L p K hs ms := by
  obtain ⟨A, n, c, b, k, O, q, oc, hk, h⟩ := h
  exact ⟨A, n, c, b, k, O, q, oc, hk, h.below hb⟩
theorem OfE.trade {w : World} {L p K : Nat} {hs : List Hd} {ms : List Mv} (h : OfE w L p K hs ms) :
    Calls Tryz.prog 34 #[.pointer (some ⟨p, 0, none⟩)] w fun e w' => ∃ v1 v2, e = .returned (.agg #[v1, v2]) ∧ OwnT w' w.heap.size v1 v2 hs ms ∧ Below w.heap.size w w' := by
  obtain ⟨A, n, c, b, k, O, q, oc, hk, h⟩ := h
  exact Trade_any L p A n c b k O q oc hs ms w h
theorem OfE.len {w : World} {L p K : Nat} {hs : List Hd} {ms : List Mv} (h : OfE w L p K hs ms) : hs.length ≤ 9 ∧ ms.length ≤ 24 := by
  obtain ⟨A, n, c, b, k, O, q, oc, hk, h⟩ := h
  exact ⟨by have := h.lh; have := h.n9; omega, by have := h.lm; have := h.q24; omega⟩
set_option maxRecDepth 100000 in
set_option maxHeartbeats 1600000 in
theorem OAgrees_any (L p K : Nat) (hs : List Hd) (ms : List Mv) (w : World) (h : OfE w L p K hs ms) (hv : TV hs ms) :
    Calls Tryz.prog 36 #[.pointer (some ⟨p, 0, none⟩)] w fun e w' => e = .returned (.bool (agrL hs ms)) ∧ Below w.heap.size w w' := by
  have HT := Lib.hid h.trade
  have HL := Lib.hid h.len
  have HA := Lib.hid (fun (t : TR) (u : World) (ho : t.Ok u) (e1 : t.hs = hs) (e2 : t.ms = ms) => agrees_any t u ho (by rw [e1, e2]; exact hv))
  go_enter Tryz.func36, Tryz.ntmps36
  go_wp2_with (first | (go_at_call 34; (with_reducible refine HT.out.mono ?_); rintro e u1 ⟨v1, v2, rfl, ho, hb1⟩; obtain ⟨t, et, hok, e1, e2⟩ := ho.ok (by have := HL.out; omega) (by have := HL.out; omega); have HC := HA.out t u1 hok e1 e2; rw [et] at HC) | (go_at_call 64; (with_reducible refine HC.mono ?_); rintro e u2 ⟨rfl, hb2⟩))
  subst e1; subst e2; exact bodyPost_ret (v := .bool (agrL t.hs t.ms)) (by simp [results, Tryz.results36, go_sem]) rfl ⟨rfl, hb1.trans (hb2.mono hb1.size)⟩
/-- What New returns. -/
def OnOut (w : World) (hs : List Hd) (e : Ending) (w' : World) : Prop :=
  ∃ v, e = .returned (.tuple #[v, .int .i64 (tcheck hs [])]) ∧ Below w.heap.size w w' ∧ (tcheck hs [] ≠ 0 → v = .pointer none) ∧ (tcheck hs [] = 0 → ∃ p, v = .pointer (some ⟨p, 0, none⟩) ∧ OfE w' w.heap.size p 0 hs [])
set_option maxRecDepth 100000 in
set_option maxHeartbeats 12800000 in
theorem New_any (A : Option Addr) (n c : Nat) (hs : List Hd) (w : World) (h : SAt encH 6 w A n hs) (hn : n ≤ 9223372036854775807) (hc : n ≤ c) :
    Calls Tryz.prog 31 #[.slice A n c] w (OnOut w hs) := by
  have HO := Lib.hid h
  have HCk := Lib.hid (Check_any ⟨A, n, c, none, 0, 0, hs, []⟩ w ⟨h, ⟨rfl, fun q => absurd q (Nat.lt_irrefl 0)⟩, hn, Nat.zero_le _, hc, Nat.le_refl 0⟩)
  have HLh := Lib.hid (show hs.length = n from h.len)
  have HTl := Lib.hid (fun q : tcheck hs [] = 0 => (tcheck_zero.1 q).lenH)
  dsimp only [TR.v] at HCk
  clear h
  obtain ⟨tk, htk⟩ : ∃ tk, tcheck hs [] = tk := ⟨_, rfl⟩
  rw [htk] at HCk HTl
  have HTk := Lib.hid htk
  clear htk
  have hmm := @run_makeMap Tryz.prog
  go_enter Tryz.func31, Tryz.ntmps31
  go_upto_region 2 with (go_at_call 30; (with_reducible refine HCk.out.mono ?_); rintro e u1 ⟨rfl, hb1⟩)
  have HB1 := Lib.hid hb1
  have HO1 := Lib.hid (HO.out.below hb1)
  clear hb1 HCk HO
  by_cases hq : tk = 0
  case neg =>
    have hqb : decide (tk = 0) = false := decide_eq_false hq
    go_wp2
    exact bodyPost_ret (v := .tuple #[.pointer none, .int .i64 tk]) (by simp [results, Tryz.results31, go_sem]) rfl ⟨_, by rw [HTk.out], HB1.out, fun _ => rfl, fun q => absurd (HTk.out.symm.trans q) hq⟩
  case pos =>
    have hqb : decide (tk = 0) = true := decide_eq_true hq
    have hn9 : n ≤ 9 := by have := HTl.out hq; rw [HLh.out] at this; exact this
    have HCl := Lib.hid (cloneH_any A n c hs u1 HO1.out (by omega))
    subst hq
    go_wp2_with (go_at_call 79; (with_reducible refine HCl.out.mono ?_); rintro e u2 ⟨v0, rfl, ho, hb2⟩; obtain ⟨A0, c0, rfl⟩ := owns_slice ho)
    have bm := (Below.refl u2.heap.size u2).alloc (Nat.le_refl _) (.map #[] 0)
    have bb := bm.alloc (by simp) (.cells #[.slice A0 n c0, .map (some u2.heap.size), .slice none 0 0] 139)
    have HM := MvMap.made u2
    have HBk := Blk.new (u2.alloc (.map #[] 0)) 139 #[.slice A0 n c0, .map (some u2.heap.size), .slice none 0 0]
    rw [show (u2.alloc (.map #[] 0)).heap.size = u2.heap.size + 1 by simp] at HBk
    have hs1 := HB1.out.size
    have hs2 := hb2.size
    refine bodyPost_ret (v := .tuple #[.pointer (some ⟨u2.heap.size + 1, 0, none⟩), .int .i64 0]) (by simp [results, Tryz.results31, go_sem]) rfl ⟨_, by rw [HTk.out], HB1.out.trans ((hb2.trans (bb.mono hb2.size)).mono HB1.out.size), fun q => absurd HTk.out q, fun _ => ⟨u2.heap.size + 1, rfl, _, _, _, _, 0, _, _, _, Nat.le_refl 0, HBk, owns_weak (owns_below ho bb) (by omega), HM.below (below_new _ _), World.ownsRow_nil _ _ _ _, HLh.out, rfl, by omega, by omega, hn9, by omega, fun m hm => by cases hm⟩⟩
end Go.Proofs.YtighfmgkoepfkaaGreat

namespace Go.Proofs.YtighfmgkoepfkaaGreat
open Go.RowKit

/-- What an office's change leaves: blocks that are no office's and no list of IDs. -/
def OKeep (w w' : World) : Prop := ∀ (g : Nat) (cs : Array Value) (t : TypeId), w.heap[g]? = some (Obj.cells cs t (0, 0)) → t ≠ 139 → t ≠ 3 → w'.heap[g]? = some (Obj.cells cs t (0, 0))
theorem OKeep.trans {a b c : World} (h : OKeep a b) (k : OKeep b c) : OKeep a c := fun g cs t e h1 h2 => k g cs t (h g cs t e h1 h2) h1 h2
theorem OKeep.below {w w' : World} (h : Below w.heap.size w w') : OKeep w w' := fun g cs t e _ _ => by rw [h.block g (Array.getElem?_eq_some_iff.1 e).1]; exact e
theorem OKeep.grown {w w' : World} {r : Option Nat} (hg : w.grownBy w' r) (hr : ∀ g, r = some g → ∀ (cs : Array Value) (t : TypeId), w.heap[g]? = some (Obj.cells cs t (0, 0)) → t = 139 ∨ t = 3) : OKeep w w' := fun g cs t e h1 h2 => by
  rw [hg.block g (Array.getElem?_eq_some_iff.1 e).1 (fun q => (hr g q.symm cs t e).elim h1 h2)]; exact e
theorem OKeep.blk {w w' : World} (h : OKeep w w') {g t : Nat} {cs : Array Value} (hb : Blk w g t cs) (h1 : t ≠ 139) (h2 : t ≠ 3) : Blk w' g t cs := h g cs t hb h1 h2
theorem OKeep.row {w w' : World} (h : OKeep w w') {B e size n : Nat} {v : Value} {xs : List Value} (hr : w.ownsRow B e size v n xs) (h1 : e ≠ 139) (h2 : e ≠ 3) : w'.ownsRow B e size v n xs := by
  refine ⟨hr.1, ?_⟩
  rcases hr.2 with hn | ⟨g, cap, cur, rfl, hg, hgg, rest⟩
  · exact .inl hn
  · exact .inr ⟨g, cap, cur, rfl, hg, h g cur e hgg h1 h2, rest⟩
theorem OKeep.trade {w w' : World} (h : OKeep w w') {L : Nat} {v1 v2 : Value} {hs : List Hd} {ms : List Mv} (ht : OwnT w L v1 v2 hs ms) : OwnT w' L v1 v2 hs ms := ⟨h.row ht.h (by decide) (by decide), h.row ht.m (by decide) (by decide)⟩
/-- The error of Put, and the movements behind it. -/
def poE (hs : List Hd) (ms : List Mv) (x : Mv) : Int := if 24 ≤ ms.length then 2 else mvE2 hs ms x
def poM (hs : List Hd) (ms : List Mv) (x : Mv) : List Mv := if poE hs ms x = 0 then ms ++ [x] else ms
theorem mvE2_id {hs : List Hd} {ms : List Mv} {x : Mv} (h : mvE2 hs ms x = 0) : (1 ≤ x.id ∧ x.id ≤ 1099511627776) ∧ ∀ y ∈ ms, y.id ≠ x.id := by
  unfold mvE2 at h
  by_cases c : mvE hs x = 0
  · rw [if_neg (by simpa using c)] at h
    by_cases d : dupB ms x.id = true
    · rw [if_pos d] at h; exact absurd h (by decide)
    · refine ⟨?_, fun y hy e => d ?_⟩
      · unfold mvE at c
        split at c
        · exact absurd c (by decide)
        · rename_i q
          have q1 := (Decidable.not_not.1 q).1
          unfold okId at q1
          exact of_decide_eq_true q1
      · unfold dupB
        exact List.any_eq_true.2 ⟨y, hy, by simpa using e⟩
  · rw [if_pos c] at h
    exact absurd h c
theorem MvMap.ne_cells {w : World} {b n : Nat} {ms : List Mv} (h : MvMap w b n ms) {g t : Nat} {cs : Array Value} (e : w.heap[g]? = some (Obj.cells cs t (0, 0))) : g ≠ b := fun q => by
  obtain ⟨D, ⟨es, cl, hb, _⟩, _⟩ := h
  subst q
  rw [hb] at e
  cases e
theorem MvMap.ne_row {w : World} {b n : Nat} {ms : List Mv} (h : MvMap w b n ms) {B e size m : Nat} {v : Value} {xs : List Value} (hr : w.ownsRow B e size v m xs) : v.ownBlock ≠ some b := fun q => by
  obtain ⟨cur, hc⟩ := own_blk hr q
  exact h.ne_cells hc rfl
def OpOut (w : World) (L p K : Nat) (hs : List Hd) (er : Int) (ms' : List Mv) (e : Ending) (w' : World) : Prop :=
  e = .returned (.int .i64 er) ∧ OfE w' L p (K + 1) hs ms' ∧ Below L w w' ∧ OKeep w w'
theorem OfE.more {w : World} {L p K : Nat} {hs : List Hd} {ms : List Mv} (h : OfE w L p K hs ms) : OfE w L p (K + 1) hs ms := by
  obtain ⟨A, n, c, b, k, O, q, oc, hk, h⟩ := h
  exact ⟨A, n, c, b, k, O, q, oc, by omega, h⟩
set_option maxRecDepth 100000 in
set_option maxHeartbeats 12800000 in
theorem Put_any (L p K : Nat) (hs : List Hd) (ms : List Mv) (x : Mv) (w : World) (h : OfE w L p K hs ms) (hK : K < 100000) :
    Calls Tryz.prog 32 #[.pointer (some ⟨p, 0, none⟩), vMv x] w (OpOut w L p K hs (poE hs ms x) (poM hs ms x)) := by
  have b0 := below_new w (.cells #[.int .i64 x.id, .int .i64 x.fr, .int .i64 x.to, .int .i64 x.lo, .int .i64 x.hi] 59)
  have HX0 := Lib.hid (Blk.new w 59 #[.int .i64 x.id, .int .i64 x.fr, .int .i64 x.to, .int .i64 x.lo, .int .i64 x.hi])
  have HId := Lib.hid (mvE2_id (hs := hs) (ms := ms) (x := x))
  obtain ⟨me, hme⟩ : ∃ me, mvE2 hs ms x = me := ⟨_, rfl⟩
  have HMe := Lib.hid hme
  have HPE := Lib.hid (show poE hs ms x = if 24 ≤ ms.length then 2 else me by unfold poE; rw [hme])
  have HPM := Lib.hid (show poM hs ms x = if poE hs ms x = 0 then ms ++ [x] else ms from rfl)
  clear hme
  generalize poE hs ms x = pe at *
  generalize poM hs ms x = pm at *
  obtain ⟨A, n, c, b, k, O, q, oc, hk, h⟩ := h
  have HLm := Lib.hid h.lm
  have HLh := Lib.hid h.lh
  have hq24 := h.q24
  have hn9 := h.n9
  have HLp := Lib.hid h.hp
  have HLb := Lib.hid h.hb
  have hpw : p < w.heap.size := h.blk.lt
  have hbw : b < w.heap.size := h.mp.lt
  have HO0 := Lib.hid (h.below b0)
  have HB0 := Lib.hid (show Below L w (w.alloc (.cells #[.int .i64 x.id, .int .i64 x.fr, .int .i64 x.to, .int .i64 x.lo, .int .i64 x.hi] 59)) from b0.mono (by have := HLp.out; omega))
  have HK0 := Lib.hid (OKeep.below b0)
  obtain ⟨ii, hj0, hj1, hj2, hj3⟩ := info_parts info_int
  have HII := Lib.hid (And.intro hj0 (And.intro hj1 (And.intro hj2 hj3)))
  have HCm := Lib.hid (fun (A : Option Addr) (c : Nat) (B : Option Addr) (d : Nat) (u : World) (q1 : SAt encH 6 u A n hs) (q2 : SAt encM 5 u B q ms) => checkMove_any A n c B q d B q d hs ms x u q1 (by omega) q2 (by omega))
  rw [HMe.out] at HCm
  have HSt := Lib.hid (fun (v : World) (hm : MvMap v b k ms) => hm.store (by omega) x)
  clear hj0 hj1 hj2 hj3 h b0
  obtain ⟨xi, xf, xt, xl, xh⟩ := x
  dsimp only [vMv, vT] at *
  go_enter Tryz.func32, Tryz.ntmps32
  go_upto_region 1 with fail
  generalize hX : w.heap.size = X at *
  generalize hV : w.alloc (.cells #[.int .i64 xi, .int .i64 xf, .int .i64 xt, .int .i64 xl, .int .i64 xh] 59) = V1 at *
  have HXv := Lib.hid (show V1.heap.size = X + 1 by rw [← hV, ← hX]; simp)
  clear hV hX
  have o2 := HO0.out.blk.cell 2
  simp only [List.getElem?_toArray, List.getElem?_cons_zero, List.getElem?_cons_succ] at o2
  have ol := HO0.out.blk.lt
  by_cases hq : q < 24
  case neg =>
    have HP2 := Lib.hid (show pe = 2 by rw [HPE.out, if_pos (by rw [HLm.out]; omega)])
    go_wp2
    exact bodyPost_ret (v := .int .i64 2) (by simp [results, Tryz.results32, go_sem]) rfl ⟨by rw [HP2.out], by rw [HPM.out, HP2.out, if_neg (by decide)]; exact ⟨A, n, c, b, k, O, q, oc, by omega, HO0.out⟩, HB0.out, HK0.out⟩
  case pos =>
  have HTr := Lib.hid (Trade_any L p A n c b k O q oc hs ms V1 HO0.out)
  go_upto_region 4 with (go_at_call 34; (with_reducible refine HTr.out.mono ?_); rintro e u2 ⟨v1, v2, rfl, ho, hb2⟩; have ho1 := ho.h; have ho2 := ho.m; rw [HLh.out] at ho1; rw [HLm.out] at ho2; obtain ⟨A1, c1, rfl, hA, _, _⟩ := SAt_of_row encH_len HLh.out ho1; obtain ⟨B1, d1, rfl, hB, _, _⟩ := SAt_of_row encM_len HLm.out ho2)
  clear o2 ol HTr
  have bq : Below u2.heap.size u2 (u2.alloc (.cells #[.slice A1 n c1, .slice B1 q d1] 25)) := below_new u2 _
  have HT2 : Hid (Blk (u2.alloc (.cells #[.slice A1 n c1, .slice B1 q d1] 25)) u2.heap.size 25 #[.slice A1 n c1, .slice B1 q d1]) := Lib.hid (Blk.new _ _ _)
  have bn := hb2.trans (bq.mono hb2.size)
  have HX2 := Lib.hid (HX0.out.below bn)
  have HO2 := Lib.hid (HO0.out.below bn)
  have HB2 := Lib.hid (HB0.out.trans (bn.mono (by have := HLp.out; have := HXv.out; omega)))
  have HK2 := Lib.hid (HK0.out.trans (OKeep.below bn))
  have HA2 := Lib.hid (hA.below bq)
  have HBb2 := Lib.hid (hB.below bq)
  generalize hV : u2.alloc (.cells #[.slice A1 n c1, .slice B1 q d1] 25) = V2 at *
  generalize hg : u2.heap.size = g2 at *
  clear hV hg bq bn hA hB ho1 ho2 ho hb2 HX0 HO0 HB0 HK0
  have t0 := HT2.out.cell 0
  have t1 := HT2.out.cell 1
  have x0 := HX2.out.cell 0
  have x1 := HX2.out.cell 1
  have x2 := HX2.out.cell 2
  have x3 := HX2.out.cell 3
  have x4 := HX2.out.cell 4
  simp only [List.getElem?_toArray, List.getElem?_cons_zero, List.getElem?_cons_succ] at t0 t1 x0 x1 x2 x3 x4
  have tl := HT2.out.lt
  have xl' := HX2.out.lt
  have HC := Lib.hid (HCm.out A1 c1 B1 d1 V2 HA2.out HBb2.out)
  go_upto_region 5 with (go_at_call 78; (with_reducible refine HC.out.mono ?_); rintro e u3 ⟨rfl, hb3⟩)
  clear t0 t1 x0 x1 x2 x3 x4 tl xl' HC
  have HX3 := Lib.hid (HX2.out.below hb3)
  have HO3 := Lib.hid (HO2.out.below hb3)
  have HB3 := Lib.hid (HB2.out.trans (hb3.mono (by have := HLp.out; have := HO2.out.blk.lt; omega)))
  have HK3 := Lib.hid (HK2.out.trans (OKeep.below hb3))
  clear hb3 HX2 HO2 HB2 HK2 HT2 HA2 HBb2 HCm
  have HP0 := Lib.hid (show pe = me by rw [HPE.out, if_neg (by rw [HLm.out]; omega)])
  clear HPE
  by_cases hm0 : me = 0
  case neg =>
    have hmb : decide (me = 0) = false := decide_eq_false hm0
    go_wp2
    exact bodyPost_ret (v := .int .i64 me) (by simp [results, Tryz.results32, go_sem]) rfl ⟨by rw [HP0.out], by rw [HPM.out, HP0.out, if_neg hm0]; exact ⟨A, n, c, b, k, O, q, oc, by omega, HO3.out⟩, HB3.out, HK3.out⟩
  case pos =>
    subst hm0
    have HIb := Lib.hid (HId.out HMe.out)
    clear HId HMe
    have HPm := Lib.hid (show pm = ms ++ [⟨xi, xf, xt, xl, xh⟩] by rw [HPM.out, HP0.out, if_pos rfl])
    clear HPM
    go_upto_region 7 with fail
    have p0 := HO3.out.blk.cell 0
    have p1 := HO3.out.blk.cell 1
    have p2 := HO3.out.blk.cell 2
    have x0 := HX3.out.cell 0
    have x1 := HX3.out.cell 1
    have x2 := HX3.out.cell 2
    have x3 := HX3.out.cell 3
    have x4 := HX3.out.cell 4
    simp only [List.getElem?_toArray, List.getElem?_cons_zero, List.getElem?_cons_succ] at p0 p1 p2 x0 x1 x2 x3 x4
    have pl := HO3.out.blk.lt
    have xl' := HX3.out.lt
    obtain ⟨xc, xf'⟩ := xcell (W := u3)
    refine wp_region_quiet_tail 7 (by kernel_rfl) (by kernel_rfl) ?_
    simp only [List.take_succ_cons, List.take_zero, List.drop_succ_cons, List.drop_zero]
    repeat (first | go_big_quiet_step (fail) | quiet_step (fail))
    refine wpQuiet_nil ?_
    intro w4 hb4
    have HX4 := Lib.hid (HX3.out.below hb4)
    have HO4 := Lib.hid (HO3.out.below hb4)
    have HB4 := Lib.hid (HB3.out.trans (hb4.mono (by have := HLp.out; omega)))
    have HK4 := Lib.hid (HK3.out.trans (OKeep.below hb4))
    clear p0 p1 p2 x0 x1 x2 x3 x4 pl xl' xc xf' hb4 HX3 HO3 HB3 HK3
    obtain ⟨w5, hst, hm5, hg5⟩ := HSt.out w4 HO4.out.mp (by have := HIb.out.1; omega) HIb.out.2
    have HX5 := Lib.hid (HX4.out.grown hg5 (fun e => by have := Option.some.inj e; omega))
    have HP5 := Lib.hid (HO4.out.blk.grown hg5 (fun e => HO4.out.mp.ne_cells HO4.out.blk (Option.some.inj e).symm))
    have HH5 := Lib.hid (owns_grown HO4.out.hrow hg5 (fun r hr e => HO4.out.mp.ne_row HO4.out.hrow (by rw [hr, ← e])))
    have HR5 := Lib.hid (owns_grown HO4.out.orow hg5 (fun r hr e => HO4.out.mp.ne_row HO4.out.orow (by rw [hr, ← e])))
    have HB5 := Lib.hid (HB4.out.grown hg5 (by have := HLp.out; have := HO4.out.blk.lt; omega) (fun r hr => by have := HLb.out; have := Option.some.inj hr; omega))
    have HK5 := Lib.hid (HK4.out.trans (OKeep.grown hg5 (fun g e cs t hc => absurd (Option.some.inj e).symm (HO4.out.mp.ne_cells hc))))
    have HM5 := Lib.hid hm5
    have HIs := Lib.hid HO4.out.ids
    have hLs : L ≤ w5.heap.size := by have := HLp.out; have := HP5.out.lt; omega
    have hg5s := hg5.size
    clear hm5 hg5 HX4 HO4 HB4 HK4
    go_upto_region 8 with fail
    clear hst
    refine wp_region_preC 11 [(7, 37), (8, 38)] (fun v' => Below L w v' ∧ L ≤ v'.heap.size ∧ Blk v' p 139 #[.slice A n c, .map (some b), .slice O q oc] ∧ v'.ownsRow L 118 6 (.slice A n c) n (hs.flatMap encH) ∧ MvMap v' b (k + 1) (ms ++ [⟨xi, xf, xt, xl, xh⟩]) ∧ Blk v' X 59 #[.int .i64 xi, .int .i64 xf, .int .i64 xt, .int .i64 xl, .int .i64 xh] ∧ OKeep w v') (OneRow 3 1 L q 7 8 (.slice O q oc) ((ms.map Mv.id).flatMap encI) [.int .i64 xi]) (by kernel_rfl) (by kernel_rfl) ?hw ?hC ?h0 ?hP ?ex
    case hw => exact ⟨HB5.out, hLs, HP5.out, HH5.out, HM5.out, HX5.out, HK5.out⟩
    case hC =>
      rintro v1 v2 ⟨h0, hb0, qp, qh, qm, qx, qk⟩ kk
      exact ⟨h0.trans (kk.mono hb0), Nat.le_trans hb0 kk.size, qp.below kk, owns_below qh kk, qm.below kk, qx.below kk, qk.trans (OKeep.below kk)⟩
    case h0 =>
      intro v' hv'
      refine OneRow.below (W := w5) ?_ hv'
      exact ⟨by simpa using HR5.out, fun h => (by cases h)⟩
    case hP => exact fun ls vs v v' _ h kk => h.below kk
    case ex =>
      apply Exists.intro
      refine ⟨?walk, ?loud⟩
      case walk =>
        rintro V ⟨h0, hb0, qp, qh, qm, qx, qk⟩
        have p0 := qp.cell 0
        have p1 := qp.cell 1
        have p2 := qp.cell 2
        have x0 := qx.cell 0
        have x1 := qx.cell 1
        have x2 := qx.cell 2
        have x3 := qx.cell 3
        have x4 := qx.cell 4
        simp only [List.getElem?_toArray, List.getElem?_cons_zero, List.getElem?_cons_succ] at p0 p1 p2 x0 x1 x2 x3 x4
        have pl := qp.lt
        have xl' := qx.lt
        obtain ⟨xc, xf'⟩ := xcell (W := V)
        simp only [List.take_succ_cons, List.take_zero, qOf, isLoud, List.any_cons, List.any_nil, Nat.reduceBEq, Bool.or_false, Bool.or_true, Nat.reduceAdd, Bool.false_eq_true, if_true, if_false, beq_self_eq_true, Nat.zero_add]
        repeat (first | go_big_quiet_step (fail) | quiet_step (fail))
        exact wpQuiet_nil rfl
      case loud =>
        simp only [List.drop_succ_cons, List.drop_zero]
        refine ⟨?_, ?_⟩
        · rintro pp hp vs V ⟨h0, hb0, qp, qh, qm, qx, qk⟩ ls hI hls hw o ho
          simp only [List.mem_cons, List.not_mem_nil, or_false] at hp
          rcases hp with rfl | rfl
          · simp only [List.getElem?_cons_succ, List.getElem?_cons_zero, Option.some.injEq] at ho
            subst ho
            simp [loudAt, loudUpon, go_sem, execOp, putsL, Act.put]
            have bw := below_new V (.cells #[.int .i64 xi] 3)
            exact ⟨⟨h0.trans (bw.mono hb0), by omega, qp.below bw, owns_below qh bw, qm.below bw, qx.below bw, qk.trans (OKeep.below bw)⟩, hI.lay (by decide)⟩
          · have h9 := hw (7, 37) (by simp) (by kernel_rfl)
            obtain ⟨g, e, hbk⟩ := hI.new h9 hls
            have hrow := hI.row
            have h8 := hls
            simp only [h8, cond_false, Nat.add_zero, List.append_nil] at hrow
            simp only [List.getElem?_cons_succ, List.getElem?_cons_zero, Option.some.injEq] at ho
            subst ho
            refine loudAt_append (.tmp 34) (.tmp 37) 42 rfl L 3 ii (.int .i64 0) 1 8 Tryz.underlying42 HII.out.1 HII.out.2.1 HII.out.2.2.1 HII.out.2.2.2 rfl (by decide) (.slice O q oc) q ((ms.map Mv.id).flatMap encI) rfl hrow ⟨g, 0, none⟩ 1 1 [.int .i64 xi] e rfl (fun t u ht => ?_) (one_intsL [xi]) (by unfold maxLen; omega) (by omega) hb0 ?_
            · have hadd : (⟨g, 0, none⟩ : Addr).add t = ⟨g, t, none⟩ := by unfold Addr.add; split <;> simp_all
              rw [hadd, hbk.cell t]
              simpa using ht
            intro v' w3 hown' hgrow hat
            exact ⟨⟨h0.grown hgrow hb0 (fun r hr => (own_lt hrow hr).1), Nat.le_trans hb0 hgrow.size, qp.grown hgrow (own_ne hrow qp (by decide)), owns_grown qh hgrow (fun r hr e => own_ne2 hrow qh (by decide) hr e), qm.kept hgrow (fun e => qm.ne_row hrow e.symm), qx.grown hgrow (own_ne hrow qx (by decide)), qk.trans (OKeep.grown hgrow (fun r e cs t hc => by
              obtain ⟨cur, hcc⟩ := own_blk hrow e
              rw [hcc] at hc
              cases hc
              exact .inr rfl))⟩, hI.app v' hown'⟩
        · rintro ls vs V22 ⟨B22, hbase22, p_22, h_22, m_22, x_22, k_22⟩ hI hls
          have h8 := hls (8, 38) (by simp)
          have hrow := hI.row
          simp only [h8, cond_true] at hrow
          have HN := Lib.hid hrow
          clear hrow hI hls h8
          simp only [putsL, List.foldl_cons, List.foldl_nil, Act.put, List.setIfInBounds_toArray, List.set_cons_succ, List.set_cons_zero]
          generalize vs 7 = v7 at *
          generalize vs 8 = v8 at *
          obtain ⟨g', cap', rfl⟩ := ownsRow_succ HN.out
          have p0 := p_22.cell 0
          have p1 := p_22.cell 1
          have p2 := p_22.cell 2
          simp only [List.getElem?_toArray, List.getElem?_cons_zero, List.getElem?_cons_succ] at p0 p1 p2
          have pl := p_22.lt
          have pf2 := p_22.frozen 2
          have HB22 := Lib.hid B22
          have HP22 := Lib.hid p_22
          have HH22 := Lib.hid h_22
          have HM22 := Lib.hid m_22
          have HK22 := Lib.hid k_22
          clear B22 p_22 h_22 m_22 x_22 k_22
          go_wp2
          have hgz := grownBy_set V22 p 2 (.slice (some ⟨g', 0, none⟩) (q + 1) cap')
          refine bodyPost_ret (v := .int .i64 0) (by simp [results, Tryz.results32, go_sem]) rfl ⟨by rw [HP0.out], ?_, HB22.out.setCell (p := ⟨p, 2, none⟩) HLp.out _, HK22.out.trans (OKeep.grown hgz (fun r e cs t hc => by
            have e := Option.some.inj e
            subst e
            have hp := HP22.out
            unfold Blk at hp
            rw [hp] at hc
            cases hc
            exact .inl rfl))⟩
          rw [HPm.out]
          refine ⟨A, n, c, b, k + 1, some ⟨g', 0, none⟩, q + 1, cap', by omega, by simpa using HP22.out.set_ 2 (.slice (some ⟨g', 0, none⟩) (q + 1) cap'), ?_, HM22.out.kept hgz (fun e => HM22.out.ne_cells HP22.out (Option.some.inj e).symm), ?_, HLh.out, by rw [List.length_append, HLm.out]; rfl, HLp.out, HLb.out, hn9, by omega, fun m hm => ?_⟩
          · exact owns_grown HH22.out hgz (fun r hr e => own_ne HH22.out HP22.out (by decide) (by rw [hr, ← e]))
          · rw [List.map_append, List.flatMap_append]
            exact owns_grown HN.out hgz (fun r hr e => own_ne HN.out HP22.out (by decide) (by rw [hr, ← e]))
          · rcases List.mem_append.1 hm with hm | hm
            · exact HIs.out m hm
            · rw [List.mem_singleton.1 hm]; exact HIb.out.1
end Go.Proofs.YtighfmgkoepfkaaGreat

namespace Go.Proofs.YtighfmgkoepfkaaGreat
open Go.RowKit

theorem MvMap.look_same {w : World} {b n : Nat} {ms : List Mv} (h : MvMap w b n ms) {x : Int} (hx : -9223372036854775808 ≤ x ∧ x ≤ 9223372036854775807) :
    ∃ m : Mv, ∀ w', Below w.heap.size w w' → (Instr.lookup 137 (.map (some b)) (.int .i64 x) true).run Tryz.prog w' = .ok (.tuple #[vMv m, .bool (ms.any fun m => decide (m.id = x))]) w' := by
  obtain ⟨D, ho, h1, h2, h3⟩ := h
  obtain ⟨v, ps, hrun, hv⟩ := ho.look_ok int_key Tryz.underlying137 (zero_mv w) (rdMv_mv _) (Go.Maps.keyOf_int_mk Tryz.underlying3 (wf_lit hx))
  obtain ⟨m, e, e2⟩ := rdMv_form hv
  refine ⟨m, fun w' hb => ?_⟩
  obtain ⟨v', ps', hrun', hv'⟩ := (ho.kept (grown_of hb (Nat.le_refl _)) (by simp)).look_ok int_key Tryz.underlying137 (zero_mv w') (rdMv_mv _) (Go.Maps.keyOf_int_mk Tryz.underlying3 (wf_lit hx))
  obtain ⟨m', e', e3⟩ := rdMv_form hv'
  rw [h2] at hrun'
  rw [dMv_inj (e2.symm.trans e3), ← e']
  exact hrun'
/-- A block that is laid and then written, in a region that draws its order. -/
def AlP (B i : Nat) (t : TypeId) (ls : Nat → Bool) (vs : Nat → Value) (v : World) : Prop :=
  ls i = true → ∃ g a b c d e, vs i = .pointer (some ⟨g, 0, none⟩) ∧ B ≤ g ∧ Blk v g t #[a, b, c, d, e]
/-- The error of Take. -/
def toE (ms : List Mv) (x : Int) : Int := if (ms.any fun m => decide (m.id = x)) = true then 0 else 5
theorem drop_none {ms : List Mv} {x : Int} (h : (ms.any fun m => decide (m.id = x)) = false) : dropL ms [x] = ms := by
  unfold dropL
  refine List.filter_eq_self.2 fun m hm => ?_
  have := List.any_eq_false.1 h m hm
  simpa using this
theorem drop_ids (ms : List Mv) (x : Int) : (ms.map Mv.id).filter (fun y => !decide (y = x)) = (dropL ms [x]).map Mv.id := by
  unfold dropL
  rw [List.filter_map]
  congr 1
  refine List.filter_congr fun m _ => ?_
  simp
set_option maxRecDepth 100000 in
set_option maxHeartbeats 1600000 in
theorem take1_any (x id : Int) (g : Nat) (w : World) (h : Blk w g 3 #[.int .i64 id]) :
    Calls Tryz.prog 80 #[.int .i64 x, .pointer (some ⟨g, 0, none⟩)] w fun e w' => e = .returned (.bool (decide (x = id))) ∧ Below w.heap.size w w' := by
  have t0 := h.cell 0
  simp only [List.getElem?_toArray, List.getElem?_cons_zero] at t0
  have tl := h.lt
  go_enter Tryz.func80, Tryz.ntmps80
  go_wp2
  exact bodyPost_ret (v := .bool (decide (x = id))) (by simp [results, Tryz.results80, go_sem]; rfl) rfl ⟨rfl, Below.refl _ _⟩
theorem below_set5 {B : Nat} {w W : World} {g : Nat} (h : Below B w W) (hg : B ≤ g) (a b c d e : Value) :
    Below B w (((((W.setCell ⟨g, 0, none⟩ a).setCell ⟨g, 1, none⟩ b).setCell ⟨g, 2, none⟩ c).setCell ⟨g, 3, none⟩ d).setCell ⟨g, 4, none⟩ e) :=
  ((((h.setCell (p := ⟨g, 0, none⟩) hg a).setCell (p := ⟨g, 1, none⟩) hg b).setCell (p := ⟨g, 2, none⟩) hg c).setCell (p := ⟨g, 3, none⟩) hg d).setCell (p := ⟨g, 4, none⟩) hg e
theorem enter_take1 : ∀ args w, (callFunc 80 args).run Tryz.prog w = .ok (.enter 80 args) w := enters_of Tryz.func80 (by kernel_rfl) rfl
set_option maxRecDepth 100000 in
set_option maxHeartbeats 12800000 in
theorem Take_any (L p K : Nat) (hs : List Hd) (ms : List Mv) (x : Int) (w : World) (h : OfE w L p K hs ms) (hx : -9223372036854775808 ≤ x ∧ x ≤ 9223372036854775807) :
    Calls Tryz.prog 33 #[.pointer (some ⟨p, 0, none⟩), .int .i64 x] w (OpOut w L p K hs (toE ms x) (dropL ms [x])) := by
  have b0 := below_new w (.cells #[.int .i64 x] 3)
  have HX0 := Lib.hid (Blk.new w 3 #[.int .i64 x])
  obtain ⟨A, n, c, b, k, O, q, oc, hk, h⟩ := h
  have HLm := Lib.hid h.lm
  have HLh := Lib.hid h.lh
  have hq24 := h.q24
  have hn9 := h.n9
  have HLp := Lib.hid h.hp
  have HLb := Lib.hid h.hb
  have hpw : p < w.heap.size := h.blk.lt
  have hbw : b < w.heap.size := h.mp.lt
  have HRn := Lib.hid (fun (r : Nat) hr => (own_lt (g := r) h.orow hr).2)
  have HO0 := Lib.hid (h.below b0)
  have HB0 := Lib.hid (show Below L w (w.alloc (.cells #[.int .i64 x] 3)) from b0.mono (by have := HLp.out; omega))
  have HK0 := Lib.hid (OKeep.below b0)
  have HTe := Lib.hid (show toE ms x = if (ms.any fun m => decide (m.id = x)) = true then 0 else 5 from rfl)
  have HNo := Lib.hid (drop_none (ms := ms) (x := x))
  have HIs := Lib.hid (fun m (hm : m ∈ dropL ms [x]) => h.ids m (List.mem_filter.1 hm).1)
  have HLe := Lib.hid (show (dropL ms [x]).length ≤ 24 from Nat.le_trans (List.length_filter_le _ _) (by rw [h.lm]; exact hq24))
  have HDI := Lib.hid (drop_ids ms x)
  obtain ⟨m, hm⟩ := (h.mp.below b0).look_same hx
  have HLk := Lib.hid hm
  obtain ⟨bb, hbb⟩ : ∃ bb, (ms.any fun m => decide (m.id = x)) = bb := ⟨_, rfl⟩
  rw [hbb] at HLk HTe HNo
  clear h b0 hm hbb
  go_enter Tryz.func33, Tryz.ntmps33
  go_upto_region 1 with fail
  generalize hX : w.heap.size = X at *
  generalize hV : w.alloc (.cells #[.int .i64 x] 3) = V1 at *
  have HXv := Lib.hid (show V1.heap.size = X + 1 by rw [← hV, ← hX]; simp)
  clear hV hX
  obtain ⟨xi, xf, xt, xl, xh⟩ := m
  dsimp only [vMv] at HLk
  refine wp_region_preC 12 [(9, 5), (10, 1000)] (fun v => Below V1.heap.size V1 v) (AlP V1.heap.size 9 59) (by kernel_rfl) (by kernel_rfl) (Below.refl _ _) (fun v1 v2 h kk => h.trans (kk.mono h.size)) (fun v' hv' h => by cases h) ?hP ?ex
  case hP =>
    intro ls vs v v' _ h kk hl
    obtain ⟨g, a, b, c, d, e, q1, q2, q3⟩ := h hl
    exact ⟨g, a, b, c, d, e, q1, q2, q3.below kk⟩
  case ex =>
  apply Exists.intro
  refine ⟨?walk, ?loud, ?last⟩
  case walk =>
    intro V hV
    have o1 := (HO0.out.below hV).blk.cell 1
    have x0 := (HX0.out.below hV).cell 0
    simp only [List.getElem?_toArray, List.getElem?_cons_zero, List.getElem?_cons_succ] at o1 x0
    have ol := (HO0.out.below hV).blk.lt
    have xl' := (HX0.out.below hV).lt
    obtain ⟨xc, xf'⟩ := xcell (W := V)
    have xm : ∀ y : Ext V, (Instr.lookup 137 (.map (some b)) (.int .i64 x) true).run Tryz.prog y.w = .ok (.tuple #[.agg #[.int .i64 xi, .int .i64 xf, .int .i64 xt, .int .i64 xl, .int .i64 xh], .bool bb]) y.w := fun y => HLk.out y.w (hV.trans (y.below.mono hV.size))
    simp only [List.take_succ_cons, List.take_nil, qOf, isLoud, List.any_cons, List.any_nil, Nat.reduceBEq, Bool.or_false, Bool.or_true, Nat.reduceAdd, Bool.false_eq_true, if_true, if_false, beq_self_eq_true, Nat.zero_add]
    repeat (first | go_big_quiet_step (fail) | quiet_step (fail))
    exact wpQuiet_nil rfl
  case loud =>
    rintro pp hpp vs v hC ls hI hls hw o ho
    simp only [List.mem_cons, List.not_mem_nil, or_false] at hpp
    rcases hpp with rfl | rfl
    · simp only [List.getElem?_cons_succ, List.getElem?_cons_zero, Option.some.injEq] at ho
      subst ho
      simp [loudAt, loudUpon, go_sem, execOp]
      exact ⟨hC.alloc hC.size _, fun _ => ⟨v.heap.size, _, _, _, _, _, by simp [upd], hC.size, Blk.new _ _ _⟩⟩
    · obtain ⟨g, a, b, c, d, e, q1, q2, q3⟩ := hI (hw (9, 5) (by simp) (by kernel_rfl))
      simp only [List.getElem?_cons_succ, List.getElem?_cons_zero, Option.some.injEq] at ho
      subst ho
      have z0 := q3.cell 0
      have z1 := q3.cell 1
      have z2 := q3.cell 2
      have z3 := q3.cell 3
      have z4 := q3.cell 4
      simp only [List.getElem?_toArray, List.getElem?_cons_zero, List.getElem?_cons_succ] at z0 z1 z2 z3 z4
      have f0 := q3.frozen 0
      have f1 := q3.frozen 1
      have f2 := q3.frozen 2
      have f3 := q3.frozen 3
      have f4 := q3.frozen 4
      simp [loudAt, loudUpon, go_sem, execOp, putsL, Act.put, q1, z0, z1, z2, z3, z4, f0, f1, f2, f3, f4]
      refine ⟨below_set5 hC q2 _ _ _ _ _, fun _ => ⟨g, .int .i64 xi, .int .i64 xf, .int .i64 xt, .int .i64 xl, .int .i64 xh, by simp [upd, q1], q2, ?_⟩⟩
      have := ((((q3.set_ 0 (.int .i64 xi)).set_ 1 (.int .i64 xf)).set_ 2 (.int .i64 xt)).set_ 3 (.int .i64 xl)).set_ 4 (.int .i64 xh)
      simpa using this
  case last =>
  rintro ls vs v10 hv10 hI hls
  clear hI hls
  simp only [putsL, List.foldl_cons, List.foldl_nil, List.drop_succ_cons, List.drop_nil, Act.put, List.setIfInBounds_toArray, List.set_cons_succ, List.set_cons_zero, List.set_nil]
  generalize vs 9 = v9 at *
  generalize vs 10 = v10' at *
  clear vs ls
  have HX1 := Lib.hid (HX0.out.below hv10)
  have HO1 := Lib.hid (HO0.out.below hv10)
  have HB1 := Lib.hid (HB0.out.trans (hv10.mono (by have := HLp.out; have := HXv.out; omega)))
  have HK1 := Lib.hid (HK0.out.trans (OKeep.below hv10))
  clear hv10 HX0 HO0 HB0 HK0 HLk
  go_upto_region 2 with fail
  cases bb with
  | false =>
    have HD0 := Lib.hid (HNo.out rfl)
    have HT0 := Lib.hid (HTe.out.trans (if_neg (by decide)))
    go_wp2
    exact bodyPost_ret (v := .int .i64 5) (by simp [results, Tryz.results33, go_sem]) rfl ⟨by rw [HT0.out], by rw [HD0.out]; exact ⟨A, n, c, b, k, O, q, oc, by omega, HO1.out⟩, HB1.out, HK1.out⟩
  | true =>
    have HT0 := Lib.hid (HTe.out.trans (if_pos rfl))
    clear HTe HNo
    go_upto_region 4 with fail
    have o1 := HO1.out.blk.cell 1
    have x0 := HX1.out.cell 0
    simp only [List.getElem?_toArray, List.getElem?_cons_zero, List.getElem?_cons_succ] at o1 x0
    have ol := HO1.out.blk.lt
    have xl' := HX1.out.lt
    obtain ⟨xc, xf'⟩ := xcell (W := v10)
    refine wp_region_quiet_tail 5 (by kernel_rfl) (by kernel_rfl) ?_
    simp only [List.take_succ_cons, List.take_zero, List.drop_succ_cons, List.drop_zero]
    repeat (first | go_big_quiet_step (fail) | quiet_step (fail))
    refine wpQuiet_nil ?_
    intro w4 hb4
    have HX4 := Lib.hid (HX1.out.below hb4)
    have HO4 := Lib.hid (HO1.out.below hb4)
    have HB4 := Lib.hid (HB1.out.trans (hb4.mono (by have := HLp.out; omega)))
    have HK4 := Lib.hid (HK1.out.trans (OKeep.below hb4))
    clear o1 x0 ol xl' xc xf' hb4 HX1 HO1 HB1 HK1
    obtain ⟨w5, hst, hm5, hg5⟩ := HO4.out.mp.drop hx 0
    have HX5 := Lib.hid (HX4.out.grown hg5 (fun e => by have := Option.some.inj e; omega))
    have HP5 := Lib.hid (HO4.out.blk.grown hg5 (fun e => HO4.out.mp.ne_cells HO4.out.blk (Option.some.inj e).symm))
    have HH5 := Lib.hid (owns_grown HO4.out.hrow hg5 (fun r hr e => HO4.out.mp.ne_row HO4.out.hrow (by rw [hr, ← e])))
    have HR5 := Lib.hid (owns_grown HO4.out.orow hg5 (fun r hr e => HO4.out.mp.ne_row HO4.out.orow (by rw [hr, ← e])))
    have HB5 := Lib.hid (HB4.out.grown hg5 (by have := HLp.out; have := HO4.out.blk.lt; omega) (fun r hr => by have := HLb.out; have := Option.some.inj hr; omega))
    have HK5 := Lib.hid (HK4.out.trans (OKeep.grown hg5 (fun g e cs t hc => absurd (Option.some.inj e).symm (HO4.out.mp.ne_cells hc))))
    have HM5 := Lib.hid hm5
    have hLs : L ≤ w5.heap.size := by have := HLp.out; have := HP5.out.lt; omega
    clear hm5 hg5 HX4 HO4 HB4 HK4
    go_upto_region 5 with fail
    clear hst
    have p2 := HP5.out.cell 2
    simp only [List.getElem?_toArray, List.getElem?_cons_zero, List.getElem?_cons_succ] at p2
    have pl := HP5.out.lt
    have pf2 := HP5.out.frozen 2
    have hr5 := HR5.out
    rw [show q = (ms.map Mv.id).length by rw [List.length_map]; exact HLm.out.symm] at hr5
    have hdel := delI_row L (.slice O (ms.map Mv.id).length oc) (ms.map Mv.id) (fun y => decide (y = x)) 80 #[.pointer (some ⟨X, 0, none⟩)] enter_take1 w5 (fun W y hW => take1_any y x X W (HX5.out.grown hW (fun e => Nat.lt_irrefl X (HRn.out X (by rw [← e]; cases O <;> rfl))))) (by rw [List.length_map, HLm.out]; omega) hr5
    rw [HDI.out, show (ms.map Mv.id).length = q by rw [List.length_map]; exact HLm.out] at hdel
    have HDe := Lib.hid hdel
    clear hdel hr5
    go_wp2_with (go_at_call 65; (with_reducible refine HDe.out.mono ?_); rintro e u6 ⟨v', rfl, ho6, hg6, A6, c6, rfl⟩; have hp6 := HP5.out.grown hg6 (fun e => own_ne HR5.out HP5.out (by decide) e); have p6 := hp6.cell 2; simp only [List.getElem?_toArray, List.getElem?_cons_zero, List.getElem?_cons_succ] at p6; have pl6 := hp6.lt; have pf6 := hp6.frozen 2)
    have hgz := grownBy_set u6 p 2 (.slice A6 (dropL ms [x]).length c6)
    have hm6 := HM5.out.kept hg6 (fun e => HM5.out.ne_row HR5.out e.symm)
    have hh6 := owns_grown HH5.out hg6 (fun r hr e => own_ne2 HH5.out HR5.out (by decide) e hr)
    have hk6 := HK5.out.trans (OKeep.grown hg6 (fun r e cs t hc => by
      obtain ⟨cur, hcc⟩ := own_blk HR5.out e
      rw [hcc] at hc
      cases hc
      exact .inr rfl))
    have hb6 := HB5.out.grown hg6 hLs (fun r hr => (own_lt HR5.out hr).1)
    refine bodyPost_ret (v := .int .i64 0) (by simp [results, Tryz.results33, go_sem]) rfl ⟨by rw [HT0.out], ?_, hb6.setCell (p := ⟨p, 2, none⟩) HLp.out _, hk6.trans (OKeep.grown hgz (fun r e cs t hc => by
      have e := Option.some.inj e
      subst e
      unfold Blk at hp6
      rw [hp6] at hc
      cases hc
      exact .inl rfl))⟩
    refine ⟨A, n, c, b, k, A6, (dropL ms [x]).length, c6, by omega, by simpa using hp6.set_ 2 (.slice A6 (dropL ms [x]).length c6), ?_, hm6.kept hgz (fun e => hm6.ne_cells hp6 (Option.some.inj e).symm), ?_, HLh.out, rfl, HLp.out, HLb.out, hn9, HLe.out, HIs.out⟩
    · exact owns_grown hh6 hgz (fun r hr e => own_ne hh6 hp6 (by decide) (by rw [hr, ← e]))
    · rw [List.length_map] at ho6
      exact owns_grown ho6 hgz (fun r hr e => own_ne ho6 hp6 (by decide) (by rw [hr, ← e]))
end Go.Proofs.YtighfmgkoepfkaaGreat
