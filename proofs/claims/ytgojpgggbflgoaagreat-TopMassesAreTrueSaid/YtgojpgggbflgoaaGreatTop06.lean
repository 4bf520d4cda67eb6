/- A hydrometer by its ID; the glasses of a hydrometer: the iterator. The errors that a hydrometer can have. The errors of right hydrometers; the densities of the water. The densities of the water of a survey. The sums of the marks with the least and the greatest mean draught. -/
import Derived.RangeFuncNested
import Derived.Shelf.Abstract
import Derived.RangeFuncBound
import Derived.RangeFuncCalls
import Derived.RangeFuncLeaves
import Derived.OwnWalkIn
import Derived.TacticsInMore
import Derived.LoopNIn
import Derived.Test.YtgojpgggbflgoaaGreatTop05
namespace Go.Proofs.YtgojpgggbflgoaaGreat
open Go.RowKit

/-- What a round must leave alone. -/
structure KeepL (l : List Nat) (W W' : World) : Prop where
  blk : ∀ g ∈ l, W'.heap[g]? = W.heap[g]?
  size : W.heap.size ≤ W'.heap.size
theorem keepL_t {l : List Nat} {X Y Z : World} (h : KeepL l X Y) (k : KeepL l Y Z) : KeepL l X Z := ⟨fun g hg => (k.1 g hg).trans (h.1 g hg), Nat.le_trans h.2 k.2⟩
theorem keepL_b {L : List Nat} {w : World} (hL : ∀ g ∈ L, g < w.heap.size) (W : World) (l : Nat) (o o' : Obj) (hl : w.heap.size ≤ l) (_ : W.heap[l]? = some o) (_ : o.isCells = false) (_ : o.isWalk = false) : KeepL L W (W.putObj l o') :=
  ⟨fun g hg => World.putObj_heap_other (by have := hL g hg; omega), by simp [World.putObj]⟩
theorem keepL_below {l : List Nat} {n : Nat} {W W' : World} (h : Below n W W') (hL : ∀ g ∈ l, g < n) : KeepL l W W' := ⟨fun g hg => h.block g (hL g hg), h.size⟩
theorem keepL_refl (l : List Nat) (W : World) : KeepL l W W := ⟨fun _ _ => rfl, Nat.le_refl _⟩
theorem KeepL.cell {l : List Nat} {W W' : World} (h : KeepL l W W') {g o : Nat} (hg : g ∈ l) {v : Value} (hc : W.cell? ⟨g, o, none⟩ = some v) : W'.cell? ⟨g, o, none⟩ = some v :=
  (World.cell?_of_block (w := W) (h.1 g hg)).trans hc
set_option maxHeartbeats 1600000 in
theorem hydro_any (A : Option Addr) (n c : Nat) (B : Option Addr) (m d : Nat) (ys : List Hy) (id : Int) (w : World) (hA : SAt encY 3 w A n ys) (hn : n ≤ 9223372036854775807) :
    Calls Tryz.prog 108 #[.agg #[.slice A n c, .slice B m d], .int .i64 id] w fun e w' => ∃ y, e = .returned (.tuple #[vHy y, .bool (decide (0 ≤ idx (fun x => x.id == id) ys))]) ∧ (∀ k (q : k < ys.length), idx (fun x => x.id == id) ys = k → y = ys[k]) ∧ Below w.heap.size w w' := by
  have hb0 := (((Below.refl w.heap.size w).alloc (Nat.le_refl _) (.cells #[.slice A n c, .slice B m d] 31)).alloc (by simp) (.cells #[.int .i64 id] 3)).alloc (by simp; omega) (.cells #[.int .i64 0, .int .i64 0, .int .i64 0] 68)
  have t0 := ((Blk.new w 31 #[.slice A n c, .slice B m d]).alloc (.cells #[.int .i64 id] 3)).alloc (.cells #[.int .i64 0, .int .i64 0, .int .i64 0] 68)
  have i0 := (Blk.at_new (W := w.alloc (.cells #[.slice A n c, .slice B m d] 31)) (g := w.heap.size + 1) 3 #[.int .i64 id] (by simp)).alloc (.cells #[.int .i64 0, .int .i64 0, .int .i64 0] 68)
  have r0 := Blk.at_new (W := (w.alloc (.cells #[.slice A n c, .slice B m d] 31)).alloc (.cells #[.int .i64 id] 3)) (g := w.heap.size + 2) 68 #[.int .i64 0, .int .i64 0, .int .i64 0] (by simp)
  have HA := Lib.hid (hA.below hb0)
  clear hA
  have HF := Lib.hid (fun (u : World) (hu : SAt encY 3 u A n ys) (hB' : w.heap.size + 1 < u.heap.size) (hc' : u.cell? ⟨w.heap.size + 1, 0, none⟩ = some (.int .i64 id)) => fdY3_any A n c ys id (w.heap.size + 1) u hu hn hB' hc')
  generalize idx (fun x : Hy => x.id == id) ys = ix at *
  go_enter Tryz.func108, Tryz.ntmps108
  go_upto_region 1 with fail
  generalize hW : ((w.alloc (.cells #[.slice A n c, .slice B m d] 31)).alloc (.cells #[.int .i64 id] 3)).alloc (.cells #[.int .i64 0, .int .i64 0, .int .i64 0] 68) = W at *
  clear hW
  have HR := Lib.hid r0
  have HB := Lib.hid hb0
  obtain ⟨y0, y1, yl⟩ := cells2 t0
  have z0 := i0.cell 0
  simp only [List.getElem?_toArray, List.getElem?_cons_zero] at z0
  have HC := Lib.hid (HF.out W HA.out i0.lt z0)
  clear t0 i0 r0 hb0 HF z0
  go_upto_region 2 with (go_at_call 38; (with_reducible refine HC.out.mono ?_); rintro e u1 ⟨y, rfl, hy, hb1⟩; obtain ⟨a0, a1, a2⟩ := y)
  have bq := below_new u1 (.cells #[.int .i64 a0, .int .i64 a1, .int .i64 a2] 68)
  have bn := hb1.trans (bq.mono hb1.size)
  have HR1 := Lib.hid (HR.out.below bn)
  have HB1 := Lib.hid (HB.out.trans (bn.mono HB.out.size))
  have HN1 := Lib.hid (Blk.new u1 68 #[.int .i64 a0, .int .i64 a1, .int .i64 a2])
  have HY := Lib.hid hy
  generalize hV : u1.alloc (.cells #[.int .i64 a0, .int .i64 a1, .int .i64 a2] 68) = V at *
  generalize hg : u1.heap.size = g at *
  clear hV hg bq bn hb1 hy y0 y1 yl HC
  obtain ⟨z0, z1, z2, zl⟩ := cells3 HN1.out
  obtain ⟨r0, r1, r2, rl⟩ := cells3 HR1.out
  obtain ⟨f0, f1, f2⟩ := frz3 HR1.out
  go_wp2
  have hz := ((HR1.out.set_ 0 (.int .i64 a0)).set_ 1 (.int .i64 a1)).set_ 2 (.int .i64 a2)
  simp only [List.setIfInBounds_toArray, List.set_cons_zero, List.set_cons_succ] at hz
  have hbz := ((HB1.out.setCell (p := ⟨w.heap.size + 2, 0, none⟩) (by simp) (.int .i64 a0)).setCell (p := ⟨w.heap.size + 2, 1, none⟩) (by simp) (.int .i64 a1)).setCell (p := ⟨w.heap.size + 2, 2, none⟩) (by simp) (.int .i64 a2)
  obtain ⟨x0, x1, x2, _⟩ := cells3 hz
  exact bodyPost_ret (v := .tuple #[vHy ⟨a0, a1, a2⟩, .bool (decide (0 ≤ ix))]) (by simp [results, Tryz.results108, go_sem, x0, x1, x2]) rfl ⟨_, rfl, HY.out, hbz⟩
/-! ### the glasses of a hydrometer -/
abbrev vTd (g : Gs) : Value := .agg #[.int .i64 g.id, .int .i64 g.hy, .int .i64 g.dense, .int .i64 g.lo, .int .i64 g.hi, .int .i64 (g.lo - g.dense), .int .i64 (g.hi - g.dense)]
def encT (g : Gs) : Array Value := #[vTd g]
theorem glasses_any (A : Option Addr) (n c : Nat) (B : Option Addr) (m d : Nat) (id : Int) (w : World) :
    Calls Tryz.prog 114 #[.agg #[.slice A n c, .slice B m d], .int .i64 id] w fun e w' => e = .returned (.func (.func 117) #[] #[.pointer (some ⟨w.heap.size, 0, none⟩), .pointer (some ⟨w.heap.size + 1, 0, none⟩)]) ∧ (w.alloc (.cells #[.slice A n c, .slice B m d] 31)).alloc (.cells #[.int .i64 id] 3) = w' := by
  go_enter Tryz.func114, Tryz.ntmps114
  go_wp2
  go_ret
  exact ⟨rfl, rfl⟩
attribute [local go_sem] Oper.semAt_some
set_option maxHeartbeats 1600000 in
theorem glasses1_in (n l B1 B2 : Nat) (A : Option Addr) (ny cy : Nat) (B : Option Addr) (m d : Nat) (gs : List Gs) (id : Int) (bg og : Nat) (hBe : B = some ⟨bg, og, none⟩ ∨ m = 0) (hbd : ∀ g ∈ gs, (-1000000 ≤ g.lo ∧ g.lo ≤ 1000000) ∧ (-1000000 ≤ g.hi ∧ g.hi ≤ 1000000) ∧ (-1000000 ≤ g.dense ∧ g.dense ≤ 1000000)) (J Jx : List Gs → World → Prop)
    (hY : ∀ pre x W1, J pre W1 → pre.length < m → YieldAt Fence.wide (n - 1) Tryz.prog l (encT x) W1 fun e W' =>
      (e = .returned (.bool true) ∧ J (pre ++ [x]) W' ∧ KeepL [B1, B2, bg] W1 W') ∨ (e = .returned (.bool false) ∧ Jx (pre ++ [x]) W'))
    (hJ : ∀ s W W', J s W → Below W.heap.size W W' → J s W') (W : World) (hm : m ≤ 1000000) (h1 : Blk W B1 31 #[.slice A ny cy, .slice B m d]) (h2 : Blk W B2 3 #[.int .i64 id]) (hG : SAt encG 5 W B m gs) (hb : bg < W.heap.size) (h0 : J [] W) :
    CallsIn Fence.wide n Tryz.prog 117 #[.func (.yield l) #[] #[], .pointer (some ⟨B1, 0, none⟩), .pointer (some ⟨B2, 0, none⟩)] W fun e W' => (∃ v, e = .returned v) ∧
      ((∃ xs, xs = gs.filter (fun g => g.hy == id) ∧ J xs W') ∨ (∃ pre : List Gs, True ∧ Jx pre W')) := by
  have HL := Lib.hid hG.len
  have hb1 := h1.lt
  have hb2 := h2.lt
  have HK0 := Lib.hid (show ∀ g ∈ [B1, B2, bg], g < W.heap.size from fun g hg => by
    simp only [List.mem_cons, List.not_mem_nil, or_false] at hg
    rcases hg with rfl | rfl | rfl <;> assumption)
  have HG := Lib.hid hG
  obtain ⟨_, y1, _⟩ := cells2 h1
  have z0 := h2.cell 0
  simp only [List.getElem?_toArray, List.getElem?_cons_zero] at z0
  have HZ := Lib.hid z0
  clear h1 h2 hG
  refine callsIn_of_wp Tryz.func117 rfl trivial ?_ rfl
  simp only [Tryz.ntmps117, List.size_toArray, List.length_cons, List.length_nil, Nat.reduceAdd, Nat.reduceSub, Array.replicate_succ, Array.replicate_zero, List.push_toArray, List.append_toArray, List.nil_append, List.cons_append]
  gi_wp2
  gi_loopw [5, 9] (fun _ i wr => ∃ j : Nat, j ≤ m ∧ i = .int .i64 (j : Int) ∧ J ((gs.take j).filter (fun g => g.hy == id)) wr ∧ KeepL [B1, B2, bg] W wr)
    (fun _ i _ => m - (intOf i).toNat)
  case atStart =>
    exact ⟨0, Nat.zero_le _, rfl, by simpa using h0, keepL_refl _ _⟩
  case round =>
    obtain ⟨j, hj, rfl, hJs, hkp⟩ := hrel
    have HKp := Lib.hid hkp
    have hsz := hkp.size
    have zc := hkp.cell (by simp) HZ.out
    clear hkp
    by_cases hlt : j < m
    · obtain rfl : B = some ⟨bg, og, none⟩ := hBe.resolve_right (by omega)
      have hjl : j < gs.length := by rw [HL.out]; exact hlt
      obtain ⟨b', o', e', hl⟩ := HG.out.at_ (by omega)
      obtain ⟨rfl, rfl⟩ : bg = b' ∧ og = o' := by cases e'; exact ⟨rfl, rfl⟩
      obtain ⟨c0, c1, c2, c3, c4⟩ := Gss.at_ hl (List.getElem?_eq_getElem hjl)
      have d0 := HKp.out.cell (by simp) c0
      have d1 := HKp.out.cell (by simp) c1
      have d2 := HKp.out.cell (by simp) c2
      have d3 := HKp.out.cell (by simp) c3
      have d4 := HKp.out.cell (by simp) c4
      have HT := Lib.hid (show (gs.take (j + 1)).filter (fun g => g.hy == id) = (gs.take j).filter (fun g => g.hy == id) ++ (if ((gs[j]).hy == id) = true then [gs[j]] else []) by
        rw [List.take_succ_eq_append_getElem hjl, List.filter_append]
        congr 1
        simp [List.filter_cons])
      have hgb := hbd _ (List.getElem_mem hjl)
      clear hl c0 c1 c2 c3 c4 e'
      have hbw : bg < wr.heap.size := by omega
      have HLen := Lib.hid (show ((gs.take j).filter (fun g => g.hy == id)).length < m from Nat.lt_of_le_of_lt (List.length_filter_le _ _) (by rw [List.length_take]; omega))
      generalize gs[j] = x at *
      obtain ⟨xi, xh, xd, xl, xu⟩ := x
      dsimp only at d0 d1 d2 d3 d4 hgb HT
      have hb2 := below_new wr (.cells #[.int .i64 xi, .int .i64 xh, .int .i64 xd, .int .i64 xl, .int .i64 xu] 70)
      have HK2 := Lib.hid (keepL_t HKp.out (keepL_below hb2 (fun g hg => Nat.lt_of_lt_of_le (HK0.out g hg) hsz)))
      have hJ2 := hJ _ _ _ hJs hb2
      have HJ2 := Lib.hid hJ2
      have hB2w : B2 < wr.heap.size := by omega
      clear hb2 hJs
      cases hq : (xh == id) with
      | true =>
        rw [hq] at HT
        obtain ⟨fn, tmps, assign, body, hy, hR⟩ := hY ((gs.take j).filter (fun g => g.hy == id)) ⟨xi, xh, xd, xl, xu⟩ _ hJ2 HLen.out
        unfold encT at hy
        dsimp only [vTd] at hy
        clear hJ2
        gi_wp2
        refine ⟨fun h => (by cases h), hR.mono ?_⟩
        rintro e W' (⟨rfl, hJ', hk⟩ | ⟨rfl, hJx'⟩)
        · gi_wp2
          go_roundw
          case rel => exact ⟨j + 1, by omega, by go_num, by rw [HT.out, if_pos trivial]; exact hJ', keepL_t HK2.out hk⟩
          case measure => simp [intOf]; omega
        · gi_wp2
          refine bodyPost_ret (results_none rfl _ _ _) rfl ?_
          exact ⟨⟨_, rfl⟩, .inr ⟨_, trivial, hJx'⟩⟩
      | false =>
        rw [hq] at HT
        clear hJ2
        gi_wp2
        refine ⟨fun f h => (by cases h), ?_⟩
        gi_wp2
        go_roundw
        case rel => exact ⟨j + 1, by omega, by go_num, by rw [HT.out, if_neg (by decide), List.append_nil]; exact HJ2.out, HK2.out⟩
        case measure => simp [intOf]; omega
    · obtain rfl : j = m := by omega
      have HJ := Lib.hid (show gs.take j = gs by rw [← HL.out, List.take_length])
      gi_wp2
      go_end0
      exact ⟨⟨_, rfl⟩, .inl ⟨_, rfl, by rw [HJ.out] at hJs; exact hJs⟩⟩
end Go.Proofs.YtgojpgggbflgoaaGreat

namespace Go.Proofs.YtgojpgggbflgoaaGreat
open Go.RowKit

theorem glasses_stops (n B1 B2 : Nat) (A : Option Addr) (ny cy : Nat) (B : Option Addr) (m d : Nat) (gs : List Gs) (id : Int) (bg og : Nat) (hBe : B = some ⟨bg, og, none⟩ ∨ m = 0) (hbd : ∀ g ∈ gs, (-1000000 ≤ g.lo ∧ g.lo ≤ 1000000) ∧ (-1000000 ≤ g.hi ∧ g.hi ≤ 1000000) ∧ (-1000000 ≤ g.dense ∧ g.dense ≤ 1000000)) (hm : m ≤ 1000000) (w : World) (h1 : Blk w B1 31 #[.slice A ny cy, .slice B m d]) (h2 : Blk w B2 3 #[.int .i64 id]) (hG : SAt encG 5 w B m gs) (hb : bg < w.heap.size) :
    SeqStopsK Fence.wide n Tryz.prog 117 #[.pointer (some ⟨B1, 0, none⟩), .pointer (some ⟨B2, 0, none⟩)] encT (KeepL [B1, B2, bg]) (fun xs => xs = gs.filter (fun g => g.hy == id)) (fun _ => True) m w :=
  fun l J Jx W hW hJ _ hY h0 => glasses1_in n l B1 B2 A ny cy B m d gs id bg og hBe hbd J Jx hY (fun s A A' hs hb => hJ s A A' none hs (grownBy_of_below hb) (fun r e => by cases e)) W hm (h1.below hW) (h2.below hW) (hG.below hW) (Nat.lt_of_lt_of_le hb hW.size) h0
/-- What one glass leaves of the errors. -/
def erF (s : Int × Int) (g : Gs) : Int × Int := if g.id != 0 then (max s.1 (g.lo - g.dense), min s.2 (g.hi - g.dense)) else s
def erL (lo hi : Int) (l : List Gs) : Int × Int := l.foldl erF (lo, hi)
theorem erL_snoc (lo hi : Int) (l : List Gs) (g : Gs) : erL lo hi (l ++ [g]) = erF (erL lo hi l) g := by simp [erL]
/-- The errors that a hydrometer can have. -/
def offS (gs : List Gs) (y : Hy) : Int × Int := erL y.lo y.hi (gs.filter fun g => g.hy == y.id)
theorem keepL_set {L : List Nat} {W : World} {p : Addr} {v : Value} (h : ∀ g ∈ L, g ≠ p.block) : KeepL L W (W.setCell p v) := ⟨fun g hg => Below.heap_setCell W p v g (h g hg), by simp [World.setCell]⟩
attribute [local go_sem] Oper.semAt_some
set_option maxRecDepth 100000 in
set_option maxHeartbeats 3200000 in
theorem errors_any (A : Option Addr) (n c : Nat) (B : Option Addr) (m d : Nat) (gs : List Gs) (y : Hy) (w : World) (hG : SAt encG 5 w B m gs) (hbd : ∀ g ∈ gs, (-1000000 ≤ g.lo ∧ g.lo ≤ 1000000) ∧ (-1000000 ≤ g.hi ∧ g.hi ≤ 1000000) ∧ (-1000000 ≤ g.dense ∧ g.dense ≤ 1000000)) (hm : m ≤ 1000000) :
    Calls Tryz.prog 109 #[.agg #[.slice A n c, .slice B m d], vHy y, .int .i64 0] w fun e w' => e = .returned (vSp (offS gs y).1 (offS gs y).2) ∧ Below w.heap.size w w' := by
  obtain ⟨bg, og, hBe, hbg⟩ : ∃ bg og, (B = some ⟨bg, og, none⟩ ∨ m = 0) ∧ bg ≤ w.heap.size := by
    by_cases h0 : m = 0
    · exact ⟨w.heap.size, 0, .inr h0, Nat.le_refl _⟩
    · obtain ⟨b, off, e, hl⟩ := hG.at_ (by omega)
      exact ⟨b, off, .inl e, Nat.le_of_lt hl.lt⟩
  obtain ⟨yi, yl, yh⟩ := y
  have HO := Lib.hid (show ∀ xs, xs = gs.filter (fun g => g.hy == yi) → erL yl yh xs = offS gs ⟨yi, yl, yh⟩ from fun xs e => by rw [e]; rfl)
  generalize offS gs ⟨yi, yl, yh⟩ = oS at *
  dsimp only [vHy]
  refine (callsIn_wide (n := 3)).1 (callsIn_of_wp_marks Tryz.func109 rfl trivial ?_ rfl)
  simp only [Tryz.ntmps109, List.size_toArray, List.length_cons, List.length_nil, Nat.reduceAdd, Nat.reduceSub, Array.replicate_succ, Array.replicate_zero, List.push_toArray, List.append_toArray, List.nil_append, List.cons_append]
  gi_wp2_with (refine ⟨trivial, ?_⟩; gi_at_call 114; refine (callsIn_wide.2 (glasses_any _ _ _ _ _ _ _ _)).mono ?_; rintro e w' ⟨rfl, rfl⟩)
  generalize hW0 : ((((((w.alloc (.cells #[.slice A n c, .slice B m d] 31)).alloc (.cells #[.int .i64 yi, .int .i64 yl, .int .i64 yh] 68)).alloc (.cells #[.int .i64 0] 3)).alloc (.cells #[.int .i64 0, .int .i64 0] 43)).alloc (.cells #[.int .i64 yl, .int .i64 yh] 43)).alloc (.cells #[.slice A n c, .slice B m d] 31)).alloc (.cells #[.int .i64 yi] 3) = W0
  have hs0 : W0.heap.size = w.heap.size + 7 := by rw [← hW0]; simp
  have k2 : Blk W0 (w.heap.size + 2) 3 #[.int .i64 0] := by rw [← hW0]; exact ((((Blk.at_new _ _ (by simp)).alloc _).alloc _).alloc _).alloc _
  have k3 : Blk W0 (w.heap.size + 3) 43 #[.int .i64 0, .int .i64 0] := by rw [← hW0]; exact (((Blk.at_new _ _ (by simp)).alloc _).alloc _).alloc _
  have k4 : Blk W0 (w.heap.size + 4) 43 #[.int .i64 yl, .int .i64 yh] := by rw [← hW0]; exact ((Blk.at_new _ _ (by simp)).alloc _).alloc _
  have k5 : Blk W0 (w.heap.size + 5) 31 #[.slice A n c, .slice B m d] := by rw [← hW0]; exact (Blk.at_new _ _ (by simp)).alloc _
  have k6 : Blk W0 (w.heap.size + 6) 3 #[.int .i64 yi] := by rw [← hW0]; exact Blk.at_new _ _ (by simp)
  have hbw : Below w.heap.size w W0 := by rw [← hW0]; exact (((((((Below.refl _ _).alloc (Nat.le_refl _) _).alloc (by simp) _).alloc (by simp; omega) _).alloc (by simp; omega) _).alloc (by simp; omega) _).alloc (by simp; omega) _).alloc (by simp; omega) _
  clear hW0
  have hG0 := hG.below hbw
  have hKL : ∀ g ∈ [w.heap.size + 5, w.heap.size + 6, bg], g < W0.heap.size := fun g hg => by
    simp only [List.mem_cons, List.not_mem_nil, or_false] at hg
    rcases hg with rfl | rfl | rfl <;> omega
  have hKN : ∀ g ∈ [w.heap.size + 5, w.heap.size + 6, bg], g ≠ w.heap.size + 4 := fun g hg => by
    simp only [List.mem_cons, List.not_mem_nil, or_false] at hg
    rcases hg with rfl | rfl | rfl <;> omega
  refine wpIn_rangeFunc_ownH (α := Gs) rfl (by omega) (gf := 117) (lb := #[.pointer (some ⟨w.heap.size + 5, 0, none⟩), .pointer (some ⟨w.heap.size + 6, 0, none⟩)]) rfl trivial (enters_of Tryz.func117 (by kernel_rfl) rfl)
    (glasses_stops _ (w.heap.size + 5) (w.heap.size + 6) A n c B m d gs yi bg og hBe hbd hm W0 k5 k6 hG0 (by omega)) keepL_t (keepL_b hKL) (Below.refl _ _) (fun x => (rfl : (encT x).size = 1))
    (fun pre W => Blk W (w.heap.size + 4) 43 #[.int .i64 (erL yl yh pre).1, .int .i64 (erL yl yh pre).2] ∧ Blk W (w.heap.size + 2) 3 #[.int .i64 0] ∧ Blk W (w.heap.size + 3) 43 #[.int .i64 0, .int .i64 0] ∧ Below w.heap.size w W ∧ W0.heap.size ≤ W.heap.size)
    (fun _ _ _ => False)
    (fun pre X Y row hs hg hr => ⟨Blk.own (β := Unit) _ _ _ _ () X Y row hs.1 hg hr, Blk.own (β := Unit) _ _ _ _ () X Y row hs.2.1 hg hr, Blk.own (β := Unit) _ _ _ _ () X Y row hs.2.2.1 hg hr, ownFrom_below (β := Unit) (Nat.le_refl _) (show w.heap.size ≤ W0.heap.size by omega) () X Y row hs.2.2.2.1 hg hr, Nat.le_trans hs.2.2.2.2 hg.size⟩)
    (fun _ _ _ _ _ h => h.elim) ⟨k4, k2, k3, hbw, Nat.le_refl _⟩
    (fun x a' W => ∃ Bx, W0.heap.size ≤ Bx ∧ Blk W Bx 196 #[.int .i64 x.id, .int .i64 x.hy, .int .i64 x.dense, .int .i64 x.lo, .int .i64 x.hi, .int .i64 (x.lo - x.dense), .int .i64 (x.hi - x.dense)] ∧
      a' = { tmps := #[.agg #[.slice A n c, .slice B m d], .agg #[.int .i64 yi, .int .i64 yl, .int .i64 yh], .int .i64 0, .pointer (some ⟨w.heap.size, 0, none⟩), .pointer (some ⟨w.heap.size + 1, 0, none⟩), .pointer (some ⟨w.heap.size + 2, 0, none⟩), .pointer (some ⟨w.heap.size + 3, 0, none⟩), .pointer (some ⟨w.heap.size + 4, 0, none⟩), .pointer (some ⟨Bx, 0, none⟩), .pointer (some ⟨w.heap.size + 1, 1, none⟩), .agg #[.int .i64 yl, .int .i64 yh], .agg #[.slice A n c, .slice B m d], .pointer (some ⟨w.heap.size + 1, 0, none⟩), .int .i64 yi, .func (.func 117) #[] #[.pointer (some ⟨w.heap.size + 5, 0, none⟩), .pointer (some ⟨w.heap.size + 6, 0, none⟩)], vTd x, undef, undef, undef, undef, undef, undef, undef, undef, undef, undef], defers := [] })
    ?hAx ?assign ?body ?done ?stop
  case hAx =>
    rintro x a' _ X Y row ⟨Bx, h1, h2, h3⟩ hg hr
    exact ⟨Bx, h1, Blk.own (β := Unit) _ _ _ _ () X Y row h2 hg hr, h3⟩
  case assign =>
    rintro l pre x W K ⟨hi1, hi2, hi3, hi4, hi5⟩ hK
    unfold encT
    gi_wp2
    exact hK _ _ ((KeepsOthers.alloc _ _).from _) (keepL_below ((Below.refl _ W).alloc (Nat.le_refl _) _) (fun g hg => Nat.lt_of_lt_of_le (hKL g hg) hi5)) ⟨hi1.alloc _, hi2.alloc _, hi3.alloc _, hi4.alloc hi4.size _, by simp; omega⟩ ⟨W.heap.size, hi5, Blk.new W _ _, rfl⟩
  case body =>
    rintro l pre x _ W hl ⟨r, hr⟩ ⟨hi1, hi2, hi3, hi4, hi5⟩ ⟨Bx, hBx, hpc, rfl⟩ hlen
    have HS := Lib.hid (erL_snoc yl yh pre x)
    obtain ⟨xi, xh, xd, xl, xu⟩ := x
    dsimp only at hpc HS ⊢
    have HS2 := Lib.hid (show erL yl yh (pre ++ [⟨xi, xh, xd, xl, xu⟩]) = if xi != 0 then (max (erL yl yh pre).1 (xl - xd), min (erL yl yh pre).2 (xu - xd)) else erL yl yh pre from HS.out)
    clear HS
    obtain ⟨sp, hsp⟩ : ∃ sp, erL yl yh pre = sp := ⟨_, rfl⟩
    rw [hsp] at hi1 HS2
    obtain ⟨s1, s2⟩ := sp
    dsimp only at hi1 HS2
    have HI1 := Lib.hid hi1
    have HI2 := Lib.hid hi2
    have HI3 := Lib.hid hi3
    have HI4 := Lib.hid hi4
    have HPc := Lib.hid hpc
    obtain ⟨a0, a1, al⟩ := cells2 hi1
    have b0 := hi2.cell 0
    have q0 := hpc.cell 0
    have q5 := hpc.cell 5
    have q6 := hpc.cell 6
    simp only [List.getElem?_toArray, List.getElem?_cons_zero, List.getElem?_cons_succ] at b0 q0 q5 q6
    have bl := hi2.lt
    have ql := hpc.lt
    clear hi1 hi2 hi3 hi4 hpc k2 k3 k4 k5 k6 hsp
    by_cases hx : xi = 0
    · subst hx
      have HS3 := Lib.hid (show erL yl yh (pre ++ [⟨0, xh, xd, xl, xu⟩]) = (s1, s2) by rw [HS2.out]; rfl)
      gi_wp2
      refine ⟨keepsFrom_below (Below.refl _ _), keepL_refl _ _, ?_, HI2.out, HI3.out, HI4.out, hi5⟩
      rw [HS3.out]
      exact HI1.out
    · have hxb : (xi != 0) = true := by simpa using hx
      have HS3 := Lib.hid (show erL yl yh (pre ++ [⟨xi, xh, xd, xl, xu⟩]) = (max s1 (xl - xd), min s2 (xu - xd)) by rw [HS2.out, if_pos hxb])
      clear hx
      gi_wp2_with (refine ⟨trivial, ?_⟩; gi_at_call 53; refine (CallsIn.inRound _ (callsIn_wide.2 (meet_any _ _ _ _ _))).mono ?_; rintro e w2 ⟨rfl, hb2⟩; obtain ⟨c0, c1, cl⟩ := cells2 (HI1.out.below hb2); have f0 := (HI1.out.below hb2).frozen 0; have f1 := (HI1.out.below hb2).frozen 1)
      have hg2 := grown_set2 w2 (w.heap.size + 4) (.int .i64 (max s1 (xl - xd))) (.int .i64 (min s2 (xu - xd)))
      refine ⟨(keepsFrom_below hb2).trans (((KeepsOthers.setCell _ _ _).trans (KeepsOthers.setCell _ _ _)).from _), keepL_t (keepL_below hb2 (fun g hg => Nat.lt_of_lt_of_le (hKL g hg) hi5)) (keepL_t (keepL_set hKN) (keepL_set hKN)), ?_, (HI2.out.below hb2).grown hg2 (by intro e; have := Option.some.inj e; omega), (HI3.out.below hb2).grown hg2 (by intro e; have := Option.some.inj e; omega), below_set2 (HI4.out.trans (hb2.mono HI4.out.size)) (by omega) _ _, by have := hb2.size; simp; omega⟩
      rw [HS3.out]
      exact blk_set2 (HI1.out.below hb2) _ _
  case done =>
    rintro D xs W hD hxs ⟨hi1, hi2, hi3, hi4, hi5⟩ hK
    rw [HO.out xs hxs] at hi1
    have HI3 := Lib.hid hi3
    have HI4 := Lib.hid hi4
    obtain ⟨a0, a1, al⟩ := cells2 hi1
    obtain ⟨r0, r1, rl⟩ := cells2 hi3
    have f0 := hi3.frozen 0
    have f1 := hi3.frozen 1
    have HKD := Lib.hid (show ((W.setCell ⟨w.heap.size + 3, 0, none⟩ (.int .i64 oS.1)).setCell ⟨w.heap.size + 3, 1, none⟩ (.int .i64 oS.2)).heap[D]? = some (.deferred (some [])) from
      (Below.heap_setCell _ ⟨w.heap.size + 3, 1, none⟩ _ D (by simp; omega)).trans ((Below.heap_setCell _ ⟨w.heap.size + 3, 0, none⟩ _ D (by simp; omega)).trans hK))
    clear k2 k3 k4 k5 k6 hi1 hi2 hi3 hi4 hxs hK
    gi_wp2
    refine leave_one (D := D) HKD.out ?_
    obtain ⟨z0, z1, _⟩ := cells2 (Blk.put (D := D) (o := .deferred none) (blk_set2 HI3.out (.int .i64 oS.1) (.int .i64 oS.2)) (by omega))
    exact ⟨vSp oS.1 oS.2, by simp [results, Tryz.results109, go_sem, z0, z1], rfl, below_put (below_set2 HI4.out (by omega) _ _) (by omega)⟩
  case stop => exact fun _ _ _ _ _ _ h => h.elim
end Go.Proofs.YtgojpgggbflgoaaGreat

namespace Go.Proofs.YtgojpgggbflgoaaGreat
open Go.RowKit

def GsOk (gs : List Gs) : Prop := ∀ g ∈ gs, (-1000000 ≤ g.lo ∧ g.lo ≤ 1000000) ∧ (-1000000 ≤ g.hi ∧ g.hi ≤ 1000000) ∧ (-1000000 ≤ g.dense ∧ g.dense ≤ 1000000)
def offY (ys : List Hy) (id : Int) : Hy := ys.getD (idx (fun x => x.id == id) ys).toNat default
/-- The errors that a hydrometer can have, or an error. -/
def offR (ys : List Hy) (gs : List Gs) (id : Int) : (Int × Int) × Int :=
  if idx (fun x => x.id == id) ys < 0 then ((0, 0), 5) else if (offS gs (offY ys id)).2 < (offS gs (offY ys id)).1 then ((0, 0), 9) else (offS gs (offY ys id), 0)
set_option maxRecDepth 100000 in
set_option maxHeartbeats 3200000 in
theorem off_any (A : Option Addr) (n c : Nat) (B : Option Addr) (m d : Nat) (ys : List Hy) (gs : List Gs) (id : Int) (w : World) (hA : SAt encY 3 w A n ys) (hB : SAt encG 5 w B m gs) (hn : n ≤ 1000000) (hm : m ≤ 1000000) (hbd : GsOk gs) :
    Calls Tryz.prog 95 #[.agg #[.slice A n c, .slice B m d], .int .i64 id] w fun e w' => e = .returned (.tuple #[vSp (offR ys gs id).1.1 (offR ys gs id).1.2, .int .i64 (offR ys gs id).2]) ∧ Below w.heap.size w w' := by
  have hb0 := ((Below.refl w.heap.size w).alloc (Nat.le_refl _) (.cells #[.slice A n c, .slice B m d] 31)).alloc (by simp) (.cells #[.int .i64 0, .int .i64 0] 43)
  have t0 := (Blk.new w 31 #[.slice A n c, .slice B m d]).alloc (.cells #[.int .i64 0, .int .i64 0] 43)
  have r0 := Blk.at_new (W := w.alloc (.cells #[.slice A n c, .slice B m d] 31)) (g := w.heap.size + 1) 43 #[.int .i64 0, .int .i64 0] (by simp)
  have HC := Lib.hid (hydro_any A n c B m d ys id _ (hA.below hb0) (by omega))
  have HG := Lib.hid (hB.below hb0)
  obtain ⟨R, hR⟩ : ∃ R, offR ys gs id = R := ⟨_, rfl⟩
  have HR := Lib.hid (show R = if idx (fun x => x.id == id) ys < 0 then ((0, 0), 5) else if (offS gs (offY ys id)).2 < (offS gs (offY ys id)).1 then ((0, 0), 9) else (offS gs (offY ys id), 0) from hR.symm)
  have HY := Lib.hid (show ¬ idx (fun x => x.id == id) ys < 0 → ∀ y : Hy, (∀ k (q : k < ys.length), idx (fun x => x.id == id) ys = k → y = ys[k]) → offY ys id = y from fun h y hy => by
    obtain ⟨k, q, e, _⟩ := idx_lt h
    rw [hy k q e]
    unfold offY
    rw [e]
    simp [List.getD_eq_getElem?_getD, q])
  rw [hR]
  clear hA hB hR
  generalize offY ys id = oy at *
  generalize idx (fun x : Hy => x.id == id) ys = ix at *
  go_enter Tryz.func95, Tryz.ntmps95
  go_upto_region 1 with fail
  generalize hW : (w.alloc (.cells #[.slice A n c, .slice B m d] 31)).alloc (.cells #[.int .i64 0, .int .i64 0] 43) = W at *
  clear hW
  have HT := Lib.hid t0
  have HRr := Lib.hid r0
  have HB := Lib.hid hb0
  obtain ⟨y0, y1, yl⟩ := cells2 t0
  clear t0 r0 hb0
  go_upto_region 2 with (go_at_call 108; (with_reducible refine HC.out.mono ?_); rintro e u1 ⟨y, rfl, hy, hb1⟩; have HYy := Lib.hid hy; obtain ⟨a0, a1, a2⟩ := y)
  have bq := below_new u1 (.cells #[.int .i64 a0, .int .i64 a1, .int .i64 a2] 68)
  have bn := hb1.trans (bq.mono hb1.size)
  have HR1 := Lib.hid (HRr.out.below bn)
  have HT1 := Lib.hid (HT.out.below bn)
  have HB1 := Lib.hid (HB.out.trans (bn.mono HB.out.size))
  have HG1 := Lib.hid (HG.out.below bn)
  have HN1 := Lib.hid (Blk.new u1 68 #[.int .i64 a0, .int .i64 a1, .int .i64 a2])
  generalize hV : u1.alloc (.cells #[.int .i64 a0, .int .i64 a1, .int .i64 a2] 68) = V at *
  generalize hg : u1.heap.size = g at *
  clear hV hg bq bn hb1 y0 y1 yl hy HC HT HRr HB HG
  obtain ⟨z0, z1, z2, zl⟩ := cells3 HN1.out
  obtain ⟨r0, r1, rl⟩ := cells2 HR1.out
  have f0 := HR1.out.frozen 0
  have f1 := HR1.out.frozen 1
  obtain ⟨y0, y1, yl⟩ := cells2 HT1.out
  by_cases hix : ix < 0
  case pos =>
    have hd : decide (0 ≤ ix) = false := decide_eq_false (by omega)
    have hE : R = ((0, 0), 5) := by rw [HR.out, if_pos hix]
    clear HR hix HYy HY
    subst hE
    go_wp2
    obtain ⟨x0, x1, _⟩ := cells2 (blk_set2 HR1.out (.int .i64 0) (.int .i64 0))
    exact bodyPost_ret (v := .tuple #[vSp 0 0, .int .i64 5]) (by simp [results, Tryz.results95, go_sem, x0, x1]) rfl ⟨rfl, below_set2 HB1.out (by omega) _ _⟩
  case neg =>
  have hd : decide (0 ≤ ix) = true := decide_eq_true (by omega)
  have hoy := HY.out (by omega) _ HYy.out
  subst hoy
  have HR2 := Lib.hid (show R = if (offS gs ⟨a0, a1, a2⟩).2 < (offS gs ⟨a0, a1, a2⟩).1 then ((0, 0), 9) else (offS gs ⟨a0, a1, a2⟩, 0) by rw [HR.out, if_neg (by omega)])
  have HC := Lib.hid (errors_any A n c B m d gs ⟨a0, a1, a2⟩ V HG1.out hbd hm)
  clear HR hix HYy HY
  obtain ⟨so, hso⟩ : ∃ so, offS gs ⟨a0, a1, a2⟩ = so := ⟨_, rfl⟩
  rw [hso] at HR2 HC
  clear hso
  obtain ⟨s1, s2⟩ := so
  dsimp only at HC HR2
  go_upto_region 5 with (go_at_call 109; (with_reducible refine HC.out.mono ?_); rintro e u2 ⟨rfl, hb2⟩)
  have bq := below_new u2 (.cells #[.int .i64 s1, .int .i64 s2] 43)
  have bn := hb2.trans (bq.mono hb2.size)
  have HR3 := Lib.hid (HR1.out.below bn)
  have HB3 := Lib.hid (HB1.out.trans (bn.mono HB1.out.size))
  have HN3 := Lib.hid (Blk.new u2 43 #[.int .i64 s1, .int .i64 s2])
  generalize hV : u2.alloc (.cells #[.int .i64 s1, .int .i64 s2] 43) = V2 at *
  generalize hg : u2.heap.size = g2 at *
  clear hV hg bq bn hb2 z0 z1 z2 zl r0 r1 rl f0 f1 y0 y1 yl HC HR1 HT1 HB1 HG1 HN1 hd
  obtain ⟨z0, z1, zl⟩ := cells2 HN3.out
  by_cases hv : s2 < s1
  case pos =>
    have hd : decide (s2 < s1) = true := decide_eq_true hv
    have hE : R = ((0, 0), 9) := by rw [HR2.out]; exact if_pos hv
    clear HR2 hv
    subst hE
    go_wp2_with (go_at_call 27; (with_reducible refine (void_any _ _ _).mono ?_); rintro e u3 ⟨rfl, hb3⟩; obtain ⟨r0, r1, rl⟩ := cells2 (HR3.out.below hb3); have f0 := (HR3.out.below hb3).frozen 0; have f1 := (HR3.out.below hb3).frozen 1)
    obtain ⟨x0, x1, _⟩ := cells2 (blk_set2 (HR3.out.below hb3) (.int .i64 0) (.int .i64 0))
    exact bodyPost_ret (v := .tuple #[vSp 0 0, .int .i64 9]) (by simp [results, Tryz.results95, go_sem, x0, x1]) rfl ⟨rfl, below_set2 (HB3.out.trans (hb3.mono HB3.out.size)) (by omega) _ _⟩
  case neg =>
    have hd : decide (s2 < s1) = false := decide_eq_false hv
    have hE : R = ((s1, s2), 0) := by rw [HR2.out]; exact if_neg hv
    clear HR2 hv
    subst hE
    go_wp2_with (go_at_call 27; (with_reducible refine (void_any _ _ _).mono ?_); rintro e u3 ⟨rfl, hb3⟩; obtain ⟨r0, r1, rl⟩ := cells2 (HR3.out.below hb3); have f0 := (HR3.out.below hb3).frozen 0; have f1 := (HR3.out.below hb3).frozen 1; obtain ⟨q0, q1, ql⟩ := cells2 (HN3.out.below hb3))
    obtain ⟨x0, x1, _⟩ := cells2 (blk_set2 (HR3.out.below hb3) (.int .i64 s1) (.int .i64 s2))
    exact bodyPost_ret (v := .tuple #[vSp s1 s2, .int .i64 0]) (by simp [results, Tryz.results95, go_sem, x0, x1]) rfl ⟨rfl, below_set2 (HB3.out.trans (hb3.mono HB3.out.size)) (by omega) _ _⟩
/-- The densities of the water of a survey, or an error. -/
def denR (ys : List Hy) (gs : List Gs) (hy lo hi : Int) : (Int × Int) × Int :=
  if (offR ys gs hy).2 ≠ 0 then ((0, 0), (offR ys gs hy).2) else if min (hi - (offR ys gs hy).1.1) 1100 < max (lo - (offR ys gs hy).1.2) 900 then ((0, 0), 9) else ((max (lo - (offR ys gs hy).1.2) 900, min (hi - (offR ys gs hy).1.1) 1100), 0)
end Go.Proofs.YtgojpgggbflgoaaGreat

namespace Go.Proofs.YtgojpgggbflgoaaGreat
open Go.RowKit

theorem erL_bd {lo hi : Int} (h1 : -3000000 ≤ lo ∧ lo ≤ 3000000) (h2 : -3000000 ≤ hi ∧ hi ≤ 3000000) : ∀ (l : List Gs) (_ : GsOk l) , (-3000000 ≤ (erL lo hi l).1 ∧ (erL lo hi l).1 ≤ 3000000) ∧ (-3000000 ≤ (erL lo hi l).2 ∧ (erL lo hi l).2 ≤ 3000000) := by
  intro l
  induction l generalizing lo hi with
  | nil => exact fun _ => ⟨h1, h2⟩
  | cons g t ih =>
    intro hg
    have hb := hg g List.mem_cons_self
    have ht : GsOk t := fun x hx => hg x (List.mem_cons_of_mem _ hx)
    show (-3000000 ≤ (t.foldl erF (erF (lo, hi) g)).1 ∧ (t.foldl erF (erF (lo, hi) g)).1 ≤ 3000000) ∧ (-3000000 ≤ (t.foldl erF (erF (lo, hi) g)).2 ∧ (t.foldl erF (erF (lo, hi) g)).2 ≤ 3000000)
    unfold erF
    by_cases c : (g.id != 0) = true
    · rw [if_pos c]
      exact ih (by dsimp only; omega) (by dsimp only; omega) ht
    · rw [if_neg c]
      exact ih h1 h2 ht
def YsOk (ys : List Hy) : Prop := ∀ y ∈ ys, (-1000000 ≤ y.lo ∧ y.lo ≤ 1000000) ∧ (-1000000 ≤ y.hi ∧ y.hi ≤ 1000000)
theorem offR_bd {ys : List Hy} {gs : List Gs} (hy : YsOk ys) (hg : GsOk gs) (id : Int) : (-3000000 ≤ (offR ys gs id).1.1 ∧ (offR ys gs id).1.1 ≤ 3000000) ∧ (-3000000 ≤ (offR ys gs id).1.2 ∧ (offR ys gs id).1.2 ≤ 3000000) := by
  unfold offR
  by_cases h : idx (fun x => x.id == id) ys < 0
  · rw [if_pos h]; exact ⟨by dsimp only; omega, by dsimp only; omega⟩
  rw [if_neg h]
  obtain ⟨k, q, e, _⟩ := idx_lt h
  have e2 : offY ys id = ys[k] := by unfold offY; rw [e]; simp [List.getD_eq_getElem?_getD, q]
  have hb := hy _ (List.getElem_mem q)
  have := erL_bd (lo := (ys[k]).lo) (hi := (ys[k]).hi) (by omega) (by omega) (gs.filter fun g => g.hy == (ys[k]).id) (fun g h => hg g (List.mem_filter.1 h).1)
  rw [e2]
  split
  · exact ⟨by dsimp only; omega, by dsimp only; omega⟩
  · exact this
set_option maxRecDepth 100000 in
set_option maxHeartbeats 6400000 in
theorem density_any (A : Option Addr) (n c : Nat) (B : Option Addr) (m d : Nat) (ys : List Hy) (gs : List Gs) (x : Sv) (w : World) (hA : SAt encY 3 w A n ys) (hB : SAt encG 5 w B m gs) (hn : n ≤ 1000000) (hm : m ≤ 1000000) (hys : YsOk ys) (hbd : GsOk gs) (hxl : -1000000 ≤ x.lo ∧ x.lo ≤ 1000000) (hxh : -1000000 ≤ x.hi ∧ x.hi ≤ 1000000) :
    Calls Tryz.prog 71 #[.agg #[.slice A n c, .slice B m d], vSv x] w fun e w' => e = .returned (.tuple #[vSp (denR ys gs x.hy x.lo x.hi).1.1 (denR ys gs x.hy x.lo x.hi).1.2, .int .i64 (denR ys gs x.hy x.lo x.hi).2]) ∧ Below w.heap.size w w' := by
  have HOb := Lib.hid (offR_bd hys hbd x.hy)
  have HCo := Lib.hid (fun (u : World) (hu : Below w.heap.size w u) => off_any A n c B m d ys gs x.hy u (hA.below hu) (hB.below hu) hn hm hbd)
  obtain ⟨R, hR⟩ : ∃ R, denR ys gs x.hy x.lo x.hi = R := ⟨_, rfl⟩
  have HR := Lib.hid (show R = if (offR ys gs x.hy).2 ≠ 0 then ((0, 0), (offR ys gs x.hy).2) else if min (x.hi - (offR ys gs x.hy).1.1) 1100 < max (x.lo - (offR ys gs x.hy).1.2) 900 then ((0, 0), 9) else ((max (x.lo - (offR ys gs x.hy).1.2) 900, min (x.hi - (offR ys gs x.hy).1.1) 1100), 0) from hR.symm)
  rw [hR]
  clear hA hB hR
  obtain ⟨xi, xt, a0, b0, a1, b1, a2, b2, a3, b3, a4, b4, a5, b5, xs, xh, xl, xu⟩ := x
  dsimp only at HOb HCo HR hxl hxh
  generalize offR ys gs xh = of at *
  obtain ⟨⟨o1, o2⟩, oe⟩ := of
  dsimp only at HOb HCo HR
  have hob := HOb.out
  clear HOb
  have hb0 := ((Below.refl w.heap.size w).alloc (Nat.le_refl _) (.cells #[.slice A n c, .slice B m d] 31)).alloc (by simp) (.cells #[.int .i64 xi, .int .i64 xt, .int .i64 a0, .int .i64 b0, .int .i64 a1, .int .i64 b1, .int .i64 a2, .int .i64 b2, .int .i64 a3, .int .i64 b3, .int .i64 a4, .int .i64 b4, .int .i64 a5, .int .i64 b5, .int .i64 xs, .int .i64 xh, .int .i64 xl, .int .i64 xu] 62)
  have hb1 := hb0.alloc (by simp; omega) (.cells #[.int .i64 0, .int .i64 0] 43)
  have t0 := ((Blk.new w 31 #[.slice A n c, .slice B m d]).alloc (.cells #[.int .i64 xi, .int .i64 xt, .int .i64 a0, .int .i64 b0, .int .i64 a1, .int .i64 b1, .int .i64 a2, .int .i64 b2, .int .i64 a3, .int .i64 b3, .int .i64 a4, .int .i64 b4, .int .i64 a5, .int .i64 b5, .int .i64 xs, .int .i64 xh, .int .i64 xl, .int .i64 xu] 62)).alloc (.cells #[.int .i64 0, .int .i64 0] 43)
  have x0 := (Blk.at_new (W := w.alloc (.cells #[.slice A n c, .slice B m d] 31)) (g := w.heap.size + 1) 62 #[.int .i64 xi, .int .i64 xt, .int .i64 a0, .int .i64 b0, .int .i64 a1, .int .i64 b1, .int .i64 a2, .int .i64 b2, .int .i64 a3, .int .i64 b3, .int .i64 a4, .int .i64 b4, .int .i64 a5, .int .i64 b5, .int .i64 xs, .int .i64 xh, .int .i64 xl, .int .i64 xu] (by simp)).alloc (.cells #[.int .i64 0, .int .i64 0] 43)
  have r0 := Blk.at_new (W := (w.alloc (.cells #[.slice A n c, .slice B m d] 31)).alloc (.cells #[.int .i64 xi, .int .i64 xt, .int .i64 a0, .int .i64 b0, .int .i64 a1, .int .i64 b1, .int .i64 a2, .int .i64 b2, .int .i64 a3, .int .i64 b3, .int .i64 a4, .int .i64 b4, .int .i64 a5, .int .i64 b5, .int .i64 xs, .int .i64 xh, .int .i64 xl, .int .i64 xu] 62)) (g := w.heap.size + 2) 43 #[.int .i64 0, .int .i64 0] (by simp)
  clear hb0
  go_enter Tryz.func71, Tryz.ntmps71
  go_upto_region 1 with fail
  generalize hW : ((w.alloc (.cells #[.slice A n c, .slice B m d] 31)).alloc (.cells #[.int .i64 xi, .int .i64 xt, .int .i64 a0, .int .i64 b0, .int .i64 a1, .int .i64 b1, .int .i64 a2, .int .i64 b2, .int .i64 a3, .int .i64 b3, .int .i64 a4, .int .i64 b4, .int .i64 a5, .int .i64 b5, .int .i64 xs, .int .i64 xh, .int .i64 xl, .int .i64 xu] 62)).alloc (.cells #[.int .i64 0, .int .i64 0] 43) = W at *
  have HWs := Lib.hid (show W.heap.size = w.heap.size + 3 by rw [← hW]; simp)
  clear hW
  have HX := Lib.hid x0
  have HRr := Lib.hid r0
  have HB := Lib.hid hb1
  obtain ⟨y0, y1, yl⟩ := cells2 t0
  have q15 := x0.cell 15
  simp only [List.getElem?_toArray, List.getElem?_cons_zero, List.getElem?_cons_succ] at q15
  have ql := x0.lt
  clear t0 x0 r0 hb1
  have HC := Lib.hid (HCo.out W HB.out)
  go_upto_region 2 with (go_at_call 95; (with_reducible refine HC.out.mono ?_); rintro e u1 ⟨rfl, hb1⟩)
  have bq := below_new u1 (.cells #[.int .i64 o1, .int .i64 o2] 43)
  have bn := hb1.trans (bq.mono hb1.size)
  have HR1 := Lib.hid (HRr.out.below bn)
  have HX1 := Lib.hid (HX.out.below bn)
  have HB1 := Lib.hid (HB.out.trans (bn.mono HB.out.size))
  have HN1 := Lib.hid (Blk.new u1 43 #[.int .i64 o1, .int .i64 o2])
  generalize hV : u1.alloc (.cells #[.int .i64 o1, .int .i64 o2] 43) = V at *
  generalize hg : u1.heap.size = g at *
  clear hV hg bq bn hb1 y0 y1 yl q15 ql HC HX HRr HB HCo
  obtain ⟨z0, z1, zl⟩ := cells2 HN1.out
  obtain ⟨r0, r1, rl⟩ := cells2 HR1.out
  have f0 := HR1.out.frozen 0
  have f1 := HR1.out.frozen 1
  have q16 := HX1.out.cell 16
  have q17 := HX1.out.cell 17
  simp only [List.getElem?_toArray, List.getElem?_cons_zero, List.getElem?_cons_succ] at q16 q17
  have ql := HX1.out.lt
  by_cases hz : oe = 0
  case neg =>
    have hzb : (oe != 0) = true := by simpa using hz
    have hE : R = ((0, 0), oe) := by rw [HR.out, if_pos hz]
    clear HR hz
    subst hE
    go_wp2
    obtain ⟨x0, x1, _⟩ := cells2 (blk_set2 HR1.out (.int .i64 0) (.int .i64 0))
    exact bodyPost_ret (v := .tuple #[vSp 0 0, .int .i64 oe]) (by simp [results, Tryz.results71, go_sem, x0, x1]) rfl ⟨rfl, below_set2 HB1.out (by omega) _ _⟩
  case pos =>
  subst hz
  have HR2 := Lib.hid (show R = if min (xu - o1) 1100 < max (xl - o2) 900 then ((0, 0), 9) else ((max (xl - o2) 900, min (xu - o1) 1100), 0) by rw [HR.out, if_neg (by decide)])
  clear HR
  have HM := Lib.hid (fun u => meet_any (xl - o2) (xu - o1) 900 1100 u)
  generalize hs1 : max (xl - o2) 900 = s1 at *
  generalize hs2 : min (xu - o1) 1100 = s2 at *
  clear hs1 hs2
  go_upto_region 5 with (go_at_call 53; (with_reducible refine (HM.out _).mono ?_); rintro e u2 ⟨rfl, hb2⟩)
  have bq := below_new u2 (.cells #[.int .i64 s1, .int .i64 s2] 43)
  have bn := hb2.trans (bq.mono hb2.size)
  have HR3 := Lib.hid (HR1.out.below bn)
  have HB3 := Lib.hid (HB1.out.trans (bn.mono HB1.out.size))
  have HN3 := Lib.hid (Blk.new u2 43 #[.int .i64 s1, .int .i64 s2])
  generalize hV : u2.alloc (.cells #[.int .i64 s1, .int .i64 s2] 43) = V2 at *
  generalize hg : u2.heap.size = g2 at *
  clear hV hg bq bn hb2 z0 z1 zl r0 r1 rl f0 f1 q16 q17 ql HR1 HX1 HB1 HN1 HM
  obtain ⟨z0, z1, zl⟩ := cells2 HN3.out
  by_cases hv : s2 < s1
  case pos =>
    have hd : decide (s2 < s1) = true := decide_eq_true hv
    have hE : R = ((0, 0), 9) := by rw [HR2.out]; exact if_pos hv
    clear HR2 hv
    subst hE
    go_wp2_with (go_at_call 27; (with_reducible refine (void_any _ _ _).mono ?_); rintro e u3 ⟨rfl, hb3⟩; obtain ⟨r0, r1, rl⟩ := cells2 (HR3.out.below hb3); have f0 := (HR3.out.below hb3).frozen 0; have f1 := (HR3.out.below hb3).frozen 1)
    obtain ⟨x0, x1, _⟩ := cells2 (blk_set2 (HR3.out.below hb3) (.int .i64 0) (.int .i64 0))
    exact bodyPost_ret (v := .tuple #[vSp 0 0, .int .i64 9]) (by simp [results, Tryz.results71, go_sem, x0, x1]) rfl ⟨rfl, below_set2 (HB3.out.trans (hb3.mono HB3.out.size)) (by omega) _ _⟩
  case neg =>
    have hd : decide (s2 < s1) = false := decide_eq_false hv
    have hE : R = ((s1, s2), 0) := by rw [HR2.out]; exact if_neg hv
    clear HR2 hv
    subst hE
    go_wp2_with (go_at_call 27; (with_reducible refine (void_any _ _ _).mono ?_); rintro e u3 ⟨rfl, hb3⟩; obtain ⟨r0, r1, rl⟩ := cells2 (HR3.out.below hb3); have f0 := (HR3.out.below hb3).frozen 0; have f1 := (HR3.out.below hb3).frozen 1; obtain ⟨q0, q1, ql⟩ := cells2 (HN3.out.below hb3))
    obtain ⟨x0, x1, _⟩ := cells2 (blk_set2 (HR3.out.below hb3) (.int .i64 s1) (.int .i64 s2))
    exact bodyPost_ret (v := .tuple #[vSp s1 s2, .int .i64 0]) (by simp [results, Tryz.results71, go_sem, x0, x1]) rfl ⟨rfl, below_set2 (HB3.out.trans (hb3.mono HB3.out.size)) (by omega) _ _⟩
end Go.Proofs.YtgojpgggbflgoaaGreat

namespace Go.Proofs.YtgojpgggbflgoaaGreat
open Go.RowKit

theorem cells4 {W : World} {g : Nat} {t : TypeId} {p q r u : Value} (h : Blk W g t #[p, q, r, u]) : W.cell? ⟨g, 0, none⟩ = some p ∧ W.cell? ⟨g, 1, none⟩ = some q ∧ W.cell? ⟨g, 2, none⟩ = some r ∧ W.cell? ⟨g, 3, none⟩ = some u ∧ g < W.heap.size :=
  ⟨by simpa using h.cell 0, by simpa using h.cell 1, by simpa using h.cell 2, by simpa using h.cell 3, h.lt⟩
theorem frz4 {W : World} {g : Nat} {t : TypeId} {cs : Array Value} (h : Blk W g t cs) : W.frozen? ⟨g, 0, none⟩ = false ∧ W.frozen? ⟨g, 1, none⟩ = false ∧ W.frozen? ⟨g, 2, none⟩ = false ∧ W.frozen? ⟨g, 3, none⟩ = false := ⟨h.frozen 0, h.frozen 1, h.frozen 2, h.frozen 3⟩
theorem blk_set4 {W : World} {g : Nat} {t : TypeId} {p q r u : Value} (h : Blk W g t #[p, q, r, u]) (a b c d : Value) :
    Blk ((((W.setCell ⟨g, 0, none⟩ a).setCell ⟨g, 1, none⟩ b).setCell ⟨g, 2, none⟩ c).setCell ⟨g, 3, none⟩ d) g t #[a, b, c, d] := by
  have := (((h.set_ 0 a).set_ 1 b).set_ 2 c).set_ 3 d
  simpa using this
theorem below_set4 {B : Nat} {w W : World} {g : Nat} (h : Below B w W) (hg : B ≤ g) (a b c d : Value) :
    Below B w ((((W.setCell ⟨g, 0, none⟩ a).setCell ⟨g, 1, none⟩ b).setCell ⟨g, 2, none⟩ c).setCell ⟨g, 3, none⟩ d) :=
  (((h.setCell (p := ⟨g, 0, none⟩) hg a).setCell (p := ⟨g, 1, none⟩) hg b).setCell (p := ⟨g, 2, none⟩) hg c).setCell (p := ⟨g, 3, none⟩) hg d
def exE (x : Sv) : Int × Int := (x.a0 + x.a1 + (x.a4 + x.a5), x.b0 + x.b1 + (x.b4 + x.b5))
def exM (x : Sv) : Int × Int := (x.a2 + x.a3, x.b2 + x.b3)
def exL (x : Sv) : Int := max (exM x).1 (-((4 * x.sag - (exE x).1) / 2))
def exH (x : Sv) : Int := min (exM x).2 (((exE x).2 + 4 * x.sag) / 2)
/-- The sums with the least and the greatest mean draught. -/
def exR (x : Sv) : (Int × Int × Int × Int) × Bool :=
  if exH x < exL x then ((0, 0, 0, 0), false) else ((max (exE x).1 (2 * exL x - 4 * x.sag), exL x, min (exE x).2 (2 * exH x + 4 * x.sag), exH x), true)
/-- The marks of a survey are draughts. -/
def MkOk (x : Sv) : Prop := ((0 ≤ x.a0 ∧ x.a0 ≤ 65536) ∧ (0 ≤ x.a1 ∧ x.a1 ≤ 65536) ∧ (0 ≤ x.a2 ∧ x.a2 ≤ 65536) ∧ (0 ≤ x.a3 ∧ x.a3 ≤ 65536) ∧ (0 ≤ x.a4 ∧ x.a4 ≤ 65536) ∧ (0 ≤ x.a5 ∧ x.a5 ≤ 65536)) ∧
  ((0 ≤ x.b0 ∧ x.b0 ≤ 65536) ∧ (0 ≤ x.b1 ∧ x.b1 ≤ 65536) ∧ (0 ≤ x.b2 ∧ x.b2 ≤ 65536) ∧ (0 ≤ x.b3 ∧ x.b3 ≤ 65536) ∧ (0 ≤ x.b4 ∧ x.b4 ≤ 65536) ∧ (0 ≤ x.b5 ∧ x.b5 ≤ 65536)) ∧ (0 ≤ x.sag ∧ x.sag ≤ 200)
set_option maxRecDepth 100000 in
set_option maxHeartbeats 12800000 in
theorem extremes_any (x : Sv) (w : World) (h : MkOk x) :
    Calls Tryz.prog 72 #[vSv x] w fun e w' => e = .returned (.tuple #[.agg #[.int .i64 (exR x).1.1, .int .i64 (exR x).1.2.1, .int .i64 (exR x).1.2.2.1, .int .i64 (exR x).1.2.2.2], .bool (exR x).2]) ∧ Below w.heap.size w w' := by
  obtain ⟨R, hR⟩ : ∃ R, exR x = R := ⟨_, rfl⟩
  have HR := Lib.hid (show R = if exH x < exL x then ((0, 0, 0, 0), false) else ((max (exE x).1 (2 * exL x - 4 * x.sag), exL x, min (exE x).2 (2 * exH x + 4 * x.sag), exH x), true) from hR.symm)
  have HLo := Lib.hid (show exL x = max (exM x).1 (-((4 * x.sag - (exE x).1) / 2)) from rfl)
  have HHi := Lib.hid (show exH x = min (exM x).2 (((exE x).2 + 4 * x.sag) / 2) from rfl)
  have HE := Lib.hid (show exE x = (x.a0 + x.a1 + (x.a4 + x.a5), x.b0 + x.b1 + (x.b4 + x.b5)) from rfl)
  have HM := Lib.hid (show exM x = (x.a2 + x.a3, x.b2 + x.b3) from rfl)
  rw [hR]
  clear hR
  generalize exH x = xH at *
  generalize exL x = xL at *
  generalize exE x = xE at *
  generalize exM x = xM at *
  obtain ⟨hA, hB, hS⟩ := h
  obtain ⟨xi, xt, a0, b0, a1, b1, a2, b2, a3, b3, a4, b4, a5, b5, xs, xh, xl, xu⟩ := x
  dsimp only at hA hB hS HR HLo HHi HE HM
  have hb0 := ((Below.refl w.heap.size w).alloc (Nat.le_refl _) (.cells #[.int .i64 xi, .int .i64 xt, .int .i64 a0, .int .i64 b0, .int .i64 a1, .int .i64 b1, .int .i64 a2, .int .i64 b2, .int .i64 a3, .int .i64 b3, .int .i64 a4, .int .i64 b4, .int .i64 a5, .int .i64 b5, .int .i64 xs, .int .i64 xh, .int .i64 xl, .int .i64 xu] 62)).alloc (by simp) (.cells #[.int .i64 0, .int .i64 0, .int .i64 0, .int .i64 0] 147)
  have x0 := (Blk.new w 62 #[.int .i64 xi, .int .i64 xt, .int .i64 a0, .int .i64 b0, .int .i64 a1, .int .i64 b1, .int .i64 a2, .int .i64 b2, .int .i64 a3, .int .i64 b3, .int .i64 a4, .int .i64 b4, .int .i64 a5, .int .i64 b5, .int .i64 xs, .int .i64 xh, .int .i64 xl, .int .i64 xu]).alloc (.cells #[.int .i64 0, .int .i64 0, .int .i64 0, .int .i64 0] 147)
  have r0 := Blk.at_new (W := w.alloc (.cells #[.int .i64 xi, .int .i64 xt, .int .i64 a0, .int .i64 b0, .int .i64 a1, .int .i64 b1, .int .i64 a2, .int .i64 b2, .int .i64 a3, .int .i64 b3, .int .i64 a4, .int .i64 b4, .int .i64 a5, .int .i64 b5, .int .i64 xs, .int .i64 xh, .int .i64 xl, .int .i64 xu] 62)) (g := w.heap.size + 1) 147 #[.int .i64 0, .int .i64 0, .int .i64 0, .int .i64 0] (by simp)
  have c1 := Lib.hid (fun u => sboth_any a0 b0 a1 b1 u (by omega) (by omega) (by omega) (by omega))
  have c2 := Lib.hid (fun u => sboth_any a4 b4 a5 b5 u (by omega) (by omega) (by omega) (by omega))
  have c3 := Lib.hid (fun u => sboth_any (a0 + a1) (b0 + b1) (a4 + a5) (b4 + b5) u (by omega) (by omega) (by omega) (by omega))
  have c4 := Lib.hid (fun u => sboth_any a2 b2 a3 b3 u (by omega) (by omega) (by omega) (by omega))
  go_enter Tryz.func72, Tryz.ntmps72
  go_upto_region 1 with fail
  generalize hW : (w.alloc (.cells #[.int .i64 xi, .int .i64 xt, .int .i64 a0, .int .i64 b0, .int .i64 a1, .int .i64 b1, .int .i64 a2, .int .i64 b2, .int .i64 a3, .int .i64 b3, .int .i64 a4, .int .i64 b4, .int .i64 a5, .int .i64 b5, .int .i64 xs, .int .i64 xh, .int .i64 xl, .int .i64 xu] 62)).alloc (.cells #[.int .i64 0, .int .i64 0, .int .i64 0, .int .i64 0] 147) = W at *
  have HWs := Lib.hid (show W.heap.size = w.heap.size + 2 by rw [← hW]; simp)
  clear hW
  have HX := Lib.hid x0
  have HRr := Lib.hid r0
  have HB := Lib.hid hb0
  have q2 := x0.cell 2
  have q3 := x0.cell 3
  have q4 := x0.cell 4
  have q5 := x0.cell 5
  have q6 := x0.cell 6
  have q7 := x0.cell 7
  have q8 := x0.cell 8
  have q9 := x0.cell 9
  have q10 := x0.cell 10
  have q11 := x0.cell 11
  have q12 := x0.cell 12
  have q13 := x0.cell 13
  simp only [List.getElem?_toArray, List.getElem?_cons_zero, List.getElem?_cons_succ] at q2 q3 q4 q5 q6 q7 q8 q9 q10 q11 q12 q13
  have ql := x0.lt
  clear x0 r0 hb0
  go_upto_region 2 with fail
  have bq := below_new W (.cells #[.int .i64 a0, .int .i64 b0, .int .i64 a1, .int .i64 b1, .int .i64 a2, .int .i64 b2, .int .i64 a3, .int .i64 b3, .int .i64 a4, .int .i64 b4, .int .i64 a5, .int .i64 b5] 60)
  have HX1 := Lib.hid (HX.out.below bq)
  have HR1 := Lib.hid (HRr.out.below bq)
  have HB1 := Lib.hid (HB.out.trans (bq.mono HB.out.size))
  have HK1 := Lib.hid (Blk.new W 60 #[.int .i64 a0, .int .i64 b0, .int .i64 a1, .int .i64 b1, .int .i64 a2, .int .i64 b2, .int .i64 a3, .int .i64 b3, .int .i64 a4, .int .i64 b4, .int .i64 a5, .int .i64 b5])
  generalize hV : W.alloc (.cells #[.int .i64 a0, .int .i64 b0, .int .i64 a1, .int .i64 b1, .int .i64 a2, .int .i64 b2, .int .i64 a3, .int .i64 b3, .int .i64 a4, .int .i64 b4, .int .i64 a5, .int .i64 b5] 60) = V at *
  generalize hg : W.heap.size = g at *
  clear hV hg bq q2 q3 q4 q5 q6 q7 q8 q9 q10 q11 q12 q13 ql HX HRr HB
  have HBg := Lib.hid (show w.heap.size + 2 ≤ V.heap.size by have := HK1.out.lt; have := HWs.out; omega)
  refine wp_region_new2 18 16 5 43 #[.int .i64 0, .int .i64 0] 17 6 43 #[.int .i64 0, .int .i64 0] (by decide) (by kernel_rfl) (by kernel_rfl) ?_ ?_ ?_
  · intro a' v R hR o ho
    simp only [List.getElem?_cons_succ, List.getElem?_cons_zero, Option.some.injEq] at ho
    subst ho
    simpa [loudAt, loudUpon, go_sem, execOp] using hR
  · intro a' v R hR o ho
    simp only [List.getElem?_cons_succ, List.getElem?_cons_zero, Option.some.injEq] at ho
    subst ho
    simpa [loudAt, loudUpon, go_sem, execOp] using hR
  apply Exists.intro
  refine ⟨?_, ?_⟩
  · intro U hV
    have k0 := (HK1.out.below hV).cell 0
    have k1 := (HK1.out.below hV).cell 1
    have k2 := (HK1.out.below hV).cell 2
    have k3 := (HK1.out.below hV).cell 3
    have k4 := (HK1.out.below hV).cell 4
    have k5 := (HK1.out.below hV).cell 5
    have k6 := (HK1.out.below hV).cell 6
    have k7 := (HK1.out.below hV).cell 7
    have k8 := (HK1.out.below hV).cell 8
    have k9 := (HK1.out.below hV).cell 9
    have k10 := (HK1.out.below hV).cell 10
    have k11 := (HK1.out.below hV).cell 11
    simp only [List.getElem?_toArray, List.getElem?_cons_zero, List.getElem?_cons_succ] at k0 k1 k2 k3 k4 k5 k6 k7 k8 k9 k10 k11
    have kl := (HK1.out.below hV).lt
    obtain ⟨xc, xf'⟩ := xcell (W := U)
    simp only [List.take_succ_cons, List.take_zero, qOf, isLoud, List.any_cons, List.any_nil, Nat.reduceBEq, Bool.or_false, Bool.or_true, Nat.reduceAdd, Bool.false_eq_true, if_true, if_false, beq_self_eq_true, Nat.zero_add]
    repeat (first | go_big_quiet_step (first | (go_at_call 96; with_reducible refine calls_ext (c1.out _)) | (go_at_call 96; with_reducible refine calls_ext (c2.out _)) | (go_at_call 96; with_reducible refine calls_ext (c3.out _)) | (go_at_call 96; with_reducible refine calls_ext (c4.out _))) | quiet_step (first | (go_at_call 96; with_reducible refine calls_ext (c1.out _)) | (go_at_call 96; with_reducible refine calls_ext (c2.out _)) | (go_at_call 96; with_reducible refine calls_ext (c3.out _)) | (go_at_call 96; with_reducible refine calls_ext (c4.out _))))
    exact wpQuiet_nil rfl
  intro g5 g6 v h5 h6 hne hv hb5 hb6
  simp only [List.drop_succ_cons, List.drop_zero, Act.put, List.setIfInBounds_toArray, List.set_cons_succ, List.set_cons_zero]
  have HX2 := Lib.hid (HX1.out.below hv)
  have HR2 := Lib.hid (HR1.out.below hv)
  have HB2 := Lib.hid (HB1.out.trans (hv.mono HB1.out.size))
  have H5 := Lib.hid hb5
  have H6 := Lib.hid hb6
  have HN := Lib.hid hne
  obtain ⟨u0, u1, ul⟩ := cells2 hb5
  obtain ⟨v0, v1, vl⟩ := cells2 hb6
  have f0 := hb5.frozen 0
  have f1 := hb5.frozen 1
  have f2 := hb6.frozen 0
  have f3 := hb6.frozen 1
  have hne2 := Ne.symm hne
  have q14 := HX2.out.cell 14
  simp only [List.getElem?_toArray, List.getElem?_cons_zero, List.getElem?_cons_succ] at q14
  have ql := HX2.out.lt
  clear hv hb5 hb6 HX1 HR1 HB1 HK1 c1 c2 c3 c4
  have hbg := HBg.out
  go_upto_region 3 with fail
  have hxs := hS
  have he1 : 0 ≤ a0 + a1 + (a4 + a5) ∧ a0 + a1 + (a4 + a5) ≤ 262144 := by omega
  have he2 : 0 ≤ b0 + b1 + (b4 + b5) ∧ b0 + b1 + (b4 + b5) ≤ 262144 := by omega
  have hm1 : 0 ≤ a2 + a3 ∧ a2 + a3 ≤ 131072 := by omega
  have hm2 : 0 ≤ b2 + b3 ∧ b2 + b3 ≤ 131072 := by omega
  generalize a0 + a1 + (a4 + a5) = e1 at *
  generalize b0 + b1 + (b4 + b5) = e2 at *
  generalize a2 + a3 = m1 at *
  generalize b2 + b3 = m2 at *
  have hxE := HE.out
  have hxM := HM.out
  subst hxE hxM
  clear HE HM hA hB
  have g1 := grown_set2 v g5 (.int .i64 e1) (.int .i64 e2)
  have g2 := grown_set2 ((v.setCell ⟨g5, 0, none⟩ (.int .i64 e1)).setCell ⟨g5, 1, none⟩ (.int .i64 e2)) g6 (.int .i64 m1) (.int .i64 m2)
  have H5b := Lib.hid ((blk_set2 H5.out (.int .i64 e1) (.int .i64 e2)).grown g2 (by intro e; exact HN.out (Option.some.inj e).symm))
  have H6b := Lib.hid (blk_set2 (H6.out.grown g1 (by intro e; exact HN.out (Option.some.inj e))) (.int .i64 m1) (.int .i64 m2))
  have HX3 := Lib.hid ((HX2.out.grown g1 (by intro e; have := Option.some.inj e; omega)).grown g2 (by intro e; have := Option.some.inj e; omega))
  have HR3 := Lib.hid ((HR2.out.grown g1 (by intro e; have := Option.some.inj e; omega)).grown g2 (by intro e; have := Option.some.inj e; omega))
  have HB3 := Lib.hid (below_set2 (below_set2 HB2.out (g := g5) (by omega) (.int .i64 e1) (.int .i64 e2)) (g := g6) (by omega) (.int .i64 m1) (.int .i64 m2))
  generalize hV4 : (((v.setCell ⟨g5, 0, none⟩ (.int .i64 e1)).setCell ⟨g5, 1, none⟩ (.int .i64 e2)).setCell ⟨g6, 0, none⟩ (.int .i64 m1)).setCell ⟨g6, 1, none⟩ (.int .i64 m2) = v4 at *
  clear hV4 g1 g2 u0 u1 ul v0 v1 vl f0 f1 f2 f3 q14 ql H5 H6 HX2 HR2 HB2 h5 h6
  have q14 := HX3.out.cell 14
  simp only [List.getElem?_toArray, List.getElem?_cons_zero, List.getElem?_cons_succ] at q14
  have ql := HX3.out.lt
  go_upto_region 4 with fail
  clear q14 ql
  have hp : -1000000 ≤ (4 * xs - e1) / 2 ∧ (4 * xs - e1) / 2 ≤ 1000000 := by omega
  have hq : -1000000 ≤ (e2 + 4 * xs) / 2 ∧ (e2 + 4 * xs) / 2 ≤ 1000000 := by omega
  have c1 := Lib.hid (fun u => half_any (4 * xs - e1) u (by omega))
  have c2 := Lib.hid (fun u => half_any (e2 + 4 * xs) u (by omega))
  dsimp only at HLo HHi HR
  generalize (4 * xs - e1) / 2 = p at *
  generalize (e2 + 4 * xs) / 2 = q at *
  have c3 := Lib.hid (fun u => meet_any m1 m2 (-p) q u)
  rw [← HLo.out, ← HHi.out] at c3
  have hL : -1000000 ≤ xL ∧ xL ≤ 1000000 := by rw [HLo.out]; omega
  have hH : -1000000 ≤ xH ∧ xH ≤ 1000000 := by rw [HHi.out]; omega
  clear HLo HHi
  refine wp_region_new 15 14 8 43 #[.int .i64 0, .int .i64 0] (by kernel_rfl) (by kernel_rfl) ?_ ?_
  · intro a' v R hR o ho
    simp only [List.getElem?_cons_succ, List.getElem?_cons_zero, Option.some.injEq] at ho
    subst ho
    simpa [loudAt, loudUpon, go_sem, execOp] using hR
  apply Exists.intro
  refine ⟨?_, ?_⟩
  · intro U hV
    obtain ⟨u0, u1, ul⟩ := cells2 (H5b.out.below hV)
    obtain ⟨v0, v1, vl⟩ := cells2 (H6b.out.below hV)
    obtain ⟨xc, xf'⟩ := xcell (W := U)
    simp only [List.take_succ_cons, List.take_zero, qOf, isLoud, List.any_cons, List.any_nil, Nat.reduceBEq, Bool.or_false, Nat.reduceAdd, Bool.false_eq_true, if_true, if_false, beq_self_eq_true, Nat.zero_add]
    repeat (first | go_big_quiet_step (first | (go_at_call 97; with_reducible refine calls_ext_same (c1.out _)) | (go_at_call 97; with_reducible refine calls_ext_same (c2.out _)) | (go_at_call 53; with_reducible refine calls_ext (c3.out _))) | quiet_step (first | (go_at_call 97; with_reducible refine calls_ext_same (c1.out _)) | (go_at_call 97; with_reducible refine calls_ext_same (c2.out _)) | (go_at_call 53; with_reducible refine calls_ext (c3.out _))))
    exact wpQuiet_nil rfl
  intro g8 v8 h8 hv8 hb8
  simp only [List.drop_succ_cons, List.drop_zero, Act.put, List.setIfInBounds_toArray, List.set_cons_succ, List.set_cons_zero]
  have HR5 := Lib.hid (HR3.out.below hv8)
  have H55 := Lib.hid (H5b.out.below hv8)
  have HB5 := Lib.hid (HB3.out.trans (hv8.mono HB3.out.size))
  have H88 := Lib.hid hb8
  have HLt := Lib.hid (And.intro H5b.out.lt HR3.out.lt)
  obtain ⟨z0, z1, zl⟩ := cells2 hb8
  have f0 := hb8.frozen 0
  have f1 := hb8.frozen 1
  clear hv8 hb8 H5b H6b HX3 HR3 HB3 c1 c2 c3
  go_upto_region 5 with fail
  have g3 := grown_set2 v8 g8 (.int .i64 xL) (.int .i64 xH)
  have hlt := HLt.out
  have HR6 := Lib.hid (HR5.out.grown g3 (by intro e; have := Option.some.inj e; omega))
  have H56 := Lib.hid (H55.out.grown g3 (by intro e; have := Option.some.inj e; omega))
  have HB6 := Lib.hid (below_set2 HB5.out (g := g8) (by omega) (.int .i64 xL) (.int .i64 xH))
  have H86 := Lib.hid (blk_set2 H88.out (.int .i64 xL) (.int .i64 xH))
  generalize hV9 : (v8.setCell ⟨g8, 0, none⟩ (.int .i64 xL)).setCell ⟨g8, 1, none⟩ (.int .i64 xH) = v9 at *
  clear hV9 g3 z0 z1 zl f0 f1 HR5 H55 HB5 H88
  obtain ⟨z0, z1, zl⟩ := cells2 H86.out
  have HF := Lib.hid (fun (u : World) (hu : Below v9.heap.size v9 u) => And.intro (cells4 (HR6.out.below hu)) (And.intro (frz4 (HR6.out.below hu)) (And.intro (cells2 (H56.out.below hu)) (cells2 (H86.out.below hu)))))
  by_cases hv : xH < xL
  case pos =>
    have hd : decide (xH < xL) = true := decide_eq_true hv
    have hE : R = ((0, 0, 0, 0), false) := by rw [HR.out]; exact if_pos hv
    clear HR hv
    subst hE
    go_wp2_with (go_at_call 27; (with_reducible refine (void_any _ _ _).mono ?_); rintro e u3 ⟨rfl, hb3⟩; obtain ⟨⟨r0, r1, r2, r3, rl⟩, ⟨f0, f1, f2, f3⟩, _, _⟩ := HF.out _ hb3)
    obtain ⟨x0, x1, x2, x3, _⟩ := cells4 (blk_set4 (HR6.out.below hb3) (.int .i64 0) (.int .i64 0) (.int .i64 0) (.int .i64 0))
    exact bodyPost_ret (v := .tuple #[.agg #[.int .i64 0, .int .i64 0, .int .i64 0, .int .i64 0], .bool false]) (by simp [results, Tryz.results72, go_sem, x0, x1, x2, x3]) rfl ⟨rfl, below_set4 (HB6.out.trans (hb3.mono HB6.out.size)) (by omega) _ _ _ _⟩
  case neg =>
    have hd : decide (xH < xL) = false := decide_eq_false hv
    have HR7 := Lib.hid (show R = ((max e1 (2 * xL - 4 * xs), xL, min e2 (2 * xH + 4 * xs), xH), true) by rw [HR.out]; exact if_neg hv)
    clear HR hv
    by_cases k1 : e1 < 2 * xL - 4 * xs
    · by_cases k2 : 2 * xH + 4 * xs < e2
      · skip
        have hE : R = ((2 * xL - 4 * xs, xL, 2 * xH + 4 * xs, xH), true) := by
          rw [HR7.out]
          have a : max e1 (2 * xL - 4 * xs) = 2 * xL - 4 * xs := by omega
          have b : min e2 (2 * xH + 4 * xs) = 2 * xH + 4 * xs := by omega
          rw [a, b]
        clear HR7
        subst hE
        go_wp2_with (go_at_call 27; (with_reducible refine (void_any _ _ _).mono ?_); rintro e u3 ⟨rfl, hb3⟩; obtain ⟨⟨r0, r1, r2, r3, rl⟩, ⟨f0, f1, f2, f3⟩, ⟨u0, u1, ul⟩, ⟨v0, v1, vl⟩⟩ := HF.out _ hb3)
        obtain ⟨x0, x1, x2, x3, _⟩ := cells4 (blk_set4 (HR6.out.below hb3) (.int .i64 (2 * xL - 4 * xs)) (.int .i64 xL) (.int .i64 (2 * xH + 4 * xs)) (.int .i64 xH))
        exact bodyPost_ret (v := .tuple #[.agg #[.int .i64 (2 * xL - 4 * xs), .int .i64 xL, .int .i64 (2 * xH + 4 * xs), .int .i64 xH], .bool true]) (by simp [results, Tryz.results72, go_sem, x0, x1, x2, x3]) rfl ⟨rfl, below_set4 (HB6.out.trans (hb3.mono HB6.out.size)) (by omega) _ _ _ _⟩
      · skip
        have hE : R = ((2 * xL - 4 * xs, xL, e2, xH), true) := by
          rw [HR7.out]
          have a : max e1 (2 * xL - 4 * xs) = 2 * xL - 4 * xs := by omega
          have b : min e2 (2 * xH + 4 * xs) = e2 := by omega
          rw [a, b]
        clear HR7
        subst hE
        go_wp2_with (go_at_call 27; (with_reducible refine (void_any _ _ _).mono ?_); rintro e u3 ⟨rfl, hb3⟩; obtain ⟨⟨r0, r1, r2, r3, rl⟩, ⟨f0, f1, f2, f3⟩, ⟨u0, u1, ul⟩, ⟨v0, v1, vl⟩⟩ := HF.out _ hb3)
        obtain ⟨x0, x1, x2, x3, _⟩ := cells4 (blk_set4 (HR6.out.below hb3) (.int .i64 (2 * xL - 4 * xs)) (.int .i64 xL) (.int .i64 (e2)) (.int .i64 xH))
        exact bodyPost_ret (v := .tuple #[.agg #[.int .i64 (2 * xL - 4 * xs), .int .i64 xL, .int .i64 (e2), .int .i64 xH], .bool true]) (by simp [results, Tryz.results72, go_sem, x0, x1, x2, x3]) rfl ⟨rfl, below_set4 (HB6.out.trans (hb3.mono HB6.out.size)) (by omega) _ _ _ _⟩
    · by_cases k2 : 2 * xH + 4 * xs < e2
      · skip
        have hE : R = ((e1, xL, 2 * xH + 4 * xs, xH), true) := by
          rw [HR7.out]
          have a : max e1 (2 * xL - 4 * xs) = e1 := by omega
          have b : min e2 (2 * xH + 4 * xs) = 2 * xH + 4 * xs := by omega
          rw [a, b]
        clear HR7
        subst hE
        go_wp2_with (go_at_call 27; (with_reducible refine (void_any _ _ _).mono ?_); rintro e u3 ⟨rfl, hb3⟩; obtain ⟨⟨r0, r1, r2, r3, rl⟩, ⟨f0, f1, f2, f3⟩, ⟨u0, u1, ul⟩, ⟨v0, v1, vl⟩⟩ := HF.out _ hb3)
        obtain ⟨x0, x1, x2, x3, _⟩ := cells4 (blk_set4 (HR6.out.below hb3) (.int .i64 (e1)) (.int .i64 xL) (.int .i64 (2 * xH + 4 * xs)) (.int .i64 xH))
        exact bodyPost_ret (v := .tuple #[.agg #[.int .i64 (e1), .int .i64 xL, .int .i64 (2 * xH + 4 * xs), .int .i64 xH], .bool true]) (by simp [results, Tryz.results72, go_sem, x0, x1, x2, x3]) rfl ⟨rfl, below_set4 (HB6.out.trans (hb3.mono HB6.out.size)) (by omega) _ _ _ _⟩
      · skip
        have hE : R = ((e1, xL, e2, xH), true) := by
          rw [HR7.out]
          have a : max e1 (2 * xL - 4 * xs) = e1 := by omega
          have b : min e2 (2 * xH + 4 * xs) = e2 := by omega
          rw [a, b]
        clear HR7
        subst hE
        go_wp2_with (go_at_call 27; (with_reducible refine (void_any _ _ _).mono ?_); rintro e u3 ⟨rfl, hb3⟩; obtain ⟨⟨r0, r1, r2, r3, rl⟩, ⟨f0, f1, f2, f3⟩, ⟨u0, u1, ul⟩, ⟨v0, v1, vl⟩⟩ := HF.out _ hb3)
        obtain ⟨x0, x1, x2, x3, _⟩ := cells4 (blk_set4 (HR6.out.below hb3) (.int .i64 (e1)) (.int .i64 xL) (.int .i64 (e2)) (.int .i64 xH))
        exact bodyPost_ret (v := .tuple #[.agg #[.int .i64 (e1), .int .i64 xL, .int .i64 (e2), .int .i64 xH], .bool true]) (by simp [results, Tryz.results72, go_sem, x0, x1, x2, x3]) rfl ⟨rfl, below_set4 (HB6.out.trans (hb3.mono HB6.out.size)) (by omega) _ _ _ _⟩
end Go.Proofs.YtgojpgggbflgoaaGreat
