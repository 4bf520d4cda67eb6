/- The pieces of a curve: the iterator; value. -/
import Derived.RangeFuncNested
import Derived.Shelf.Abstract
import Derived.RangeFuncBound
import Derived.RangeFuncCalls
import Derived.RangeFuncLeaves
import Derived.WalkKit
import Derived.OwnWalkIn
import Derived.TacticsInMore
import Derived.LoopNIn
import Derived.LoopIn
import Derived.WalkLawsBesides
import Derived.Deep.QuietTactic
import Derived.BigQuiet
import Derived.RegionTactic
import Derived.Lib.Hide
import Derived.Outline
import Derived.WalkSmall
import Derived.Test.YtipablcbkoedbaaProg
import Derived.Test.YtipablcbkoedbaaReg
import Derived.Test.YtipablcbkoedbaaB1
namespace Go.Proofs.Ytipablcbkoedbaa
open Go.RowKit
attribute [local go_sem] Oper.semAt_some

abbrev vPiece (px py qx qy : Int) : Value := .agg #[.int .i64 px, .int .i64 py, .int .i64 qx, .int .i64 qy]
theorem rise_any (px py qx qy : Int) (w : World) (h1 : -1000000 ≤ py) (h2 : py ≤ 1000000) (h3 : -1000000 ≤ qy) (h4 : qy ≤ 1000000) :
    Calls Try.prog 107 #[vPiece px py qx qy] w fun e w' => e = .returned (.int .i64 (qy - py)) ∧ Below w.heap.size w w' := by
  go_enter Try.func107, Try.ntmps107
  go_wp2
  go_ret
  exact ⟨rfl, (Below.refl _ _).alloc (Nat.le_refl _) _⟩
theorem run_any (px py qx qy : Int) (w : World) (h1 : -1000000 ≤ px) (h2 : px ≤ 1000000) (h3 : -1000000 ≤ qx) (h4 : qx ≤ 1000000) :
    Calls Try.prog 108 #[vPiece px py qx qy] w fun e w' => e = .returned (.int .i64 (qx - px)) ∧ Below w.heap.size w w' := by
  go_enter Try.func108, Try.ntmps108
  go_wp2
  go_ret
  exact ⟨rfl, (Below.refl _ _).alloc (Nat.le_refl _) _⟩

theorem pieces_any (A : Option Addr) (n cap : Nat) (err : Int) (w : World) :
    Calls Try.prog 106 #[vCv A n cap err] w fun e w' => e = .returned (.func (.func 136) #[] #[.pointer (some ⟨w.heap.size, 0, none⟩)]) ∧ w.alloc (.cells #[.slice A n cap, .int .i64 err] 24) = w' := by
  go_enter Try.func106, Try.ntmps106
  go_wp2
  go_ret
  exact ⟨rfl, rfl⟩

/-- What a round must leave alone: the curve's box and its knots. -/
structure Keep2 (B b : Nat) (W W' : World) : Prop where
  box : W'.heap[B]? = W.heap[B]?
  row : W'.heap[b]? = W.heap[b]?
  size : W.heap.size ≤ W'.heap.size
theorem keep2_t {B b : Nat} {X Y Z : World} (h : Keep2 B b X Y) (k : Keep2 B b Y Z) : Keep2 B b X Z := ⟨k.1.trans h.1, k.2.trans h.2, Nat.le_trans h.3 k.3⟩
theorem keep2_b {B b : Nat} {w : World} (hB : B < w.heap.size) (hb : b < w.heap.size) (W : World) (l : Nat) (o o' : Obj) (hl : w.heap.size ≤ l) (_ : W.heap[l]? = some o) (_ : o.isCells = false) (_ : o.isWalk = false) : Keep2 B b W (W.putObj l o') :=
  ⟨World.putObj_heap_other (by omega), World.putObj_heap_other (by omega), by simp [World.putObj]⟩
theorem keep2_below {B b n : Nat} {W W' : World} (h : Below n W W') (hB : B < n) (hb : b < n) : Keep2 B b W W' := ⟨h.block B hB, h.block b hb, h.size⟩

def encP (ks : List (Int × Int)) (i : Fin (ks.length - 1)) : Array Value := #[.int .i64 (i.val : Nat), vPiece (kx ks i.val) (ky ks i.val) (kx ks (i.val + 1)) (ky ks (i.val + 1))]

theorem finRange_take_succ (m k : Nat) (h : k < m) : (List.finRange m).take (k + 1) = (List.finRange m).take k ++ [⟨k, h⟩] := by
  rw [List.take_succ_eq_append_getElem (by simpa using h)]
  simp

theorem keep2_refl (B b : Nat) (W : World) : Keep2 B b W W := ⟨rfl, rfl, Nat.le_refl _⟩
theorem Keep2.cellB {B b : Nat} {W W' : World} (h : Keep2 B b W W') {o : Nat} {v : Value} (hc : W.cell? ⟨B, o, none⟩ = some v) : W'.cell? ⟨B, o, none⟩ = some v :=
  (World.cell?_of_block (w := W) h.1).trans hc
theorem Keep2.cellb {B b : Nat} {W W' : World} (h : Keep2 B b W W') {o : Nat} {v : Value} (hc : W.cell? ⟨b, o, none⟩ = some v) : W'.cell? ⟨b, o, none⟩ = some v :=
  (World.cell?_of_block (w := W) h.2).trans hc
theorem grownBy_of_below {W W' : World} (h : Below W.heap.size W W') : W.grownBy W' none := ⟨h.os, h.tape, h.output, h.size, fun i hi _ => h.block i hi⟩

theorem pieces1_in (n l B b off cap : Nat) (ks : List (Int × Int)) (hm : ks.length ≤ 1000) (J Jx : List (Fin (ks.length - 1)) → World → Prop)
    (hY : ∀ pre x W1, J pre W1 → pre.length < ks.length - 1 → YieldAt Fence.wide (n - 1) Try.prog l (encP ks x) W1 fun e W' =>
      (e = .returned (.bool true) ∧ J (pre ++ [x]) W' ∧ Keep2 B b W1 W') ∨ (e = .returned (.bool false) ∧ Jx (pre ++ [x]) W'))
    (hJ : ∀ s W W', J s W → Below W.heap.size W W' → J s W') (W : World) (hB0 : W.cell? ⟨B, 0, none⟩ = some (.slice (some ⟨b, off, none⟩) ks.length cap)) (hBl : B < W.heap.size) (hK : Kn W b off ks) (h0 : J [] W) :
    CallsIn Fence.wide n Try.prog 136 #[.func (.yield l) #[] #[], .pointer (some ⟨B, 0, none⟩)] W fun e W' => (∃ v, e = .returned v) ∧
      ((∃ xs, xs = List.finRange (ks.length - 1) ∧ J xs W') ∨ (∃ pre, pre <+: List.finRange (ks.length - 1) ∧ Jx pre W')) := by
  refine callsIn_of_wp Try.func136 rfl trivial ?_ rfl
  simp only [Try.ntmps136, List.size_toArray, List.length_cons, List.length_nil, Nat.reduceAdd, Nat.reduceSub, Array.replicate_succ, Array.replicate_zero, List.push_toArray, List.append_toArray, List.nil_append, List.cons_append]
  gi_wp2
  gi_loopw [3] (fun i wr => ∃ j : Nat, j ≤ ks.length - 1 ∧ i = .int .i64 ((j : Int) + 1) ∧ J ((List.finRange (ks.length - 1)).take j) wr ∧ Keep2 B b W wr)
    (fun i _ => ks.length - (intOf i).toNat)
  case atStart =>
    exact ⟨0, Nat.zero_le _, rfl, by simpa using h0, keep2_refl _ _ _⟩
  case round =>
    obtain ⟨j, hj, rfl, hJs, hkp⟩ := hrel
    have hsz := hkp.size
    have hb0 := hkp.cellB hB0
    by_cases hlt : j < ks.length - 1
    · have hx1 := hkp.cellb (hK.x j (by omega))
      have hy1 := hkp.cellb (hK.y j (by omega))
      have hx2 := hkp.cellb (hK.x (j + 1) (by omega))
      have hy2 := hkp.cellb (hK.y (j + 1) (by omega))
      have hlen : (j : Int) + 1 < ks.length := by omega
      gi_wp2
      have hBr : B < wr.heap.size := by omega
      have hbr : b < wr.heap.size := Nat.lt_of_lt_of_le hK.lt hsz
      obtain ⟨xc, xf⟩ := xcell (W := wr)
      refine wpIn_region_quiet_tail 15 (openWide _) (by kernel_rfl) (by kernel_rfl) ?_
      simp only [List.take_succ_cons, List.take_zero, List.drop_succ_cons, List.drop_zero]
      repeat (first | go_big_quiet_step (fail) | quiet_step (fail))
      refine wpQuiet_nil ?_
      intro w2 hb2
      have hJ2 := hJ _ _ _ hJs hb2
      obtain ⟨fn, tmps, assign, body, hy, hR⟩ := hY ((List.finRange (ks.length - 1)).take j) ⟨j, hlt⟩ w2 hJ2 (by simp; omega)
      unfold encP at hy
      clear hx1 hy1 hx2 hy2 hb0 hJs xc xf
      gi_wp2
      refine ⟨fun h => (by cases h), hR.mono ?_⟩
      rintro e W' (⟨rfl, hJ', hk⟩ | ⟨rfl, hJx'⟩)
      · gi_wp2
        go_roundw
        case rel => exact ⟨j + 1, by omega, by go_num, by rw [finRange_take_succ _ _ hlt]; exact hJ', keep2_t (keep2_t hkp (keep2_below hb2 hBr hbr)) hk⟩
        case measure => simp [intOf]; omega
      · gi_wp2
        refine bodyPost_ret (results_none rfl _ _ _) rfl ?_
        exact ⟨⟨_, rfl⟩, .inr ⟨_, ⟨(List.finRange (ks.length - 1)).drop (j + 1), by rw [← finRange_take_succ _ _ hlt]; exact List.take_append_drop _ _⟩, hJx'⟩⟩
    · have hj' : j = ks.length - 1 := by omega
      have HJ := Lib.hid hj'
      clear hj'
      gi_wp2
      go_end0
      exact ⟨⟨_, rfl⟩, .inl ⟨_, rfl, by rw [HJ.out, List.take_of_length_le (by simp)] at hJs; exact hJs⟩⟩

theorem pieces_stops (n B b off cap : Nat) (ks : List (Int × Int)) (hm : ks.length ≤ 1000) (w : World) (hB0 : w.cell? ⟨B, 0, none⟩ = some (.slice (some ⟨b, off, none⟩) ks.length cap)) (hBl : B < w.heap.size) (hK : Kn w b off ks) :
    SeqStopsK Fence.wide n Try.prog 136 #[.pointer (some ⟨B, 0, none⟩)] (encP ks) (Keep2 B b) (fun xs => xs = List.finRange (ks.length - 1)) (fun pre => pre <+: List.finRange (ks.length - 1)) (ks.length - 1) w :=
  fun l J Jx W hW hJ _ hY h0 => pieces1_in n l B b off cap ks hm J Jx hY (fun s A A' hs hb => hJ s A A' none hs (grownBy_of_below hb) (fun r e => by cases e)) W
    ((hW.cell (p := ⟨B, 0, none⟩) hBl).trans hB0) (Nat.lt_of_lt_of_le hBl hW.size) (hK.below hW) h0

/-- A block that is known whole. -/
def Blk (W : World) (g : Nat) (t : TypeId) (cs : Array Value) : Prop := W.heap[g]? = some (.cells cs t (0, 0))
theorem Blk.lt {W : World} {g : Nat} {t : TypeId} {cs : Array Value} (h : Blk W g t cs) : g < W.heap.size := (Array.getElem?_eq_some_iff.1 h).1
theorem Blk.cell {W : World} {g : Nat} {t : TypeId} {cs : Array Value} (h : Blk W g t cs) (i : Nat) : W.cell? ⟨g, i, none⟩ = cs[i]? := by simp [World.cell?, show W.heap[g]? = _ from h]
theorem Blk.frozen {W : World} {g : Nat} {t : TypeId} {cs : Array Value} (h : Blk W g t cs) (i : Nat) : W.frozen? ⟨g, i, none⟩ = false := by simp [World.frozen?, show W.heap[g]? = _ from h]
theorem Blk.new (W : World) (t : TypeId) (cs : Array Value) : Blk (W.alloc (.cells cs t)) W.heap.size t cs := World.alloc_heap_new W _
theorem Blk.at_new {W : World} {g : Nat} (t : TypeId) (cs : Array Value) (h : g = W.heap.size) : Blk (W.alloc (.cells cs t)) g t cs := by subst h; exact Blk.new W t cs
theorem Blk.alloc {W : World} {g : Nat} {t : TypeId} {cs : Array Value} (h : Blk W g t cs) (o : Obj) : Blk (W.alloc o) g t cs := (Below.heap_alloc W o g h.lt).trans h
theorem Blk.below {W W' : World} {g : Nat} {t : TypeId} {cs : Array Value} (h : Blk W g t cs) (hb : Below W.heap.size W W') : Blk W' g t cs := (hb.block g h.lt).trans h
theorem Blk.far {W : World} {g : Nat} {t : TypeId} {cs : Array Value} (h : Blk W g t cs) {p : Addr} (hp : g ≠ p.block) (u : Value) : Blk (W.setCell p u) g t cs := (Below.heap_setCell W p u g hp).trans h
theorem Blk.set_ {W : World} {g : Nat} {t : TypeId} {cs : Array Value} (h : Blk W g t cs) (i : Nat) (u : Value) : Blk (W.setCell ⟨g, i, none⟩ u) g t (cs.setIfInBounds i u) := by
  have h' : W.heap[g]? = some (.cells cs t (0, 0)) := h
  simp [Blk, World.setCell, Array.getElem?_modify, h']
theorem Blk.own {β : Type} (B g : Nat) (t : TypeId) (cs : Array Value) : OwnFrom B (fun (_ : β) W => Blk W g t cs) := fun _ X _ _ hs hg hr =>
  (hg.block g (Blk.lt hs) (fun e => by
    obtain ⟨_, o, ho, hc⟩ := hr g e.symm
    rw [show X.heap[g]? = _ from hs] at ho
    cases ho
    cases hc)).trans hs
theorem keepsFrom_below {B : Nat} {W W' : World} (h : Below W.heap.size W W') : KeepsFrom B W W' := ⟨h.size, fun k _ _ hk _ => (h.block k (Array.getElem?_eq_some_iff.1 hk).1).trans hk⟩

/-! ### value -/
/-- The value within piece i. -/
def fvN (ks : List (Int × Int)) (x : Int) (i : Nat) : Int := lowN (ky ks i * (kx ks (i + 1) - kx ks i) + (ky ks (i + 1) - ky ks i) * (x - kx ks i)) (kx ks (i + 1) - kx ks i)
def fvD (ks : List (Int × Int)) (x : Int) (i : Nat) : Int := lowD (ky ks i * (kx ks (i + 1) - kx ks i) + (ky ks (i + 1) - ky ks i) * (x - kx ks i)) (kx ks (i + 1) - kx ks i)
/-- The piece in which x lies. -/
def pieceOf (ks : List (Int × Int)) (x : Int) : Option Nat := (List.range (ks.length - 1)).find? fun i => decide (x ≤ kx ks (i + 1))
def valN (ks : List (Int × Int)) (x : Int) : Int := match pieceOf ks x with | some i => fvN ks x i | none => lowN (ky ks (ks.length - 1)) 1
def valD (ks : List (Int × Int)) (x : Int) : Int := match pieceOf ks x with | some i => fvD ks x i | none => lowD (ky ks (ks.length - 1)) 1

/-- The knots of a valid curve. -/
structure Valid (ks : List (Int × Int)) : Prop where
  pos : 0 < ks.length
  le : ks.length ≤ 40
  x0 : ∀ i, i < ks.length → 0 ≤ kx ks i ∧ kx ks i ≤ 2000
  y0 : ∀ i, i < ks.length → -65536 ≤ ky ks i ∧ ky ks i ≤ 65536
  up : ∀ i, i + 1 < ks.length → kx ks i + 1 ≤ kx ks (i + 1)

theorem mul_bd {x y A B : Int} (h1 : -A ≤ x) (h2 : x ≤ A) (h3 : -B ≤ y) (h4 : y ≤ B) : -(A * B) ≤ x * y ∧ x * y ≤ A * B := by
  have hA : 0 ≤ A := by omega
  have hB : 0 ≤ B := by omega
  have e : (x * y).natAbs ≤ (A * B).natAbs := by
    rw [Int.natAbs_mul, Int.natAbs_mul]
    exact Nat.mul_le_mul (by omega) (by omega)
  have hAB : 0 ≤ A * B := Int.mul_nonneg hA hB
  generalize x * y = p at *
  generalize A * B = q at *
  omega

theorem leave_one {fn : Func} {tmps : Array Value} {R : Ending → World → Prop} {D : Nat} {W : World} (hK : W.heap[D]? = some (.deferred (some []))) {P : Program} {m : Nat}
    (h : ∃ v, (results fn tmps).run P (W.putObj D (.deferred none)) = .ok v (W.putObj D (.deferred none)) ∧ R (.returned v) (W.putObj D (.deferred none))) :
    bodyPostM Fence.wide m P fn R .ret { tmps := tmps, defers := [{ target := .collected D, args := #[] }] } W :=
  ⟨by simp, .inl ⟨_, _, rfl, run_takeDeferred hK, h⟩⟩
theorem Blk.put {W : World} {g D : Nat} {t : TypeId} {cs : Array Value} {o : Obj} (h : Blk W g t cs) (hne : g ≠ D) : Blk (W.putObj D o) g t cs := (World.putObj_heap_other (by omega)).trans h
theorem below_put {B D : Nat} {w W : World} {o : Obj} (h : Below B w W) (hB : B ≤ D) : Below B w (W.putObj D o) :=
  h.trans ⟨rfl, rfl, rfl, by simp [World.putObj], fun k hk => World.putObj_heap_other (by omega)⟩
theorem pieceOf_some {ks : List (Int × Int)} {x : Int} {pre' : List (Fin (ks.length - 1))} {i : Fin (ks.length - 1)} (hpre : pre' ++ [i] <+: List.finRange (ks.length - 1))
    (h1 : ∀ j ∈ pre', kx ks (j.val + 1) < x) (h2 : x ≤ kx ks (i.val + 1)) : pieceOf ks x = some i.val := by
  have hlen : pre'.length < ks.length - 1 := by have := hpre.length_le; simp at this; omega
  have hget : ∀ k (hk : k < (pre' ++ [i]).length), ((pre' ++ [i])[k]).val = k := fun k hk => by
    have := hpre.getElem hk
    rw [this]; simp
  have hi : i.val = pre'.length := by have := hget pre'.length (by simp); simpa using this
  unfold pieceOf
  rw [List.find?_range_eq_some]
  refine ⟨by simpa using h2, by simp, fun j hj => ?_⟩
  have hj' : j < pre'.length := by omega
  have h3 := hget j (by simp; omega)
  rw [List.getElem_append_left hj'] at h3
  have := h1 _ (List.getElem_mem hj')
  rw [h3] at this
  simp; omega

theorem value_any (b off cap : Nat) (err : Int) (ks : List (Int × Int)) (x : Int) (w : World) (h : Kn w b off ks) (hv : Valid ks) (hx1 : 0 ≤ x) (hx2 : x ≤ 2000) :
    Calls Try.prog 83 #[vCv (some ⟨b, off, none⟩) ks.length cap err, .int .i64 x] w fun e w' => e = .returned (vFrac (valN ks x) (valD ks x)) ∧ Below w.heap.size w w' := by
  have hlt := h.lt
  have hp := hv.pos
  have hle := hv.le
  refine (callsIn_wide (n := 3)).1 (callsIn_of_wp_marks Try.func83 rfl trivial ?_ rfl)
  simp only [Try.ntmps83, List.size_toArray, List.length_cons, List.length_nil, Nat.reduceAdd, Nat.reduceSub, Array.replicate_succ, Array.replicate_zero, List.push_toArray, List.append_toArray, List.nil_append, List.cons_append]
  gi_wp2_with (refine ⟨trivial, ?_⟩; gi_at_call 106; refine (callsIn_wide.2 (pieces_any _ _ _ _ _)).mono ?_; rintro e w' ⟨rfl, rfl⟩)
  generalize hW0 : (((w.alloc (.cells #[.slice (some ⟨b, off, none⟩) ks.length cap, .int .i64 err] 24)).alloc (.cells #[.int .i64 x] 3)).alloc (.cells #[.int .i64 0, .int .i64 0] 30)).alloc (.cells #[.slice (some ⟨b, off, none⟩) ks.length cap, .int .i64 err] 24) = W0
  have hs0 : W0.heap.size = w.heap.size + 4 := by rw [← hW0]; simp
  have hc0 : Blk W0 w.heap.size 24 #[.slice (some ⟨b, off, none⟩) ks.length cap, .int .i64 err] := by rw [← hW0]; exact (((Blk.at_new _ _ rfl).alloc _).alloc _).alloc _
  have hx0 : Blk W0 (w.heap.size + 1) 3 #[.int .i64 x] := by rw [← hW0]; exact ((Blk.at_new _ _ (by simp)).alloc _).alloc _
  have hr0 : Blk W0 (w.heap.size + 2) 30 #[.int .i64 0, .int .i64 0] := by rw [← hW0]; exact (Blk.at_new _ _ (by simp)).alloc _
  have hp0 : Blk W0 (w.heap.size + 3) 24 #[.slice (some ⟨b, off, none⟩) ks.length cap, .int .i64 err] := by rw [← hW0]; exact Blk.at_new _ _ (by simp)
  have hbw : Below w.heap.size w W0 := by rw [← hW0]; exact ((((Below.refl _ _).alloc (Nat.le_refl _) _).alloc (by simp) _).alloc (by simp; omega) _).alloc (by simp; omega) _
  clear hW0
  have hk0 : Kn W0 b off ks := h.below hbw
  refine wpIn_rangeFunc_ownH (α := Fin (ks.length - 1)) rfl (by omega) (gf := 136) (lb := #[.pointer (some ⟨w.heap.size + 3, 0, none⟩)]) rfl trivial (enters_of Try.func136 (by kernel_rfl) rfl)
    (pieces_stops _ (w.heap.size + 3) b off cap ks (by omega) W0 (hp0.cell 0) (by omega) hk0) keep2_t (keep2_b (B := w.heap.size + 3) (b := b) (w := W0) (by omega) (by omega)) (Below.refl _ _) (fun x => (rfl : (encP ks x).size = 2))
    (fun pre W => (∀ i ∈ pre, kx ks (i.val + 1) < x) ∧ Blk W w.heap.size 24 #[.slice (some ⟨b, off, none⟩) ks.length cap, .int .i64 err] ∧ Blk W (w.heap.size + 1) 3 #[.int .i64 x] ∧ Blk W (w.heap.size + 2) 30 #[.int .i64 0, .int .i64 0] ∧ Below w.heap.size w W ∧ W0.heap.size ≤ W.heap.size)
    (fun c pre W => c = .ret ∧ ∃ pre' i, pre = pre' ++ [i] ∧ (∀ i ∈ pre', kx ks (i.val + 1) < x) ∧ x ≤ kx ks (i.val + 1) ∧ Blk W (w.heap.size + 2) 30 #[.int .i64 (fvN ks x i.val), .int .i64 (fvD ks x i.val)] ∧ Below w.heap.size w W)
    ((ownFrom_pure _ _).and ((Blk.own _ _ _ _).and ((Blk.own _ _ _ _).and ((Blk.own _ _ _ _).and ((ownFrom_below (Nat.le_refl _) (by omega)).and (fun _ _ _ _ hs hg _ => Nat.le_trans hs hg.size))))))
    ?hIx ⟨by simp, hc0, hx0, hr0, hbw, Nat.le_refl _⟩
    (fun i a' W => ∃ Bx, W0.heap.size ≤ Bx ∧ Blk W Bx 134 #[.int .i64 (kx ks i.val), .int .i64 (ky ks i.val), .int .i64 (kx ks (i.val + 1)), .int .i64 (ky ks (i.val + 1))] ∧
      a' = { tmps := #[vCv (some ⟨b, off, none⟩) ks.length cap err, .int .i64 x, .pointer (some ⟨w.heap.size, 0, none⟩), .pointer (some ⟨w.heap.size + 1, 0, none⟩), .pointer (some ⟨w.heap.size + 2, 0, none⟩), undef, .pointer (some ⟨Bx, 0, none⟩), vCv (some ⟨b, off, none⟩) ks.length cap err, .func (.func 136) #[] #[.pointer (some ⟨w.heap.size + 3, 0, none⟩)], .int .i64 (i.val : Nat), vPiece (kx ks i.val) (ky ks i.val) (kx ks (i.val + 1)) (ky ks (i.val + 1)), undef, undef, undef, undef, undef, undef, undef, undef, undef, undef, undef, undef, undef, undef, undef, undef, undef, undef, undef, undef, undef, undef, undef, undef, undef, undef, undef, undef, undef, undef, undef, undef, undef], defers := [] })
    ?hAx ?assign ?body ?done ?stop
  case hIx =>
    intro c s X Y row hs hg hr
    obtain ⟨h1, pre', i, h2, h3, h4, h5, h6⟩ := hs
    exact ⟨h1, pre', i, h2, h3, h4, Blk.own (β := Unit) _ _ _ _ () X Y row h5 hg hr, ownFrom_below (β := Unit) (Nat.le_refl _) (show w.heap.size ≤ W0.heap.size by omega) () X Y row h6 hg hr⟩
  case hAx =>
    rintro i a' _ X Y row ⟨Bx, h1, h2, h3⟩ hg hr
    exact ⟨Bx, h1, Blk.own (β := Unit) _ _ _ _ () X Y row h2 hg hr, h3⟩
  case assign =>
    rintro l pre i W K ⟨hi1, hi2, hi3, hi4, hi5, hi6⟩ hK
    unfold encP
    gi_wp2
    exact hK _ _ ((KeepsOthers.alloc _ _).from _) (keep2_below ((Below.refl _ W).alloc (Nat.le_refl _) _) (by omega) (by omega)) ⟨hi1, hi2.alloc _, hi3.alloc _, hi4.alloc _, hi5.alloc hi5.size _, by simp; omega⟩ ⟨W.heap.size, hi6, Blk.new W _ _, rfl⟩
  case body =>
    rintro l pre i _ W hl ⟨r, hr⟩ ⟨hi1, hi2, hi3, hi4, hi5, hi6⟩ ⟨Bx, hBx, hpc, rfl⟩ hlen
    obtain ⟨i, hi⟩ := i
    dsimp only at hpc hi1 ⊢
    have hcx := hi3.cell 0
    have hq0 := hpc.cell 0
    have hq1 := hpc.cell 1
    have hq2 := hpc.cell 2
    have hq3 := hpc.cell 3
    have hBlt := hpc.lt
    simp only [List.getElem?_toArray, List.getElem?_cons_zero, List.getElem?_cons_succ] at hcx hq0 hq1 hq2 hq3
    obtain ⟨ha1, ha2⟩ := hv.x0 i (by omega)
    obtain ⟨ha3, ha4⟩ := hv.x0 (i + 1) (by omega)
    obtain ⟨hb1, hb2⟩ := hv.y0 i (by omega)
    obtain ⟨hb3, hb4⟩ := hv.y0 (i + 1) (by omega)
    have hup := hv.up i (by omega)
    by_cases hxq : x ≤ kx ks (i + 1)
    · obtain ⟨m1, m2⟩ := mul_bd (A := 65536) (B := 2000) (x := ky ks i) (y := kx ks (i + 1) - kx ks i) hb1 hb2 (by omega) (by omega)
      obtain ⟨m3, m4⟩ := mul_bd (A := 131072) (B := 2000) (x := ky ks (i + 1) - ky ks i) (y := x - kx ks i) (by omega) (by omega) (by omega) (by omega)
      obtain ⟨xc, xf⟩ := xcell (W := W)
      have hl3 : w.heap.size + 1 < W.heap.size := by omega
      have hW2 : w.heap.size + 2 < W.heap.size := by omega
      gi_wp2
      refine wpIn_region_quiet_tail 18 (openRound _ _) (by kernel_rfl) (by kernel_rfl) ?_
      simp only [List.take_succ_cons, List.take_zero, List.drop_succ_cons, List.drop_zero]
      repeat (first | go_big_quiet_step (first | (go_at_call 108; exact calls_ext (run_any _ _ _ _ _ (by omega) (by omega) (by omega) (by omega))) | (go_at_call 107; exact calls_ext (rise_any _ _ _ _ _ (by omega) (by omega) (by omega) (by omega))) | (go_at_call 100; exact calls_ext (frac_pos _ _ _ (by omega) (by omega) (by omega) (by omega)))) | quiet_step (first | (go_at_call 108; exact calls_ext (run_any _ _ _ _ _ (by omega) (by omega) (by omega) (by omega))) | (go_at_call 107; exact calls_ext (rise_any _ _ _ _ _ (by omega) (by omega) (by omega) (by omega))) | (go_at_call 100; exact calls_ext (frac_pos _ _ _ (by omega) (by omega) (by omega) (by omega)))))
      refine wpQuiet_nil ?_
      intro w2 hb2'
      have hr2 := hi4.below hb2'
      have hrc := hr2.cell 0
      have hrd := hr2.cell 1
      have hrf := hr2.frozen 0
      have hrg := hr2.frozen 1
      simp only [List.getElem?_toArray, List.getElem?_cons_zero, List.getElem?_cons_succ] at hrc hrd
      gi_wp2
      refine ⟨(keepsFrom_below hb2').trans (((KeepsOthers.setCell _ _ _).trans (KeepsOthers.setCell _ _ _)).from _), rfl, pre, ⟨i, hi⟩, rfl, hi1, hxq, ?_, ((hi5.trans (hb2'.mono hi5.size)).setCell (p := ⟨w.heap.size + 2, 0, none⟩) (by simp) _).setCell (p := ⟨w.heap.size + 2, 1, none⟩) (by simp) _⟩
      exact (hr2.set_ 0 _).set_ 1 _
    · have hxn : kx ks (i + 1) < x := by omega
      gi_wp2
      refine ⟨KeepsFrom.refl _ _, keep2_refl _ _ _, ?_, hi2, hi3, hi4, hi5, by omega⟩
      intro j hj
      rcases List.mem_append.1 hj with h1 | h1
      · exact hi1 j h1
      · have : j = ⟨i, hi⟩ := by simpa using h1
        rw [this]; exact hxn
  case done =>
    rintro D xs W hD hxs ⟨hi1, hi2, hi3, hi4, hi5, hi6⟩ hK
    have hcc := hi2.cell 0
    simp only [List.getElem?_toArray, List.getElem?_cons_zero] at hcc
    have hy := (h.below hi5).y (ks.length - 1) (by omega)
    obtain ⟨hb1, hb2⟩ := hv.y0 (ks.length - 1) (by omega)
    have hnone : pieceOf ks x = none := by
      unfold pieceOf
      rw [List.find?_eq_none]
      intro i hi
      have hi' : i < ks.length - 1 := by simpa using hi
      have := hi1 ⟨i, hi'⟩ (by rw [hxs]; simp)
      simp
      exact this
    have hvN : valN ks x = lowN (ky ks (ks.length - 1)) 1 := by unfold valN; rw [hnone]
    have hvD : valD ks x = lowD (ky ks (ks.length - 1)) 1 := by unfold valD; rw [hnone]
    have HN := Lib.hid hvN
    have HD := Lib.hid hvD
    clear hvN hvD hnone hi1 hxs
    have hlen1 : ks.length - 1 < ks.length := by omega
    gi_wp2_with fail
    refine ⟨trivial, (callsIn_wide.2 (frac_pos _ _ _ (by omega) (by omega) (by omega) (by omega))).mono ?_⟩
    rintro e w1 ⟨rfl, hb3⟩
    have hr2 := hi4.below hb3
    have hrc := hr2.cell 0
    have hrd := hr2.cell 1
    have hrf := hr2.frozen 0
    have hrg := hr2.frozen 1
    have hK1 : w1.heap[D]? = some (.deferred (some [])) := (hb3.block D (Array.getElem?_eq_some_iff.1 hK).1).trans hK
    have hb5 := hi5.trans (hb3.mono hi5.size)
    simp only [List.getElem?_toArray, List.getElem?_cons_zero, List.getElem?_cons_succ] at hrc hrd
    gi_wp2
    refine leave_one (D := D) (Below.heap_setCell _ _ _ _ (by simp; omega) |>.trans ((Below.heap_setCell _ _ _ _ (by simp; omega)).trans hK1)) ?_
    have hr3 := (((hr2.set_ 0 (.int .i64 (lowN (ky ks (ks.length - 1)) 1))).set_ 1 (.int .i64 (lowD (ky ks (ks.length - 1)) 1))).put (D := D) (o := .deferred none) (by omega))
    have h30 := hr3.cell 0
    have h31 := hr3.cell 1
    simp only [List.setIfInBounds_toArray, List.set_cons_zero, List.set_cons_succ, List.getElem?_toArray, List.getElem?_cons_zero, List.getElem?_cons_succ] at h30 h31
    refine ⟨vFrac (lowN (ky ks (ks.length - 1)) 1) (lowD (ky ks (ks.length - 1)) 1), by simp [results, Try.results83, go_sem, h30, h31], by rw [HN.out, HD.out], ?_⟩
    exact below_put ((hb5.setCell (p := ⟨w.heap.size + 2, 0, none⟩) (by simp) _).setCell (p := ⟨w.heap.size + 2, 1, none⟩) (by simp) _) (by omega)
  case stop =>
    rintro D c pre W hD hpre ⟨rfl, pre', i, rfl, hi1, hxi, hi4, hi5⟩ hK
    have hsome : pieceOf ks x = some i.val := pieceOf_some hpre hi1 hxi
    have hvN : valN ks x = fvN ks x i.val := by unfold valN; rw [hsome]
    have hvD : valD ks x = fvD ks x i.val := by unfold valD; rw [hsome]
    have HN := Lib.hid hvN
    have HD := Lib.hid hvD
    clear hvN hvD hsome hpre hi1 hxi
    gi_wp2
    refine leave_one (D := D) hK ?_
    have hr3 := hi4.put (D := D) (o := .deferred none) (by omega)
    have h30 := hr3.cell 0
    have h31 := hr3.cell 1
    simp only [List.getElem?_toArray, List.getElem?_cons_zero, List.getElem?_cons_succ] at h30 h31
    refine ⟨vFrac (fvN ks x i.val) (fvD ks x i.val), by simp [results, Try.results83, go_sem, h30, h31], by rw [HN.out, HD.out], ?_⟩
    exact below_put hi5 (by omega)
end Go.Proofs.Ytipablcbkoedbaa
