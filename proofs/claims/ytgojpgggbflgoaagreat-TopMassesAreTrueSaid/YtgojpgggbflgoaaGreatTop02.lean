/- Two rows that the call owns, each appended to in a region that draws its order: the joint invariant; an append as a loud operation. A region that draws its order, lays one new block, and ends in its writes. A region that draws its order in a round: the quiet operations in one walk, the loud ones with one joint invariant; one row that is appended to. A region that draws its order, lays two new blocks, and ends in its writes. Lists of things in memory: each thing lies in its cells, one behind the other. The base of the seat of TopMassesAreTrue: curves, as far as ships need them. Rows of one's own, blocks: what serves every seat. Small functions: within, spans, meet, void, sums, halves. Ships as they lie; what their holds take together; values of forms. Sums of lists; values of forms; the forms of moments and of rises. -/
import Derived.Maps.AppendAt
import Derived.WalkKit
import Derived.WalkLawsBesides
import Derived.Deep.QuietTactic
import Derived.BigQuiet
import Derived.RegionTactic
import Derived.Lib.Hide
import Derived.Outline
import Derived.WalkSmall
import Derived.RangeFuncNested
import Derived.Shelf.Abstract
import Derived.RangeFuncBound
import Derived.RangeFuncCalls
import Derived.RangeFuncLeaves
import Derived.OwnWalkIn
import Derived.TacticsInMore
import Derived.LoopNIn
import Derived.LoopIn
import Derived.OwnWalk
import Derived.Deep.DeepCutAuto
import Derived.Test.YtgojpgggbflgoaaGreatTop01
import Derived.Test.YtgojpgggbflgoaaGreatProg
namespace Go.Proofs.YtgojpgggbflgoaaGreat
open Go.RowKit Go

/-- append as a loud operation. -/
theorem loudAt_append {P : Program} {o : Oper} {a : Act} {w : World} {R : Value → World → Prop} (s x : Operand) (t : TypeId)
    (ho : o.op = .call { callee := .builtin .append, args := #[s, x], argTypes := #[t, t] })
    (base : Nat) (e : TypeId) (i : TypeInfo) (z : Value) (size bytes : Nat) (ht : P.underlying t = some (.slice e)) (hi : P.info? e = some i) (hz : i.zero = some z)
    (hsize : i.size = size) (hby : i.bytes = bytes) (hzs : z.cells.size = size) (hsz : 0 < size)
    (v : Value) (n : Nat) (xs : List Value) (hs : a.eval s = v) (hown : w.ownsRow base e size v n xs)
    (ad : Addr) (m c : Nat) (news : List Value) (hx : a.eval x = .slice (some ad) m c) (hl : news.length = m * size) (hnews : ∀ j u, news[j]? = some u → w.cell? (ad.add j) = some u) (h1 : ∀ u ∈ news, u.oneCell' = true)
    (h63 : n + m ≤ maxLen) (hbytes : (n + m) * bytes ≤ 140737488355328) (hbase : base ≤ w.heap.size)
    (h : ∀ v' w', w'.ownsRow base e size v' (n + m) (xs ++ news) → w.grownBy w' v.ownBlock → (v'.ownBlock = v.ownBlock ∨ v'.ownBlock = some w.heap.size) → R v' w') : loudAt P o a w R := by
  obtain ⟨v', w', hr, h2, h3, h4, h5⟩ := run_append_own_at (P := P) w base t o.type e i z size bytes ht hi hz hsize hby hzs hsz v n xs hown ad m c news hl hnews h1 h63 hbytes hbase
  unfold loudAt execOp
  simp only [ho, resolve, invoke, builtin, Sem.run_bind, Sem.run_pure, Result.andThen_ok, List.map_toArray, List.map_cons, List.map_nil, hs, hx, hr]
  exact h v' w' h2 h3 h5

theorem owns_grown {W W' : World} {B e size : Nat} {v : Value} {n : Nat} {xs : List Value} {row : Option Nat} (h : W.ownsRow B e size v n xs) (hg : W.grownBy W' row) (hne : ∀ g, v.ownBlock = some g → row ≠ some g) : W'.ownsRow B e size v n xs := by
  refine ⟨h.1, ?_⟩
  rcases h.2 with hn | ⟨g, cap, cur, rfl, hg', hgg, rest⟩
  · exact .inl hn
  · exact .inr ⟨g, cap, cur, rfl, hg', (hg.block g (Array.getElem?_eq_some_iff.1 hgg).1 (fun e => hne g rfl (by rw [← e]))).trans hgg, rest⟩

theorem Blk.grown {W W' : World} {g : Nat} {t : TypeId} {cs : Array Value} {row : Option Nat} (h : Blk W g t cs) (hg : W.grownBy W' row) (hne : row ≠ some g) : Blk W' g t cs :=
  (hg.block g h.lt (fun e => hne (by rw [← e]))).trans h

theorem own_lt {W : World} {B e size : Nat} {v : Value} {n : Nat} {xs : List Value} (h : W.ownsRow B e size v n xs) {g : Nat} (hg : v.ownBlock = some g) : B ≤ g ∧ g < W.heap.size := by
  have := h.lt g hg
  exact this

/-- Two rows, one new piece each: slots i, i' are the new pieces, j, j' the rows behind the append. -/
structure TwoRows (e size base : Nat) (k : Nat) (G : List Nat) (i j : Nat) (v : Value) (xs p : List Value) (i' j' : Nat) (u : Value) (ys q : List Value) (ls : Nat → Bool) (vs : Nat → Value) (W : World) : Prop where
  rl : W.ownsRow base e size (cond (ls j) (vs j) v) (k + cond (ls j) 1 0) (xs ++ cond (ls j) p [])
  rh : W.ownsRow base e size (cond (ls j') (vs j') u) (k + cond (ls j') 1 0) (ys ++ cond (ls j') q [])
  ol : ∀ g, (cond (ls j) (vs j) v).ownBlock = some g → g ∉ G ∧ (cond (ls j') (vs j') u).ownBlock ≠ some g
  oh : ∀ g, (cond (ls j') (vs j') u).ownBlock = some g → g ∉ G ∧ (cond (ls j) (vs j) v).ownBlock ≠ some g
  tl : ls i = true → ls j = false → ∃ g, vs i = .slice (some ⟨g, 0, none⟩) 1 1 ∧ Blk W g e p.toArray ∧ (cond (ls j') (vs j') u).ownBlock ≠ some g
  th : ls i' = true → ls j' = false → ∃ g, vs i' = .slice (some ⟨g, 0, none⟩) 1 1 ∧ Blk W g e q.toArray ∧ (cond (ls j) (vs j) v).ownBlock ≠ some g
  G_ : ∀ g ∈ G, g < W.heap.size

section
variable {e size base k : Nat} {G : List Nat} {i j i' j' : Nat} {v u : Value} {xs p ys q : List Value} {ls : Nat → Bool} {vs : Nat → Value} {W W' : World}
theorem TwoRows.swap (h : TwoRows e size base k G i j v xs p i' j' u ys q ls vs W) : TwoRows e size base k G i' j' u ys q i j v xs p ls vs W :=
  ⟨h.rh, h.rl, h.oh, h.ol, h.th, h.tl, h.G_⟩
theorem TwoRows.below (h : TwoRows e size base k G i j v xs p i' j' u ys q ls vs W) (hb : Below W.heap.size W W') : TwoRows e size base k G i j v xs p i' j' u ys q ls vs W' :=
  ⟨owns_below h.rl hb, owns_below h.rh hb, h.ol, h.oh, fun a b => let ⟨g, x, y, z⟩ := h.tl a b; ⟨g, x, y.below hb, z⟩, fun a b => let ⟨g, x, y, z⟩ := h.th a b; ⟨g, x, y.below hb, z⟩, fun g hg => Nat.lt_of_lt_of_le (h.G_ g hg) hb.size⟩
theorem TwoRows.lay (h : TwoRows e size base k G i j v xs p i' j' u ys q ls vs W) (hd : i ≠ j ∧ i ≠ i' ∧ i ≠ j') : TwoRows e size base k G i j v xs p i' j' u ys q (updB ls i) (upd vs i (.slice (some ⟨W.heap.size, 0, none⟩) 1 1)) (W.alloc (.cells p.toArray e)) := by
  obtain ⟨h1, h2, h3⟩ := hd
  have e1 : updB ls i j = ls j := by simp [updB, Ne.symm h1]
  have e2 : updB ls i j' = ls j' := by simp [updB, Ne.symm h3]
  have e3 : ∀ x, upd vs i x j = vs j := fun x => by simp [upd, Ne.symm h1]
  have e4 : ∀ x, upd vs i x j' = vs j' := fun x => by simp [upd, Ne.symm h3]
  refine ⟨?_, ?_, ?_, ?_, fun _ _ => ⟨W.heap.size, by simp [upd], Blk.new _ _ _, ?_⟩, fun a b => ?_, fun g hg => by have := h.G_ g hg; simp; omega⟩
  · rw [e1, e3]; exact h.rl.alloc _
  · rw [e2, e4]; exact h.rh.alloc _
  · rw [e1, e2, e3, e4]; exact h.ol
  · rw [e1, e2, e3, e4]; exact h.oh
  · rw [e2, e4]
    intro hh
    have := (own_lt h.rh hh).2
    omega
  · have a' : ls i' = true := by simpa [updB, Ne.symm h2] using a
    rw [e2] at b
    obtain ⟨g, x, y, z⟩ := h.th a' b
    exact ⟨g, by simp [upd, Ne.symm h2, x], y.alloc _, by rw [e1, e3]; exact z⟩
theorem TwoRows.app (h : TwoRows e size base k G i j v xs p i' j' u ys q ls vs W) (hd : i ≠ j ∧ i' ≠ j ∧ j ≠ j') (hj : ls j = false) (v' : Value)
    (ho : W'.ownsRow base e size v' (k + 1) (xs ++ p)) (hg : W.grownBy W' v.ownBlock) (hv : v'.ownBlock = v.ownBlock ∨ v'.ownBlock = some W.heap.size) :
    TwoRows e size base k G i j v xs p i' j' u ys q (updB ls j) (upd vs j v') W' := by
  obtain ⟨h1, h2, h3⟩ := hd
  have e1 : updB ls j j = true := by simp [updB]
  have e2 : updB ls j j' = ls j' := by simp [updB, Ne.symm h3]
  have e3 : ∀ x, upd vs j x j = x := fun x => by simp [upd]
  have e4 : ∀ x, upd vs j x j' = vs j' := fun x => by simp [upd, Ne.symm h3]
  have hl := h.rl
  have hol := h.ol
  have hoh := h.oh
  have hth := h.th
  simp only [hj, cond_false] at hl hol hoh hth
  have hnew : ∀ g, v'.ownBlock = some g → g < W.heap.size → v.ownBlock = some g := fun g hg' hlt => by
    rcases hv with hv | hv
    · rw [← hv]; exact hg'
    · rw [hv] at hg'
      have : W.heap.size = g := by simpa using hg'
      omega
  refine ⟨?_, ?_, ?_, ?_, fun a b => ?_, fun a b => ?_, fun g hg' => Nat.lt_of_lt_of_le (h.G_ g hg') hg.size⟩
  · rw [e1, e3]; exact ho
  · rw [e2, e4]; exact owns_grown h.rh hg (fun g hg' => (hoh g hg').2)
  · rw [e1, e2, e3, e4]
    intro g hg'
    by_cases hlt : g < W.heap.size
    · exact hol g (hnew g hg' hlt)
    · exact ⟨fun hm => hlt (h.G_ g hm), fun hh => hlt (own_lt h.rh hh).2⟩
  · rw [e1, e2, e3, e4]
    intro g hg'
    exact ⟨(hoh g hg').1, fun hh => (hoh g hg').2 (hnew g hh (own_lt h.rh hg').2)⟩
  · rw [e1] at b; cases b
  · have a' : ls i' = true := by simpa [updB, h2] using a
    rw [e2] at b
    obtain ⟨g, x, y, z⟩ := hth a' b
    exact ⟨g, by simp [upd, h2, x], y.grown hg z, by rw [e1, e3]; exact fun hh => z (hnew g hh y.lt)⟩
end
end Go.Proofs.YtgojpgggbflgoaaGreat

namespace Go.Proofs.YtgojpgggbflgoaaGreat
open Go.RowKit Go

def newInv (w : World) (i : Nat) (t : TypeId) (cs : Array Value) (ls : Nat → Bool) (vs : Nat → Value) (v : World) : Prop :=
  ls i = true → ∃ g, vs i = .pointer (some ⟨g, 0, none⟩) ∧ w.heap.size ≤ g ∧ Blk v g t cs

theorem wp_region_new {P : Program} {id : Nat} {Q : Exit → Act → World → Prop} {a : Act} {w : World} {l : List Oper} (n i : Nat) (d : Tmp) (t : TypeId) (cs : Array Value)
    (hm : P.follows .mixedOrders = true) (hB : (regB l.toArray n [(i, d)] && dstsB a.tmps.size (qOf [(i, d)] 0 (l.take n)) && [(i, d)].all fun p => match l[p.1]? with | some o => o.dst.isSome || decide (a.tmps.size ≤ p.2) | none => true) = true)
    (hop : ∀ (a' : Act) (v : World) (R : Value → World → Prop), R (.pointer (some ⟨v.heap.size, 0, none⟩)) (v.alloc (.cells cs t)) → ∀ o, l[i]? = some o → loudAt P o a' v R)
    (h : ∃ aQ, (∀ W, Below w.heap.size w W → wpQuiet P l.toArray (fun v' => ∃ x : Ext W, v' = x.w) (fun a' => a' = aQ) (qOf [(i, d)] 0 (l.take n)) a) ∧
      ∀ g v, w.heap.size ≤ g → Below w.heap.size w v → Blk v g t cs → wpList P l.toArray Q (l.drop n) (aQ.put (some d) (.pointer (some ⟨g, 0, none⟩))) v) : (Code.region id l.toArray true).wp P Q a w := by
  obtain ⟨aQ, h1, h2⟩ := h
  refine wp_region_pre n [(i, d)] (newInv w i t cs) hm hB (fun v _ h => by cases h) (fun ls vs v v' _ h k hl => ?_) ⟨aQ, h1, ?_, ?_⟩
  · obtain ⟨g, e, hg, hb⟩ := h hl
    exact ⟨g, e, hg, hb.below k⟩
  · rintro p hp vs v ⟨x, rfl⟩ ls hI hls _ o ho
    have hp : p = (i, d) := by simpa using hp
    subst hp
    refine hop _ _ _ ⟨Over.of (x.below.alloc x.below.size _), fun _ => ⟨x.w.heap.size, by simp [upd], x.below.size, Blk.new _ _ _⟩⟩ o ho
  · rintro ls vs _ ⟨x, rfl⟩ hI hls
    obtain ⟨g, e, hg, hb⟩ := hI (hls (i, d) (by simp))
    have := h2 g x.w hg x.below hb
    show wpList P l.toArray Q (l.drop n) (putsL aQ [(i, d)] vs) x.w
    have ep : putsL aQ [(i, d)] vs = aQ.put (some d) (vs i) := rfl
    rw [ep, e]
    exact this
end Go.Proofs.YtgojpgggbflgoaaGreat

namespace Go.Proofs.YtgojpgggbflgoaaGreat
open Go.RowKit Go

theorem wpIn_region_preC {F : Fence} {P : Program} {id m : Nat} {Q : Exit → Act → World → Prop} {a : Act} {w : World} {l : List Oper} (n : Nat) (L : List (Nat × Tmp)) (C : World → Prop) (Φ : (Nat → Bool) → (Nat → Value) → World → Prop)
    (hF : OpenFence F P) (hm : P.follows .mixedOrders = true) (hB : (regB l.toArray n L && dstsB a.tmps.size (qOf L 0 (l.take n)) && L.all fun p => match l[p.1]? with | some o => o.dst.isSome || decide (a.tmps.size ≤ p.2) | none => true) = true)
    (hw : C w) (hC : ∀ v v', C v → Below v.heap.size v v' → C v') (h0 : ∀ v, Below w.heap.size w v → Φ (fun _ => false) (fun _ => undef) v)
    (hΦ : ∀ ls vs v v', C v → Φ ls vs v → Below v.heap.size v v' → Φ ls vs v')
    (h : ∃ aQ, (∀ W, C W → wpQuiet P l.toArray (fun v' => ∃ x : Ext W, v' = x.w) (fun a' => a' = aQ) (qOf L 0 (l.take n)) a) ∧
      HeadEnd P l L C Φ (fun a w => wpListIn F m P l.toArray Q (l.drop n) a w) aQ) : (Code.region id l.toArray true).wpIn F m P Q a w := by
  simp only [Bool.and_eq_true, List.all_eq_true] at hB
  obtain ⟨⟨hB, hd⟩, ho⟩ := hB
  obtain ⟨aQ, h, he⟩ := h
  refine wpIn_region_head n L C (fun W v' => ∃ x : Ext W, v' = x.w) Φ hF hm hB (hC _ _ hw (Below.refl _ w).drew) (h0 _ (Below.refl _ w).drew) (fun p hp o hpo hn => ?_) (fun v _ => Over.refl v) (fun _ _ h k => hC _ _ h (Over.below k))
    (fun ls vs v v' hc h k => hΦ ls vs v v' hc h (Over.below k)) (qs_of_q (fun v _ => Over.refl v) w hw he _ 0 a hd h)
  have := ho p hp
  rw [hpo] at this
  simpa [hn] using this

/-- One row, one new piece: slot i is the new piece, j the row behind the append. -/
structure OneRow (e size base k : Nat) (i j : Nat) (v : Value) (xs p : List Value) (ls : Nat → Bool) (vs : Nat → Value) (W : World) : Prop where
  row : W.ownsRow base e size (cond (ls j) (vs j) v) (k + cond (ls j) 1 0) (xs ++ cond (ls j) p [])
  new : ls i = true → ls j = false → ∃ g, vs i = .slice (some ⟨g, 0, none⟩) 1 1 ∧ Blk W g e p.toArray
section
variable {e size base k : Nat} {i j : Nat} {v : Value} {xs p : List Value} {ls : Nat → Bool} {vs : Nat → Value} {W W' : World}
theorem OneRow.below (h : OneRow e size base k i j v xs p ls vs W) (hb : Below W.heap.size W W') : OneRow e size base k i j v xs p ls vs W' :=
  ⟨owns_below h.row hb, fun a b => let ⟨g, x, y⟩ := h.new a b; ⟨g, x, y.below hb⟩⟩
theorem OneRow.lay (h : OneRow e size base k i j v xs p ls vs W) (hd : i ≠ j) : OneRow e size base k i j v xs p (updB ls i) (upd vs i (.slice (some ⟨W.heap.size, 0, none⟩) 1 1)) (W.alloc (.cells p.toArray e)) := by
  have e1 : updB ls i j = ls j := by simp [updB, Ne.symm hd]
  have e3 : ∀ x, upd vs i x j = vs j := fun x => by simp [upd, Ne.symm hd]
  refine ⟨?_, fun _ _ => ⟨W.heap.size, by simp [upd], Blk.new _ _ _⟩⟩
  rw [e1, e3]; exact h.row.alloc _
theorem OneRow.app (_ : OneRow e size base k i j v xs p ls vs W) (v' : Value) (ho : W'.ownsRow base e size v' (k + 1) (xs ++ p)) :
    OneRow e size base k i j v xs p (updB ls j) (upd vs j v') W' := by
  have e1 : updB ls j j = true := by simp [updB]
  have e3 : ∀ x, upd vs j x j = x := fun x => by simp [upd]
  refine ⟨by rw [e1, e3]; exact ho, fun _ b => ?_⟩
  rw [e1] at b; cases b
end

/-- A row that is owned abides the turn of a block that is no cells. -/
theorem owns_own {B base e size n : Nat} {v : Value} {xs : List Value} {X Y : World} {row : Option Nat} (h : X.ownsRow base e size v n xs) (hg : X.grownBy Y row) (hr : ∀ r, row = some r → B ≤ r ∧ ∃ o : Obj, X.heap[r]? = some o ∧ o.isCells = false) : Y.ownsRow base e size v n xs := by
  refine owns_grown h hg fun g hgv hrow => ?_
  obtain ⟨_, o, ho, hc⟩ := hr g hrow
  rcases h.2 with ⟨rfl, _⟩ | ⟨g', cap, cur, rfl, _, hgg, _⟩
  · cases hgv
  · have : g' = g := Option.some.inj hgv
    subst this
    rw [hgg] at ho
    cases ho
    cases hc

/-- A row's own block holds cells of the row's type. -/
theorem own_blk {W : World} {B e size n g : Nat} {v : Value} {xs : List Value} (h : W.ownsRow B e size v n xs) (hg : v.ownBlock = some g) : ∃ cur, W.heap[g]? = some (.cells cur e (0, 0)) := by
  rcases h.2 with ⟨rfl, _⟩ | ⟨g', cap, cur, rfl, _, hgg, _⟩
  · cases hg
  · have : g' = g := Option.some.inj hg
    subst this
    exact ⟨cur, hgg⟩
theorem own_ne {W : World} {B e size n g t : Nat} {v : Value} {xs : List Value} {cs : Array Value} (h : W.ownsRow B e size v n xs) (hb : Blk W g t cs) (ht : t ≠ e) : v.ownBlock ≠ some g := fun hg => by
  obtain ⟨cur, hc⟩ := own_blk h hg
  rw [show W.heap[g]? = _ from hb] at hc
  cases hc
  exact ht rfl
theorem own_keeps {W W' : World} {B B' e size n : Nat} {v : Value} {xs : List Value} (h : W.ownsRow B e size v n xs) (hg : W.grownBy W' v.ownBlock) : KeepsFrom B' W W' :=
  (KeepsOthers.of_grownBy hg fun j o hj ho => by
    obtain ⟨cur, hc⟩ := own_blk h hj
    rw [hc] at ho
    cases ho
    rfl).from _
end Go.Proofs.YtgojpgggbflgoaaGreat

namespace Go.Proofs.YtgojpgggbflgoaaGreat
open Go.RowKit Go

def newInv2 (w : World) (i : Nat) (t : TypeId) (cs : Array Value) (i' : Nat) (t' : TypeId) (cs' : Array Value) (ls : Nat → Bool) (vs : Nat → Value) (v : World) : Prop :=
  (ls i = true → ∃ g, vs i = .pointer (some ⟨g, 0, none⟩) ∧ w.heap.size ≤ g ∧ Blk v g t cs) ∧ (ls i' = true → ∃ g, vs i' = .pointer (some ⟨g, 0, none⟩) ∧ w.heap.size ≤ g ∧ Blk v g t' cs') ∧ (ls i = true → ls i' = true → vs i ≠ vs i')

theorem wp_region_new2 {P : Program} {id : Nat} {Q : Exit → Act → World → Prop} {a : Act} {w : World} {l : List Oper} (n i : Nat) (d : Tmp) (t : TypeId) (cs : Array Value) (i' : Nat) (d' : Tmp) (t' : TypeId) (cs' : Array Value) (hii : i ≠ i')
    (hm : P.follows .mixedOrders = true) (hB : (regB l.toArray n [(i, d), (i', d')] && dstsB a.tmps.size (qOf [(i, d), (i', d')] 0 (l.take n)) && [(i, d), (i', d')].all fun p => match l[p.1]? with | some o => o.dst.isSome || decide (a.tmps.size ≤ p.2) | none => true) = true)
    (hop : ∀ (a' : Act) (v : World) (R : Value → World → Prop), R (.pointer (some ⟨v.heap.size, 0, none⟩)) (v.alloc (.cells cs t)) → ∀ o, l[i]? = some o → loudAt P o a' v R)
    (hop' : ∀ (a' : Act) (v : World) (R : Value → World → Prop), R (.pointer (some ⟨v.heap.size, 0, none⟩)) (v.alloc (.cells cs' t')) → ∀ o, l[i']? = some o → loudAt P o a' v R)
    (h : ∃ aQ, (∀ W, Below w.heap.size w W → wpQuiet P l.toArray (fun v' => ∃ x : Ext W, v' = x.w) (fun a' => a' = aQ) (qOf [(i, d), (i', d')] 0 (l.take n)) a) ∧
      ∀ g g' v, w.heap.size ≤ g → w.heap.size ≤ g' → g ≠ g' → Below w.heap.size w v → Blk v g t cs → Blk v g' t' cs' → wpList P l.toArray Q (l.drop n) ((aQ.put (some d) (.pointer (some ⟨g, 0, none⟩))).put (some d') (.pointer (some ⟨g', 0, none⟩))) v) : (Code.region id l.toArray true).wp P Q a w := by
  obtain ⟨aQ, h1, h2⟩ := h
  refine wp_region_pre n [(i, d), (i', d')] (newInv2 w i t cs i' t' cs') hm hB (fun v _ => ⟨fun h => (by cases h), fun h => (by cases h), fun h => (by cases h)⟩) (fun ls vs v v' _ h k => ⟨fun hl => ?_, fun hl => ?_, h.2.2⟩) ⟨aQ, h1, ?_, ?_⟩
  · obtain ⟨g, e, hg, hb⟩ := h.1 hl
    exact ⟨g, e, hg, hb.below k⟩
  · obtain ⟨g, e, hg, hb⟩ := h.2.1 hl
    exact ⟨g, e, hg, hb.below k⟩
  · rintro p hp vs v ⟨x, rfl⟩ ls hI hls _ o ho
    simp only [List.mem_cons, List.not_mem_nil, or_false] at hp
    rcases hp with rfl | rfl
    · refine hop _ _ _ ⟨Over.of (x.below.alloc x.below.size _), fun _ => ⟨x.w.heap.size, by simp [upd], x.below.size, Blk.new _ _ _⟩, fun hl => ?_, fun _ hl => ?_⟩ o ho
      · have hl' : ls i' = true := by simpa [updB, Ne.symm hii] using hl
        obtain ⟨g, e, hg, hb⟩ := hI.2.1 hl'
        exact ⟨g, by simpa [upd, Ne.symm hii] using e, hg, hb.alloc _⟩
      · have hl' : ls i' = true := by simpa [updB, Ne.symm hii] using hl
        obtain ⟨g, e, hg, hb⟩ := hI.2.1 hl'
        have := hb.lt
        have e1 : upd vs i (.pointer (some ⟨x.w.heap.size, 0, none⟩)) i = .pointer (some ⟨x.w.heap.size, 0, none⟩) := by simp [upd]
        have e2 : upd vs i (.pointer (some ⟨x.w.heap.size, 0, none⟩)) i' = .pointer (some ⟨g, 0, none⟩) := by simpa [upd, Ne.symm hii] using e
        rw [e1, e2]
        intro c
        simp at c
        try omega
    · refine hop' _ _ _ ⟨Over.of (x.below.alloc x.below.size _), fun hl => ?_, fun _ => ⟨x.w.heap.size, by simp [upd], x.below.size, Blk.new _ _ _⟩, fun hl _ => ?_⟩ o ho
      · have hl' : ls i = true := by simpa [updB, hii] using hl
        obtain ⟨g, e, hg, hb⟩ := hI.1 hl'
        exact ⟨g, by simpa [upd, hii] using e, hg, hb.alloc _⟩
      · have hl' : ls i = true := by simpa [updB, hii] using hl
        obtain ⟨g, e, hg, hb⟩ := hI.1 hl'
        have := hb.lt
        have e1 : upd vs i' (.pointer (some ⟨x.w.heap.size, 0, none⟩)) i' = .pointer (some ⟨x.w.heap.size, 0, none⟩) := by simp [upd]
        have e2 : upd vs i' (.pointer (some ⟨x.w.heap.size, 0, none⟩)) i = .pointer (some ⟨g, 0, none⟩) := by simpa [upd, hii] using e
        rw [e1, e2]
        intro c
        simp at c
        try omega
  · rintro ls vs _ ⟨x, rfl⟩ hI hls
    have a1 := hls (i, d) (by simp)
    have a2 := hls (i', d') (by simp)
    obtain ⟨g, e, hg, hb⟩ := hI.1 a1
    obtain ⟨g', e', hg', hb'⟩ := hI.2.1 a2
    have hne := hI.2.2 a1 a2
    rw [e, e'] at hne
    have := h2 g g' x.w hg hg' (fun c => hne (by rw [c])) x.below hb hb'
    show wpList P l.toArray Q (l.drop n) (putsL aQ [(i, d), (i', d')] vs) x.w
    have ep : putsL aQ [(i, d), (i', d')] vs = (aQ.put (some d) (vs i)).put (some d') (vs i') := rfl
    rw [ep, e, e']
    exact this

theorem owns_shrink {W : World} {B e g c n : Nat} {xs ys : List Value} (h : W.ownsRow B e 2 (.slice (some ⟨g, 0, none⟩) (n + 1) c) (n + 1) (xs ++ ys)) (hx : xs.length = n * 2) : W.ownsRow B e 2 (.slice (some ⟨g, 0, none⟩) n c) n xs := by
  obtain ⟨h1, h2⟩ := h
  rcases h2 with ⟨h0, _⟩ | ⟨g', cap', cur, hv, hg, hh, hn, hcap, hsz, htake⟩
  · cases h0
  · cases hv
    refine ⟨hx, .inr ⟨g, c, cur, rfl, hg, hh, by omega, hcap, hsz, ?_⟩⟩
    have h3 : (cur.toList.take ((n + 1) * 2)).take (n * 2) = (xs ++ ys).take (n * 2) := by rw [htake]
    rw [List.take_take, Nat.min_eq_left (by omega)] at h3
    rw [h3, ← hx]
    simp
theorem owns_cap {W : World} {B e size g c n : Nat} {xs : List Value} (h : W.ownsRow B e size (.slice (some ⟨g, 0, none⟩) n c) n xs) : n ≤ c := by
  rcases h.2 with ⟨h0, _⟩ | ⟨g', cap', cur, hv, hg, hh, hn, hcap, hsz, htake⟩
  · cases h0
  · cases hv
    exact hn
end Go.Proofs.YtgojpgggbflgoaaGreat

namespace Go.Proofs.YtgojpgggbflgoaaGreat
open Go.RowKit

/-- The things l lie in block b, from off on, k cells each. -/
structure Ls {α : Type} (enc : α → List Value) (k : Nat) (w : World) (b off : Nat) (l : List α) : Prop where
  lt : b < w.heap.size
  c : ∀ (i : Nat) (x : α), l[i]? = some x → ∀ j v, (enc x)[j]? = some v → w.cell? ⟨b, off + i * k + j, none⟩ = some v
theorem Ls.below {α : Type} {enc : α → List Value} {k : Nat} {w w' : World} {b off : Nat} {l : List α} (h : Ls enc k w b off l) (hb : Below w.heap.size w w') : Ls enc k w' b off l :=
  ⟨Nat.lt_of_lt_of_le h.lt hb.size, fun i x hi j v hv => (hb.cell (p := ⟨b, _, none⟩) h.lt).trans (h.c i x hi j v hv)⟩
theorem Ls.same {α : Type} {enc : α → List Value} {k : Nat} {w w' : World} {b off : Nat} {l : List α} (h : Ls enc k w b off l) (hb : w'.heap[b]? = w.heap[b]?) : Ls enc k w' b off l :=
  ⟨by
    have h1 : w.heap[b]? = some (w.heap[b]'h.lt) := Array.getElem?_eq_getElem h.lt
    rw [← hb] at h1
    exact (Array.getElem?_eq_some_iff.1 h1).1, fun i x hi j v hv => (World.cell?_of_block (w := w) (w' := w') (a := ⟨b, off + i * k + j, none⟩) hb).trans (h.c i x hi j v hv)⟩
theorem Ls.take {α : Type} {enc : α → List Value} {k : Nat} {w : World} {b off : Nat} {l : List α} (h : Ls enc k w b off l) (n : Nat) : Ls enc k w b off (l.take n) :=
  ⟨h.lt, fun i x hi j v hv => h.c i x (by rw [List.getElem?_take] at hi; split at hi; exact hi; cases hi) j v hv⟩
/-- A slice reads as l. -/
structure SAt {α : Type} (enc : α → List Value) (k : Nat) (w : World) (A : Option Addr) (n : Nat) (l : List α) : Prop where
  len : l.length = n
  at_ : 0 < n → ∃ b off, A = some ⟨b, off, none⟩ ∧ Ls enc k w b off l
theorem SAt.below {α : Type} {enc : α → List Value} {k : Nat} {w w' : World} {A : Option Addr} {n : Nat} {l : List α} (h : SAt enc k w A n l) (hb : Below w.heap.size w w') : SAt enc k w' A n l :=
  ⟨h.len, fun hn => let ⟨b, off, e, hk⟩ := h.at_ hn; ⟨b, off, e, hk.below hb⟩⟩
theorem SAt.nil {α : Type} (enc : α → List Value) (k : Nat) (w : World) (A : Option Addr) : SAt enc k w A 0 [] := ⟨rfl, fun h => absurd h (by omega)⟩
theorem SAt.take {α : Type} {enc : α → List Value} {k : Nat} {w : World} {A : Option Addr} {n : Nat} {l : List α} (h : SAt enc k w A n l) {m : Nat} (hm : m ≤ n) : SAt enc k w A m (l.take m) :=
  ⟨by rw [List.length_take, h.len]; omega, fun hn => let ⟨b, off, e, hk⟩ := h.at_ (by omega); ⟨b, off, e, hk.take m⟩⟩
/-- A row that is owned reads as its list. -/
theorem Ls_of_row {α : Type} {enc : α → List Value} {k : Nat} (hk : ∀ x, (enc x).length = k) {W : World} {base t g c n : Nat} {zs : List α} (hn : zs.length = n) (h : W.ownsRow base t k (.slice (some ⟨g, 0, none⟩) n c) n (zs.flatMap enc)) : Ls enc k W g 0 zs := by
  subst hn
  refine ⟨(h.lt g rfl).2, fun i x hi j v hv => ?_⟩
  have hil : i < zs.length := (List.getElem?_eq_some_iff.1 hi).1
  have hjl : j < k := by have := (List.getElem?_eq_some_iff.1 hv).1; rw [hk] at this; exact this
  have hf := flat_at k enc hk zs i j x hil hjl
  have hg : zs.getD i x = x := by rw [List.getD_eq_getElem?_getD, hi]; rfl
  rw [hg] at hf
  have := h.cells (g := g) rfl (i * k + j) v (by rw [hf]; exact hv)
  have hadd : (⟨g, 0, none⟩ : Addr).add (i * k + j) = ⟨g, 0 + i * k + j, none⟩ := by unfold Addr.add; simp; omega
  rw [hadd] at this; exact this
theorem SAt_of_row {α : Type} {enc : α → List Value} {k : Nat} (hk : ∀ x, (enc x).length = k) {W : World} {base t n : Nat} {v : Value} {zs : List α} (hn : zs.length = n) (h : W.ownsRow base t k v n (zs.flatMap enc)) :
    ∃ A c, v = .slice A n c ∧ SAt enc k W A n zs ∧ (∀ a, A = some a → base ≤ a.block) ∧ n ≤ c := by
  rcases h.2 with ⟨e, h0⟩ | ⟨g, cap, cur, e, hb, _, hc, _⟩
  · subst h0; exact ⟨none, 0, e, ⟨hn, fun h => absurd h (by omega)⟩, (fun a h => by cases h), Nat.le_refl _⟩
  · subst e; exact ⟨_, cap, rfl, ⟨hn, fun _ => ⟨g, 0, rfl, Ls_of_row hk hn h⟩⟩, (fun a h => by cases h; exact hb), hc⟩

def encI (n : Int) : List Value := [.int .i64 n]
theorem encI_len (x : Int) : (encI x).length = 1 := rfl
end Go.Proofs.YtgojpgggbflgoaaGreat

namespace Go.Proofs.YtgojpgggbflgoaaGreat
open Go.RowKit

theorem within_any (n lo hi : Int) (w : World) :
    Calls Tryz.prog 90 #[.int .i64 n, .int .i64 lo, .int .i64 hi] w fun e w' => e = .returned (.bool (decide (lo ≤ n ∧ n ≤ hi))) ∧ w = w' := by
  by_cases h1 : lo ≤ n
  · by_cases h2 : n ≤ hi
    · go_enter Tryz.func90, Tryz.ntmps90
      go_wp2
      go_ret
      exact ⟨ret_bool (by simp; omega), rfl⟩
    · go_enter Tryz.func90, Tryz.ntmps90
      go_wp2
      go_ret
      exact ⟨ret_bool (by simp; omega), rfl⟩
  · go_enter Tryz.func90, Tryz.ntmps90
    go_wp2
    go_ret
    exact ⟨ret_bool (by simp; omega), rfl⟩
theorem within_yes (n lo hi : Int) (w : World) (h : lo ≤ n ∧ n ≤ hi) :
    Calls Tryz.prog 90 #[.int .i64 n, .int .i64 lo, .int .i64 hi] w fun e w' => e = .returned (.bool true) ∧ w = w' :=
  (within_any n lo hi w).mono fun _ _ ⟨he, hw⟩ => ⟨by rw [he, decide_eq_true h], hw⟩
theorem within_no (n lo hi : Int) (w : World) (h : ¬ (lo ≤ n ∧ n ≤ hi)) :
    Calls Tryz.prog 90 #[.int .i64 n, .int .i64 lo, .int .i64 hi] w fun e w' => e = .returned (.bool false) ∧ w = w' :=
  (within_any n lo hi w).mono fun _ _ ⟨he, hw⟩ => ⟨by rw [he, decide_eq_false h], hw⟩
def kx (ks : List (Int × Int)) (i : Nat) : Int := (ks.getD i (0, 0)).1
def ky (ks : List (Int × Int)) (i : Nat) : Int := (ks.getD i (0, 0)).2

/-- The knots ks lie in block b, from off on. -/
structure Kn (w : World) (b off : Nat) (ks : List (Int × Int)) : Prop where
  lt : b < w.heap.size
  x : ∀ i, i < ks.length → w.cell? ⟨b, off + i * 2, none⟩ = some (.int .i64 (kx ks i))
  y : ∀ i, i < ks.length → w.cell? ⟨b, off + i * 2 + 1, none⟩ = some (.int .i64 (ky ks i))
theorem Kn.below {w w' : World} {b off : Nat} {ks : List (Int × Int)} (h : Kn w b off ks) (hb : Below w.heap.size w w') : Kn w' b off ks :=
  ⟨Nat.lt_of_lt_of_le h.lt hb.size, fun i hi => (hb.cell (p := ⟨b, _, none⟩) h.lt).trans (h.x i hi), fun i hi => (hb.cell (p := ⟨b, _, none⟩) h.lt).trans (h.y i hi)⟩

/-- A slice of knots reads as ks. -/
structure CAt (w : World) (A : Option Addr) (n : Nat) (ks : List (Int × Int)) : Prop where
  len : ks.length = n
  at_ : 0 < n → ∃ b off, A = some ⟨b, off, none⟩ ∧ Kn w b off ks
theorem CAt.below {w w' : World} {A : Option Addr} {n : Nat} {ks : List (Int × Int)} (h : CAt w A n ks) (hb : Below w.heap.size w w') : CAt w' A n ks :=
  ⟨h.len, fun hn => let ⟨b, off, e, hk⟩ := h.at_ hn; ⟨b, off, e, hk.below hb⟩⟩

abbrev vCv (A : Option Addr) (n cap : Nat) (err : Int) : Value := .agg #[.slice A n cap, .int .i64 err]
abbrev vSpan (lo hi : Int) : Value := .agg #[.int .i64 lo, .int .i64 hi]

/-- The knots stand by X, within the limits. -/
def okK (last : Int) : List (Int × Int) → Bool
  | [] => true
  | (x, y) :: t => decide (last + 1 ≤ x ∧ x ≤ 2000 ∧ -65536 ≤ y ∧ y ≤ 65536) && okK x t
/-- The first error of a curve. -/
def check (ks : List (Int × Int)) (err : Int) : Int :=
  if 40 < ks.length then 2 else if ks.length = 0 ∨ ¬ (0 ≤ err ∧ err ≤ 4000) then 1 else if okK (-1) ks = true then 0 else 1

theorem okK_drop (last : Int) (ks : List (Int × Int)) (k : Nat) (hk : k < ks.length) :
    okK last (ks.drop k) = (decide (last + 1 ≤ kx ks k ∧ kx ks k ≤ 2000 ∧ -65536 ≤ ky ks k ∧ ky ks k ≤ 65536) && okK (kx ks k) (ks.drop (k + 1))) := by
  rw [List.drop_eq_getElem_cons hk]
  have e : ks.getD k (0, 0) = ks[k] := by simp [List.getD_eq_getElem?_getD, hk]
  unfold kx ky
  rw [e]
  rfl

theorem Check_long (A : Option Addr) (n cap : Nat) (err : Int) (ks : List (Int × Int)) (w : World) (h : CAt w A n ks) (hn : 40 < n) (hm : n ≤ 9223372036854775807) :
    Calls Tryz.prog 65 #[vCv A n cap err] w fun e w' => e = .returned (.int .i64 (check ks err)) ∧ Below w.heap.size w w' := by
  have hc : check ks err = 2 := by unfold check; rw [if_pos (by rw [h.len]; exact hn)]
  have HC := Lib.hid hc
  clear hc h
  go_enter Tryz.func65, Tryz.ntmps65
  go_wp2
  go_ret
  exact ⟨ret_int HC.out.symm, (Below.refl _ _).alloc (Nat.le_refl _) _⟩

theorem Check_arg (A : Option Addr) (n cap : Nat) (err : Int) (ks : List (Int × Int)) (w : World) (h : CAt w A n ks) (hn : n ≤ 40) (h0 : n = 0 ∨ ¬ (0 ≤ err ∧ err ≤ 4000)) :
    Calls Tryz.prog 65 #[vCv A n cap err] w fun e w' => e = .returned (.int .i64 (check ks err)) ∧ Below w.heap.size w w' := by
  have hc : check ks err = 1 := by unfold check; rw [if_neg (by rw [h.len]; omega), if_pos (by rw [h.len]; exact h0)]
  have HC := Lib.hid hc
  clear hc h
  by_cases hz : n = 0
  · subst hz
    go_enter Tryz.func65, Tryz.ntmps65
    go_wp2
    go_ret
    exact ⟨ret_int HC.out.symm, (Below.refl _ _).alloc (Nat.le_refl _) _⟩
  · have h1 : ¬ (0 ≤ err ∧ err ≤ 4000) := h0.resolve_left hz
    have hz1 : 0 < n := by omega
    have hz2 : (((n : Nat) : Int) == 0) = false := by simpa using hz
    clear h0 hz
    have H1 := Lib.hid h1
    clear h1
    go_enter Tryz.func65, Tryz.ntmps65
    go_wp2_with (go_at_call 90; refine (within_no _ _ _ _ H1.out).mono ?_; rintro e w' ⟨rfl, rfl⟩)
    go_ret
    exact ⟨ret_int HC.out.symm, (Below.refl _ _).alloc (Nat.le_refl _) _⟩

theorem Check_loop (b off n cap : Nat) (err : Int) (ks : List (Int × Int)) (w : World) (h : Kn w b off ks) (hl : ks.length = n) (h0 : 0 < n) (hn : n ≤ 40) (he : 0 ≤ err ∧ err ≤ 4000) :
    Calls Tryz.prog 65 #[vCv (some ⟨b, off, none⟩) n cap err] w fun e w' => e = .returned (.int .i64 (check ks err)) ∧ Below w.heap.size w w' := by
  have hc : check ks err = if okK (-1) ks = true then 0 else 1 := by unfold check; rw [if_neg (by omega), if_neg (by omega)]
  have HC := Lib.hid hc
  clear hc
  have HE := Lib.hid he
  clear he
  have hlt := h.lt
  have HK := Lib.hid h
  clear h
  have HL := Lib.hid hl
  clear hl
  have hz2 : (((n : Nat) : Int) == 0) = false := by simp; omega
  go_enter Tryz.func65, Tryz.ntmps65
  go_wp2_with (go_at_call 90; refine (within_yes _ _ _ _ HE.out).mono ?_; rintro e w' ⟨rfl, rfl⟩)
  go_loopw [3, 25] (fun t i wr => ∃ (k : Nat) (last : Int), k ≤ n ∧ i = .int .i64 k ∧ t = .int .i64 last ∧ -1 ≤ last ∧ last ≤ 2000 ∧ okK (-1) ks = okK last (ks.drop k) ∧ Below w.heap.size w wr) (fun _ i _ => n - (intOf i).toNat)
  case atStart => exact ⟨0, -1, Nat.zero_le _, rfl, rfl, by omega, by omega, rfl, (Below.refl _ _).alloc (Nat.le_refl _) _⟩
  case round =>
    obtain ⟨k, last, hk, rfl, rfl, hl1, hl2, hok, hb⟩ := hrel
    have HO := Lib.hid hok
    clear hok
    by_cases hkn : k < n
    · have hx : wr.cell? ⟨b, off + k * 2, none⟩ = some (.int .i64 (kx ks k)) := (hb.cell (p := ⟨b, off + k * 2, none⟩) hlt).trans (HK.out.x k (by rw [HL.out]; exact hkn))
      have hy : wr.cell? ⟨b, off + k * 2 + 1, none⟩ = some (.int .i64 (ky ks k)) := (hb.cell (p := ⟨b, off + k * 2 + 1, none⟩) hlt).trans (HK.out.y k (by rw [HL.out]; exact hkn))
      have hd := okK_drop last ks k (by rw [HL.out]; exact hkn)
      have HD := Lib.hid hd
      clear hd
      by_cases hxo : last + 1 ≤ kx ks k ∧ kx ks k ≤ 2000
      · obtain ⟨hx1, hx2⟩ := hxo
        have HX := Lib.hid (show last + 1 ≤ kx ks k ∧ kx ks k ≤ 2000 from ⟨hx1, hx2⟩)
        by_cases hyo : -65536 ≤ ky ks k ∧ ky ks k ≤ 65536
        · have HY := Lib.hid hyo
          clear hyo
          go_wp2_with (first | (go_at_call 90; ((with_reducible refine (within_yes _ _ _ _ HX.out).mono ?_); rintro e w' ⟨rfl, rfl⟩)) | (go_at_call 90; ((with_reducible refine (within_yes _ _ _ _ HY.out).mono ?_); rintro e w' ⟨rfl, rfl⟩)))
          go_roundw
          case rel => exact ⟨k + 1, kx ks k, by omega, by go_num, rfl, by omega, by omega, by rw [HO.out, HD.out, decide_eq_true ⟨HX.out.1, HX.out.2, HY.out⟩, Bool.true_and], hb.alloc hb.size _⟩
          case measure => simp [intOf]; omega
        · have HY := Lib.hid hyo
          clear hyo
          go_wp2_with (first | (go_at_call 90; ((with_reducible refine (within_yes _ _ _ _ HX.out).mono ?_); rintro e w' ⟨rfl, rfl⟩)) | (go_at_call 90; ((with_reducible refine (within_no _ _ _ _ HY.out).mono ?_); rintro e w' ⟨rfl, rfl⟩)))
          go_ret
          exact ⟨ret_int (by rw [HC.out, HO.out, HD.out, decide_eq_false (fun h => HY.out ⟨h.2.2.1, h.2.2.2⟩), Bool.false_and]; rfl), hb.alloc hb.size _⟩
      · have HX := Lib.hid hxo
        clear hxo
        go_wp2_with (first | (go_at_call 90; ((with_reducible refine (within_no _ _ _ _ HX.out).mono ?_); rintro e w' ⟨rfl, rfl⟩)))
        go_ret
        exact ⟨ret_int (by rw [HC.out, HO.out, HD.out, decide_eq_false (fun h => HX.out ⟨h.1, h.2.1⟩), Bool.false_and]; rfl), hb.alloc hb.size _⟩
    · have HN : okK last (ks.drop k) = true := by rw [List.drop_eq_nil_of_le (by rw [HL.out]; omega)]; rfl
      have HN' := Lib.hid HN
      clear HN
      go_wp2
      go_ret
      exact ⟨ret_int (by rw [HC.out, HO.out, HN'.out]; rfl), hb⟩
attribute [local go_sem] Oper.semAt_some
abbrev vPiece (px py qx qy : Int) : Value := .agg #[.int .i64 px, .int .i64 py, .int .i64 qx, .int .i64 qy]
theorem rise_any (px py qx qy : Int) (w : World) (h1 : -1000000 ≤ py) (h2 : py ≤ 1000000) (h3 : -1000000 ≤ qy) (h4 : qy ≤ 1000000) :
    Calls Tryz.prog 107 #[vPiece px py qx qy] w fun e w' => e = .returned (.int .i64 (qy - py)) ∧ Below w.heap.size w w' := by
  go_enter Tryz.func107, Tryz.ntmps107
  go_wp2
  go_ret
  exact ⟨rfl, (Below.refl _ _).alloc (Nat.le_refl _) _⟩
theorem pieces_any (A : Option Addr) (n cap : Nat) (err : Int) (w : World) :
    Calls Tryz.prog 106 #[vCv A n cap err] w fun e w' => e = .returned (.func (.func 112) #[] #[.pointer (some ⟨w.heap.size, 0, none⟩)]) ∧ w.alloc (.cells #[.slice A n cap, .int .i64 err] 25) = w' := by
  go_enter Tryz.func106, Tryz.ntmps106
  go_wp2
  go_ret
  exact ⟨rfl, rfl⟩

/-- What a round must leave alone: the curve's box and its knots. -/
structure Keep2 (B b : Nat) (W W' : World) : Prop where
  box : W'.heap[B]? = W.heap[B]?
  row : W'.heap[b]? = W.heap[b]?
  size : W.heap.size ≤ W'.heap.size
theorem keep2_t {B b : Nat} {X Y Z : World} (h : Keep2 B b X Y) (k : Keep2 B b Y Z) : Keep2 B b X Z := ⟨k.1.trans h.1, k.2.trans h.2, Nat.le_trans h.3 k.3⟩
theorem keep2_b {B b : Nat} {w : World} (hB : B < w.heap.size) (hb : b < w.heap.size) (W : World) (l : Nat) (o o' : Obj) (hl : w.heap.size ≤ l) (_ : W.heap[l]? = some o) (_ : o.isCells = false) (_ : o.isWalk = false) : Keep2 B b W (W.putObj l o') :=
  ⟨World.putObj_heap_other (by omega), World.putObj_heap_other (by omega), by simp [World.putObj]⟩
theorem keep2_below {B b n : Nat} {W W' : World} (h : Below n W W') (hB : B < n) (hb : b < n) : Keep2 B b W W' := ⟨h.block B hB, h.block b hb, h.size⟩

def encP (ks : List (Int × Int)) (i : Fin (ks.length - 1)) : Array Value := #[.int .i64 (i.val : Nat), vPiece (kx ks i.val) (ky ks i.val) (kx ks (i.val + 1)) (ky ks (i.val + 1))]

theorem keep2_refl (B b : Nat) (W : World) : Keep2 B b W W := ⟨rfl, rfl, Nat.le_refl _⟩
theorem Keep2.cellB {B b : Nat} {W W' : World} (h : Keep2 B b W W') {o : Nat} {v : Value} (hc : W.cell? ⟨B, o, none⟩ = some v) : W'.cell? ⟨B, o, none⟩ = some v :=
  (World.cell?_of_block (w := W) h.1).trans hc
theorem Keep2.cellb {B b : Nat} {W W' : World} (h : Keep2 B b W W') {o : Nat} {v : Value} (hc : W.cell? ⟨b, o, none⟩ = some v) : W'.cell? ⟨b, o, none⟩ = some v :=
  (World.cell?_of_block (w := W) h.2).trans hc
theorem pieces1_in (n l B b off cap : Nat) (ks : List (Int × Int)) (hm : ks.length ≤ 1000) (J Jx : List (Fin (ks.length - 1)) → World → Prop)
    (hY : ∀ pre x W1, J pre W1 → pre.length < ks.length - 1 → YieldAt Fence.wide (n - 1) Tryz.prog l (encP ks x) W1 fun e W' =>
      (e = .returned (.bool true) ∧ J (pre ++ [x]) W' ∧ Keep2 B b W1 W') ∨ (e = .returned (.bool false) ∧ Jx (pre ++ [x]) W'))
    (hJ : ∀ s W W', J s W → Below W.heap.size W W' → J s W') (W : World) (hB0 : W.cell? ⟨B, 0, none⟩ = some (.slice (some ⟨b, off, none⟩) ks.length cap)) (hBl : B < W.heap.size) (hK : Kn W b off ks) (h0 : J [] W) :
    CallsIn Fence.wide n Tryz.prog 112 #[.func (.yield l) #[] #[], .pointer (some ⟨B, 0, none⟩)] W fun e W' => (∃ v, e = .returned v) ∧
      ((∃ xs, xs = List.finRange (ks.length - 1) ∧ J xs W') ∨ (∃ pre, pre <+: List.finRange (ks.length - 1) ∧ Jx pre W')) := by
  refine callsIn_of_wp Tryz.func112 rfl trivial ?_ rfl
  simp only [Tryz.ntmps112, List.size_toArray, List.length_cons, List.length_nil, Nat.reduceAdd, Nat.reduceSub, Array.replicate_succ, Array.replicate_zero, List.push_toArray, List.append_toArray, List.nil_append, List.cons_append]
  gi_wp2
  gi_loopw [3] (fun i wr => ∃ j : Nat, j ≤ ks.length - 1 ∧ i = .int .i64 ((j : Int) + 1) ∧ J ((List.finRange (ks.length - 1)).take j) wr ∧ Keep2 B b W wr)
    (fun i _ => ks.length - (intOf i).toNat)
  case atStart =>
    exact ⟨0, Nat.zero_le _, rfl, by simpa using h0, keep2_refl _ _ _⟩
  case round =>
    obtain ⟨j, hj, rfl, hJs, hkp⟩ := hrel
    have hsz := hkp.size
    have hb0 := hkp.cellB hB0
    by_cases hlt : j < ks.length - 1
    · have hx1 := hkp.cellb (hK.x j (by omega))
      have hy1 := hkp.cellb (hK.y j (by omega))
      have hx2 := hkp.cellb (hK.x (j + 1) (by omega))
      have hy2 := hkp.cellb (hK.y (j + 1) (by omega))
      have hlen : (j : Int) + 1 < ks.length := by omega
      gi_wp2
      have hBr : B < wr.heap.size := by omega
      have hbr : b < wr.heap.size := Nat.lt_of_lt_of_le hK.lt hsz
      obtain ⟨xc, xf⟩ := xcell (W := wr)
      refine wpIn_region_quiet_tail 15 (openWide _) (by kernel_rfl) (by kernel_rfl) ?_
      simp only [List.take_succ_cons, List.take_zero, List.drop_succ_cons, List.drop_zero]
      repeat (first | go_big_quiet_step (fail) | quiet_step (fail))
      refine wpQuiet_nil ?_
      intro w2 hb2
      have hJ2 := hJ _ _ _ hJs hb2
      obtain ⟨fn, tmps, assign, body, hy, hR⟩ := hY ((List.finRange (ks.length - 1)).take j) ⟨j, hlt⟩ w2 hJ2 (by simp; omega)
      unfold encP at hy
      clear hx1 hy1 hx2 hy2 hb0 hJs xc xf
      gi_wp2
      refine ⟨fun h => (by cases h), hR.mono ?_⟩
      rintro e W' (⟨rfl, hJ', hk⟩ | ⟨rfl, hJx'⟩)
      · gi_wp2
        go_roundw
        case rel => exact ⟨j + 1, by omega, by go_num, by rw [finRange_take_succ _ _ hlt]; exact hJ', keep2_t (keep2_t hkp (keep2_below hb2 hBr hbr)) hk⟩
        case measure => simp [intOf]; omega
      · gi_wp2
        refine bodyPost_ret (results_none rfl _ _ _) rfl ?_
        exact ⟨⟨_, rfl⟩, .inr ⟨_, ⟨(List.finRange (ks.length - 1)).drop (j + 1), by rw [← finRange_take_succ _ _ hlt]; exact List.take_append_drop _ _⟩, hJx'⟩⟩
    · have hj' : j = ks.length - 1 := by omega
      have HJ := Lib.hid hj'
      clear hj'
      gi_wp2
      go_end0
      exact ⟨⟨_, rfl⟩, .inl ⟨_, rfl, by rw [HJ.out, List.take_of_length_le (by simp)] at hJs; exact hJs⟩⟩

theorem pieces_stops (n B b off cap : Nat) (ks : List (Int × Int)) (hm : ks.length ≤ 1000) (w : World) (hB0 : w.cell? ⟨B, 0, none⟩ = some (.slice (some ⟨b, off, none⟩) ks.length cap)) (hBl : B < w.heap.size) (hK : Kn w b off ks) :
    SeqStopsK Fence.wide n Tryz.prog 112 #[.pointer (some ⟨B, 0, none⟩)] (encP ks) (Keep2 B b) (fun xs => xs = List.finRange (ks.length - 1)) (fun pre => pre <+: List.finRange (ks.length - 1)) (ks.length - 1) w :=
  fun l J Jx W hW hJ _ hY h0 => pieces1_in n l B b off cap ks hm J Jx hY (fun s A A' hs hb => hJ s A A' none hs (grownBy_of_below hb) (fun r e => by cases e)) W
    ((hW.cell (p := ⟨B, 0, none⟩) hBl).trans hB0) (Nat.lt_of_lt_of_le hBl hW.size) (hK.below hW) h0

/-- The knots of a valid curve. -/
structure Valid (ks : List (Int × Int)) : Prop where
  pos : 0 < ks.length
  le : ks.length ≤ 40
  x0 : ∀ i, i < ks.length → 0 ≤ kx ks i ∧ kx ks i ≤ 2000
  y0 : ∀ i, i < ks.length → -65536 ≤ ky ks i ∧ ky ks i ≤ 65536
  up : ∀ i, i + 1 < ks.length → kx ks i + 1 ≤ kx ks (i + 1)

theorem Check_any (A : Option Addr) (n cap : Nat) (err : Int) (ks : List (Int × Int)) (w : World) (h : CAt w A n ks) (hm : n ≤ 9223372036854775807) :
    Calls Tryz.prog 65 #[vCv A n cap err] w fun e w' => e = .returned (.int .i64 (check ks err)) ∧ Below w.heap.size w w' := by
  by_cases h1 : 40 < n
  · exact Check_long A n cap err ks w h h1 hm
  · by_cases h2 : n = 0 ∨ ¬ (0 ≤ err ∧ err ≤ 4000)
    · exact Check_arg A n cap err ks w h (by omega) h2
    · obtain ⟨b, off, rfl, hk⟩ := h.at_ (by omega)
      exact Check_loop b off n cap err ks w hk h.len (by omega) (by omega) (by omega)

theorem okK_spec : ∀ (ks : List (Int × Int)) (last : Int), okK last ks = true →
    (∀ i, i < ks.length → last + 1 ≤ kx ks i ∧ kx ks i ≤ 2000 ∧ -65536 ≤ ky ks i ∧ ky ks i ≤ 65536) ∧ ∀ i, i + 1 < ks.length → kx ks i + 1 ≤ kx ks (i + 1)
  | [], _, _ => ⟨fun i h => absurd h (by simp), fun i h => absurd h (by simp)⟩
  | (x, y) :: t, last, h => by
    simp only [okK, Bool.and_eq_true, decide_eq_true_eq] at h
    obtain ⟨h1, h2⟩ := h
    obtain ⟨h3, h4⟩ := okK_spec t x h2
    have e0x : kx ((x, y) :: t) 0 = x := rfl
    have e0y : ky ((x, y) :: t) 0 = y := rfl
    have ex : ∀ i, kx ((x, y) :: t) (i + 1) = kx t i := fun i => rfl
    have ey : ∀ i, ky ((x, y) :: t) (i + 1) = ky t i := fun i => rfl
    refine ⟨fun i hi => ?_, fun i hi => ?_⟩
    · cases i with
      | zero => rw [e0x, e0y]; exact h1
      | succ i =>
        rw [ex, ey]
        have := h3 i (by simpa using hi)
        omega
    · cases i with
      | zero =>
        rw [ex, e0x]
        exact (h3 0 (by simpa using hi)).1
      | succ i =>
        rw [ex, ex]
        exact h4 i (by simpa using hi)
theorem check_zero {ks : List (Int × Int)} {err : Int} (h : check ks err = 0) : Valid ks ∧ 0 ≤ err ∧ err ≤ 4000 := by
  unfold check at h
  split at h
  · cases h
  · split at h
    · cases h
    · split at h
      · rename_i h1 h2 h3
        have h2' := not_or.1 h2
        obtain ⟨h4, h5⟩ := okK_spec ks (-1) h3
        exact ⟨⟨by omega, by omega, fun i hi => by have := h4 i hi; omega, fun i hi => by have := h4 i hi; omega, h5⟩, by omega, by omega⟩
      · cases h

abbrev domLo (ks : List (Int × Int)) : Int := kx ks 0
abbrev domHi (ks : List (Int × Int)) : Int := kx ks (ks.length - 1)
theorem keep2_set {B b : Nat} {W : World} {p : Addr} {v : Value} (h1 : B ≠ p.block) (h2 : b ≠ p.block) : Keep2 B b W (W.setCell p v) :=
  ⟨Below.heap_setCell W p v B h1, Below.heap_setCell W p v b h2, by simp [World.setCell]⟩
def upTo (ks : List (Int × Int)) (j : Nat) : Bool := (List.range j).all fun i => decide (0 < ky ks (i + 1) - ky ks i)
def dnTo (ks : List (Int × Int)) (j : Nat) : Bool := (List.range j).all fun i => decide (ky ks (i + 1) - ky ks i < 0)
theorem upTo_succ (ks : List (Int × Int)) (j : Nat) : upTo ks (j + 1) = (upTo ks j && decide (0 < ky ks (j + 1) - ky ks j)) := by
  unfold upTo; rw [List.range_succ, List.all_append]; simp
theorem dnTo_succ (ks : List (Int × Int)) (j : Nat) : dnTo ks (j + 1) = (dnTo ks j && decide (ky ks (j + 1) - ky ks j < 0)) := by
  unfold dnTo; rw [List.range_succ, List.all_append]; simp
def risingI (ks : List (Int × Int)) : Int := if upTo ks (ks.length - 1) = true then 1 else if dnTo ks (ks.length - 1) = true then -1 else 0

def upL (ks : List (Int × Int)) (pre : List (Fin (ks.length - 1))) : Bool := pre.all fun i => decide (0 < ky ks (i.val + 1) - ky ks i.val)
def dnL (ks : List (Int × Int)) (pre : List (Fin (ks.length - 1))) : Bool := pre.all fun i => decide (ky ks (i.val + 1) - ky ks i.val < 0)
theorem upL_snoc (ks : List (Int × Int)) (pre : List (Fin (ks.length - 1))) (i : Fin (ks.length - 1)) : upL ks (pre ++ [i]) = (upL ks pre && decide (0 < ky ks (i.val + 1) - ky ks i.val)) := by
  unfold upL; rw [List.all_append]; simp
theorem dnL_snoc (ks : List (Int × Int)) (pre : List (Fin (ks.length - 1))) (i : Fin (ks.length - 1)) : dnL ks (pre ++ [i]) = (dnL ks pre && decide (ky ks (i.val + 1) - ky ks i.val < 0)) := by
  unfold dnL; rw [List.all_append]; simp
theorem all_fin (m : Nat) (p : Nat → Bool) : (List.finRange m).all (fun i => p i.val) = (List.range m).all p := by
  rw [Bool.eq_iff_iff]
  simp only [List.all_eq_true, List.mem_finRange, true_implies, List.mem_range]
  exact ⟨fun h x hx => h ⟨x, hx⟩, fun h x => h x.val x.isLt⟩
theorem upL_all (ks : List (Int × Int)) : upL ks (List.finRange (ks.length - 1)) = upTo ks (ks.length - 1) := all_fin _ fun i => decide (0 < ky ks (i + 1) - ky ks i)
theorem dnL_all (ks : List (Int × Int)) : dnL ks (List.finRange (ks.length - 1)) = dnTo ks (ks.length - 1) := all_fin _ fun i => decide (ky ks (i + 1) - ky ks i < 0)

set_option maxRecDepth 100000 in
set_option maxHeartbeats 1600000 in
theorem rising_any (b off cap : Nat) (err : Int) (ks : List (Int × Int)) (w : World) (h : Kn w b off ks) (hv : Valid ks) :
    Calls Tryz.prog 91 #[vCv (some ⟨b, off, none⟩) ks.length cap err] w fun e w' => e = .returned (.int .i64 (risingI ks)) ∧ Below w.heap.size w w' := by
  have hlt := h.lt
  have hp := hv.pos
  have hle := hv.le
  refine (callsIn_wide (n := 3)).1 (callsIn_of_wp_marks Tryz.func91 rfl trivial ?_ rfl)
  simp only [Tryz.ntmps91, List.size_toArray, List.length_cons, List.length_nil, Nat.reduceAdd, Nat.reduceSub, Array.replicate_succ, Array.replicate_zero, List.push_toArray, List.append_toArray, List.nil_append, List.cons_append]
  gi_wp2_with (refine ⟨trivial, ?_⟩; gi_at_call 106; refine (callsIn_wide.2 (pieces_any _ _ _ _ _)).mono ?_; rintro e w' ⟨rfl, rfl⟩)
  generalize hW0 : (((w.alloc (.cells #[.slice (some ⟨b, off, none⟩) ks.length cap, .int .i64 err] 25)).alloc (.cells #[.bool true] 4)).alloc (.cells #[.bool true] 4)).alloc (.cells #[.slice (some ⟨b, off, none⟩) ks.length cap, .int .i64 err] 25) = W0
  have hs0 : W0.heap.size = w.heap.size + 4 := by rw [← hW0]; simp
  have hu0 : Blk W0 (w.heap.size + 1) 4 #[.bool (upL ks [])] := by rw [← hW0]; exact ((Blk.at_new _ _ (by simp)).alloc _).alloc _
  have hd0 : Blk W0 (w.heap.size + 2) 4 #[.bool (dnL ks [])] := by rw [← hW0]; exact (Blk.at_new _ _ (by simp)).alloc _
  have hp0 : Blk W0 (w.heap.size + 3) 25 #[.slice (some ⟨b, off, none⟩) ks.length cap, .int .i64 err] := by rw [← hW0]; exact Blk.at_new _ _ (by simp)
  have hbw : Below w.heap.size w W0 := by rw [← hW0]; exact ((((Below.refl _ _).alloc (Nat.le_refl _) _).alloc (by simp) _).alloc (by simp; omega) _).alloc (by simp; omega) _
  have hk0 : Kn W0 b off ks := h.below hbw
  have hlt0 : b < W0.heap.size := by omega
  clear hW0
  refine wpIn_rangeFunc_ownH (α := Fin (ks.length - 1)) rfl (by omega) (gf := 112) (lb := #[.pointer (some ⟨w.heap.size + 3, 0, none⟩)]) rfl trivial (enters_of Tryz.func112 (by kernel_rfl) rfl)
    (pieces_stops _ (w.heap.size + 3) b off cap ks (by omega) W0 (hp0.cell 0) (by omega) hk0) keep2_t (keep2_b (B := w.heap.size + 3) (b := b) (w := W0) (by omega) (by omega)) (Below.refl _ _) (fun x => (rfl : (encP ks x).size = 2))
    (fun pre W => Blk W (w.heap.size + 1) 4 #[.bool (upL ks pre)] ∧ Blk W (w.heap.size + 2) 4 #[.bool (dnL ks pre)] ∧ Below w.heap.size w W ∧ W0.heap.size ≤ W.heap.size)
    (fun _ _ _ => False)
    (fun pre X Y row hs hg hr => ⟨Blk.own (β := Unit) _ _ _ _ () X Y row hs.1 hg hr, Blk.own (β := Unit) _ _ _ _ () X Y row hs.2.1 hg hr, ownFrom_below (β := Unit) (Nat.le_refl _) (show w.heap.size ≤ W0.heap.size by omega) () X Y row hs.2.2.1 hg hr, Nat.le_trans hs.2.2.2 hg.size⟩)
    (fun _ _ _ _ _ h => h.elim) ⟨hu0, hd0, hbw, Nat.le_refl _⟩
    (fun i a' W => ∃ Bx, W0.heap.size ≤ Bx ∧ Blk W Bx 186 #[.int .i64 (kx ks i.val), .int .i64 (ky ks i.val), .int .i64 (kx ks (i.val + 1)), .int .i64 (ky ks (i.val + 1))] ∧
      a' = { tmps := #[vCv (some ⟨b, off, none⟩) ks.length cap err, .pointer (some ⟨w.heap.size, 0, none⟩), .int .i64 0, .pointer (some ⟨w.heap.size + 1, 0, none⟩), .pointer (some ⟨w.heap.size + 2, 0, none⟩), undef, .pointer (some ⟨Bx, 0, none⟩), vCv (some ⟨b, off, none⟩) ks.length cap err, .func (.func 112) #[] #[.pointer (some ⟨w.heap.size + 3, 0, none⟩)], .int .i64 (i.val : Nat), vPiece (kx ks i.val) (ky ks i.val) (kx ks (i.val + 1)) (ky ks (i.val + 1)), undef, undef, undef, undef, undef, undef, undef, undef, undef, undef, undef, undef, undef, undef, undef, undef], defers := [] })
    ?hAx ?assign ?body ?done ?stop
  case hAx =>
    rintro i a' _ X Y row ⟨Bx, h1, h2, h3⟩ hg hr
    exact ⟨Bx, h1, Blk.own (β := Unit) _ _ _ _ () X Y row h2 hg hr, h3⟩
  case assign =>
    rintro l pre i W K ⟨hi1, hi2, hi3, hi4⟩ hK
    unfold encP
    gi_wp2
    exact hK _ _ ((KeepsOthers.alloc _ _).from _) (keep2_below ((Below.refl _ W).alloc (Nat.le_refl _) _) (by omega) (by omega)) ⟨hi1.alloc _, hi2.alloc _, hi3.alloc hi3.size _, by simp; omega⟩ ⟨W.heap.size, hi4, Blk.new W _ _, rfl⟩
  case body =>
    rintro l pre i _ W hl ⟨r, hr⟩ ⟨hi1, hi2, hi3, hi4⟩ ⟨Bx, hBx, hpc, rfl⟩ hlen
    have HU := Lib.hid (upL_snoc ks pre i)
    have HD := Lib.hid (dnL_snoc ks pre i)
    obtain ⟨i, hi⟩ := i
    dsimp only at hpc HU HD ⊢
    obtain ⟨hb1, hb2⟩ := hv.y0 i (by omega)
    obtain ⟨hb3, hb4⟩ := hv.y0 (i + 1) (by omega)
    have hcu := hi1.cell 0
    have hcd := hi2.cell 0
    have hq0 := hpc.cell 0
    have hq1 := hpc.cell 1
    have hq2 := hpc.cell 2
    have hq3 := hpc.cell 3
    have hBlt := hpc.lt
    simp only [List.getElem?_toArray, List.getElem?_cons_zero, List.getElem?_cons_succ] at hcu hcd hq0 hq1 hq2 hq3
    generalize ky ks (i + 1) = yq at *
    generalize ky ks i = yp at *
    generalize kx ks (i + 1) = xq at *
    generalize kx ks i = xp at *
    generalize hu : upL ks pre = u at *
    generalize hd : dnL ks pre = d at *
    obtain ⟨xc, xf⟩ := xcell (W := W)
    have hl1 : w.heap.size + 1 < W.heap.size := by omega
    have hl2 : w.heap.size + 2 < W.heap.size := by omega
    clear hk0 hp0 hu0 hd0
    gi_wp2
    refine wpIn_region_float 12 [10, 11] (openRound _ _) (by kernel_rfl) (by kernel_rfl) (by kernel_rfl) ?_
    simp only [List.take_succ_cons, List.take_zero]
    cases u with
    | true =>
      cases d with
      | true =>
        repeat (first | go_big_quiet_step (first | (go_at_call 107; exact calls_ext (rise_any _ _ _ _ _ (by omega) (by omega) (by omega) (by omega)))) | quiet_step (first | (go_at_call 107; exact calls_ext (rise_any _ _ _ _ _ (by omega) (by omega) (by omega) (by omega)))))
        refine wpQuiet_nil ?_
        refine ⟨?_, ?_⟩
        · intro j hj o ho
          simp only [List.mem_cons, List.not_mem_nil, or_false] at hj
          rcases hj with rfl | rfl
          · simp only [List.getElem?_cons_succ, List.getElem?_cons_zero, Option.some.injEq] at ho
            subst ho
            refine ⟨⟨21, rfl, by simp⟩, fun V => ?_⟩
            repeat (first | go_big_quiet_step (fail) | quiet_step (fail))
            exact wpQuiet_nil rfl
          · simp only [List.getElem?_cons_succ, List.getElem?_cons_zero, Option.some.injEq] at ho
            subst ho
            refine ⟨⟨22, rfl, by simp⟩, fun V => ?_⟩
            repeat (first | go_big_quiet_step (fail) | quiet_step (fail))
            exact wpQuiet_nil rfl
        · rintro _ ⟨⟨w2, hb2'⟩, rfl⟩
          have hu2 := hi1.below hb2'
          have hd2 := hi2.below hb2'
          have g0 := hu2.cell 0
          have f0 := hu2.frozen 0
          have g1 := hd2.cell 0
          have f1 := hd2.frozen 0
          have l1 := hu2.lt
          have l2 := hd2.lt
          simp only [List.getElem?_toArray, List.getElem?_cons_zero] at g0 g1
          go_wp2
          refine ⟨rfl, (keepsFrom_below hb2').trans (((KeepsOthers.setCell _ _ _).trans (KeepsOthers.setCell _ _ _)).from _), keep2_t (keep2_t (keep2_below hb2' (by omega) (by omega)) (keep2_set (by simp) (by simp; omega))) (keep2_set (by simp) (by simp; omega)), ?_, ?_, ((hi3.trans (hb2'.mono hi3.size)).setCell (p := ⟨w.heap.size + 1, 0, none⟩) (by simp) _).setCell (p := ⟨w.heap.size + 2, 0, none⟩) (by simp) _, by have := hb2'.size; simp [World.setCell]; omega⟩
          · have := ((hu2.set_ 0 (.bool (decide (yp < yq)))).far (p := ⟨w.heap.size + 2, 0, none⟩) (by simp) (.bool (decide (yq - yp < 0))))
            rw [HU.out]
            simpa using this
          · have := ((hd2.far (p := ⟨w.heap.size + 1, 0, none⟩) (by simp) (.bool (decide (yp < yq)))).set_ 0 (.bool (decide (yq - yp < 0))))
            rw [HD.out]
            simpa using this
      | false =>
        repeat (first | go_big_quiet_step (first | (go_at_call 107; exact calls_ext (rise_any _ _ _ _ _ (by omega) (by omega) (by omega) (by omega)))) | quiet_step (first | (go_at_call 107; exact calls_ext (rise_any _ _ _ _ _ (by omega) (by omega) (by omega) (by omega)))))
        refine wpQuiet_nil ?_
        refine ⟨?_, ?_⟩
        · intro j hj o ho
          simp only [List.mem_cons, List.not_mem_nil, or_false] at hj
          rcases hj with rfl | rfl
          · simp only [List.getElem?_cons_succ, List.getElem?_cons_zero, Option.some.injEq] at ho
            subst ho
            refine ⟨⟨21, rfl, by simp⟩, fun V => ?_⟩
            repeat (first | go_big_quiet_step (fail) | quiet_step (fail))
            exact wpQuiet_nil rfl
          · simp only [List.getElem?_cons_succ, List.getElem?_cons_zero, Option.some.injEq] at ho
            subst ho
            refine ⟨⟨22, rfl, by simp⟩, fun V => ?_⟩
            repeat (first | go_big_quiet_step (fail) | quiet_step (fail))
            exact wpQuiet_nil rfl
        · rintro _ ⟨⟨w2, hb2'⟩, rfl⟩
          have hu2 := hi1.below hb2'
          have hd2 := hi2.below hb2'
          have g0 := hu2.cell 0
          have f0 := hu2.frozen 0
          have g1 := hd2.cell 0
          have f1 := hd2.frozen 0
          have l1 := hu2.lt
          have l2 := hd2.lt
          simp only [List.getElem?_toArray, List.getElem?_cons_zero] at g0 g1
          go_wp2
          refine ⟨rfl, (keepsFrom_below hb2').trans (((KeepsOthers.setCell _ _ _).trans (KeepsOthers.setCell _ _ _)).from _), keep2_t (keep2_t (keep2_below hb2' (by omega) (by omega)) (keep2_set (by simp) (by simp; omega))) (keep2_set (by simp) (by simp; omega)), ?_, ?_, ((hi3.trans (hb2'.mono hi3.size)).setCell (p := ⟨w.heap.size + 1, 0, none⟩) (by simp) _).setCell (p := ⟨w.heap.size + 2, 0, none⟩) (by simp) _, by have := hb2'.size; simp [World.setCell]; omega⟩
          · have := ((hu2.set_ 0 (.bool (decide (yp < yq)))).far (p := ⟨w.heap.size + 2, 0, none⟩) (by simp) (.bool false))
            rw [HU.out]
            simpa using this
          · have := ((hd2.far (p := ⟨w.heap.size + 1, 0, none⟩) (by simp) (.bool (decide (yp < yq)))).set_ 0 (.bool false))
            rw [HD.out]
            simpa using this
    | false =>
      cases d with
      | true =>
        repeat (first | go_big_quiet_step (first | (go_at_call 107; exact calls_ext (rise_any _ _ _ _ _ (by omega) (by omega) (by omega) (by omega)))) | quiet_step (first | (go_at_call 107; exact calls_ext (rise_any _ _ _ _ _ (by omega) (by omega) (by omega) (by omega)))))
        refine wpQuiet_nil ?_
        refine ⟨?_, ?_⟩
        · intro j hj o ho
          simp only [List.mem_cons, List.not_mem_nil, or_false] at hj
          rcases hj with rfl | rfl
          · simp only [List.getElem?_cons_succ, List.getElem?_cons_zero, Option.some.injEq] at ho
            subst ho
            refine ⟨⟨21, rfl, by simp⟩, fun V => ?_⟩
            repeat (first | go_big_quiet_step (fail) | quiet_step (fail))
            exact wpQuiet_nil rfl
          · simp only [List.getElem?_cons_succ, List.getElem?_cons_zero, Option.some.injEq] at ho
            subst ho
            refine ⟨⟨22, rfl, by simp⟩, fun V => ?_⟩
            repeat (first | go_big_quiet_step (fail) | quiet_step (fail))
            exact wpQuiet_nil rfl
        · rintro _ ⟨⟨w2, hb2'⟩, rfl⟩
          have hu2 := hi1.below hb2'
          have hd2 := hi2.below hb2'
          have g0 := hu2.cell 0
          have f0 := hu2.frozen 0
          have g1 := hd2.cell 0
          have f1 := hd2.frozen 0
          have l1 := hu2.lt
          have l2 := hd2.lt
          simp only [List.getElem?_toArray, List.getElem?_cons_zero] at g0 g1
          go_wp2
          refine ⟨rfl, (keepsFrom_below hb2').trans (((KeepsOthers.setCell _ _ _).trans (KeepsOthers.setCell _ _ _)).from _), keep2_t (keep2_t (keep2_below hb2' (by omega) (by omega)) (keep2_set (by simp) (by simp; omega))) (keep2_set (by simp) (by simp; omega)), ?_, ?_, ((hi3.trans (hb2'.mono hi3.size)).setCell (p := ⟨w.heap.size + 1, 0, none⟩) (by simp) _).setCell (p := ⟨w.heap.size + 2, 0, none⟩) (by simp) _, by have := hb2'.size; simp [World.setCell]; omega⟩
          · have := ((hu2.set_ 0 (.bool false)).far (p := ⟨w.heap.size + 2, 0, none⟩) (by simp) (.bool (decide (yq - yp < 0))))
            rw [HU.out]
            simpa using this
          · have := ((hd2.far (p := ⟨w.heap.size + 1, 0, none⟩) (by simp) (.bool false)).set_ 0 (.bool (decide (yq - yp < 0))))
            rw [HD.out]
            simpa using this
      | false =>
        repeat (first | go_big_quiet_step (first | (go_at_call 107; exact calls_ext (rise_any _ _ _ _ _ (by omega) (by omega) (by omega) (by omega)))) | quiet_step (first | (go_at_call 107; exact calls_ext (rise_any _ _ _ _ _ (by omega) (by omega) (by omega) (by omega)))))
        refine wpQuiet_nil ?_
        refine ⟨?_, ?_⟩
        · intro j hj o ho
          simp only [List.mem_cons, List.not_mem_nil, or_false] at hj
          rcases hj with rfl | rfl
          · simp only [List.getElem?_cons_succ, List.getElem?_cons_zero, Option.some.injEq] at ho
            subst ho
            refine ⟨⟨21, rfl, by simp⟩, fun V => ?_⟩
            repeat (first | go_big_quiet_step (fail) | quiet_step (fail))
            exact wpQuiet_nil rfl
          · simp only [List.getElem?_cons_succ, List.getElem?_cons_zero, Option.some.injEq] at ho
            subst ho
            refine ⟨⟨22, rfl, by simp⟩, fun V => ?_⟩
            repeat (first | go_big_quiet_step (fail) | quiet_step (fail))
            exact wpQuiet_nil rfl
        · rintro _ ⟨⟨w2, hb2'⟩, rfl⟩
          have hu2 := hi1.below hb2'
          have hd2 := hi2.below hb2'
          have g0 := hu2.cell 0
          have f0 := hu2.frozen 0
          have g1 := hd2.cell 0
          have f1 := hd2.frozen 0
          have l1 := hu2.lt
          have l2 := hd2.lt
          simp only [List.getElem?_toArray, List.getElem?_cons_zero] at g0 g1
          go_wp2
          refine ⟨rfl, (keepsFrom_below hb2').trans (((KeepsOthers.setCell _ _ _).trans (KeepsOthers.setCell _ _ _)).from _), keep2_t (keep2_t (keep2_below hb2' (by omega) (by omega)) (keep2_set (by simp) (by simp; omega))) (keep2_set (by simp) (by simp; omega)), ?_, ?_, ((hi3.trans (hb2'.mono hi3.size)).setCell (p := ⟨w.heap.size + 1, 0, none⟩) (by simp) _).setCell (p := ⟨w.heap.size + 2, 0, none⟩) (by simp) _, by have := hb2'.size; simp [World.setCell]; omega⟩
          · have := ((hu2.set_ 0 (.bool false)).far (p := ⟨w.heap.size + 2, 0, none⟩) (by simp) (.bool false))
            rw [HU.out]
            simpa using this
          · have := ((hd2.far (p := ⟨w.heap.size + 1, 0, none⟩) (by simp) (.bool false)).set_ 0 (.bool false))
            rw [HD.out]
            simpa using this
  case done =>
    rintro D xs W hD hxs ⟨hi1, hi2, hi3, hi4⟩ hK
    rw [hxs, upL_all] at hi1
    rw [hxs, dnL_all] at hi2
    have hr : risingI ks = if upTo ks (ks.length - 1) = true then 1 else if dnTo ks (ks.length - 1) = true then -1 else 0 := rfl
    have HR := Lib.hid hr
    clear hr hxs
    generalize upTo ks (ks.length - 1) = u at *
    generalize dnTo ks (ks.length - 1) = d at *
    have g0 := hi1.cell 0
    have g1 := hi2.cell 0
    simp only [List.getElem?_toArray, List.getElem?_cons_zero] at g0 g1
    cases u with
    | true =>
      gi_wp2
      refine leave_one (D := D) hK ?_
      exact ⟨.int .i64 1, by simp [results, Tryz.results91, go_sem], by rw [HR.out]; simp, below_put hi3 (by omega)⟩
    | false =>
      cases d with
      | true =>
        gi_wp2
        refine leave_one (D := D) hK ?_
        exact ⟨.int .i64 (-1), by simp [results, Tryz.results91, go_sem], by rw [HR.out]; simp, below_put hi3 (by omega)⟩
      | false =>
        gi_wp2
        refine leave_one (D := D) hK ?_
        exact ⟨.int .i64 0, by simp [results, Tryz.results91, go_sem], by rw [HR.out]; simp, below_put hi3 (by omega)⟩
  case stop =>
    rintro D c pre W hD hpre h hK
    exact h.elim
def rsV (ks : List (Int × Int)) (err : Int) : Int := if check ks err = 0 then risingI ks else 0
theorem Rising_any (A : Option Addr) (n cap : Nat) (err : Int) (ks : List (Int × Int)) (w : World) (h : CAt w A n ks) (hm : n ≤ 9223372036854775807) :
    Calls Tryz.prog 66 #[vCv A n cap err] w fun e w' => e = .returned (.tuple #[.int .i64 (rsV ks err), .int .i64 (check ks err)]) ∧ Below w.heap.size w w' := by
  have HC := Lib.hid (fun W (hW : CAt W A n ks) => Check_any A n cap err ks W hW hm)
  have hbw := (Below.refl w.heap.size w).alloc (Nat.le_refl _) (.cells #[.slice A n cap, .int .i64 err] 25)
  have hcb := Blk.new w 25 #[.slice A n cap, .int .i64 err]
  have HA := Lib.hid (h.below hbw)
  by_cases hz : check ks err = 0
  case neg =>
    have hz1 : (check ks err != 0) = true := by simpa using hz
    have HE := Lib.hid (show rsV ks err = 0 by unfold rsV; rw [if_neg hz])
    clear hz h
    generalize check ks err = ce at *
    go_enter Tryz.func66, Tryz.ntmps66
    go_wp2_with fail
    refine (HC.out _ HA.out).mono ?_; rintro e w1 ⟨rfl, hb1⟩
    go_wp2
    go_ret2
    exact ⟨by rw [HE.out]; rfl, hbw.trans (hb1.mono hbw.size)⟩
  obtain ⟨hv, _, _⟩ := check_zero hz
  have hpos := hv.pos
  have hlen := h.len
  obtain ⟨b, off, hAe, hkn⟩ := h.at_ (by omega)
  subst hAe hlen
  have HR := Lib.hid (fun W (hW : Kn W b off ks) => rising_any b off cap err ks W hW hv)
  have HK := Lib.hid (hkn.below hbw)
  have HE := Lib.hid (show rsV ks err = risingI ks by unfold rsV; rw [if_pos hz])
  rw [hz] at HC
  rw [hz]
  clear hz h hkn hv
  generalize risingI ks = ri at *
  go_enter Tryz.func66, Tryz.ntmps66
  go_wp2_with fail
  refine (HC.out _ HA.out).mono ?_; rintro e w1 ⟨rfl, hb1⟩
  have hc1 := hcb.below hb1
  have cc0 := hc1.cell 0
  have cc1 := hc1.cell 1
  simp only [List.getElem?_toArray, List.getElem?_cons_zero, List.getElem?_cons_succ] at cc0 cc1
  have cl := hc1.lt
  have hb2 := hbw.trans (hb1.mono hbw.size)
  go_wp2_with fail
  refine (HR.out _ (HK.out.below hb1)).mono ?_; rintro e w2 ⟨rfl, hb3⟩
  go_wp2
  go_ret2
  exact ⟨by rw [HE.out]; rfl, hb2.trans (hb3.mono hb2.size)⟩
end Go.Proofs.YtgojpgggbflgoaaGreat

namespace Go.Proofs.YtgojpgggbflgoaaGreat
open Go.RowKit

theorem info_int : (Tryz.prog.info? 3).map (fun i => (i.zero, i.size, i.bytes)) = some (some (.int .i64 0), 1, 8) := by kernel_rfl
theorem grownBy_set (W : World) (b o : Nat) (v : Value) : W.grownBy (W.setCell ⟨b, o, none⟩ v) (some b) :=
  ⟨rfl, rfl, rfl, by simp [World.setCell], fun k _ hk => Below.heap_setCell W ⟨b, o, none⟩ v k (fun e => hk (by rw [e]))⟩
theorem owns_slice {W : World} {B e size n : Nat} {v : Value} {xs : List Value} (h : W.ownsRow B e size v n xs) : ∃ A c, v = .slice A n c := by
  rcases h.2 with ⟨e, h0⟩ | ⟨g, cp, cur, e, _⟩
  · exact ⟨none, 0, by rw [e, h0]⟩
  · exact ⟨_, _, e⟩
theorem owns_set {W : World} {B e size n g c : Nat} {xs : List Value} (h : W.ownsRow B e size (.slice (some ⟨g, 0, none⟩) n c) n xs) (j : Nat) (hj : j < xs.length) (u : Value) :
    (W.setCell ⟨g, j, none⟩ u).ownsRow B e size (.slice (some ⟨g, 0, none⟩) n c) n (xs.set j u) := by
  refine ⟨by rw [List.length_set]; exact h.1, ?_⟩
  rcases h.2 with ⟨e, _⟩ | ⟨g', cap, cur, e, hb, hg, h1, h2, h3, h4⟩
  · cases e
  · cases e
    have hblk : Blk W g e cur := hg
    have hl : j < n * size := by rw [← h.1]; exact hj
    refine .inr ⟨g, c, _, rfl, hb, hblk.set_ j u, h1, h2, by simp [h3], ?_⟩
    have : j < cur.size := by rw [h3]; exact Nat.lt_of_lt_of_le hl (Nat.mul_le_mul_right _ h1)
    rw [← h4]
    simp [List.take_set]
theorem one_intsL (cs : List Int) : ∀ u ∈ cs.map (Value.int .i64), u.oneCell' = true := by
  intro u hu
  obtain ⟨x, _, rfl⟩ := List.mem_map.1 hu
  rfl
theorem grown_refl (a : World) (r : Option Nat) : a.grownBy a r := ⟨rfl, rfl, rfl, Nat.le_refl _, fun _ _ _ => rfl⟩
theorem below_of_grown {a b : World} {r : Option Nat} {B : Nat} (h : a.grownBy b r) (hB : B ≤ a.heap.size) (hr : ∀ g, r = some g → B ≤ g) : Below B a b :=
  ⟨h.os, h.tape, h.output, h.size, fun i hi => h.block i (Nat.lt_of_lt_of_le hi hB) (fun e => by have := hr i e.symm; omega)⟩
theorem Ls.grown {α : Type} {enc : α → List Value} {k : Nat} {w w' : World} {b off : Nat} {l : List α} {r : Option Nat} (h : Ls enc k w b off l) (hg : w.grownBy w' r) (hr : r ≠ some b) : Ls enc k w' b off l :=
  h.same (hg.block b h.lt (fun e => hr e.symm))
theorem grown_trans {a b c : World} {r : Option Nat} (h : a.grownBy b r) (k : b.grownBy c r) : a.grownBy c r :=
  ⟨k.os.trans h.os, k.tape.trans h.tape, k.output.trans h.output, Nat.le_trans h.size k.size, fun i hi hr => (k.block i (Nat.lt_of_lt_of_le hi h.size) hr).trans (h.block i hi hr)⟩
theorem below_new (W : World) (o : Obj) : Below W.heap.size W (W.alloc o) := (Below.refl _ _).alloc (Nat.le_refl _) o
theorem SAt.grown {α : Type} {enc : α → List Value} {k : Nat} {w w' : World} {A : Option Addr} {n : Nat} {l : List α} {r : Option Nat} (h : SAt enc k w A n l) (hg : w.grownBy w' r) (hr : ∀ a, A = some a → r ≠ some a.block) : SAt enc k w' A n l :=
  ⟨h.len, fun hn => let ⟨b, off, e, hk⟩ := h.at_ hn; ⟨b, off, e, hk.grown hg (hr _ e)⟩⟩
theorem owns_weak {W : World} {B B' e size n : Nat} {v : Value} {xs : List Value} (h : W.ownsRow B e size v n xs) (hB : B' ≤ B) : W.ownsRow B' e size v n xs := by
  refine ⟨h.1, ?_⟩
  rcases h.2 with hn | ⟨g, cap, cur, rfl, hg, rest⟩
  · exact .inl hn
  · exact .inr ⟨g, cap, cur, rfl, Nat.le_trans hB hg, rest⟩
theorem blk_set2 {W : World} {g : Nat} {t : TypeId} {p q : Value} (h : Blk W g t #[p, q]) (a b : Value) :
    Blk ((W.setCell ⟨g, 0, none⟩ a).setCell ⟨g, 1, none⟩ b) g t #[a, b] := by
  have := (h.set_ 0 a).set_ 1 b
  simpa using this
theorem below_set2 {B : Nat} {w W : World} {g : Nat} (h : Below B w W) (hg : B ≤ g) (a b : Value) :
    Below B w ((W.setCell ⟨g, 0, none⟩ a).setCell ⟨g, 1, none⟩ b) :=
  (h.setCell (p := ⟨g, 0, none⟩) hg a).setCell (p := ⟨g, 1, none⟩) hg b
theorem grown_set2 (W : World) (g : Nat) (a b : Value) : W.grownBy ((W.setCell ⟨g, 0, none⟩ a).setCell ⟨g, 1, none⟩ b) (some g) :=
  grown_trans (grownBy_set _ _ 0 _) (grownBy_set _ _ 1 _)
theorem cells2 {W : World} {g : Nat} {t : TypeId} {p q : Value} (h : Blk W g t #[p, q]) : W.cell? ⟨g, 0, none⟩ = some p ∧ W.cell? ⟨g, 1, none⟩ = some q ∧ g < W.heap.size := ⟨by simpa using h.cell 0, by simpa using h.cell 1, h.lt⟩
theorem cells3 {W : World} {g : Nat} {t : TypeId} {p q r : Value} (h : Blk W g t #[p, q, r]) : W.cell? ⟨g, 0, none⟩ = some p ∧ W.cell? ⟨g, 1, none⟩ = some q ∧ W.cell? ⟨g, 2, none⟩ = some r ∧ g < W.heap.size := ⟨by simpa using h.cell 0, by simpa using h.cell 1, by simpa using h.cell 2, h.lt⟩
theorem cells6 {W : World} {g : Nat} {t : TypeId} {p q r u v x : Value} (h : Blk W g t #[p, q, r, u, v, x]) : W.cell? ⟨g, 0, none⟩ = some p ∧ W.cell? ⟨g, 1, none⟩ = some q ∧ W.cell? ⟨g, 2, none⟩ = some r ∧ W.cell? ⟨g, 3, none⟩ = some u ∧ W.cell? ⟨g, 4, none⟩ = some v ∧ W.cell? ⟨g, 5, none⟩ = some x ∧ g < W.heap.size :=
  ⟨by simpa using h.cell 0, by simpa using h.cell 1, by simpa using h.cell 2, by simpa using h.cell 3, by simpa using h.cell 4, by simpa using h.cell 5, h.lt⟩
theorem cells5 {W : World} {g : Nat} {t : TypeId} {p q r u v : Value} (h : Blk W g t #[p, q, r, u, v]) : W.cell? ⟨g, 0, none⟩ = some p ∧ W.cell? ⟨g, 1, none⟩ = some q ∧ W.cell? ⟨g, 2, none⟩ = some r ∧ W.cell? ⟨g, 3, none⟩ = some u ∧ W.cell? ⟨g, 4, none⟩ = some v ∧ g < W.heap.size :=
  ⟨by simpa using h.cell 0, by simpa using h.cell 1, by simpa using h.cell 2, by simpa using h.cell 3, by simpa using h.cell 4, h.lt⟩
theorem frz3 {W : World} {g : Nat} {t : TypeId} {cs : Array Value} (h : Blk W g t cs) : W.frozen? ⟨g, 0, none⟩ = false ∧ W.frozen? ⟨g, 1, none⟩ = false ∧ W.frozen? ⟨g, 2, none⟩ = false := ⟨h.frozen 0, h.frozen 1, h.frozen 2⟩
theorem blk_list {v : World} {g : Nat} {t : TypeId} {cs : List Value} (h : Blk v g t cs.toArray) : ∀ (j : Nat) (u : Value), cs[j]? = some u → v.cell? ((⟨g, 0, none⟩ : Addr).add j) = some u := fun j u hj => by
  have hadd : (⟨g, 0, none⟩ : Addr).add j = ⟨g, j, none⟩ := by unfold Addr.add; split <;> simp_all
  rw [hadd, h.cell j]
  simpa using hj
theorem encI_one (l : List Int) : ∀ u ∈ l.flatMap encI, u.oneCell' = true := by
  intro u hu
  obtain ⟨x, _, hx⟩ := List.mem_flatMap.1 hu
  simp only [encI, List.mem_cons, List.not_mem_nil, or_false] at hx
  rcases hx with rfl; rfl
end Go.Proofs.YtgojpgggbflgoaaGreat

namespace Go.Proofs.YtgojpgggbflgoaaGreat
open Go.RowKit

def inB (n lo hi : Int) : Bool := decide (lo ≤ n ∧ n ≤ hi)
abbrev vSp (lo hi : Int) : Value := .agg #[.int .i64 lo, .int .i64 hi]
theorem hwithin_any (n lo hi : Int) (w : World) :
    Calls Tryz.prog 35 #[.int .i64 n, .int .i64 lo, .int .i64 hi] w fun e w' => e = .returned (.bool (inB n lo hi)) ∧ w = w' := by
  unfold inB
  by_cases h1 : lo ≤ n
  · by_cases h2 : n ≤ hi
    · skip
      go_enter Tryz.func35, Tryz.ntmps35
      go_wp2
      go_ret
      exact ⟨ret_bool (by simp; omega), rfl⟩
    · skip
      go_enter Tryz.func35, Tryz.ntmps35
      go_wp2
      go_ret
      exact ⟨ret_bool (by simp; omega), rfl⟩
  · skip
    go_enter Tryz.func35, Tryz.ntmps35
    go_wp2
    go_ret
    exact ⟨ret_bool (by simp; omega), rfl⟩
theorem swithin_any (n lo hi : Int) (w : World) :
    Calls Tryz.prog 36 #[.int .i64 n, .int .i64 lo, .int .i64 hi] w fun e w' => e = .returned (.bool (inB n lo hi)) ∧ w = w' := by
  unfold inB
  by_cases h1 : lo ≤ n
  · by_cases h2 : n ≤ hi
    · skip
      go_enter Tryz.func36, Tryz.ntmps36
      go_wp2
      go_ret
      exact ⟨ret_bool (by simp; omega), rfl⟩
    · skip
      go_enter Tryz.func36, Tryz.ntmps36
      go_wp2
      go_ret
      exact ⟨ret_bool (by simp; omega), rfl⟩
  · skip
    go_enter Tryz.func36, Tryz.ntmps36
    go_wp2
    go_ret
    exact ⟨ret_bool (by simp; omega), rfl⟩
theorem spans_any (a b lo hi : Int) (w : World) :
    Calls Tryz.prog 37 #[vSp a b, .int .i64 lo, .int .i64 hi] w fun e w' => e = .returned (.bool (decide (lo ≤ a ∧ a ≤ b ∧ b ≤ hi))) ∧ Below w.heap.size w w' := by
  by_cases h1 : lo ≤ a
  · by_cases h2 : a ≤ b
    · by_cases h3 : b ≤ hi
      · skip
        go_enter Tryz.func37, Tryz.ntmps37
        go_wp2
        go_ret
        exact ⟨ret_bool (by simp; omega), ((Below.refl _ _).alloc (Nat.le_refl _) _)⟩
      · skip
        go_enter Tryz.func37, Tryz.ntmps37
        go_wp2
        go_ret
        exact ⟨ret_bool (by simp; omega), ((Below.refl _ _).alloc (Nat.le_refl _) _)⟩
    · skip
      go_enter Tryz.func37, Tryz.ntmps37
      go_wp2
      go_ret
      exact ⟨ret_bool (by simp; omega), ((Below.refl _ _).alloc (Nat.le_refl _) _)⟩
  · skip
    go_enter Tryz.func37, Tryz.ntmps37
    go_wp2
    go_ret
    exact ⟨ret_bool (by simp; omega), ((Below.refl _ _).alloc (Nat.le_refl _) _)⟩
theorem shows_any (a b n : Int) (w : World) :
    Calls Tryz.prog 10 #[vSp a b, .int .i64 n] w fun e w' => e = .returned (.bool (inB n a b)) ∧ Below w.heap.size w w' := by
  unfold inB
  by_cases h1 : a ≤ n
  · by_cases h2 : n ≤ b
    · skip
      go_enter Tryz.func10, Tryz.ntmps10
      go_wp2
      go_ret
      exact ⟨ret_bool (by simp; omega), ((Below.refl _ _).alloc (Nat.le_refl _) _)⟩
    · skip
      go_enter Tryz.func10, Tryz.ntmps10
      go_wp2
      go_ret
      exact ⟨ret_bool (by simp; omega), ((Below.refl _ _).alloc (Nat.le_refl _) _)⟩
  · skip
    go_enter Tryz.func10, Tryz.ntmps10
    go_wp2
    go_ret
    exact ⟨ret_bool (by simp; omega), ((Below.refl _ _).alloc (Nat.le_refl _) _)⟩
theorem void_any (a b : Int) (w : World) :
    Calls Tryz.prog 27 #[vSp a b] w fun e w' => e = .returned (.bool (decide (b < a))) ∧ Below w.heap.size w w' := by
  go_enter Tryz.func27, Tryz.ntmps27
  go_wp2
  go_ret
  exact ⟨rfl, (Below.refl _ _).alloc (Nat.le_refl _) _⟩
theorem greater_any (a b : Int) (w : World) :
    Calls Tryz.prog 77 #[.int .i64 a, .int .i64 b] w fun e w' => e = .returned (.int .i64 (max a b)) ∧ w = w' := by
  by_cases h : a < b
  · have hm : max a b = b := by omega
    rw [hm]
    go_enter Tryz.func77, Tryz.ntmps77
    go_wp2
    go_ret
    exact ⟨rfl, rfl⟩
  · have hm : max a b = a := by omega
    rw [hm]
    go_enter Tryz.func77, Tryz.ntmps77
    go_wp2
    go_ret
    exact ⟨rfl, rfl⟩
theorem meet_any (a b c d : Int) (w : World) :
    Calls Tryz.prog 53 #[vSp a b, vSp c d] w fun e w' => e = .returned (vSp (max a c) (min b d)) ∧ Below w.heap.size w w' := by
  by_cases h1 : a < c
  · have e1 : max a c = c := by omega
    by_cases h2 : d < b
    · have e2 : min b d = d := by omega
      rw [e1, e2]
      clear e1 e2
      go_enter Tryz.func53, Tryz.ntmps53
      go_wp2
      exact bodyPost_ret (v := vSp c d) (by simp [results, Tryz.results53, go_sem]) rfl ⟨rfl, (((Below.refl _ _).alloc (Nat.le_refl _) _).alloc (by simp) _).alloc (by simp; omega) _⟩
    · have e2 : min b d = b := by omega
      rw [e1, e2]
      clear e1 e2
      go_enter Tryz.func53, Tryz.ntmps53
      go_wp2
      exact bodyPost_ret (v := vSp c b) (by simp [results, Tryz.results53, go_sem]) rfl ⟨rfl, (((Below.refl _ _).alloc (Nat.le_refl _) _).alloc (by simp) _).alloc (by simp; omega) _⟩
  · have e1 : max a c = a := by omega
    by_cases h2 : d < b
    · have e2 : min b d = d := by omega
      rw [e1, e2]
      clear e1 e2
      go_enter Tryz.func53, Tryz.ntmps53
      go_wp2
      exact bodyPost_ret (v := vSp a d) (by simp [results, Tryz.results53, go_sem]) rfl ⟨rfl, (((Below.refl _ _).alloc (Nat.le_refl _) _).alloc (by simp) _).alloc (by simp; omega) _⟩
    · have e2 : min b d = b := by omega
      rw [e1, e2]
      clear e1 e2
      go_enter Tryz.func53, Tryz.ntmps53
      go_wp2
      exact bodyPost_ret (v := vSp a b) (by simp [results, Tryz.results53, go_sem]) rfl ⟨rfl, (((Below.refl _ _).alloc (Nat.le_refl _) _).alloc (by simp) _).alloc (by simp; omega) _⟩
theorem sboth_any (a b c d : Int) (w : World) (ha : -1000000 ≤ a ∧ a ≤ 1000000) (hb : -1000000 ≤ b ∧ b ≤ 1000000) (hc : -1000000 ≤ c ∧ c ≤ 1000000) (hd : -1000000 ≤ d ∧ d ≤ 1000000) :
    Calls Tryz.prog 96 #[vSp a b, vSp c d] w fun e w' => e = .returned (vSp (a + c) (b + d)) ∧ Below w.heap.size w w' := by
  go_enter Tryz.func96, Tryz.ntmps96
  go_wp2
  exact bodyPost_ret (v := vSp (a + c) (b + d)) (by simp [results, Tryz.results96, go_sem]) rfl ⟨rfl, (((Below.refl _ _).alloc (Nat.le_refl _) _).alloc (by simp) _).alloc (by simp; omega) _⟩
theorem sum16_any (e m : Int) (w : World) (h1 : -1000000000 ≤ e ∧ e ≤ 1000000000) (h2 : -1000000000 ≤ m ∧ m ≤ 1000000000) :
    Calls Tryz.prog 98 #[.agg #[.int .i64 e, .int .i64 m]] w fun r w' => r = .returned (.int .i64 (e + 6 * m)) ∧ Below w.heap.size w w' := by
  go_enter Tryz.func98, Tryz.ntmps98
  go_wp2
  go_ret
  exact ⟨rfl, (Below.refl _ _).alloc (Nat.le_refl _) _⟩
theorem sixteen_any (a b c d e f : Int) (w : World) (ha : -1000000 ≤ a ∧ a ≤ 1000000) (hb : -1000000 ≤ b ∧ b ≤ 1000000) (hc : -1000000 ≤ c ∧ c ≤ 1000000) (hd : -1000000 ≤ d ∧ d ≤ 1000000) (he : -1000000 ≤ e ∧ e ≤ 1000000) (hf : -1000000 ≤ f ∧ f ≤ 1000000) :
    Calls Tryz.prog 46 #[.agg #[.int .i64 a, .int .i64 b, .int .i64 c, .int .i64 d, .int .i64 e, .int .i64 f]] w fun r w' => r = .returned (.int .i64 (a + b + 6 * c + 6 * d + e + f)) ∧ Below w.heap.size w w' := by
  go_enter Tryz.func46, Tryz.ntmps46
  go_wp2
  go_ret
  exact ⟨rfl, (Below.refl _ _).alloc (Nat.le_refl _) _⟩
/-- A quotient, rounded down. -/
theorem below_eq (a b : Int) (hb : 0 < b) : (a - (a.tmod b + b).tmod b).tdiv b = a / b ∧ 0 ≤ (a.tmod b + b).tmod b ∧ (a.tmod b + b).tmod b < b ∧ -b < a.tmod b ∧ a.tmod b < b := by
  have e1 : (a.tmod b + b).tmod b = a % b := by
    have h0 : 0 ≤ a.tmod b + b := by have := Int.lt_tmod_of_pos a hb; omega
    rw [Int.tmod_eq_emod_of_nonneg h0, Int.add_emod_right]
    rw [Int.tmod_def, Int.sub_mul_emod_self_left]
  have e2 : a - a % b = b * (a / b) := by have := Int.mul_ediv_add_emod a b; omega
  refine ⟨?_, ?_, ?_, Int.lt_tmod_of_pos a hb, Int.tmod_lt_of_pos a hb⟩
  · rw [e1, e2, Int.mul_tdiv_cancel_left _ (by omega)]
  · rw [e1]; exact Int.emod_nonneg a (by omega)
  · rw [e1]; exact Int.emod_lt_of_pos a hb
theorem half_any (n : Int) (w : World) (h : -1000000000 ≤ n ∧ n ≤ 1000000000) :
    Calls Tryz.prog 97 #[.int .i64 n] w fun e w' => e = .returned (.int .i64 (n / 2)) ∧ w = w' := by
  obtain ⟨h1, h2, h3, h4, h5⟩ := below_eq n 2 (by omega)
  generalize hr : n.tmod 2 = r at *
  generalize hs : (r + 2).tmod 2 = s at *
  go_enter Tryz.func97, Tryz.ntmps97
  go_wp2
  go_ret
  exact ⟨rfl, rfl⟩
theorem ediv_bd (a b : Int) (ha : -1000000000000000000 ≤ a ∧ a ≤ 1000000000000000000) (hb : 0 < b) : -1000000000000000000 ≤ a / b ∧ a / b ≤ 1000000000000000000 := by
  constructor
  · exact (Int.le_ediv_iff_mul_le hb).2 (by have : -1000000000000000000 * b ≤ -1000000000000000000 * 1 := Int.mul_le_mul_of_nonpos_left (by omega) (by omega); omega)
  · exact Int.ediv_le_of_le_mul hb (by have : 1000000000000000000 * 1 ≤ 1000000000000000000 * b := Int.mul_le_mul_of_nonneg_left (by omega) (by omega); omega)
theorem hbelow_any (a b : Int) (w : World) (ha : -1000000000000000000 ≤ a ∧ a ≤ 1000000000000000000) (hb : 0 < b ∧ b ≤ 1000000000000000000) :
    Calls Tryz.prog 88 #[.int .i64 a, .int .i64 b] w fun e w' => e = .returned (.int .i64 (a / b)) ∧ w = w' := by
  obtain ⟨h1, h2, h3, h4, h5⟩ := below_eq a b hb.1
  have hb0 : b ≠ 0 := by omega
  obtain ⟨q1, q2⟩ := ediv_bd a b ha hb.1
  generalize a / b = q at *
  generalize hr : a.tmod b = r at *
  generalize hs : (r + b).tmod b = s at *
  go_enter Tryz.func88, Tryz.ntmps88
  go_wp2
  go_ret
  exact ⟨rfl, rfl⟩
theorem placed_any (l h : Int) (w : World) :
    Calls Tryz.prog 61 #[.int .i64 l, .int .i64 h] w fun e w' => e = .returned (.bool (inB l (-20000) 20000 && inB h 0 5000)) ∧ w = w' := by
  have H1 := Lib.hid (fun u => hwithin_any l (-20000) 20000 u)
  have H2 := Lib.hid (fun u => hwithin_any h 0 5000 u)
  generalize inB l (-20000) 20000 = b1 at *
  generalize inB h 0 5000 = b2 at *
  cases b1 with
  | false =>
    go_enter Tryz.func61, Tryz.ntmps61
    go_wp2_with (go_at_call 35; (with_reducible refine (H1.out _).mono ?_); rintro e w' ⟨rfl, rfl⟩)
    go_ret
    exact ⟨rfl, rfl⟩
  | true =>
    go_enter Tryz.func61, Tryz.ntmps61
    go_wp2_with (first | (go_at_call 35; (with_reducible refine (H1.out _).mono ?_); rintro e w' ⟨rfl, rfl⟩) | (go_at_call 35; (with_reducible refine (H2.out _).mono ?_); rintro e w' ⟨rfl, rfl⟩))
    go_ret
    exact ⟨rfl, rfl⟩
end Go.Proofs.YtgojpgggbflgoaaGreat

namespace Go.Proofs.YtgojpgggbflgoaaGreat
open Go.RowKit

/-- A hold. -/
structure Hl where
  id : Int
  room : Int
  lever : Int
  height : Int
deriving Inhabited
def encL (h : Hl) : List Value := [.int .i64 h.id, .int .i64 h.room, .int .i64 h.lever, .int .i64 h.height]
theorem encL_len (h : Hl) : (encL h).length = 4 := rfl
abbrev vHl (h : Hl) : Value := .agg #[.int .i64 h.id, .int .i64 h.room, .int .i64 h.lever, .int .i64 h.height]
theorem Hls.at_ {w : World} {b off : Nat} {l : List Hl} (h : Ls encL 4 w b off l) {i : Nat} {x : Hl} (hi : l[i]? = some x) :
    w.cell? ⟨b, off + i * 4, none⟩ = some (.int .i64 x.id) ∧ w.cell? ⟨b, off + i * 4 + 1, none⟩ = some (.int .i64 x.room) ∧ w.cell? ⟨b, off + i * 4 + 2, none⟩ = some (.int .i64 x.lever) ∧ w.cell? ⟨b, off + i * 4 + 3, none⟩ = some (.int .i64 x.height) :=
  ⟨h.c i x hi 0 _ rfl, h.c i x hi 1 _ rfl, h.c i x hi 2 _ rfl, h.c i x hi 3 _ rfl⟩
/-- A ship as she lies. -/
structure Sp where
  id : Int
  light : Int
  lever : Int
  height : Int
  A : Option Addr
  n : Nat
  c : Nat
  B : Option Addr
  m : Nat
  d : Nat
  merr : Int
  C : Option Addr
  q : Nat
  r : Nat
  terr : Int
  turn : Int
  least : Int
  hs : List Hl
  mn : List (Int × Int)
  mt : List (Int × Int)
abbrev cSp (id light lever height : Int) (A : Option Addr) (n c : Nat) (B : Option Addr) (m d : Nat) (merr : Int) (C : Option Addr) (q r : Nat) (terr turn least : Int) : Array Value :=
  #[.int .i64 id, .int .i64 light, .int .i64 lever, .int .i64 height, .slice A n c, .slice B m d, .int .i64 merr, .slice C q r, .int .i64 terr, .int .i64 turn, .int .i64 least]
def Sp.cs (s : Sp) : Array Value := cSp s.id s.light s.lever s.height s.A s.n s.c s.B s.m s.d s.merr s.C s.q s.r s.terr s.turn s.least
def Sp.v (s : Sp) : Value := .agg s.cs
structure Sp.Ok (w : World) (s : Sp) : Prop where
  h : SAt encL 4 w s.A s.n s.hs
  mn : CAt w s.B s.m s.mn
  mt : CAt w s.C s.q s.mt
  n_le : s.n ≤ 9223372036854775807
  m_le : s.m ≤ 9223372036854775807
  q_le : s.q ≤ 9223372036854775807
  n_cap : s.n ≤ s.c
theorem Sp.Ok.below {w w' : World} {s : Sp} (h : s.Ok w) (hb : Below w.heap.size w w') : s.Ok w' := ⟨h.h.below hb, h.mn.below hb, h.mt.below hb, h.n_le, h.m_le, h.q_le, h.n_cap⟩
theorem blk11 {W : World} {g : Nat} {t : TypeId} {a b c d e f i j k l m : Value} (h : Blk W g t #[a, b, c, d, e, f, i, j, k, l, m]) : g < W.heap.size ∧ W.cell? ⟨g, 0, none⟩ = some a ∧ W.cell? ⟨g, 1, none⟩ = some b ∧ W.cell? ⟨g, 2, none⟩ = some c ∧ W.cell? ⟨g, 3, none⟩ = some d ∧ W.cell? ⟨g, 4, none⟩ = some e ∧ W.cell? ⟨g, 5, none⟩ = some f ∧ W.cell? ⟨g, 6, none⟩ = some i ∧ W.cell? ⟨g, 7, none⟩ = some j ∧ W.cell? ⟨g, 8, none⟩ = some k ∧ W.cell? ⟨g, 9, none⟩ = some l ∧ W.cell? ⟨g, 10, none⟩ = some m :=
  ⟨h.lt, by simpa using h.cell 0, by simpa using h.cell 1, by simpa using h.cell 2, by simpa using h.cell 3, by simpa using h.cell 4, by simpa using h.cell 5, by simpa using h.cell 6, by simpa using h.cell 7, by simpa using h.cell 8, by simpa using h.cell 9, by simpa using h.cell 10⟩
/-! ### sums -/
def isum : List Int → Int
  | [] => 0
  | x :: t => x + isum t
theorem isum_append : ∀ (xs ys : List Int), isum (xs ++ ys) = isum xs + isum ys
  | [], ys => by show isum ys = 0 + _; omega
  | x :: xs, ys => by show x + isum (xs ++ ys) = x + isum xs + _; rw [isum_append xs ys]; omega
theorem isum_take {α : Type} {l : List α} (f : α → Int) {k : Nat} (h : k < l.length) : isum ((l.take (k + 1)).map f) = isum ((l.take k).map f) + f l[k] := by
  rw [List.take_succ_eq_append_getElem h, List.map_append, isum_append]
  show _ + (f l[k] + 0) = _
  omega
theorem isum_bd {l : List Int} {a b : Int} (h : ∀ x ∈ l, a ≤ x ∧ x ≤ b) : a * l.length ≤ isum l ∧ isum l ≤ b * l.length := by
  induction l with
  | nil => exact ⟨by simp [isum], by simp [isum]⟩
  | cons x t ih =>
    obtain ⟨h1, h2⟩ := ih fun y hy => h y (List.mem_cons_of_mem _ hy)
    obtain ⟨h3, h4⟩ := h x List.mem_cons_self
    show a * ((t.length + 1 : Nat) : Int) ≤ x + isum t ∧ x + isum t ≤ b * ((t.length + 1 : Nat) : Int)
    rw [Int.natCast_add, Int.mul_add, Int.mul_add]
    constructor <;> simp <;> omega
theorem mem_take_of {α : Type} {l : List α} {k : Nat} {x : α} (h : x ∈ l.take k) : x ∈ l := List.mem_of_mem_take h
/-- The mass with all holds full. -/
def roomS (light : Int) (hs : List Hl) : Int := light + isum (hs.map Hl.room)
theorem room_bd {hs : List Hl} (h : ∀ x ∈ hs, 0 ≤ x.room ∧ x.room ≤ 65536) (hn : hs.length ≤ 8) (k : Nat) : 0 ≤ isum ((hs.take k).map Hl.room) ∧ isum ((hs.take k).map Hl.room) ≤ 524288 := by
  have hb := isum_bd (l := (hs.take k).map Hl.room) (a := 0) (b := 65536) fun x hx => by
    obtain ⟨y, hy, rfl⟩ := List.mem_map.1 hx
    exact h y (mem_take_of hy)
  have hl : ((hs.take k).map Hl.room).length ≤ 8 := by rw [List.length_map, List.length_take]; omega
  omega
theorem rooms_any (id light lever height : Int) (A : Option Addr) (n c : Nat) (B : Option Addr) (m d : Nat) (merr : Int) (C : Option Addr) (q r : Nat) (terr turn least : Int) (hs : List Hl) (w : World) (h : SAt encL 4 w A n hs) (hr : ∀ x ∈ hs, 0 ≤ x.room ∧ x.room ≤ 65536) (hn : hs.length ≤ 8) (hl : 1 ≤ light ∧ light ≤ 65536) :
    Calls Tryz.prog 64 #[.agg (cSp id light lever height A n c B m d merr C q r terr turn least)] w fun e w' => e = .returned (.int .i64 (roomS light hs)) ∧ Below w.heap.size w w' := by
  have hb0 := below_new w (.cells (cSp id light lever height A n c B m d merr C q r terr turn least) 27)
  have t0 := Blk.new w 27 (cSp id light lever height A n c B m d merr C q r terr turn least)
  have HA := Lib.hid (h.below hb0)
  have HL := Lib.hid h.len
  have HRb := Lib.hid (fun k => room_bd hr hn k)
  have hn8 : n ≤ 8 := by rw [← h.len]; exact hn
  clear h hr hn
  go_enter Tryz.func64, Tryz.ntmps64
  go_upto_region 1 with fail
  generalize hW : w.alloc (.cells (cSp id light lever height A n c B m d merr C q r terr turn least) 27) = W at *
  clear hW
  obtain ⟨tl, _, t1, _, _, t4, _⟩ := blk11 t0
  go_upto_region 3 with fail
  go_loopw [3, 5, 11] (fun a _ i wx => ∃ k : Nat, k ≤ n ∧ i = .int .i64 (k : Int) ∧ a = .int .i64 (light + isum ((hs.take k).map Hl.room)) ∧ Below W.heap.size W wx) (fun _ _ i _ => n - (intOf i).toNat)
  case atStart => exact ⟨0, Nat.zero_le _, rfl, by simp [isum], Below.refl _ _⟩
  case round =>
    obtain ⟨k, hk, rfl, rfl, hb⟩ := hrel
    have HB := Lib.hid hb
    have HS := Lib.hid (HRb.out k)
    by_cases hkn : k < n
    case neg =>
      obtain rfl : k = n := by omega
      have HE := Lib.hid (show light + isum ((hs.take k).map Hl.room) = roomS light hs by rw [← HL.out, List.take_length]; rfl)
      clear hb
      go_wp2
      exact bodyPost_ret (v := .int .i64 (light + isum ((hs.take k).map Hl.room))) (by simp [results, Tryz.results64, go_sem]) rfl ⟨by rw [HE.out], hb0.trans (HB.out.mono hb0.size)⟩
    case pos =>
      have hkl : k < hs.length := by rw [HL.out]; exact hkn
      obtain ⟨b, off, rfl, hls⟩ := HA.out.at_ (by omega)
      obtain ⟨c0, c1, c2, c3⟩ := Hls.at_ (hls.below hb) (List.getElem?_eq_getElem hkl)
      have cl := (hls.below hb).lt
      have HT := Lib.hid (isum_take Hl.room hkl)
      have HS1 := Lib.hid (HRb.out (k + 1))
      clear hls hb
      generalize hs[k] = x at *
      obtain ⟨xi, xr, xl, xh⟩ := x
      dsimp only at *
      have hs0 := HS.out
      have hs1 := HS1.out
      have ht := HT.out
      rw [ht] at hs1
      generalize isum ((hs.take k).map Hl.room) = sk at *
      clear ht
      go_wp2
      go_roundw
      case rel => exact ⟨k + 1, by omega, by go_num, by rw [HT.out, Int.add_assoc], HB.out.alloc HB.out.size _⟩
      case measure => simp [intOf]; omega
theorem heaviest_any (id light lever height : Int) (A : Option Addr) (n c : Nat) (B : Option Addr) (m d : Nat) (merr : Int) (C : Option Addr) (q r : Nat) (terr turn least : Int) (hs : List Hl) (w : World) (h : SAt encL 4 w A n hs) (hr : ∀ x ∈ hs, 0 ≤ x.room ∧ x.room ≤ 65536) (hn : hs.length ≤ 8) (hl : 1 ≤ light ∧ light ≤ 65536) :
    Calls Tryz.prog 51 #[.agg (cSp id light lever height A n c B m d merr C q r terr turn least)] w fun e w' => e = .returned (.int .i64 (roomS light hs)) ∧ Below w.heap.size w w' := by
  have hb0 := below_new w (.cells (cSp id light lever height A n c B m d merr C q r terr turn least) 27)
  have t0 := Blk.new w 27 (cSp id light lever height A n c B m d merr C q r terr turn least)
  have HA := Lib.hid (h.below hb0)
  have HL := Lib.hid h.len
  have HRb := Lib.hid (fun k => room_bd hr hn k)
  have hn8 : n ≤ 8 := by rw [← h.len]; exact hn
  clear h hr hn
  go_enter Tryz.func51, Tryz.ntmps51
  go_upto_region 1 with fail
  generalize hW : w.alloc (.cells (cSp id light lever height A n c B m d merr C q r terr turn least) 27) = W at *
  clear hW
  obtain ⟨tl, _, t1, _, _, t4, _⟩ := blk11 t0
  go_upto_region 3 with fail
  go_loopw [3, 5, 11] (fun a _ i wx => ∃ k : Nat, k ≤ n ∧ i = .int .i64 (k : Int) ∧ a = .int .i64 (light + isum ((hs.take k).map Hl.room)) ∧ Below W.heap.size W wx) (fun _ _ i _ => n - (intOf i).toNat)
  case atStart => exact ⟨0, Nat.zero_le _, rfl, by simp [isum], Below.refl _ _⟩
  case round =>
    obtain ⟨k, hk, rfl, rfl, hb⟩ := hrel
    have HB := Lib.hid hb
    have HS := Lib.hid (HRb.out k)
    by_cases hkn : k < n
    case neg =>
      obtain rfl : k = n := by omega
      have HE := Lib.hid (show light + isum ((hs.take k).map Hl.room) = roomS light hs by rw [← HL.out, List.take_length]; rfl)
      clear hb
      go_wp2
      exact bodyPost_ret (v := .int .i64 (light + isum ((hs.take k).map Hl.room))) (by simp [results, Tryz.results51, go_sem]) rfl ⟨by rw [HE.out], hb0.trans (HB.out.mono hb0.size)⟩
    case pos =>
      have hkl : k < hs.length := by rw [HL.out]; exact hkn
      obtain ⟨b, off, rfl, hls⟩ := HA.out.at_ (by omega)
      obtain ⟨c0, c1, c2, c3⟩ := Hls.at_ (hls.below hb) (List.getElem?_eq_getElem hkl)
      have cl := (hls.below hb).lt
      have HT := Lib.hid (isum_take Hl.room hkl)
      have HS1 := Lib.hid (HRb.out (k + 1))
      clear hls hb
      generalize hs[k] = x at *
      obtain ⟨xi, xr, xl, xh⟩ := x
      dsimp only at *
      have hs0 := HS.out
      have hs1 := HS1.out
      have ht := HT.out
      rw [ht] at hs1
      generalize isum ((hs.take k).map Hl.room) = sk at *
      clear ht
      go_wp2
      go_roundw
      case rel => exact ⟨k + 1, by omega, by go_num, by rw [HT.out, Int.add_assoc], HB.out.alloc HB.out.size _⟩
      case measure => simp [intOf]; omega
end Go.Proofs.YtgojpgggbflgoaaGreat

namespace Go.Proofs.YtgojpgggbflgoaaGreat
open Go.RowKit

theorem isum_le {l : List Int} {a b : Int} (h : ∀ x ∈ l, a ≤ x ∧ x ≤ b) {N : Nat} (hn : l.length ≤ N) (ha : a ≤ 0) (hb : 0 ≤ b) : a * N ≤ isum l ∧ isum l ≤ b * N := by
  obtain ⟨h1, h2⟩ := isum_bd h
  have e1 : a * (N : Int) ≤ a * (l.length : Int) := Int.mul_le_mul_of_nonpos_left (by omega) (by omega)
  have e2 : b * (l.length : Int) ≤ b * (N : Int) := Int.mul_le_mul_of_nonneg_left (by omega) hb
  omega
theorem take_bd {α : Type} {l : List α} {f : α → Int} {a b : Int} (h : ∀ x ∈ l, a ≤ f x ∧ f x ≤ b) {N : Nat} (hn : l.length ≤ N) (ha : a ≤ 0) (hb : 0 ≤ b) (k : Nat) : a * N ≤ isum ((l.take k).map f) ∧ isum ((l.take k).map f) ≤ b * N := by
  refine isum_le (fun y hy => ?_) (by rw [List.length_map, List.length_take]; omega) ha hb
  obtain ⟨x, hx, rfl⟩ := List.mem_map.1 hy
  exact h x (mem_take_of hx)
theorem sum_any (A : Option Addr) (n c : Nat) (xs : List Int) (w : World) (h : SAt encI 1 w A n xs) (hb : ∀ x ∈ xs, -1000000 ≤ x ∧ x ≤ 1000000) (hn : n ≤ 1000) :
    Calls Tryz.prog 20 #[.slice A n c] w fun e w' => e = .returned (.int .i64 (isum xs)) ∧ Below w.heap.size w w' := by
  have HA := Lib.hid h
  have HL := Lib.hid h.len
  have HRb := Lib.hid (fun k => take_bd (f := fun x => x) hb (N := 1000) (by rw [h.len]; exact hn) (by omega) (by omega) k)
  simp only [List.map_id_fun', id] at HRb
  clear h hb
  go_enter Tryz.func20, Tryz.ntmps20
  go_upto_region 3 with fail
  go_loopw [3, 5, 8] (fun a _ i wx => ∃ k : Nat, k ≤ n ∧ i = .int .i64 (k : Int) ∧ a = .int .i64 (isum (xs.take k)) ∧ Below w.heap.size w wx) (fun _ _ i _ => n - (intOf i).toNat)
  case atStart => exact ⟨0, Nat.zero_le _, rfl, by simp [isum], Below.refl _ _⟩
  case round =>
    obtain ⟨k, hk, rfl, rfl, hb⟩ := hrel
    have HB := Lib.hid hb
    by_cases hkn : k < n
    case neg =>
      obtain rfl : k = n := by omega
      have HE := Lib.hid (show isum (xs.take k) = isum xs by rw [← HL.out, List.take_length])
      clear hb
      go_wp2
      exact bodyPost_ret (v := .int .i64 (isum (xs.take k))) (by simp [results, Tryz.results20, go_sem]) rfl ⟨by rw [HE.out], HB.out⟩
    case pos =>
      have hkl : k < xs.length := by rw [HL.out]; exact hkn
      obtain ⟨b, off, rfl, hls⟩ := HA.out.at_ (by omega)
      have c0 := (hls.below hb).c k _ (List.getElem?_eq_getElem hkl) 0 _ rfl
      rw [Nat.mul_one, Nat.add_zero] at c0
      have cl := (hls.below hb).lt
      have HT := Lib.hid (show isum (xs.take (k + 1)) = isum (xs.take k) + xs[k] by have := isum_take (fun x => x) hkl; simpa using this)
      have hs0 := HRb.out k
      have hs1 := HRb.out (k + 1)
      rw [HT.out] at hs1
      clear hls hb
      generalize xs[k] = x at *
      generalize isum (xs.take k) = sk at *
      go_wp2
      go_roundw
      case rel => exact ⟨k + 1, by omega, by go_num, by rw [HT.out], HB.out⟩
      case measure => simp [intOf]; omega
/-! ### spans -/
def encS (x : Int × Int) : List Value := [.int .i64 x.1, .int .i64 x.2]
theorem encS_len (x : Int × Int) : (encS x).length = 2 := rfl
theorem Sps.at_ {w : World} {b off : Nat} {l : List (Int × Int)} (h : Ls encS 2 w b off l) {i : Nat} {x : Int × Int} (hi : l[i]? = some x) :
    w.cell? ⟨b, off + i * 2, none⟩ = some (.int .i64 x.1) ∧ w.cell? ⟨b, off + i * 2 + 1, none⟩ = some (.int .i64 x.2) := ⟨h.c i x hi 0 _ rfl, h.c i x hi 1 _ rfl⟩
/-- The value of a form. -/
def valF : List Int → List Int → Int
  | x :: ws, y :: xs => x * y + valF ws xs
  | _, _ => 0
theorem valF_take : ∀ {ws xs : List Int} {k : Nat} (h : k < ws.length) (hx : k < xs.length), valF (ws.take (k + 1)) xs = valF (ws.take k) xs + ws[k] * xs[k]
  | x :: ws, y :: xs, 0, _, _ => by simp [valF]
  | x :: ws, y :: xs, k + 1, h, hx => by
    have := valF_take (ws := ws) (xs := xs) (k := k) (by simpa using h) (by simpa using hx)
    show x * y + valF (ws.take (k + 1)) xs = x * y + valF (ws.take k) xs + (ws[k]'(by simpa using h)) * (xs[k]'(by simpa using hx))
    rw [this]
    omega
theorem valF_abs : ∀ {ws xs : List Int} (_ : ∀ x ∈ ws, -1048576 ≤ x ∧ x ≤ 1048576) (_ : ∀ x ∈ xs, -1048576 ≤ x ∧ x ≤ 1048576), -(1099511627776 * (ws.length : Int)) ≤ valF ws xs ∧ valF ws xs ≤ 1099511627776 * (ws.length : Int)
  | [], _, _, _ => by simp [valF]
  | x :: ws, [], _, _ => by simp [valF]; omega
  | x :: ws, y :: xs, h, hx => by
    obtain ⟨h1, h2⟩ := valF_abs (ws := ws) (xs := xs) (fun z hz => h z (List.mem_cons_of_mem _ hz)) (fun z hz => hx z (List.mem_cons_of_mem _ hz))
    have a := h x List.mem_cons_self
    have b := hx y List.mem_cons_self
    have := mul_bd a.1 a.2 b.1 b.2
    show -(1099511627776 * ((ws.length + 1 : Nat) : Int)) ≤ x * y + valF ws xs ∧ x * y + valF ws xs ≤ 1099511627776 * ((ws.length + 1 : Nat) : Int)
    omega
theorem valF_bd {ws xs : List Int} (h : ∀ x ∈ ws, -1048576 ≤ x ∧ x ≤ 1048576) (hx : ∀ x ∈ xs, -1048576 ≤ x ∧ x ≤ 1048576) (hn : ws.length ≤ 100) (k : Nat) : -109951162777600 ≤ valF (ws.take k) xs ∧ valF (ws.take k) xs ≤ 109951162777600 := by
  have := valF_abs (ws := ws.take k) (fun z hz => h z (mem_take_of hz)) hx
  have hl : (ws.take k).length ≤ 100 := by rw [List.length_take]; omega
  omega
def loS (l : List (Int × Int)) : Int := isum (l.map Prod.fst)
def hiS (l : List (Int × Int)) : Int := isum (l.map Prod.snd)
theorem sums_any (A : Option Addr) (n c : Nat) (l : List (Int × Int)) (w : World) (h : SAt encS 2 w A n l) (hb : ∀ x ∈ l, (-1000000 ≤ x.1 ∧ x.1 ≤ 1000000) ∧ (-1000000 ≤ x.2 ∧ x.2 ≤ 1000000)) (hn : n ≤ 1000) :
    Calls Tryz.prog 76 #[.slice A n c] w fun e w' => e = .returned (vSp (loS l) (hiS l)) ∧ Below w.heap.size w w' := by
  have hb0 := ((Below.refl w.heap.size w).alloc (Nat.le_refl _) (.cells #[.int .i64 0, .int .i64 0] 43)).alloc (by simp) (.cells #[.int .i64 0, .int .i64 0] 43)
  have r0 := (Blk.new w 43 #[.int .i64 0, .int .i64 0]).alloc (.cells #[.int .i64 0, .int .i64 0] 43)
  have t0 := Blk.at_new (W := w.alloc (.cells #[.int .i64 0, .int .i64 0] 43)) (g := w.heap.size + 1) 43 #[.int .i64 0, .int .i64 0] (by simp)
  have HOld := Lib.hid (show ∀ b off, A = some ⟨b, off, none⟩ → 0 < n → b < w.heap.size from fun b off e h0 => by
    obtain ⟨b', off', e', hl'⟩ := h.at_ h0
    rw [e] at e'
    cases e'
    exact hl'.lt)
  have HA := Lib.hid (h.below hb0)
  have HL := Lib.hid h.len
  have HR1 := Lib.hid (fun k => take_bd (f := Prod.fst) (fun x hx => (hb x hx).1) (N := 1000) (by rw [h.len]; exact hn) (by omega) (by omega) k)
  have HR2 := Lib.hid (fun k => take_bd (f := Prod.snd) (fun x hx => (hb x hx).2) (N := 1000) (by rw [h.len]; exact hn) (by omega) (by omega) k)
  clear h hb
  go_enter Tryz.func76, Tryz.ntmps76
  go_upto_region 3 with fail
  generalize hW : (w.alloc (.cells #[.int .i64 0, .int .i64 0] 43)).alloc (.cells #[.int .i64 0, .int .i64 0] 43) = W at *
  have HW := Lib.hid (show W.heap.size = w.heap.size + 2 by rw [← hW]; simp)
  clear hW
  have HB0 := Lib.hid hb0
  have HT0 := Lib.hid t0
  have HR0 := Lib.hid r0
  clear hb0 t0 r0
  go_loopw [5, 8] (fun _ i wx => ∃ k : Nat, k ≤ n ∧ i = .int .i64 (k : Int) ∧ Below w.heap.size w wx ∧ W.heap.size ≤ wx.heap.size ∧ Blk wx (w.heap.size + 1) 43 #[.int .i64 (isum ((l.take k).map Prod.fst)), .int .i64 (isum ((l.take k).map Prod.snd))] ∧ Blk wx w.heap.size 43 #[.int .i64 0, .int .i64 0] ∧ SAt encS 2 wx A n l) (fun _ i _ => n - (intOf i).toNat)
  case atStart => exact ⟨0, Nat.zero_le _, rfl, HB0.out, Nat.le_refl _, HT0.out, HR0.out, HA.out⟩
  case round =>
    obtain ⟨k, hk, rfl, hb, hsz, ht, hr, hsat⟩ := hrel
    have HB := Lib.hid hb
    have HT := Lib.hid ht
    have HR := Lib.hid hr
    have HS := Lib.hid hsat
    obtain ⟨y0, y1, yl⟩ := cells2 ht
    by_cases hkn : k < n
    case neg =>
      obtain rfl : k = n := by omega
      have HE1 := Lib.hid (show isum ((l.take k).map Prod.fst) = loS l by rw [← HL.out, List.take_length]; rfl)
      have HE2 := Lib.hid (show isum ((l.take k).map Prod.snd) = hiS l by rw [← HL.out, List.take_length]; rfl)
      rw [HE1.out] at y0
      rw [HE2.out] at y1
      clear hb ht hr hsat
      obtain ⟨r0, r1, rl⟩ := cells2 HR.out
      have f0 := HR.out.frozen 0
      have f1 := HR.out.frozen 1
      go_wp2
      obtain ⟨x0, x1, _⟩ := cells2 (blk_set2 HR.out (.int .i64 (loS l)) (.int .i64 (hiS l)))
      exact bodyPost_ret (v := vSp (loS l) (hiS l)) (by simp [results, Tryz.results76, go_sem, x0, x1]) rfl ⟨rfl, below_set2 HB.out (Nat.le_refl _) _ _⟩
    case pos =>
      have hkl : k < l.length := by rw [HL.out]; exact hkn
      obtain ⟨b, off, rfl, hls⟩ := HS.out.at_ (by omega)
      obtain ⟨c0, c1⟩ := Sps.at_ hls (List.getElem?_eq_getElem hkl)
      have cl := hls.lt
      have HT1 := Lib.hid (isum_take Prod.fst hkl)
      have HT2 := Lib.hid (isum_take Prod.snd hkl)
      have hs1 := HR1.out k
      have hs2 := HR2.out k
      have hs3 := HR1.out (k + 1)
      have hs4 := HR2.out (k + 1)
      rw [HT1.out] at hs3
      rw [HT2.out] at hs4
      have HFar := Lib.hid (show b < W.heap.size by
        obtain ⟨b', off', e', hl'⟩ := HA.out.at_ (by omega)
        cases e'
        exact hl'.lt)
      have HNe := Lib.hid (show w.heap.size + 1 ≠ b by have := HOld.out b off rfl (by omega); omega)
      clear hls hb ht hr hsat
      generalize l[k] = x at *
      obtain ⟨x1, x2⟩ := x
      dsimp only at *
      generalize isum ((l.take k).map Prod.fst) = s1 at *
      generalize isum ((l.take k).map Prod.snd) = s2 at *
      have bz := below_new wr (.cells #[.int .i64 x1, .int .i64 x2] 43)
      go_upto_region 5 with fail
      have HB5 := Lib.hid (HB.out.trans (bz.mono HB.out.size))
      have HT5 := Lib.hid (HT.out.below bz)
      have HR5 := Lib.hid (HR.out.below bz)
      have HS5 := Lib.hid (HS.out.below bz)
      have HN5 := Lib.hid (Blk.new wr 43 #[.int .i64 x1, .int .i64 x2])
      have HZ5 := Lib.hid (show W.heap.size ≤ (wr.alloc (.cells #[.int .i64 x1, .int .i64 x2] 43)).heap.size from Nat.le_trans hsz bz.size)
      generalize hV : wr.alloc (.cells #[.int .i64 x1, .int .i64 x2] 43) = V at *
      generalize hg : wr.heap.size = g at *
      clear hV bz y0 y1 yl c0 c1 cl HB HT HR HS
      obtain ⟨y0, y1, yl⟩ := cells2 HT5.out
      obtain ⟨z0, z1, zl⟩ := cells2 HN5.out
      have f0 := HT5.out.frozen 0
      have f1 := HT5.out.frozen 1
      have hw2 := HW.out
      have hne1 : w.heap.size + 1 ≠ g := by omega
      have hne2 := Ne.symm hne1
      go_region
      have HF := Lib.hid ((blk_set2 HT5.out (.int .i64 (s1 + x1)) (.int .i64 (s2 + x2))).below (Below.refl _ _).drew)
      have hg2 := grown_set2 V (w.heap.size + 1) (.int .i64 (s1 + x1)) (.int .i64 (s2 + x2))
      have HR6 := Lib.hid ((HR5.out.grown hg2 (by intro e; have := Option.some.inj e; omega)).below (Below.refl _ _).drew)
      have HB6 := Lib.hid ((below_set2 HB5.out (g := w.heap.size + 1) (by omega) (.int .i64 (s1 + x1)) (.int .i64 (s2 + x2))).drew)
      have HS6 := Lib.hid ((HS5.out.grown hg2 (fun a ha e => by have e2 := Option.some.inj e; cases ha; exact HNe.out e2)).below (Below.refl _ _).drew)
      have HZ6 := Lib.hid (show W.heap.size ≤ (((V.setCell ⟨w.heap.size + 1, 0, none⟩ (.int .i64 (s1 + x1))).setCell ⟨w.heap.size + 1, 1, none⟩ (.int .i64 (s2 + x2))).drew).heap.size by simpa using HZ5.out)
      clear hg2
      go_wp2
      go_roundw
      case rel => exact ⟨k + 1, by omega, by go_num, HB6.out, HZ6.out, by rw [HT1.out, HT2.out]; exact HF.out, HR6.out, HS6.out⟩
      case measure => simp [intOf]; omega
/-! ### the value of a form -/
theorem value_any (A : Option Addr) (n c : Nat) (ws : List Int) (B : Option Addr) (m d : Nat) (xs : List Int) (w : World) (h : SAt encI 1 w A n ws) (hx : SAt encI 1 w B m xs) (hnm : n ≤ m) (hn : n ≤ 100) (hb : ∀ x ∈ ws, -1048576 ≤ x ∧ x ≤ 1048576) (hbx : ∀ x ∈ xs, -1048576 ≤ x ∧ x ≤ 1048576) :
    Calls Tryz.prog 85 #[.slice A n c, .slice B m d] w fun e w' => e = .returned (.int .i64 (valF ws xs)) ∧ Below w.heap.size w w' := by
  have HA := Lib.hid h
  have HX := Lib.hid hx
  have HL := Lib.hid h.len
  have HLx := Lib.hid hx.len
  have HBw := Lib.hid hb
  have HBx := Lib.hid hbx
  clear h hx hb hbx
  go_enter Tryz.func85, Tryz.ntmps85
  go_upto_region 3 with fail
  go_loopw [5, 6, 7, 10] (fun a _ _ i wx => ∃ k : Nat, k ≤ n ∧ i = .int .i64 (k : Int) ∧ a = .int .i64 (valF (ws.take k) xs) ∧ Below w.heap.size w wx) (fun _ _ _ i _ => n - (intOf i).toNat)
  case atStart => exact ⟨0, Nat.zero_le _, rfl, by simp [valF], Below.refl _ _⟩
  case round =>
    obtain ⟨k, hk, rfl, rfl, hb⟩ := hrel
    have HB := Lib.hid hb
    by_cases hkn : k < n
    case neg =>
      obtain rfl : k = n := by omega
      have HE := Lib.hid (show valF (ws.take k) xs = valF ws xs by rw [← HL.out, List.take_length])
      clear hb
      go_wp2
      exact bodyPost_ret (v := .int .i64 (valF (ws.take k) xs)) (by simp [results, Tryz.results85, go_sem]) rfl ⟨by rw [HE.out], HB.out⟩
    case pos =>
      have hkl : k < ws.length := by rw [HL.out]; exact hkn
      have hkx : k < xs.length := by rw [HLx.out]; omega
      obtain ⟨b, off, rfl, hls⟩ := HA.out.at_ (by omega)
      obtain ⟨b2, off2, rfl, hlx⟩ := HX.out.at_ (by omega)
      have c0 := (hls.below hb).c k _ (List.getElem?_eq_getElem hkl) 0 _ rfl
      rw [Nat.mul_one, Nat.add_zero] at c0
      have cl := (hls.below hb).lt
      have d0 := (hlx.below hb).c k _ (List.getElem?_eq_getElem hkx) 0 _ rfl
      rw [Nat.mul_one, Nat.add_zero] at d0
      have dl := (hlx.below hb).lt
      have HT := Lib.hid (valF_take hkl hkx)
      have hw1 := HBw.out _ (List.getElem_mem hkl)
      have hx1 := HBx.out _ (List.getElem_mem hkx)
      have hs0 := valF_bd HBw.out HBx.out (by rw [HL.out]; exact hn) k
      have hp := mul_bd hw1.1 hw1.2 hx1.1 hx1.2
      clear hls hlx hb
      generalize ws[k] = x at *
      generalize xs[k] = y at *
      generalize hxy : x * y = z at *
      generalize valF (ws.take k) xs = sk at *
      clear hw1 hx1
      go_wp2
      go_roundw
      case rel => exact ⟨k + 1, by omega, by go_num, by rw [HT.out], HB.out⟩
      case measure => simp [intOf]; omega
end Go.Proofs.YtgojpgggbflgoaaGreat
