/- A region that draws its order in a round: the quiet operations in one walk, the loud ones with one joint invariant; one row that is appended to. -/
import Derived.Test.YtipablcbkoedbaaReg5
namespace Go.Proofs.Ytipablcbkoedbaa
open Go.RowKit Go

theorem wpIn_region_preC {F : Fence} {P : Program} {id m : Nat} {Q : Exit → Act → World → Prop} {a : Act} {w : World} {l : List Oper} (n : Nat) (L : List (Nat × Tmp)) (C : World → Prop) (Φ : (Nat → Bool) → (Nat → Value) → World → Prop)
    (hF : OpenFence F P) (hm : P.follows .mixedOrders = true) (hB : (regB l.toArray n L && dstsB a.tmps.size (qOf L 0 (l.take n)) && L.all fun p => match l[p.1]? with | some o => o.dst.isSome || decide (a.tmps.size ≤ p.2) | none => true) = true)
    (hw : C w) (hC : ∀ v v', C v → Below v.heap.size v v' → C v') (h0 : ∀ v, Below w.heap.size w v → Φ (fun _ => false) (fun _ => undef) v)
    (hΦ : ∀ ls vs v v', C v → Φ ls vs v → Below v.heap.size v v' → Φ ls vs v')
    (h : ∃ aQ, (∀ W, C W → wpQuiet P l.toArray (fun v' => ∃ x : Ext W, v' = x.w) (fun a' => a' = aQ) (qOf L 0 (l.take n)) a) ∧
      HeadEnd P l L C Φ (fun a w => wpListIn F m P l.toArray Q (l.drop n) a w) aQ) : (Code.region id l.toArray true).wpIn F m P Q a w := by
  simp only [Bool.and_eq_true, List.all_eq_true] at hB
  obtain ⟨⟨hB, hd⟩, ho⟩ := hB
  obtain ⟨aQ, h, he⟩ := h
  refine wpIn_region_head n L C (fun W v' => ∃ x : Ext W, v' = x.w) Φ hF hm hB (hC _ _ hw (Below.refl _ w).drew) (h0 _ (Below.refl _ w).drew) (fun p hp o hpo hn => ?_) (fun v _ => Over.refl v) (fun _ _ h k => hC _ _ h (Over.below k))
    (fun ls vs v v' hc h k => hΦ ls vs v v' hc h (Over.below k)) (qs_of_q (fun v _ => Over.refl v) w hw he _ 0 a hd h)
  have := ho p hp
  rw [hpo] at this
  simpa [hn] using this

/-- One row, one new piece: slot i is the new piece, j the row behind the append. -/
structure OneRow (e size base k : Nat) (i j : Nat) (v : Value) (xs p : List Value) (ls : Nat → Bool) (vs : Nat → Value) (W : World) : Prop where
  row : W.ownsRow base e size (cond (ls j) (vs j) v) (k + cond (ls j) 1 0) (xs ++ cond (ls j) p [])
  new : ls i = true → ls j = false → ∃ g, vs i = .slice (some ⟨g, 0, none⟩) 1 1 ∧ Blk W g e p.toArray
section
variable {e size base k : Nat} {i j : Nat} {v : Value} {xs p : List Value} {ls : Nat → Bool} {vs : Nat → Value} {W W' : World}
theorem OneRow.below (h : OneRow e size base k i j v xs p ls vs W) (hb : Below W.heap.size W W') : OneRow e size base k i j v xs p ls vs W' :=
  ⟨owns_below h.row hb, fun a b => let ⟨g, x, y⟩ := h.new a b; ⟨g, x, y.below hb⟩⟩
theorem OneRow.lay (h : OneRow e size base k i j v xs p ls vs W) (hd : i ≠ j) : OneRow e size base k i j v xs p (updB ls i) (upd vs i (.slice (some ⟨W.heap.size, 0, none⟩) 1 1)) (W.alloc (.cells p.toArray e)) := by
  have e1 : updB ls i j = ls j := by simp [updB, Ne.symm hd]
  have e3 : ∀ x, upd vs i x j = vs j := fun x => by simp [upd, Ne.symm hd]
  refine ⟨?_, fun _ _ => ⟨W.heap.size, by simp [upd], Blk.new _ _ _⟩⟩
  rw [e1, e3]; exact h.row.alloc _
theorem OneRow.app (_ : OneRow e size base k i j v xs p ls vs W) (v' : Value) (ho : W'.ownsRow base e size v' (k + 1) (xs ++ p)) :
    OneRow e size base k i j v xs p (updB ls j) (upd vs j v') W' := by
  have e1 : updB ls j j = true := by simp [updB]
  have e3 : ∀ x, upd vs j x j = x := fun x => by simp [upd]
  refine ⟨by rw [e1, e3]; exact ho, fun _ b => ?_⟩
  rw [e1] at b; cases b
end

/-- A row that is owned abides the turn of a block that is no cells. -/
theorem owns_own {B base e size n : Nat} {v : Value} {xs : List Value} {X Y : World} {row : Option Nat} (h : X.ownsRow base e size v n xs) (hg : X.grownBy Y row) (hr : ∀ r, row = some r → B ≤ r ∧ ∃ o : Obj, X.heap[r]? = some o ∧ o.isCells = false) : Y.ownsRow base e size v n xs := by
  refine owns_grown h hg fun g hgv hrow => ?_
  obtain ⟨_, o, ho, hc⟩ := hr g hrow
  rcases h.2 with ⟨rfl, _⟩ | ⟨g', cap, cur, rfl, _, hgg, _⟩
  · cases hgv
  · have : g' = g := Option.some.inj hgv
    subst this
    rw [hgg] at ho
    cases ho
    cases hc

/-- A row's own block holds cells of the row's type. -/
theorem own_blk {W : World} {B e size n g : Nat} {v : Value} {xs : List Value} (h : W.ownsRow B e size v n xs) (hg : v.ownBlock = some g) : ∃ cur, W.heap[g]? = some (.cells cur e (0, 0)) := by
  rcases h.2 with ⟨rfl, _⟩ | ⟨g', cap, cur, rfl, _, hgg, _⟩
  · cases hg
  · have : g' = g := Option.some.inj hg
    subst this
    exact ⟨cur, hgg⟩
theorem own_ne {W : World} {B e size n g t : Nat} {v : Value} {xs : List Value} {cs : Array Value} (h : W.ownsRow B e size v n xs) (hb : Blk W g t cs) (ht : t ≠ e) : v.ownBlock ≠ some g := fun hg => by
  obtain ⟨cur, hc⟩ := own_blk h hg
  rw [show W.heap[g]? = _ from hb] at hc
  cases hc
  exact ht rfl
theorem own_keeps {W W' : World} {B B' e size n : Nat} {v : Value} {xs : List Value} (h : W.ownsRow B e size v n xs) (hg : W.grownBy W' v.ownBlock) : KeepsFrom B' W W' :=
  (KeepsOthers.of_grownBy hg fun j o hj ho => by
    obtain ⟨cur, hc⟩ := own_blk h hj
    rw [hc] at ho
    cases ho
    rfl).from _
end Go.Proofs.Ytipablcbkoedbaa
