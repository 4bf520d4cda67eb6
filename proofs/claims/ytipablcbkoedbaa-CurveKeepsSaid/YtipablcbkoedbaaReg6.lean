/- A region that draws its order, lays one new block, and ends in its writes. -/
import Derived.Test.YtipablcbkoedbaaReg4
import Derived.Test.YtipablcbkoedbaaB2
namespace Go.Proofs.Ytipablcbkoedbaa
open Go.RowKit Go

def newInv (w : World) (i : Nat) (t : TypeId) (cs : Array Value) (ls : Nat → Bool) (vs : Nat → Value) (v : World) : Prop :=
  ls i = true → ∃ g, vs i = .pointer (some ⟨g, 0, none⟩) ∧ w.heap.size ≤ g ∧ Blk v g t cs

theorem wp_region_new {P : Program} {id : Nat} {Q : Exit → Act → World → Prop} {a : Act} {w : World} {l : List Oper} (n i : Nat) (d : Tmp) (t : TypeId) (cs : Array Value)
    (hm : P.follows .mixedOrders = true) (hB : (regB l.toArray n [(i, d)] && dstsB a.tmps.size (qOf [(i, d)] 0 (l.take n)) && [(i, d)].all fun p => match l[p.1]? with | some o => o.dst.isSome || decide (a.tmps.size ≤ p.2) | none => true) = true)
    (hop : ∀ (a' : Act) (v : World) (R : Value → World → Prop), R (.pointer (some ⟨v.heap.size, 0, none⟩)) (v.alloc (.cells cs t)) → ∀ o, l[i]? = some o → loudAt P o a' v R)
    (h : ∃ aQ, (∀ W, Below w.heap.size w W → wpQuiet P l.toArray (fun v' => ∃ x : Ext W, v' = x.w) (fun a' => a' = aQ) (qOf [(i, d)] 0 (l.take n)) a) ∧
      ∀ g v, w.heap.size ≤ g → Below w.heap.size w v → Blk v g t cs → wpList P l.toArray Q (l.drop n) (aQ.put (some d) (.pointer (some ⟨g, 0, none⟩))) v) : (Code.region id l.toArray true).wp P Q a w := by
  obtain ⟨aQ, h1, h2⟩ := h
  refine wp_region_pre n [(i, d)] (newInv w i t cs) hm hB (fun v _ h => by cases h) (fun ls vs v v' _ h k hl => ?_) ⟨aQ, h1, ?_, ?_⟩
  · obtain ⟨g, e, hg, hb⟩ := h hl
    exact ⟨g, e, hg, hb.below k⟩
  · rintro p hp vs v ⟨x, rfl⟩ ls hI hls _ o ho
    have hp : p = (i, d) := by simpa using hp
    subst hp
    refine hop _ _ _ ⟨Over.of (x.below.alloc x.below.size _), fun _ => ⟨x.w.heap.size, by simp [upd], x.below.size, Blk.new _ _ _⟩⟩ o ho
  · rintro ls vs _ ⟨x, rfl⟩ hI hls
    obtain ⟨g, e, hg, hb⟩ := hI (hls (i, d) (by simp))
    have := h2 g x.w hg x.below hb
    show wpList P l.toArray Q (l.drop n) (putsL aQ [(i, d)] vs) x.w
    have ep : putsL aQ [(i, d)] vs = aQ.put (some d) (vs i) := rfl
    rw [ep, e]
    exact this
end Go.Proofs.Ytipablcbkoedbaa
