/- A trade is copied in one region that draws its order: what is known meanwhile; and lists that are mapped from the left. -/
import Derived.Laws.AppendOwnNone
import Derived.Test.YtighfmgkoepfkaaGreatMH
namespace Go.Proofs.YtighfmgkoepfkaaGreat
open Go.RowKit

theorem run_append_owned_nil {P : Program} {w : World} (base : Nat) (t ty e : TypeId) (i : TypeInfo) (size : Nat) (ht : P.underlying t = some (.slice e)) (hi : P.info? e = some i)
    (v : Value) (n : Nat) (xs : List Value) (hown : w.ownsRow base e size v n xs) (c : Nat) : (Builtin.append_ #[t, t] ty #[v, .slice none 0 c]).run P w = .ok v w := by
  rcases hown.2 with ⟨rfl, rfl⟩ | ⟨g, cap, cur, rfl, _, _, hnc, _⟩
  · simp [Builtin.append_, run_underlying ht, sizeOf, typeInfo, hi, Builtin.lenOf, Builtin.firstCells]
  · simp [Builtin.append_, run_underlying ht, sizeOf, typeInfo, hi, Builtin.lenOf, Builtin.firstCells, hnc, storeCells]
theorem loudAt_append_nil {P : Program} {o : Oper} {a : Act} {w : World} {R : Value → World → Prop} (s x : Operand) (t : TypeId)
    (ho : o.op = .call { callee := .builtin .append, args := #[s, x], argTypes := #[t, t] })
    (base : Nat) (e : TypeId) (i : TypeInfo) (size : Nat) (ht : P.underlying t = some (.slice e)) (hi : P.info? e = some i)
    (v : Value) (n : Nat) (xs : List Value) (hs : a.eval s = v) (hown : w.ownsRow base e size v n xs) (c : Nat) (hx : a.eval x = .slice none 0 c) (h : R v w) : loudAt P o a w R := by
  have hr := run_append_owned_nil (P := P) (w := w) base t o.type e i size ht hi v n xs hown c
  unfold loudAt execOp
  simp only [ho, resolve, invoke, builtin, Sem.run_bind, Sem.run_pure, Result.andThen_ok, List.map_toArray, List.map_cons, List.map_nil, hs, hx, hr]
  exact h
theorem wpList_append_own_nil {P : Program} {w : World} {ops : Array Oper} {rest : List Oper} {o : Oper} {a : Act} {Q : Exit → Act → World → Prop} (hgd : o.guard = none) (s x : Operand) (t : TypeId)
    (ho : o.op = .call { callee := .builtin .append, args := #[s, x], argTypes := #[t, t] })
    (base : Nat) (e : TypeId) (i : TypeInfo) (size : Nat) (ht : P.underlying t = some (.slice e)) (hi : P.info? e = some i)
    (v : Value) (n : Nat) (xs : List Value) (hs : a.eval s = v) (hown : w.ownsRow base e size v n xs) (c : Nat) (hx : a.eval x = .slice none 0 c)
    (h : wpList P ops Q rest (a.put o.dst v) w) : wpList P ops Q (o :: rest) a w := by
  refine wpList_plain hgd fun K hK => ?_
  have hrun := run_append_owned_nil (P := P) (w := w) base t o.type e i size ht hi v n xs hown c
  unfold Oper.wp
  simp [execOp, ho, resolve, invoke, builtin, hs, hx, hrun, Result.andThen]
  exact hK _ _ h
structure CpP (L n m : Nat) (hs : List Hd) (ms : List Mv) (ls : Nat → Bool) (vs : Nat → Value) (v : World) : Prop where
  b0 : ls 0 = true → ls 3 = false → v.ownsRow L 118 6 (vs 0) 0 []
  r3 : ls 3 = true → v.ownsRow L 118 6 (vs 3) n (hs.flatMap encH)
  b4 : ls 4 = true → ls 7 = false → v.ownsRow L 59 5 (vs 4) 0 []
  r7 : ls 7 = true → v.ownsRow L 59 5 (vs 7) m (ms.flatMap encM)
  p8 : ls 8 = true → ls 3 = true ∧ ls 7 = true ∧ vs 8 = .agg #[vs 3, vs 7]
  p9 : ls 9 = true → ∃ g, vs 9 = .pointer (some ⟨g, 0, none⟩) ∧ L ≤ g ∧ Blk v g 25 #[.slice none 0 0, .slice none 0 0]
section
variable {L n m : Nat} {hs : List Hd} {ms : List Mv} {ls : Nat → Bool} {vs : Nat → Value} {v v' : World}
theorem CpP.init : CpP L n m hs ms (fun _ => false) (fun _ => undef) v := ⟨fun h _ => (by cases h), fun h => (by cases h), fun h _ => (by cases h), fun h => (by cases h), fun h => (by cases h), fun h => (by cases h)⟩
theorem CpP.below (h : CpP L n m hs ms ls vs v) (hb : Below v.heap.size v v') : CpP L n m hs ms ls vs v' :=
  ⟨fun a b => owns_below (h.b0 a b) hb, fun a => owns_below (h.r3 a) hb, fun a b => owns_below (h.b4 a b) hb, fun a => owns_below (h.r7 a) hb, h.p8, fun a => let ⟨g, x, y, z⟩ := h.p9 a; ⟨g, x, y, z.below hb⟩⟩
theorem CpP.s0 (h : CpP L n m hs ms ls vs v) (hL : L ≤ v.heap.size) : CpP L n m hs ms (updB ls 0) (upd vs 0 (.slice (some ⟨v.heap.size, 0, none⟩) 0 0)) (v.alloc (.cells #[] 118)) := by
  have h2 := h.below (below_new v (.cells #[] 118))
  refine ⟨fun _ _ => by simpa [upd] using World.ownsRow_made (base := L) v #[] 0 hL (Nat.zero_le _) (by simp), fun a => ?_, fun a b => ?_, fun a => ?_, fun a => ?_, fun a => ?_⟩
  · simpa [updB, upd] using h2.r3 (by simpa [updB] using a)
  · simpa [updB, upd] using h2.b4 (by simpa [updB] using a) (by simpa [updB] using b)
  · simpa [updB, upd] using h2.r7 (by simpa [updB] using a)
  · simpa [updB, upd] using h2.p8 (by simpa [updB] using a)
  · simpa [updB, upd] using h2.p9 (by simpa [updB] using a)
theorem CpP.s4 (h : CpP L n m hs ms ls vs v) (hL : L ≤ v.heap.size) : CpP L n m hs ms (updB ls 4) (upd vs 4 (.slice (some ⟨v.heap.size, 0, none⟩) 0 0)) (v.alloc (.cells #[] 59)) := by
  have h2 := h.below (below_new v (.cells #[] 59))
  refine ⟨fun a b => ?_, fun a => ?_, fun _ _ => by simpa [upd] using World.ownsRow_made (base := L) v #[] 0 hL (Nat.zero_le _) (by simp), fun a => ?_, fun a => ?_, fun a => ?_⟩
  · simpa [updB, upd] using h2.b0 (by simpa [updB] using a) (by simpa [updB] using b)
  · simpa [updB, upd] using h2.r3 (by simpa [updB] using a)
  · simpa [updB, upd] using h2.r7 (by simpa [updB] using a)
  · simpa [updB, upd] using h2.p8 (by simpa [updB] using a)
  · simpa [updB, upd] using h2.p9 (by simpa [updB] using a)
theorem CpP.s3 (h : CpP L n m hs ms ls vs v) (h3 : ls 3 = false) {u x : Value} {k : Nat} {xs : List Value} (hu : v.ownsRow L 118 6 u k xs) (hg : v.grownBy v' u.ownBlock) (hr : v'.ownsRow L 118 6 x n (hs.flatMap encH)) : CpP L n m hs ms (updB ls 3) (upd vs 3 x) v' := by
  refine ⟨fun _ b => by simp [updB] at b, fun _ => by simpa [upd] using hr, fun a b => ?_, fun a => ?_, fun a => ?_, fun a => ?_⟩
  · have := h.b4 (by simpa [updB] using a) (by simpa [updB] using b)
    simpa [upd] using owns_grown this hg (fun r hr e => own_ne2 this hu (by decide) e hr)
  · have := h.r7 (by simpa [updB] using a)
    simpa [upd] using owns_grown this hg (fun r hr e => own_ne2 this hu (by decide) e hr)
  · have := h.p8 (by simpa [updB] using a)
    rw [h3] at this
    exact absurd this.1 (by decide)
  · obtain ⟨g, e1, e2, e3⟩ := h.p9 (by simpa [updB] using a)
    exact ⟨g, by simpa [upd] using e1, e2, e3.grown hg (own_ne hu e3 (by decide))⟩
theorem CpP.s7 (h : CpP L n m hs ms ls vs v) (h7 : ls 7 = false) {u x : Value} {k : Nat} {xs : List Value} (hu : v.ownsRow L 59 5 u k xs) (hg : v.grownBy v' u.ownBlock) (hr : v'.ownsRow L 59 5 x m (ms.flatMap encM)) : CpP L n m hs ms (updB ls 7) (upd vs 7 x) v' := by
  refine ⟨fun a b => ?_, fun a => ?_, fun _ b => by simp [updB] at b, fun _ => by simpa [upd] using hr, fun a => ?_, fun a => ?_⟩
  · have := h.b0 (by simpa [updB] using a) (by simpa [updB] using b)
    simpa [upd] using owns_grown this hg (fun r hr e => own_ne2 this hu (by decide) e hr)
  · have := h.r3 (by simpa [updB] using a)
    simpa [upd] using owns_grown this hg (fun r hr e => own_ne2 this hu (by decide) e hr)
  · have := h.p8 (by simpa [updB] using a)
    rw [h7] at this
    exact absurd this.2.1 (by decide)
  · obtain ⟨g, e1, e2, e3⟩ := h.p9 (by simpa [updB] using a)
    exact ⟨g, by simpa [upd] using e1, e2, e3.grown hg (own_ne hu e3 (by decide))⟩
theorem CpP.s8 (h : CpP L n m hs ms ls vs v) (h3 : ls 3 = true) (h7 : ls 7 = true) : CpP L n m hs ms (updB ls 8) (upd vs 8 (.agg #[vs 3, vs 7])) v := by
  refine ⟨fun a b => ?_, fun a => ?_, fun a b => ?_, fun a => ?_, fun _ => ⟨by simpa [updB] using h3, by simpa [updB] using h7, by simp [upd]⟩, fun a => ?_⟩
  · simpa [updB, upd] using h.b0 (by simpa [updB] using a) (by simpa [updB] using b)
  · simpa [updB, upd] using h.r3 (by simpa [updB] using a)
  · simpa [updB, upd] using h.b4 (by simpa [updB] using a) (by simpa [updB] using b)
  · simpa [updB, upd] using h.r7 (by simpa [updB] using a)
  · simpa [updB, upd] using h.p9 (by simpa [updB] using a)
theorem CpP.s9 (h : CpP L n m hs ms ls vs v) (hL : L ≤ v.heap.size) : CpP L n m hs ms (updB ls 9) (upd vs 9 (.pointer (some ⟨v.heap.size, 0, none⟩))) (v.alloc (.cells #[.slice none 0 0, .slice none 0 0] 25)) := by
  have h2 := h.below (below_new v (.cells #[.slice none 0 0, .slice none 0 0] 25))
  refine ⟨fun a b => ?_, fun a => ?_, fun a b => ?_, fun a => ?_, fun a => ?_, fun _ => ⟨v.heap.size, by simp [upd], hL, Blk.new _ _ _⟩⟩
  · simpa [updB, upd] using h2.b0 (by simpa [updB] using a) (by simpa [updB] using b)
  · simpa [updB, upd] using h2.r3 (by simpa [updB] using a)
  · simpa [updB, upd] using h2.b4 (by simpa [updB] using a) (by simpa [updB] using b)
  · simpa [updB, upd] using h2.r7 (by simpa [updB] using a)
  · simpa [updB, upd] using h2.p8 (by simpa [updB] using a)
end
/-- A list that is mapped from the left, k steps. -/
def mapT {α : Type} (f : α → α) (l : List α) (k : Nat) : List α := (l.take k).map f ++ l.drop k
section
variable {α : Type} {f : α → α} {l : List α} {k : Nat}
theorem mapT_zero : mapT f l 0 = l := by simp [mapT]
theorem mapT_end (h : l.length ≤ k) : mapT f l k = l.map f := by simp [mapT, List.take_of_length_le h, List.drop_of_length_le h]
theorem mapT_len : (mapT f l k).length = l.length := by simp [mapT]; omega
theorem mapT_at (h : k < l.length) : (mapT f l k)[k]'(by rw [mapT_len]; exact h) = l[k] := by
  have e : (mapT f l k)[k]? = some l[k] := by
    unfold mapT
    rw [List.getElem?_append_right (by rw [List.length_map, List.length_take]; exact Nat.min_le_left _ _), List.getElem?_drop, List.length_map, List.length_take, Nat.min_eq_left (by omega), Nat.sub_self, Nat.add_zero, List.getElem?_eq_getElem h]
  rw [List.getElem?_eq_getElem (by rw [mapT_len]; exact h)] at e
  exact Option.some.inj e
theorem mapT_step (h : k < l.length) : mapT f l (k + 1) = (mapT f l k).set k (f l[k]) := by
  unfold mapT
  have e : l.drop k = l[k] :: l.drop (k + 1) := List.drop_eq_getElem_cons h
  rw [List.take_succ_eq_append_getElem h, List.map_append, List.set_append_right _ _ (by rw [List.length_map, List.length_take]; exact Nat.min_le_left _ _), List.length_map, List.length_take, Nat.min_eq_left (by omega), Nat.sub_self, e, List.append_assoc]
  rfl
theorem mapT_same (h : k < l.length) (e : f l[k] = l[k]) : mapT f l (k + 1) = mapT f l k := by
  rw [mapT_step h, e, ← mapT_at (f := f) h, List.set_getElem_self]
end
end Go.Proofs.YtighfmgkoepfkaaGreat
