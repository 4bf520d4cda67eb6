/- Of FlowTampers: what changes a limit, as an argument. -/
import Derived.Deep.RegionLaw
import Derived.Test.YtighfmgkoepfkaaGreatML
import Derived.Test.YtighfmgkoepfkaaGreatMB
import Derived.Test.YtighfmgkoepfkaaGreatMLa
namespace Go.Proofs.YtighfmgkoepfkaaGreat
open Go.RowKit

/-- The slots of the four copied rows: a new empty row, and the row behind the append. -/
def bB (i : Nat) : Nat := 2 + 5 * i + (if i = 3 then 4 else 0)
def aB (i : Nat) : Nat := bB i + 4
theorem bB_ne {i j : Nat} (hi : i < 4) (_ : j < 4) (h : i ≠ j) : bB i ≠ bB j := by
  unfold bB
  split <;> split <;> omega
theorem aB_ne {i j : Nat} (hi : i < 4) (hj : j < 4) (h : i ≠ j) : aB i ≠ aB j := by
  have := bB_ne hi hj h
  unfold aB
  omega
theorem abB_ne {i j : Nat} (_ : i < 4) (hj : j < 4) : aB i ≠ bB j := by
  unfold aB bB
  split <;> split <;> omega
theorem upd_old {ls : Nat → Bool} {vs : Nat → Value} {p q : Nat} (u : Value) (hp : ls p = false) (hq : ls q = true) : upd vs p u q = vs q ∧ updB ls p q = true := by
  have h : q ≠ p := fun e => by rw [e, hp] at hq; cases hq
  simp [upd, updB, h, hq]
def curB (ls : Nat → Bool) (vs : Nat → Value) (i : Nat) : Value := if ls (aB i) = true then vs (aB i) else vs (bB i)
/-- The four rows. -/
structure BnR (L : Nat) (X : Nat → List Int) (ls : Nat → Bool) (vs : Nat → Value) (v : World) : Prop where
  ord : ∀ i, i < 4 → ls (aB i) = true → ls (bB i) = true
  row : ∀ i, i < 4 → ls (bB i) = true → v.ownsRow L 3 1 (curB ls vs i) (if ls (aB i) = true then (X i).length else 0) (if ls (aB i) = true then (X i).flatMap encI else [])
  far : ∀ i j, i < 4 → j < 4 → i ≠ j → ls (bB i) = true → ls (bB j) = true → ∀ g, (curB ls vs i).ownBlock = some g → (curB ls vs j).ownBlock ≠ some g
section
variable {L : Nat} {X : Nat → List Int} {ls : Nat → Bool} {vs : Nat → Value} {v v' : World}
theorem BnR.below (h : BnR L X ls vs v) (hb : Below v.heap.size v v') : BnR L X ls vs v' := ⟨h.ord, fun i hi a => owns_below (h.row i hi a) hb, h.far⟩
theorem BnR.keep (h : BnR L X ls vs v) {p : Nat} (hp : ∀ i, i < 4 → aB i ≠ p ∧ bB i ≠ p) (u : Value) (hb : Below v.heap.size v v') : BnR L X (updB ls p) (upd vs p u) v' := by
  have e1 : ∀ i, i < 4 → updB ls p (aB i) = ls (aB i) ∧ updB ls p (bB i) = ls (bB i) := fun i hi => by
    obtain ⟨a, b⟩ := hp i hi
    simp [updB, a, b]
  have e2 : ∀ i, i < 4 → curB (updB ls p) (upd vs p u) i = curB ls vs i := fun i hi => by
    obtain ⟨a, b⟩ := hp i hi
    unfold curB
    rw [(e1 i hi).1]
    simp [upd, a, b]
  refine ⟨fun i hi a => ?_, fun i hi a => ?_, fun i j hi hj hne a b => ?_⟩
  · rw [(e1 i hi).1] at a
    rw [(e1 i hi).2]
    exact h.ord i hi a
  · rw [(e1 i hi).2] at a
    rw [e2 i hi, (e1 i hi).1]
    exact owns_below (h.row i hi a) hb
  · rw [(e1 i hi).2] at a
    rw [(e1 j hj).2] at b
    rw [e2 i hi, e2 j hj]
    exact h.far i j hi hj hne a b
theorem BnR.lay (h : BnR L X ls vs v) {i : Nat} (hi : i < 4) (hb : ls (bB i) = false) (hL : L ≤ v.heap.size) : BnR L X (updB ls (bB i)) (upd vs (bB i) (.slice (some ⟨v.heap.size, 0, none⟩) 0 0)) (v.alloc (.cells #[] 3)) := by
  have ha : ls (aB i) = false := by
    cases q : ls (aB i) with
    | false => rfl
    | true => rw [h.ord i hi q] at hb; cases hb
  have hbl := below_new v (.cells #[] 3)
  have e1 : ∀ j, j < 4 → updB ls (bB i) (aB j) = ls (aB j) := fun j hj => by simp [updB, abB_ne hj hi]
  have e2 : ∀ j, j < 4 → j ≠ i → updB ls (bB i) (bB j) = ls (bB j) := fun j hj hne => by simp [updB, bB_ne hj hi hne]
  have e3 : ∀ j, j < 4 → j ≠ i → curB (updB ls (bB i)) (upd vs (bB i) (.slice (some ⟨v.heap.size, 0, none⟩) 0 0)) j = curB ls vs j := fun j hj hne => by
    unfold curB
    rw [e1 j hj]
    simp [upd, abB_ne hj hi, bB_ne hj hi hne]
  have e4 : curB (updB ls (bB i)) (upd vs (bB i) (.slice (some ⟨v.heap.size, 0, none⟩) 0 0)) i = .slice (some ⟨v.heap.size, 0, none⟩) 0 0 := by
    unfold curB
    rw [e1 i hi, ha]
    simp [upd]
  refine ⟨fun j hj a => ?_, fun j hj a => ?_, fun j k hj hk hne a b g hg => ?_⟩
  · rw [e1 j hj] at a
    by_cases q : j = i
    · subst q; simp [updB]
    · rw [e2 j hj q]; exact h.ord j hj a
  · by_cases q : j = i
    · subst q
      rw [e4, e1 j hi, ha]
      simpa using World.ownsRow_made (base := L) v #[] 0 hL (Nat.zero_le _) (by simp)
    · rw [e2 j hj q] at a
      rw [e3 j hj q, e1 j hj]
      exact owns_below (h.row j hj a) hbl
  · by_cases q : j = i
    · subst q
      rw [e4] at hg
      rw [e2 k hk (fun e => hne e.symm)] at b
      rw [e3 k hk (fun e => hne e.symm)]
      intro e
      have := own_lt (h.row k hk b) e
      simp [Value.ownBlock] at hg
      omega
    · by_cases r : k = i
      · subst r
        rw [e2 j hj q] at a
        rw [e3 j hj q] at hg
        rw [e4]
        intro e
        have := own_lt (h.row j hj a) hg
        simp [Value.ownBlock] at e
        omega
      · rw [e2 j hj q] at a
        rw [e2 k hk r] at b
        rw [e3 j hj q] at hg
        rw [e3 k hk r]
        exact h.far j k hj hk hne a b g hg
theorem BnR.app (h : BnR L X ls vs v) {i : Nat} (hi : i < 4) (hb : ls (bB i) = true) (ha : ls (aB i) = false) {u : Value} (hg : v.grownBy v' (vs (bB i)).ownBlock) (hr : v'.ownsRow L 3 1 u (X i).length ((X i).flatMap encI)) (hat : u.ownBlock = (vs (bB i)).ownBlock ∨ u.ownBlock = some v.heap.size) : BnR L X (updB ls (aB i)) (upd vs (aB i) u) v' := by
  have e1 : ∀ j, j < 4 → updB ls (aB i) (bB j) = ls (bB j) := fun j hj => by simp [updB, (abB_ne hi hj).symm]
  have e2 : ∀ j, j < 4 → j ≠ i → updB ls (aB i) (aB j) = ls (aB j) := fun j hj hne => by simp [updB, aB_ne hj hi hne]
  have e3 : ∀ j, j < 4 → j ≠ i → curB (updB ls (aB i)) (upd vs (aB i) u) j = curB ls vs j := fun j hj hne => by
    unfold curB
    rw [e2 j hj hne]
    simp [upd, aB_ne hj hi hne, (abB_ne hi hj).symm]
  have e5 : updB ls (aB i) (aB i) = true := by simp [updB]
  have e4 : curB (updB ls (aB i)) (upd vs (aB i) u) i = u := by
    unfold curB
    rw [e5]
    simp [upd]
  have e6 : curB ls vs i = vs (bB i) := by
    unfold curB
    rw [ha]
    simp
  refine ⟨fun j hj a => ?_, fun j hj a => ?_, fun j k hj hk hne a b g hg2 => ?_⟩
  · rw [e1 j hj]
    by_cases q : j = i
    · subst q; exact hb
    · rw [e2 j hj q] at a; exact h.ord j hj a
  · rw [e1 j hj] at a
    by_cases q : j = i
    · subst q
      rw [e4, e5]
      simpa using hr
    · rw [e3 j hj q, e2 j hj q]
      exact owns_grown (h.row j hj a) hg (fun g hr2 e => h.far i j hi hj (fun e => q e.symm) hb a g (by rw [e6]; exact e) hr2)
  · rw [e1 j hj] at a
    rw [e1 k hk] at b
    by_cases q : j = i
    · subst q
      rw [e4] at hg2
      rw [e3 k hk (fun e => hne e.symm)]
      rcases hat with e | e
      · exact h.far j k hj hk hne a b g (by rw [e6, ← e]; exact hg2)
      · intro e7
        have := own_lt (h.row k hk b) e7
        rw [e] at hg2
        have := Option.some.inj hg2
        omega
    · rw [e3 j hj q] at hg2
      by_cases r : k = i
      · subst r
        rw [e4]
        intro e7
        rcases hat with e | e
        · exact h.far j k hj hk hne a b g hg2 (by rw [e6, ← e]; exact e7)
        · have := own_lt (h.row j hj a) hg2
          rw [e] at e7
          have := Option.some.inj e7
          omega
      · rw [e3 k hk r]
        exact h.far j k hj hk hne a b g hg2
end
/-- The four rows, what is built of them, and the variable. -/
structure BnP (L : Nat) (X : Nat → List Int) (val way : Int) (ls : Nat → Bool) (vs : Nat → Value) (v : World) : Prop where
  r : BnR L X ls vs v
  c17 : ls 17 = true → (ls 6 = true ∧ ls 11 = true ∧ ls 16 = true) ∧ vs 17 = .agg #[vs 6, vs 11, vs 16]
  c26 : ls 26 = true → ls 25 = true ∧ vs 26 = .agg #[.int .i64 way, vs 25]
  c27 : ls 27 = true → (ls 17 = true ∧ ls 26 = true) ∧ vs 27 = .agg #[.int .i64 val, vs 6, vs 11, vs 16, .int .i64 way, vs 25]
  p28 : ls 28 = true → ∃ g, vs 28 = .pointer (some ⟨g, 0, none⟩) ∧ L ≤ g ∧ Blk v g 95 #[.int .i64 0, .slice none 0 0, .slice none 0 0, .slice none 0 0, .int .i64 0, .slice none 0 0]
section
variable {L : Nat} {X : Nat → List Int} {val way : Int} {ls : Nat → Bool} {vs : Nat → Value} {v v' : World}
theorem BnP.init : BnP L X val way (fun _ => false) (fun _ => undef) v := ⟨⟨fun _ _ h => (by cases h), fun _ _ h => (by cases h), fun _ _ _ _ _ h => (by cases h)⟩, fun h => (by cases h), fun h => (by cases h), fun h => (by cases h), fun h => (by cases h)⟩
theorem BnP.below (h : BnP L X val way ls vs v) (hb : Below v.heap.size v v') : BnP L X val way ls vs v' :=
  ⟨h.r.below hb, h.c17, h.c26, h.c27, fun a => let ⟨g, p, q, r⟩ := h.p28 a; ⟨g, p, q, r.below hb⟩⟩
/-- A slot other than those of the built values is laid: these stay. -/
theorem BnP.step (h : BnP L X val way ls vs v) {p : Nat} (hp : ls p = false) (h17 : p ≠ 17) (h26 : p ≠ 26) (h27 : p ≠ 27) (h28 : p ≠ 28) (u : Value) (hr : BnR L X (updB ls p) (upd vs p u) v') (hb : ∀ g cs, Blk v g 95 cs → Blk v' g 95 cs) : BnP L X val way (updB ls p) (upd vs p u) v' := by
  refine ⟨hr, fun a => ?_, fun a => ?_, fun a => ?_, fun a => ?_⟩
  · have a2 : ls 17 = true := by simpa [updB, Ne.symm h17] using a
    obtain ⟨⟨b1, b2, b3⟩, e⟩ := h.c17 a2
    rw [(upd_old u hp a2).1, (upd_old u hp b1).1, (upd_old u hp b2).1, (upd_old u hp b3).1]
    exact ⟨⟨(upd_old (vs := vs) u hp b1).2, (upd_old (vs := vs) u hp b2).2, (upd_old (vs := vs) u hp b3).2⟩, e⟩
  · have a2 : ls 26 = true := by simpa [updB, Ne.symm h26] using a
    obtain ⟨b1, e⟩ := h.c26 a2
    rw [(upd_old u hp a2).1, (upd_old u hp b1).1]
    exact ⟨(upd_old (vs := vs) u hp b1).2, e⟩
  · have a2 : ls 27 = true := by simpa [updB, Ne.symm h27] using a
    obtain ⟨⟨b1, b2⟩, e⟩ := h.c27 a2
    obtain ⟨⟨d1, d2, d3⟩, _⟩ := h.c17 b1
    obtain ⟨d4, _⟩ := h.c26 b2
    rw [(upd_old u hp a2).1, (upd_old u hp d1).1, (upd_old u hp d2).1, (upd_old u hp d3).1, (upd_old u hp d4).1]
    exact ⟨⟨(upd_old (vs := vs) u hp b1).2, (upd_old (vs := vs) u hp b2).2⟩, e⟩
  · have a2 : ls 28 = true := by simpa [updB, Ne.symm h28] using a
    obtain ⟨g, p1, p2, p3⟩ := h.p28 a2
    exact ⟨g, by rw [(upd_old u hp a2).1]; exact p1, p2, hb _ _ p3⟩
theorem slot_of {i : Nat} (hi : i < 4) : (aB i ≠ 17 ∧ aB i ≠ 26 ∧ aB i ≠ 27 ∧ aB i ≠ 28) ∧ bB i ≠ 17 ∧ bB i ≠ 26 ∧ bB i ≠ 27 ∧ bB i ≠ 28 := by
  unfold aB bB
  split <;> omega
theorem BnP.lay (h : BnP L X val way ls vs v) {i : Nat} (hi : i < 4) (hb : ls (bB i) = false) (hL : L ≤ v.heap.size) : BnP L X val way (updB ls (bB i)) (upd vs (bB i) (.slice (some ⟨v.heap.size, 0, none⟩) 0 0)) (v.alloc (.cells #[] 3)) := by
  obtain ⟨_, a, b, c, d⟩ := slot_of hi
  exact h.step hb a b c d _ (h.r.lay hi hb hL) (fun g cs hg => hg.alloc _)
theorem BnP.app (h : BnP L X val way ls vs v) {i : Nat} (hi : i < 4) (hb : ls (bB i) = true) (ha : ls (aB i) = false) {u : Value} (hg : v.grownBy v' (vs (bB i)).ownBlock) (hr : v'.ownsRow L 3 1 u (X i).length ((X i).flatMap encI)) (hat : u.ownBlock = (vs (bB i)).ownBlock ∨ u.ownBlock = some v.heap.size) : BnP L X val way (updB ls (aB i)) (upd vs (aB i) u) v' := by
  obtain ⟨⟨a, b, c, d⟩, _⟩ := slot_of hi
  have hrow := h.r.row i hi hb
  have e : curB ls vs i = vs (bB i) := by
    unfold curB
    rw [ha]
    simp
  rw [e] at hrow
  exact h.step ha a b c d _ (h.r.app hi hb ha hg hr hat) (fun g cs hgb => hgb.grown hg (own_ne hrow hgb (by decide)))
theorem BnP.fresh {p : Nat} (hp : p = 17 ∨ p = 26 ∨ p = 27 ∨ p = 28) : ∀ i, i < 4 → aB i ≠ p ∧ bB i ≠ p := fun i hi => by
  obtain ⟨⟨a, b, c, d⟩, a', b', c', d'⟩ := slot_of hi
  rcases hp with rfl | rfl | rfl | rfl
  · exact ⟨a, a'⟩
  · exact ⟨b, b'⟩
  · exact ⟨c, c'⟩
  · exact ⟨d, d'⟩
theorem BnP.s17 (h : BnP L X val way ls vs v) (hp : ls 17 = false) (h1 : ls 6 = true) (h2 : ls 11 = true) (h3 : ls 16 = true) : BnP L X val way (updB ls 17) (upd vs 17 (.agg #[vs 6, vs 11, vs 16])) v := by
  have h27 : ls 27 = false := by
    cases q : ls 27 with
    | false => rfl
    | true => rw [(h.c27 q).1.1] at hp; cases hp
  refine ⟨h.r.keep (BnP.fresh (.inl rfl)) _ (Below.refl _ _), fun _ => ⟨⟨(upd_old (vs := vs) undef hp h1).2, (upd_old (vs := vs) undef hp h2).2, (upd_old (vs := vs) undef hp h3).2⟩, by simp [upd]⟩, fun a => ?_, fun a => ?_, fun a => ?_⟩
  · simpa [upd, updB] using h.c26 (by simpa [updB] using a)
  · have : ls 27 = true := by simpa [updB] using a
    rw [h27] at this; cases this
  · simpa [upd, updB] using h.p28 (by simpa [updB] using a)
theorem BnP.s26 (h : BnP L X val way ls vs v) (hp : ls 26 = false) (h1 : ls 25 = true) : BnP L X val way (updB ls 26) (upd vs 26 (.agg #[.int .i64 way, vs 25])) v := by
  have h27 : ls 27 = false := by
    cases q : ls 27 with
    | false => rfl
    | true => rw [(h.c27 q).1.2] at hp; cases hp
  refine ⟨h.r.keep (BnP.fresh (.inr (.inl rfl))) _ (Below.refl _ _), fun a => ?_, fun _ => ⟨by simpa [updB] using h1, by simp [upd]⟩, fun a => ?_, fun a => ?_⟩
  · simpa [upd, updB] using h.c17 (by simpa [updB] using a)
  · have : ls 27 = true := by simpa [updB] using a
    rw [h27] at this; cases this
  · simpa [upd, updB] using h.p28 (by simpa [updB] using a)
theorem BnP.s27 (h : BnP L X val way ls vs v) (h1 : ls 17 = true) (h2 : ls 26 = true) : BnP L X val way (updB ls 27) (upd vs 27 (.agg #[.int .i64 val, vs 6, vs 11, vs 16, .int .i64 way, vs 25])) v := by
  refine ⟨h.r.keep (BnP.fresh (.inr (.inr (.inl rfl)))) _ (Below.refl _ _), fun a => ?_, fun a => ?_, fun _ => ⟨⟨by simpa [updB] using h1, by simpa [updB] using h2⟩, by simp [upd]⟩, fun a => ?_⟩
  · simpa [upd, updB] using h.c17 (by simpa [updB] using a)
  · simpa [upd, updB] using h.c26 (by simpa [updB] using a)
  · simpa [upd, updB] using h.p28 (by simpa [updB] using a)
theorem BnP.s28 (h : BnP L X val way ls vs v) (hL : L ≤ v.heap.size) : BnP L X val way (updB ls 28) (upd vs 28 (.pointer (some ⟨v.heap.size, 0, none⟩))) (v.alloc (.cells #[.int .i64 0, .slice none 0 0, .slice none 0 0, .slice none 0 0, .int .i64 0, .slice none 0 0] 95)) := by
  refine ⟨h.r.keep (BnP.fresh (.inr (.inr (.inr rfl)))) _ (below_new _ _), fun a => ?_, fun a => ?_, fun a => ?_, fun _ => ⟨v.heap.size, by simp [upd], hL, Blk.new _ _ _⟩⟩
  · simpa [upd, updB] using h.c17 (by simpa [updB] using a)
  · simpa [upd, updB] using h.c26 (by simpa [updB] using a)
  · simpa [upd, updB] using h.c27 (by simpa [updB] using a)
theorem BnP.empty (h : BnP L X val way ls vs v) {i : Nat} (hi : i < 4) (hb : ls (bB i) = true) (ha : ls (aB i) = false) : v.ownsRow L 3 1 (vs (bB i)) 0 [] := by
  have hrow := h.r.row i hi hb
  unfold curB at hrow
  simpa [ha] using hrow
theorem BnP.full (h : BnP L X val way ls vs v) {i : Nat} (hi : i < 4) (ha : ls (aB i) = true) : v.ownsRow L 3 1 (vs (aB i)) (X i).length ((X i).flatMap encI) := by
  have hrow := h.r.row i hi (h.r.ord i hi ha)
  unfold curB at hrow
  simpa [ha] using hrow
theorem BnP.apart (h : BnP L X val way ls vs v) {i j : Nat} (hi : i < 4) (hj : j < 4) (hne : i ≠ j) (ha : ls (aB i) = true) (hb : ls (aB j) = true) : ∀ g, (vs (aB i)).ownBlock = some g → (vs (aB j)).ownBlock ≠ some g := by
  have := h.r.far i j hi hj hne (h.r.ord i hi ha) (h.r.ord j hj hb)
  unfold curB at this
  simpa [ha, hb] using this
end
end Go.Proofs.YtighfmgkoepfkaaGreat

namespace Go.Proofs.YtighfmgkoepfkaaGreat
open Go.RowKit

theorem eval_at {a : Act} {L : List (Nat × Tmp)} {vs : Nat → Value} {i d : Nat} (h : ∀ p ∈ L, ∀ q ∈ L, p.2 = q.2 → p.1 = q.1) (hp : (i, d) ∈ L) (hs : d < a.tmps.size) : (putsL a L vs).eval (.tmp d) = vs i := by
  have := putsL_at L vs a h (i, d) hp hs
  show (putsL a L vs).tmps.getD d undef = _
  rw [Array.getD_eq_getD_getElem?, show (putsL a L vs).tmps[d]? = some (vs i) from this]
  rfl
theorem eval_no {a : Act} {L : List (Nat × Tmp)} {vs : Nat → Value} {d : Nat} {v : Value} (h : ∀ p ∈ L, p.2 ≠ d) (e : a.tmps[d]? = some v) : (putsL a L vs).eval (.tmp d) = v := by
  have := putsL_ne L vs d a h
  show (putsL a L vs).tmps.getD d undef = _
  rw [Array.getD_eq_getD_getElem?, this, e]
  rfl
abbrev vBe (xw xa xb xway : Int) (B4 : Option Addr) (m4 d4 : Nat) : Value := .agg #[.int .i64 xw, .int .i64 xa, .int .i64 xb, .int .i64 xway, .slice B4 m4 d4]
set_option maxRecDepth 100000 in
set_option maxHeartbeats 1600000 in
theorem bent1_any (n : Nat) (h0 : 0 < n) (hn : n ≤ 1000000) (g : Nat) (xw xa xb xway : Int) (B4 : Option Addr) (m4 d4 : Nat) (w : World) (hb : Blk w g 101 #[.int .i64 xw, .int .i64 xa, .int .i64 xb, .int .i64 xway, .slice B4 m4 d4]) :
    Calls Tryz.prog 105 #[.int .i64 (n : Int), .pointer (some ⟨g, 0, none⟩)] w fun e w' => ∃ k : Nat, k < n ∧ e = .returned (.int .i64 (k : Int)) ∧ Below w.heap.size w w' := by
  have y0 := hb.cell 0
  have y1 := hb.cell 1
  simp only [List.getElem?_toArray, List.getElem?_cons_zero, List.getElem?_cons_succ] at y0 y1
  have yl := hb.lt
  clear hb
  go_enter Tryz.func105, Tryz.ntmps105
  go_wp2
  have w1 : 0 ≤ IntKind.u64.wrap xa := by
    simp [IntKind.wrap, IntKind.signed, IntKind.bits]
    omega
  have w2 : 0 ≤ (IntKind.u64.wrap xa).tmod (n : Int) := Int.tmod_nonneg _ w1
  have w3 : (IntKind.u64.wrap xa).tmod (n : Int) < n := Int.tmod_lt_of_pos _ (by omega)
  obtain ⟨k, hk⟩ := Int.eq_ofNat_of_zero_le w2
  rw [hk] at w3 ⊢
  have w4 : wrap64 (k : Int) = (k : Int) := by unfold wrap64; omega
  rw [w4]
  go_ret
  exact ⟨k, by omega, rfl, Below.refl _ _⟩
end Go.Proofs.YtighfmgkoepfkaaGreat

namespace Go.Proofs.YtighfmgkoepfkaaGreat
open Go.RowKit

theorem cells6 {W : World} {g : Nat} {t : TypeId} {p q r u v x : Value} (h : Blk W g t #[p, q, r, u, v, x]) : W.cell? ⟨g, 0, none⟩ = some p ∧ W.cell? ⟨g, 1, none⟩ = some q ∧ W.cell? ⟨g, 2, none⟩ = some r ∧ W.cell? ⟨g, 3, none⟩ = some u ∧ W.cell? ⟨g, 4, none⟩ = some v ∧ W.cell? ⟨g, 5, none⟩ = some x ∧ g < W.heap.size :=
  ⟨by simpa using h.cell 0, by simpa using h.cell 1, by simpa using h.cell 2, by simpa using h.cell 3, by simpa using h.cell 4, by simpa using h.cell 5, h.lt⟩
theorem cells5 {W : World} {g : Nat} {t : TypeId} {p q r u v : Value} (h : Blk W g t #[p, q, r, u, v]) : W.cell? ⟨g, 0, none⟩ = some p ∧ W.cell? ⟨g, 1, none⟩ = some q ∧ W.cell? ⟨g, 2, none⟩ = some r ∧ W.cell? ⟨g, 3, none⟩ = some u ∧ W.cell? ⟨g, 4, none⟩ = some v ∧ g < W.heap.size :=
  ⟨by simpa using h.cell 0, by simpa using h.cell 1, by simpa using h.cell 2, by simpa using h.cell 3, by simpa using h.cell 4, h.lt⟩
theorem frz6 {W : World} {g : Nat} {t : TypeId} {cs : Array Value} (h : Blk W g t cs) : W.frozen? ⟨g, 0, none⟩ = false ∧ W.frozen? ⟨g, 1, none⟩ = false ∧ W.frozen? ⟨g, 2, none⟩ = false ∧ W.frozen? ⟨g, 3, none⟩ = false ∧ W.frozen? ⟨g, 4, none⟩ = false ∧ W.frozen? ⟨g, 5, none⟩ = false :=
  ⟨h.frozen 0, h.frozen 1, h.frozen 2, h.frozen 3, h.frozen 4, h.frozen 5⟩
theorem SAt.farq {α : Type} {enc : α → List Value} {k : Nat} {w0 w w' : World} {A : Option Addr} {n : Nat} {l : List α} {r : Option Nat} (h0 : SAt enc k w0 A n l) (h : SAt enc k w A n l) (hg : w.grownBy w' r) (hr : ∀ g, r = some g → w0.heap.size ≤ g) : SAt enc k w' A n l := by
  refine ⟨h.len, fun hn => ?_⟩
  obtain ⟨b, off, e, hk⟩ := h.at_ hn
  obtain ⟨b', off', e', hk'⟩ := h0.at_ hn
  rw [e] at e'
  cases e'
  exact ⟨b, off, e, hk.grown hg (fun f => by have := hr _ f; have := hk'.lt; omega)⟩
theorem TR.Ok.farq {w0 w w' : World} {t : TR} {r : Option Nat} (h0 : t.Ok w0) (h : t.Ok w) (hg : w.grownBy w' r) (hr : ∀ g, r = some g → w0.heap.size ≤ g) : t.Ok w' :=
  ⟨h0.h.farq h.h hg hr, h0.m.farq h.m hg hr, h.n_le, h.m_le, h.n_cap, h.m_cap⟩
theorem loudAt_append_room {P : Program} {o : Oper} {a : Act} {w : World} {R : Value → World → Prop} (s x : Operand) (t : TypeId)
    (ho : o.op = .call { callee := .builtin .append, args := #[s, x], argTypes := #[t, t] })
    (e : TypeId) (i : TypeInfo) (size : Nat) (h1 : P.underlying t = some (.slice e)) (h2 : P.info? e = some i) (h4 : i.size = size)
    (b n cap : Nat) (hs : a.eval s = .slice (some ⟨b, 0, none⟩) n cap)
    (ad : Addr) (m c : Nat) (news : List Value) (hx : a.eval x = .slice (some ad) m c) (hn : news.length = m * size) (hc : ∀ j u, news[j]? = some u → w.cell? (ad.add j) = some u) (h1c : ∀ u ∈ news, u.oneCell' = true)
    (hroom : n + m ≤ cap) (hspare : ∀ j, j < news.length → (w.cell? ⟨b, 0 + n * size + j, none⟩).isSome = true ∧ w.frozen? ⟨b, 0 + n * size + j, none⟩ = false)
    (h : R (.slice (some ⟨b, 0, none⟩) (n + m) cap) (w.setCells b (0 + n * size) news)) : loudAt P o a w R := by
  subst h4
  have hr := run_append_room_cells (P := P) w t o.type e i h1 h2 b 0 n cap ad m c news hn hc h1c hroom (fun j hj => (hspare j hj).1) (fun j hj => (hspare j hj).2)
  unfold loudAt execOp
  simp only [ho, resolve, invoke, builtin, Sem.run_bind, Sem.run_pure, Result.andThen_ok, List.map_toArray, List.map_cons, List.map_nil, hs, hx, hr]
  exact h
theorem addr_add (b o j : Nat) : (⟨b, o, none⟩ : Addr).add j = ⟨b, o + j, none⟩ := by
  unfold Addr.add
  by_cases h : j = 0
  · rw [if_pos h, h]; rfl
  · rw [if_neg h]
theorem Ls.dropJ {w : World} {b off : Nat} {l : List Int} (h : Ls encI 1 w b off l) (n : Nat) : Ls encI 1 w b (off + n) (l.drop n) :=
  ⟨h.lt, fun i x hi j v hv => by
    rw [List.getElem?_drop] at hi
    have := h.c (n + i) x hi j v hv
    rwa [show off + n + i * 1 + j = off + (n + i) * 1 + j by omega]⟩
theorem sat_of_owns {W : World} {base t n c : Nat} {A : Option Addr} {zs : List Int} (hn : zs.length = n) (h : W.ownsRow base t 1 (.slice A n c) n (zs.flatMap encI)) : SAt encI 1 W A n zs := by
  obtain ⟨A', c', e, hs, _, _⟩ := SAt_of_row encI_len hn h
  cases e
  exact hs
/-- Some limit, by value. -/
def BeOut (w : World) (en : Ending) (w' : World) : Prop :=
  ∃ (val : Int) (A1 : Option Addr) (n1 c1 : Nat) (A2 : Option Addr) (n2 c2 : Nat) (A3 : Option Addr) (n3 c3 : Nat) (way : Int) (A4 : Option Addr) (n4 c4 : Nat) (st en' ma s : List Int), en = .returned (vLim val A1 n1 c1 A2 n2 c2 A3 n3 c3 way A4 n4 c4) ∧ SAt encI 1 w' A1 n1 st ∧ SAt encI 1 w' A2 n2 en' ∧ SAt encI 1 w' A3 n3 ma ∧ SAt encI 1 w' A4 n4 s ∧ n4 ≤ 1000000 ∧ Below w.heap.size w w'
theorem owns_putC {B e size n g c : Nat} : ∀ (vs : List Value) {W : World} {xs : List Value} (o : Nat), W.ownsRow B e size (.slice (some ⟨g, 0, none⟩) n c) n xs → o + vs.length ≤ xs.length →
    (W.setCells g o vs).ownsRow B e size (.slice (some ⟨g, 0, none⟩) n c) n (xs.take o ++ vs ++ xs.drop (o + vs.length)) ∧ W.grownBy (W.setCells g o vs) (some g)
  | [], W, xs, o, h, _ => ⟨by rw [show W.setCells g o [] = W from rfl]; simpa using h, grown_refl _ _⟩
  | v :: vs, W, xs, o, h, hl => by
    rw [List.length_cons] at hl
    have h1 := owns_set h o (by omega) v
    obtain ⟨a, b⟩ := owns_putC vs (o + 1) h1 (by rw [List.length_set]; omega)
    have e1 : (xs.set o v).take (o + 1) ++ vs ++ (xs.set o v).drop (o + 1 + vs.length) = xs.take o ++ (v :: vs) ++ xs.drop (o + (v :: vs).length) := by
      rw [List.take_add_one, List.getElem?_set_self (by omega), List.take_set_of_le (Nat.le_refl _), List.drop_set_of_lt (by omega), List.length_cons]
      simp [Nat.add_assoc, Nat.add_comm 1]
    rw [e1] at a
    exact ⟨a, grown_trans (grownBy_set _ _ _ _) b⟩
/-- A row without one of its numbers: the numbers behind it move on by one place. -/
theorem owns_erase {W : World} {B g c n k : Nat} {l : List Int} (hl : l.length = n) (hk : k < n) (h : W.ownsRow B 3 1 (.slice (some ⟨g, 0, none⟩) n c) n (l.flatMap encI)) :
    (W.setCells g (0 + k * 1) ((l.drop (k + 1)).flatMap encI)).ownsRow B 3 1 (.slice (some ⟨g, 0, none⟩) (n - 1) c) (n - 1) ((l.eraseIdx k).flatMap encI) ∧ W.grownBy (W.setCells g (0 + k * 1) ((l.drop (k + 1)).flatMap encI)) (some g) := by
  have hd : ((l.drop (k + 1)).flatMap encI).length = n - k - 1 := by rw [flat_len encI_len, List.length_drop, hl]; omega
  have hf : (l.flatMap encI).length = n := by rw [flat_len encI_len, hl]; omega
  obtain ⟨r1, g1⟩ := owns_putC ((l.drop (k + 1)).flatMap encI) (0 + k * 1) h (by rw [hd, hf]; omega)
  refine ⟨?_, g1⟩
  have r2 := owns_prefix r1 (show n - 1 ≤ n by omega)
  have e1 : (l.flatMap encI).take (0 + k * 1) = (l.take k).flatMap encI := by
    have h1 : ((l.take k).flatMap encI).length = k := by rw [flat_len encI_len, List.length_take, hl]; omega
    have h2 : l.flatMap encI = (l.take k).flatMap encI ++ (l.drop k).flatMap encI := by rw [← List.flatMap_append, List.take_append_drop]
    rw [h2, List.take_append_of_le_length (by omega), List.take_of_length_le (by omega)]
  have hm : ((l.take k ++ l.drop (k + 1)).flatMap encI).length = (n - 1) * 1 := by rw [flat_len encI_len, List.length_append, List.length_take, List.length_drop, hl]; omega
  rw [e1, ← List.flatMap_append, List.take_append_of_le_length (by rw [hm]; exact Nat.le_refl _), List.take_of_length_le (by rw [hm]; exact Nat.le_refl _)] at r2
  rw [List.eraseIdx_eq_take_drop_succ]
  exact r2
theorem flat_setI1 (l : List Int) (i : Nat) (x : Int) : (l.flatMap encI).set i (.int .i64 x) = (l.set i x).flatMap encI := by
  induction l generalizing i with
  | nil => simp
  | cons y l ih =>
    cases i with
    | zero => simp [encI]
    | succ i => simpa [encI] using ih i
set_option maxRecDepth 100000 in
set_option maxHeartbeats 12800000 in
theorem bent_any (val : Int) (A1 : Option Addr) (n1 c1 : Nat) (A2 : Option Addr) (n2 c2 : Nat) (A3 : Option Addr) (n3 c3 : Nat) (way : Int) (A4 : Option Addr) (n4 c4 : Nat) (st en ma s : List Int) (xw xa xb xway : Int) (B4 : Option Addr) (m4 d4 : Nat) (xs : List Int) (w : World) (h1 : SAt encI 1 w A1 n1 st) (h2 : SAt encI 1 w A2 n2 en) (h3 : SAt encI 1 w A3 n3 ma) (h4 : SAt encI 1 w A4 n4 s) (hx : SAt encI 1 w B4 m4 xs) (l1 : n1 ≤ 100000) (l2 : n2 ≤ 100000) (l3 : n3 ≤ 100000) (l4 : n4 ≤ 100000) (l5 : m4 ≤ 1000000) :
    Calls Tryz.prog 51 #[vLim val A1 n1 c1 A2 n2 c2 A3 n3 c3 way A4 n4 c4, vBe xw xa xb xway B4 m4 d4] w (BeOut w) := by
  dsimp only [vLim, vBe] at *
  obtain ⟨i0, hi0, hi1, hi2, hi3⟩ := info_parts info_int
  have HI := Lib.hid (And.intro hi0 (And.intro hi1 (And.intro hi2 hi3)))
  have HE1 := Lib.hid h1.len
  have HE2 := Lib.hid h2.len
  have HE3 := Lib.hid h3.len
  have HE4 := Lib.hid h4.len
  have HXo := Lib.hid hx
  clear hi0 hi1 hi2 hi3
  have HB0 : Hid (Below w.heap.size w (((w.alloc (.cells #[.int .i64 val, .slice A1 n1 c1, .slice A2 n2 c2, .slice A3 n3 c3, .int .i64 way, .slice A4 n4 c4] 95)).alloc (.cells #[.int .i64 xw, .int .i64 xa, .int .i64 xb, .int .i64 xway, .slice B4 m4 d4] 101)).alloc (.cells #[.int .i64 0, .slice none 0 0, .slice none 0 0, .slice none 0 0, .int .i64 0, .slice none 0 0] 95))) := Lib.hid ((((Below.refl w.heap.size w).alloc (Nat.le_refl _) _).alloc (by simp) _).alloc (by simp; omega) _)
  have J0 : Hid (Blk (((w.alloc (.cells #[.int .i64 val, .slice A1 n1 c1, .slice A2 n2 c2, .slice A3 n3 c3, .int .i64 way, .slice A4 n4 c4] 95)).alloc (.cells #[.int .i64 xw, .int .i64 xa, .int .i64 xb, .int .i64 xway, .slice B4 m4 d4] 101)).alloc (.cells #[.int .i64 0, .slice none 0 0, .slice none 0 0, .slice none 0 0, .int .i64 0, .slice none 0 0] 95)) w.heap.size 95 #[.int .i64 val, .slice A1 n1 c1, .slice A2 n2 c2, .slice A3 n3 c3, .int .i64 way, .slice A4 n4 c4]) := Lib.hid (((Blk.at_new 95 #[.int .i64 val, .slice A1 n1 c1, .slice A2 n2 c2, .slice A3 n3 c3, .int .i64 way, .slice A4 n4 c4] rfl).alloc _).alloc _)
  have X0 : Hid (Blk (((w.alloc (.cells #[.int .i64 val, .slice A1 n1 c1, .slice A2 n2 c2, .slice A3 n3 c3, .int .i64 way, .slice A4 n4 c4] 95)).alloc (.cells #[.int .i64 xw, .int .i64 xa, .int .i64 xb, .int .i64 xway, .slice B4 m4 d4] 101)).alloc (.cells #[.int .i64 0, .slice none 0 0, .slice none 0 0, .slice none 0 0, .int .i64 0, .slice none 0 0] 95)) (w.heap.size + 1) 101 #[.int .i64 xw, .int .i64 xa, .int .i64 xb, .int .i64 xway, .slice B4 m4 d4]) := Lib.hid ((Blk.at_new 101 #[.int .i64 xw, .int .i64 xa, .int .i64 xb, .int .i64 xway, .slice B4 m4 d4] (by simp)).alloc _)
  have R0 : Hid (Blk (((w.alloc (.cells #[.int .i64 val, .slice A1 n1 c1, .slice A2 n2 c2, .slice A3 n3 c3, .int .i64 way, .slice A4 n4 c4] 95)).alloc (.cells #[.int .i64 xw, .int .i64 xa, .int .i64 xb, .int .i64 xway, .slice B4 m4 d4] 101)).alloc (.cells #[.int .i64 0, .slice none 0 0, .slice none 0 0, .slice none 0 0, .int .i64 0, .slice none 0 0] 95)) (w.heap.size + 2) 95 #[.int .i64 0, .slice none 0 0, .slice none 0 0, .slice none 0 0, .int .i64 0, .slice none 0 0]) := Lib.hid (Blk.at_new 95 #[.int .i64 0, .slice none 0 0, .slice none 0 0, .slice none 0 0, .int .i64 0, .slice none 0 0] (by simp))
  have KA0 := Lib.hid ((h1).below HB0.out)
  have KB0 := Lib.hid ((h2).below HB0.out)
  have KC0 := Lib.hid ((h3).below HB0.out)
  have KD0 := Lib.hid ((h4).below HB0.out)
  have KX0 := Lib.hid ((hx).below HB0.out)
  go_enter Tryz.func51, Tryz.ntmps51
  go_upto_region 1 with fail
  generalize hV : ((w.alloc (.cells #[.int .i64 val, .slice A1 n1 c1, .slice A2 n2 c2, .slice A3 n3 c3, .int .i64 way, .slice A4 n4 c4] 95)).alloc (.cells #[.int .i64 xw, .int .i64 xa, .int .i64 xb, .int .i64 xway, .slice B4 m4 d4] 101)).alloc (.cells #[.int .i64 0, .slice none 0 0, .slice none 0 0, .slice none 0 0, .int .i64 0, .slice none 0 0] 95) = V0 at *
  clear hV
  clear h1 h2 h3 h4 hx
  have hv3 : w.heap.size + 2 < V0.heap.size := R0.out.lt
  have HV3 := Lib.hid hv3
  clear hv3
  refine wp_region_preC 29 [(2, 12), (6, 16), (7, 17), (11, 21), (12, 22), (16, 26), (17, 27), (21, 31), (25, 35), (26, 36), (27, 37), (28, 5)] (fun v => Below V0.heap.size V0 v) (BnP V0.heap.size (fun i => if i = 0 then st else if i = 1 then en else if i = 2 then ma else s) val way) (by kernel_rfl) (by kernel_rfl) (Below.refl _ _) (fun v v' h kk => h.trans (kk.mono h.size)) (fun v _ => BnP.init) (fun ls vs v v' _ h kk => h.below kk) ?_
  apply Exists.intro
  refine ⟨?walk, ?loud, ?last⟩
  case walk =>
    intro V hV
    have HTv := J0.out.below hV
    have y0 := HTv.cell 0
    have y1 := HTv.cell 1
    have y2 := HTv.cell 2
    have y3 := HTv.cell 3
    have y4 := HTv.cell 4
    have y5 := HTv.cell 5
    simp only [List.getElem?_toArray, List.getElem?_cons_zero, List.getElem?_cons_succ] at y0 y1 y2 y3 y4 y5
    have yl := HTv.lt
    clear HTv
    obtain ⟨xc, xf'⟩ := xcell (W := V)
    simp only [List.take_succ_cons, List.take_zero, qOf, isLoud, List.any_cons, List.any_nil, Nat.reduceBEq, Bool.or_false, Bool.or_true, Nat.reduceAdd, Bool.false_eq_true, if_true, if_false, beq_self_eq_true, Nat.zero_add]
    repeat (first | go_big_quiet_step (fail) | quiet_step (fail))
    exact wpQuiet_nil rfl
  case loud =>
    rintro pp hpp vs v hC ls hI hls hw o ho
    simp only [List.mem_cons, List.not_mem_nil, or_false] at hpp
    rcases hpp with rfl | rfl | rfl | rfl | rfl | rfl | rfl | rfl | rfl | rfl | rfl | rfl
    · have hI2 := hI.lay (i := 0) (by decide) hls hC.size
      simp only [List.getElem?_cons_succ, List.getElem?_cons_zero, Option.some.injEq] at ho
      subst ho
      simp [loudAt, loudUpon, go_sem, execOp]
      exact ⟨hC.alloc hC.size _, hI2⟩
    · have hb := hw (2, 12) (by simp) (by kernel_rfl)
      have r0 := hI.empty (i := 0) (by decide) hb hls
      simp only [List.getElem?_cons_succ, List.getElem?_cons_zero, Option.some.injEq] at ho
      subst ho
      cases A1 with
      | none =>
        obtain rfl : n1 = 0 := by
          refine Nat.eq_zero_of_not_pos fun q => ?_
          obtain ⟨b, off, e, _⟩ := KA0.out.at_ q
          cases e
        obtain rfl : st = [] := List.eq_nil_of_length_eq_zero HE1.out
        exact loudAt_append_nil (.tmp 12) (.tmp 15) 42 rfl V0.heap.size 3 i0 1 Tryz.underlying42 HI.out.1 (vs 2) 0 [] (eval_at (i := 2) (by decide) (by simp) (Nat.le_of_ble_eq_true rfl)) r0 c1 (eval_no (by decide) rfl) ⟨hC, hI.app (i := 0) (by decide) hb hls (grown_refl _ _) r0 (.inl rfl)⟩
      | some a =>
        have hf := (KA0.out.below hC).flat encI_len (by decide)
        refine loudAt_append (.tmp 12) (.tmp 15) 42 rfl V0.heap.size 3 i0 (.int .i64 0) 1 8 Tryz.underlying42 HI.out.1 HI.out.2.1 HI.out.2.2.1 HI.out.2.2.2 rfl (by decide) (vs 2) 0 [] (eval_at (i := 2) (by decide) (by simp) (Nat.le_of_ble_eq_true rfl)) r0 a n1 c1 (st.flatMap encI) (eval_no (by decide) rfl) (by rw [flat_len encI_len, HE1.out]) hf (encI_one st) (by unfold maxLen; omega) (by omega) hC.size ?_
        intro v' w3 hown hgrow hat
        refine ⟨hC.grown hgrow hC.size (fun r hr => (own_lt r0 hr).1), hI.app (i := 0) (by decide) hb hls hgrow ?_ hat⟩
        show w3.ownsRow _ _ _ _ st.length (st.flatMap encI)
        rw [HE1.out]
        simpa using hown
    · have hI2 := hI.lay (i := 1) (by decide) hls hC.size
      simp only [List.getElem?_cons_succ, List.getElem?_cons_zero, Option.some.injEq] at ho
      subst ho
      simp [loudAt, loudUpon, go_sem, execOp]
      exact ⟨hC.alloc hC.size _, hI2⟩
    · have hb := hw (7, 17) (by simp) (by kernel_rfl)
      have r0 := hI.empty (i := 1) (by decide) hb hls
      simp only [List.getElem?_cons_succ, List.getElem?_cons_zero, Option.some.injEq] at ho
      subst ho
      cases A2 with
      | none =>
        obtain rfl : n2 = 0 := by
          refine Nat.eq_zero_of_not_pos fun q => ?_
          obtain ⟨b, off, e, _⟩ := KB0.out.at_ q
          cases e
        obtain rfl : en = [] := List.eq_nil_of_length_eq_zero HE2.out
        exact loudAt_append_nil (.tmp 17) (.tmp 20) 42 rfl V0.heap.size 3 i0 1 Tryz.underlying42 HI.out.1 (vs 7) 0 [] (eval_at (i := 7) (by decide) (by simp) (Nat.le_of_ble_eq_true rfl)) r0 c2 (eval_no (by decide) rfl) ⟨hC, hI.app (i := 1) (by decide) hb hls (grown_refl _ _) r0 (.inl rfl)⟩
      | some a =>
        have hf := (KB0.out.below hC).flat encI_len (by decide)
        refine loudAt_append (.tmp 17) (.tmp 20) 42 rfl V0.heap.size 3 i0 (.int .i64 0) 1 8 Tryz.underlying42 HI.out.1 HI.out.2.1 HI.out.2.2.1 HI.out.2.2.2 rfl (by decide) (vs 7) 0 [] (eval_at (i := 7) (by decide) (by simp) (Nat.le_of_ble_eq_true rfl)) r0 a n2 c2 (en.flatMap encI) (eval_no (by decide) rfl) (by rw [flat_len encI_len, HE2.out]) hf (encI_one en) (by unfold maxLen; omega) (by omega) hC.size ?_
        intro v' w3 hown hgrow hat
        refine ⟨hC.grown hgrow hC.size (fun r hr => (own_lt r0 hr).1), hI.app (i := 1) (by decide) hb hls hgrow ?_ hat⟩
        show w3.ownsRow _ _ _ _ en.length (en.flatMap encI)
        rw [HE2.out]
        simpa using hown
    · have hI2 := hI.lay (i := 2) (by decide) hls hC.size
      simp only [List.getElem?_cons_succ, List.getElem?_cons_zero, Option.some.injEq] at ho
      subst ho
      simp [loudAt, loudUpon, go_sem, execOp]
      exact ⟨hC.alloc hC.size _, hI2⟩
    · have hb := hw (12, 22) (by simp) (by kernel_rfl)
      have r0 := hI.empty (i := 2) (by decide) hb hls
      simp only [List.getElem?_cons_succ, List.getElem?_cons_zero, Option.some.injEq] at ho
      subst ho
      cases A3 with
      | none =>
        obtain rfl : n3 = 0 := by
          refine Nat.eq_zero_of_not_pos fun q => ?_
          obtain ⟨b, off, e, _⟩ := KC0.out.at_ q
          cases e
        obtain rfl : ma = [] := List.eq_nil_of_length_eq_zero HE3.out
        exact loudAt_append_nil (.tmp 22) (.tmp 25) 42 rfl V0.heap.size 3 i0 1 Tryz.underlying42 HI.out.1 (vs 12) 0 [] (eval_at (i := 12) (by decide) (by simp) (Nat.le_of_ble_eq_true rfl)) r0 c3 (eval_no (by decide) rfl) ⟨hC, hI.app (i := 2) (by decide) hb hls (grown_refl _ _) r0 (.inl rfl)⟩
      | some a =>
        have hf := (KC0.out.below hC).flat encI_len (by decide)
        refine loudAt_append (.tmp 22) (.tmp 25) 42 rfl V0.heap.size 3 i0 (.int .i64 0) 1 8 Tryz.underlying42 HI.out.1 HI.out.2.1 HI.out.2.2.1 HI.out.2.2.2 rfl (by decide) (vs 12) 0 [] (eval_at (i := 12) (by decide) (by simp) (Nat.le_of_ble_eq_true rfl)) r0 a n3 c3 (ma.flatMap encI) (eval_no (by decide) rfl) (by rw [flat_len encI_len, HE3.out]) hf (encI_one ma) (by unfold maxLen; omega) (by omega) hC.size ?_
        intro v' w3 hown hgrow hat
        refine ⟨hC.grown hgrow hC.size (fun r hr => (own_lt r0 hr).1), hI.app (i := 2) (by decide) hb hls hgrow ?_ hat⟩
        show w3.ownsRow _ _ _ _ ma.length (ma.flatMap encI)
        rw [HE3.out]
        simpa using hown
    · skip
      have w6 := hw (6, 16) (by simp) (by kernel_rfl)
      have w11 := hw (11, 21) (by simp) (by kernel_rfl)
      have w16 := hw (16, 26) (by simp) (by kernel_rfl)
      obtain ⟨P1, q1, e1⟩ := owns_slice (hI.full (i := 0) (by decide) w6)
      obtain ⟨P2, q2, e2⟩ := owns_slice (hI.full (i := 1) (by decide) w11)
      obtain ⟨P3, q3, e3⟩ := owns_slice (hI.full (i := 2) (by decide) w16)
      have hI8 := hI.s17 hls w6 w11 w16
      replace e1 : vs 6 = _ := e1
      replace e2 : vs 11 = _ := e2
      replace e3 : vs 16 = _ := e3
      have g16 : ∀ a : Act, a.tmps.size = 185 → (putsL a [(2, 12), (6, 16), (7, 17), (11, 21), (12, 22), (16, 26), (17, 27), (21, 31), (25, 35), (26, 36), (27, 37), (28, 5)] vs).tmps[16]? = some (vs 6) := fun a h => putsL_at [(2, 12), (6, 16), (7, 17), (11, 21), (12, 22), (16, 26), (17, 27), (21, 31), (25, 35), (26, 36), (27, 37), (28, 5)] vs a (by decide) (6, 16) (by simp) (by rw [h]; decide)
      have g21 : ∀ a : Act, a.tmps.size = 185 → (putsL a [(2, 12), (6, 16), (7, 17), (11, 21), (12, 22), (16, 26), (17, 27), (21, 31), (25, 35), (26, 36), (27, 37), (28, 5)] vs).tmps[21]? = some (vs 11) := fun a h => putsL_at [(2, 12), (6, 16), (7, 17), (11, 21), (12, 22), (16, 26), (17, 27), (21, 31), (25, 35), (26, 36), (27, 37), (28, 5)] vs a (by decide) (11, 21) (by simp) (by rw [h]; decide)
      have g26 : ∀ a : Act, a.tmps.size = 185 → (putsL a [(2, 12), (6, 16), (7, 17), (11, 21), (12, 22), (16, 26), (17, 27), (21, 31), (25, 35), (26, 36), (27, 37), (28, 5)] vs).tmps[26]? = some (vs 16) := fun a h => putsL_at [(2, 12), (6, 16), (7, 17), (11, 21), (12, 22), (16, 26), (17, 27), (21, 31), (25, 35), (26, 36), (27, 37), (28, 5)] vs a (by decide) (16, 26) (by simp) (by rw [h]; decide)
      simp only [List.getElem?_cons_succ, List.getElem?_cons_zero, Option.some.injEq] at ho
      subst ho
      simp [loudAt, loudUpon, go_sem, execOp, e1, e2, e3, g16, g21, g26]
      rw [e1, e2, e3] at hI8
      exact ⟨hC, hI8⟩
    · have hI2 := hI.lay (i := 3) (by decide) hls hC.size
      simp only [List.getElem?_cons_succ, List.getElem?_cons_zero, Option.some.injEq] at ho
      subst ho
      simp [loudAt, loudUpon, go_sem, execOp]
      exact ⟨hC.alloc hC.size _, hI2⟩
    · have hb := hw (21, 31) (by simp) (by kernel_rfl)
      have r0 := hI.empty (i := 3) (by decide) hb hls
      simp only [List.getElem?_cons_succ, List.getElem?_cons_zero, Option.some.injEq] at ho
      subst ho
      cases A4 with
      | none =>
        obtain rfl : n4 = 0 := by
          refine Nat.eq_zero_of_not_pos fun q => ?_
          obtain ⟨b, off, e, _⟩ := KD0.out.at_ q
          cases e
        obtain rfl : s = [] := List.eq_nil_of_length_eq_zero HE4.out
        exact loudAt_append_nil (.tmp 31) (.tmp 34) 42 rfl V0.heap.size 3 i0 1 Tryz.underlying42 HI.out.1 (vs 21) 0 [] (eval_at (i := 21) (by decide) (by simp) (Nat.le_of_ble_eq_true rfl)) r0 c4 (eval_no (by decide) rfl) ⟨hC, hI.app (i := 3) (by decide) hb hls (grown_refl _ _) r0 (.inl rfl)⟩
      | some a =>
        have hf := (KD0.out.below hC).flat encI_len (by decide)
        refine loudAt_append (.tmp 31) (.tmp 34) 42 rfl V0.heap.size 3 i0 (.int .i64 0) 1 8 Tryz.underlying42 HI.out.1 HI.out.2.1 HI.out.2.2.1 HI.out.2.2.2 rfl (by decide) (vs 21) 0 [] (eval_at (i := 21) (by decide) (by simp) (Nat.le_of_ble_eq_true rfl)) r0 a n4 c4 (s.flatMap encI) (eval_no (by decide) rfl) (by rw [flat_len encI_len, HE4.out]) hf (encI_one s) (by unfold maxLen; omega) (by omega) hC.size ?_
        intro v' w3 hown hgrow hat
        refine ⟨hC.grown hgrow hC.size (fun r hr => (own_lt r0 hr).1), hI.app (i := 3) (by decide) hb hls hgrow ?_ hat⟩
        show w3.ownsRow _ _ _ _ s.length (s.flatMap encI)
        rw [HE4.out]
        simpa using hown
    · skip
      have w25 := hw (25, 35) (by simp) (by kernel_rfl)
      obtain ⟨P4, q4, e4⟩ := owns_slice (hI.full (i := 3) (by decide) w25)
      have hI8 := hI.s26 hls w25
      replace e4 : vs 25 = _ := e4
      have g35 : ∀ a : Act, a.tmps.size = 185 → (putsL a [(2, 12), (6, 16), (7, 17), (11, 21), (12, 22), (16, 26), (17, 27), (21, 31), (25, 35), (26, 36), (27, 37), (28, 5)] vs).tmps[35]? = some (vs 25) := fun a h => putsL_at [(2, 12), (6, 16), (7, 17), (11, 21), (12, 22), (16, 26), (17, 27), (21, 31), (25, 35), (26, 36), (27, 37), (28, 5)] vs a (by decide) (25, 35) (by simp) (by rw [h]; decide)
      have g30 : ∀ a : Act, (putsL a [(2, 12), (6, 16), (7, 17), (11, 21), (12, 22), (16, 26), (17, 27), (21, 31), (25, 35), (26, 36), (27, 37), (28, 5)] vs).tmps[30]? = a.tmps[30]? := fun a => putsL_ne [(2, 12), (6, 16), (7, 17), (11, 21), (12, 22), (16, 26), (17, 27), (21, 31), (25, 35), (26, 36), (27, 37), (28, 5)] vs 30 a (by decide)
      simp only [List.getElem?_cons_succ, List.getElem?_cons_zero, Option.some.injEq] at ho
      subst ho
      simp [loudAt, loudUpon, go_sem, execOp, e4, g35, g30]
      rw [e4] at hI8
      exact ⟨hC, hI8⟩
    · skip
      have w17 := hw (17, 27) (by simp) (by kernel_rfl)
      have w26 := hw (26, 36) (by simp) (by kernel_rfl)
      obtain ⟨⟨w6, w11, w16⟩, e17⟩ := hI.c17 w17
      obtain ⟨w25, e26⟩ := hI.c26 w26
      obtain ⟨P1, q1, e1⟩ := owns_slice (hI.full (i := 0) (by decide) w6)
      obtain ⟨P2, q2, e2⟩ := owns_slice (hI.full (i := 1) (by decide) w11)
      obtain ⟨P3, q3, e3⟩ := owns_slice (hI.full (i := 2) (by decide) w16)
      obtain ⟨P4, q4, e4⟩ := owns_slice (hI.full (i := 3) (by decide) w25)
      have hI8 := hI.s27 w17 w26
      replace e1 : vs 6 = _ := e1
      replace e2 : vs 11 = _ := e2
      replace e3 : vs 16 = _ := e3
      replace e4 : vs 25 = _ := e4
      rw [e1, e2, e3] at e17
      rw [e4] at e26
      have g27 : ∀ a : Act, a.tmps.size = 185 → (putsL a [(2, 12), (6, 16), (7, 17), (11, 21), (12, 22), (16, 26), (17, 27), (21, 31), (25, 35), (26, 36), (27, 37), (28, 5)] vs).tmps[27]? = some (vs 17) := fun a h => putsL_at [(2, 12), (6, 16), (7, 17), (11, 21), (12, 22), (16, 26), (17, 27), (21, 31), (25, 35), (26, 36), (27, 37), (28, 5)] vs a (by decide) (17, 27) (by simp) (by rw [h]; decide)
      have g36 : ∀ a : Act, a.tmps.size = 185 → (putsL a [(2, 12), (6, 16), (7, 17), (11, 21), (12, 22), (16, 26), (17, 27), (21, 31), (25, 35), (26, 36), (27, 37), (28, 5)] vs).tmps[36]? = some (vs 26) := fun a h => putsL_at [(2, 12), (6, 16), (7, 17), (11, 21), (12, 22), (16, 26), (17, 27), (21, 31), (25, 35), (26, 36), (27, 37), (28, 5)] vs a (by decide) (26, 36) (by simp) (by rw [h]; decide)
      have g11 : ∀ a : Act, (putsL a [(2, 12), (6, 16), (7, 17), (11, 21), (12, 22), (16, 26), (17, 27), (21, 31), (25, 35), (26, 36), (27, 37), (28, 5)] vs).tmps[11]? = a.tmps[11]? := fun a => putsL_ne [(2, 12), (6, 16), (7, 17), (11, 21), (12, 22), (16, 26), (17, 27), (21, 31), (25, 35), (26, 36), (27, 37), (28, 5)] vs 11 a (by decide)
      simp only [List.getElem?_cons_succ, List.getElem?_cons_zero, Option.some.injEq] at ho
      subst ho
      simp [loudAt, loudUpon, go_sem, execOp, e17, e26, g27, g36, g11]
      rw [e1, e2, e3, e4] at hI8
      exact ⟨hC, hI8⟩
    · have hI8 := hI.s28 hC.size
      simp only [List.getElem?_cons_succ, List.getElem?_cons_zero, Option.some.injEq] at ho
      subst ho
      simp [loudAt, loudUpon, go_sem, execOp]
      exact ⟨hC.alloc hC.size _, hI8⟩
  case last =>
  rintro ls vs V hV hI hls
  have w6 := hls (6, 16) (by simp)
  have w11 := hls (11, 21) (by simp)
  have w16 := hls (16, 26) (by simp)
  have w25 := hls (25, 35) (by simp)
  obtain ⟨-, e37⟩ := hI.c27 (hls (27, 37) (by simp))
  obtain ⟨g, e5, hgL, hbk⟩ := hI.p28 (hls (28, 5) (by simp))
  have r1 : V.ownsRow V0.heap.size 3 1 (vs 6) n1 (st.flatMap encI) := by rw [← HE1.out]; exact hI.full (i := 0) (by decide) w6
  have r2 : V.ownsRow V0.heap.size 3 1 (vs 11) n2 (en.flatMap encI) := by rw [← HE2.out]; exact hI.full (i := 1) (by decide) w11
  have r3 : V.ownsRow V0.heap.size 3 1 (vs 16) n3 (ma.flatMap encI) := by rw [← HE3.out]; exact hI.full (i := 2) (by decide) w16
  have r4 : V.ownsRow V0.heap.size 3 1 (vs 25) n4 (s.flatMap encI) := by rw [← HE4.out]; exact hI.full (i := 3) (by decide) w25
  have f12 : ∀ r, (vs 6).ownBlock = some r → (vs 11).ownBlock ≠ some r := hI.apart (i := 0) (j := 1) (by decide) (by decide) (by decide) w6 w11
  have f13 : ∀ r, (vs 6).ownBlock = some r → (vs 16).ownBlock ≠ some r := hI.apart (i := 0) (j := 2) (by decide) (by decide) (by decide) w6 w16
  have f14 : ∀ r, (vs 6).ownBlock = some r → (vs 25).ownBlock ≠ some r := hI.apart (i := 0) (j := 3) (by decide) (by decide) (by decide) w6 w25
  have f21 : ∀ r, (vs 11).ownBlock = some r → (vs 6).ownBlock ≠ some r := hI.apart (i := 1) (j := 0) (by decide) (by decide) (by decide) w11 w6
  have f23 : ∀ r, (vs 11).ownBlock = some r → (vs 16).ownBlock ≠ some r := hI.apart (i := 1) (j := 2) (by decide) (by decide) (by decide) w11 w16
  have f24 : ∀ r, (vs 11).ownBlock = some r → (vs 25).ownBlock ≠ some r := hI.apart (i := 1) (j := 3) (by decide) (by decide) (by decide) w11 w25
  have f31 : ∀ r, (vs 16).ownBlock = some r → (vs 6).ownBlock ≠ some r := hI.apart (i := 2) (j := 0) (by decide) (by decide) (by decide) w16 w6
  have f32 : ∀ r, (vs 16).ownBlock = some r → (vs 11).ownBlock ≠ some r := hI.apart (i := 2) (j := 1) (by decide) (by decide) (by decide) w16 w11
  have f34 : ∀ r, (vs 16).ownBlock = some r → (vs 25).ownBlock ≠ some r := hI.apart (i := 2) (j := 3) (by decide) (by decide) (by decide) w16 w25
  have f41 : ∀ r, (vs 25).ownBlock = some r → (vs 6).ownBlock ≠ some r := hI.apart (i := 3) (j := 0) (by decide) (by decide) (by decide) w25 w6
  have f42 : ∀ r, (vs 25).ownBlock = some r → (vs 11).ownBlock ≠ some r := hI.apart (i := 3) (j := 1) (by decide) (by decide) (by decide) w25 w11
  have f43 : ∀ r, (vs 25).ownBlock = some r → (vs 16).ownBlock ≠ some r := hI.apart (i := 3) (j := 2) (by decide) (by decide) (by decide) w25 w16
  obtain ⟨P1, q1, e1⟩ := owns_slice r1
  obtain ⟨P2, q2, e2⟩ := owns_slice r2
  obtain ⟨P3, q3, e3⟩ := owns_slice r3
  obtain ⟨P4, q4, e4⟩ := owns_slice r4
  rw [e1, e2, e3, e4] at e37
  rw [e1] at r1
  rw [e2] at r2
  rw [e3] at r3
  rw [e4] at r4
  rw [e1, e2] at f12
  have F12 := Lib.hid f12
  rw [e1, e3] at f13
  have F13 := Lib.hid f13
  rw [e1, e4] at f14
  have F14 := Lib.hid f14
  rw [e2, e1] at f21
  have F21 := Lib.hid f21
  rw [e2, e3] at f23
  have F23 := Lib.hid f23
  rw [e2, e4] at f24
  have F24 := Lib.hid f24
  rw [e3, e1] at f31
  have F31 := Lib.hid f31
  rw [e3, e2] at f32
  have F32 := Lib.hid f32
  rw [e3, e4] at f34
  have F34 := Lib.hid f34
  rw [e4, e1] at f41
  have F41 := Lib.hid f41
  rw [e4, e2] at f42
  have F42 := Lib.hid f42
  rw [e4, e3] at f43
  have F43 := Lib.hid f43
  have HVb := Lib.hid hV
  have HGl := Lib.hid hgL
  have HVk := Lib.hid hbk
  have Q1 := Lib.hid r1
  have Q2 := Lib.hid r2
  have Q3 := Lib.hid r3
  have Q4 := Lib.hid r4
  clear hI hls hV hgL hbk r1 r2 r3 r4 w6 w11 w16 w25 f12 f13 f14 f21 f23 f24 f31 f32 f34 f41 f42 f43
  simp only [putsL, List.foldl_cons, List.foldl_nil, List.drop_succ_cons, List.drop_zero, Act.put, e37, e5, List.setIfInBounds_toArray, List.set_cons_succ, List.set_cons_zero]
  generalize vs 2 = v2 at *
  generalize vs 6 = v6 at *
  generalize vs 7 = v7 at *
  generalize vs 11 = v11 at *
  generalize vs 12 = v12 at *
  generalize vs 16 = v16 at *
  generalize vs 17 = v17 at *
  generalize vs 21 = v21 at *
  generalize vs 25 = v25 at *
  generalize vs 26 = v26 at *
  clear e1 e2 e3 e4 e5 e37
  have k0 := HVk.out.cell 0
  have k1 := HVk.out.cell 1
  have k2 := HVk.out.cell 2
  have k3 := HVk.out.cell 3
  have k4 := HVk.out.cell 4
  have k5 := HVk.out.cell 5
  simp only [List.getElem?_toArray, List.getElem?_cons_zero, List.getElem?_cons_succ] at k0 k1 k2 k3 k4 k5
  have kl := HVk.out.lt
  have kf0 := HVk.out.frozen 0
  have kf1 := HVk.out.frozen 1
  have kf2 := HVk.out.frozen 2
  have kf3 := HVk.out.frozen 3
  have kf4 := HVk.out.frozen 4
  have kf5 := HVk.out.frozen 5
  have hgl := HGl.out
  have hv3 := HV3.out
  have hgr := grown_set6 V g (.int .i64 val) (.slice P1 n1 q1) (.slice P2 n2 q2) (.slice P3 n3 q3) (.int .i64 way) (.slice P4 n4 q4)
  have WB1 := Lib.hid (below_set6 (HB0.out.trans (HVb.out.mono HB0.out.size)) (g := g) (by omega) (.int .i64 val) (.slice P1 n1 q1) (.slice P2 n2 q2) (.slice P3 n3 q3) (.int .i64 way) (.slice P4 n4 q4))
  have WR1 := Lib.hid ((R0.out.below HVb.out).grown hgr (fun e => by have e2 := Option.some.inj e; omega))
  have WX1 := Lib.hid ((X0.out.below HVb.out).grown hgr (fun e => by have e2 := Option.some.inj e; omega))
  have WG1 := Lib.hid (blk_set6 HVk.out (.int .i64 val) (.slice P1 n1 q1) (.slice P2 n2 q2) (.slice P3 n3 q3) (.int .i64 way) (.slice P4 n4 q4))
  have KX1 := Lib.hid (KX0.out.farq (KX0.out.below HVb.out) hgr (fun r hr => by have e2 := Option.some.inj hr; omega))
  have O11 := Lib.hid (owns_grown Q1.out hgr (fun r hr e => own_ne Q1.out HVk.out (by decide) (by rw [hr, ← e])))
  have O21 := Lib.hid (owns_grown Q2.out hgr (fun r hr e => own_ne Q2.out HVk.out (by decide) (by rw [hr, ← e])))
  have O31 := Lib.hid (owns_grown Q3.out hgr (fun r hr e => own_ne Q3.out HVk.out (by decide) (by rw [hr, ← e])))
  have O41 := Lib.hid (owns_grown Q4.out hgr (fun r hr e => own_ne Q4.out HVk.out (by decide) (by rw [hr, ← e])))
  clear hgr
  go_upto_region 3 with fail
  clear k0 k1 k2 k3 k4 k5 kl kf0 kf1 kf2 kf3 kf4 kf5 HVb HVk Q1 Q2 Q3 Q4 HB0 J0 X0 R0 KA0 KB0 KC0 KD0
  generalize hW : (((((V.setCell ⟨g, 0, none⟩ (.int .i64 val)).setCell ⟨g, 1, none⟩ (.slice P1 n1 q1)).setCell ⟨g, 2, none⟩ (.slice P2 n2 q2)).setCell ⟨g, 3, none⟩ (.slice P3 n3 q3)).setCell ⟨g, 4, none⟩ (.int .i64 way)).setCell ⟨g, 5, none⟩ (.slice P4 n4 q4) = W1 at *
  clear hW
  by_cases c1 : xw = 1
  case pos =>
    have z1 : (xw == 1) = true := by simp; omega
    have z2 : (xw == 2) = false := by simp; omega
    have z3 : (xw == 3) = false := by simp; omega
    have z4 : (xw == 4) = false := by simp; omega
    have z5 : (xw == 5) = false := by simp; omega
    have z6 : (xw == 6) = false := by simp; omega
    obtain ⟨a0, a1, a2, a3, a4, a5, al⟩ := cells6 WG1.out
    obtain ⟨b0, b1, b2, b3, b4, bl⟩ := cells5 WX1.out
    obtain ⟨e0, e1, e2, e3, e4, e5⟩ := frz6 WG1.out
    have hgr := (grownBy_set W1 g 0 (.int .i64 (wrap64 (val + xb))))
    have WB2 := Lib.hid ((WB1.out.setCell (p := ⟨g, 0, none⟩) (by simp; omega) (.int .i64 (wrap64 (val + xb)))))
    have WR2 := Lib.hid (WR1.out.grown hgr (fun e => by have e2 := Option.some.inj e; omega))
    have WX2 := Lib.hid (WX1.out.grown hgr (fun e => by have e2 := Option.some.inj e; omega))
    have WG2 : Hid (Blk (W1.setCell ⟨g, 0, none⟩ (.int .i64 (wrap64 (val + xb)))) g 95 #[.int .i64 (wrap64 (val + xb)), .slice P1 n1 q1, .slice P2 n2 q2, .slice P3 n3 q3, .int .i64 way, .slice P4 n4 q4]) := Lib.hid (by have := (WG1.out.set_ 0 (.int .i64 (wrap64 (val + xb)))); simpa using this)
    have KX2 := Lib.hid (KX0.out.farq KX1.out hgr (fun r hr => by have e2 := Option.some.inj hr; omega))
    have O12 := Lib.hid (owns_grown O11.out hgr (fun r hr e => own_ne O11.out WG1.out (by decide) (by rw [hr, ← e])))
    have O22 := Lib.hid (owns_grown O21.out hgr (fun r hr e => own_ne O21.out WG1.out (by decide) (by rw [hr, ← e])))
    have O32 := Lib.hid (owns_grown O31.out hgr (fun r hr e => own_ne O31.out WG1.out (by decide) (by rw [hr, ← e])))
    have O42 := Lib.hid (owns_grown O41.out hgr (fun r hr e => own_ne O41.out WG1.out (by decide) (by rw [hr, ← e])))
    clear hgr
    go_upto_region 19 with fail
    clear e0 e1 e2 e3 e4 e5
    clear a0 a1 a2 a3 a4 a5 b0 b1 b2 b3 b4 al bl
    generalize hW : W1.setCell ⟨g, 0, none⟩ (.int .i64 (wrap64 (val + xb))) = W2 at *
    clear hW
    clear WB1 WR1 WX1 WG1 KX1 O11 O21 O31 O41
    obtain ⟨c0, c1, c2, c3, c4, c5, cl⟩ := cells6 WR2.out
    obtain ⟨a0, a1, a2, a3, a4, a5, al⟩ := cells6 WG2.out
    obtain ⟨b0, b1, b2, b3, b4, bl⟩ := cells5 WX2.out
    obtain ⟨ff0, ff1, ff2, ff3, ff4, ff5⟩ := frz6 WR2.out
    go_wp2
    have hf := blk_set6 WR2.out (.int .i64 ((wrap64 (val + xb)))) (.slice P1 n1 q1) (.slice P2 n2 q2) (.slice P3 n3 q3) (.int .i64 (way)) (.slice P4 n4 q4)
    obtain ⟨x0, x1, x2, x3, x4, x5, -⟩ := cells6 hf
    have hgz := grown_set6 W2 (w.heap.size + 2) (.int .i64 ((wrap64 (val + xb)))) (.slice P1 n1 q1) (.slice P2 n2 q2) (.slice P3 n3 q3) (.int .i64 (way)) (.slice P4 n4 q4)
    exact bodyPost_ret (v := .agg #[.int .i64 (wrap64 (val + xb)), .slice P1 n1 q1, .slice P2 n2 q2, .slice P3 n3 q3, .int .i64 way, .slice P4 n4 q4]) (by simp [results, Tryz.results51, go_sem, x0, x1, x2, x3, x4, x5]) rfl ⟨(wrap64 (val + xb)), P1, n1, q1, P2, n2, q2, P3, n3, q3, way, P4, n4, q4, _, _, _, _, rfl, sat_of_owns HE1.out (owns_grown O12.out hgz (fun r hr e => own_ne O12.out WR2.out (by decide) (by rw [hr, ← e]))), sat_of_owns HE2.out (owns_grown O22.out hgz (fun r hr e => own_ne O22.out WR2.out (by decide) (by rw [hr, ← e]))), sat_of_owns HE3.out (owns_grown O32.out hgz (fun r hr e => own_ne O32.out WR2.out (by decide) (by rw [hr, ← e]))), sat_of_owns HE4.out (owns_grown O42.out hgz (fun r hr e => own_ne O42.out WR2.out (by decide) (by rw [hr, ← e]))), by omega, below_set6 WB2.out (by omega) _ _ _ _ _ _⟩
  case neg =>
  by_cases c2 : xw = 2
  case pos =>
    by_cases c0 : 0 < n3
    case pos =>
      have z1 : (xw == 1) = false := by simp; omega
      have z2 : (xw == 2) = true := by simp; omega
      have z3 : (xw == 3) = false := by simp; omega
      have z4 : (xw == 4) = false := by simp; omega
      have z5 : (xw == 5) = false := by simp; omega
      have z6 : (xw == 6) = false := by simp; omega
      have p1 : decide ((0 : Int) < (n3 : Int)) = true := decide_eq_true (by omega)
      have p2 : decide (0 < n3) = true := decide_eq_true (by omega)
      obtain ⟨g3, qq3, he3⟩ := Joins.ownsRow_form O31.out (by omega)
      cases he3
      obtain ⟨a0, a1, a2, a3, a4, a5, al⟩ := cells6 WG1.out
      obtain ⟨b0, b1, b2, b3, b4, bl⟩ := cells5 WX1.out
      have HC := Lib.hid (bent1_any n3 (by omega) (by omega) (w.heap.size + 1) xw xa xb xway B4 m4 d4 W1 WX1.out)
      go_upto_region 7 with (go_at_call 105; go_loud (with_reducible refine HC.out.mono ?_); go_loud (rintro e u2 ⟨k, hk, rfl, hb⟩))
      clear a0 a1 a2 a3 a4 a5 b0 b1 b2 b3 b4 al bl
      clear HC
      have WB2 := Lib.hid (WB1.out.trans (hb.mono WB1.out.size))
      have WR2 := Lib.hid (WR1.out.below hb)
      have WX2 := Lib.hid (WX1.out.below hb)
      have WG2 := Lib.hid (WG1.out.below hb)
      have KX2 := Lib.hid (KX1.out.below hb)
      have O12 := Lib.hid (owns_below O11.out hb)
      have O22 := Lib.hid (owns_below O21.out hb)
      have O32 := Lib.hid (owns_below O31.out hb)
      have O42 := Lib.hid (owns_below O41.out hb)
      clear WB1 WR1 WX1 WG1 KX1 O11 O21 O31 O41
      clear hb
      obtain ⟨a0, a1, a2, a3, a4, a5, al⟩ := cells6 WG2.out
      obtain ⟨b0, b1, b2, b3, b4, bl⟩ := cells5 WX2.out
      have hkl : k < ma.length := by have := HE3.out; omega
      have yc := (Ls_of_row encI_len HE3.out O32.out).c k _ (List.getElem?_eq_getElem hkl) 0 _ rfl
      rw [Nat.zero_add, Nat.mul_one, Nat.add_zero] at yc
      obtain ⟨cu, hcu⟩ := own_blk O32.out (g := g3) rfl
      have yf : u2.frozen? ⟨g3, k, none⟩ = false := Blk.frozen (show Blk u2 g3 _ cu from hcu) _
      have yl := (own_lt O32.out (g := g3) rfl).2
      clear hcu
      generalize hyy : ma[k] = y at yc
      clear hyy
      obtain ⟨xc, xf'⟩ := xcell (W := u2)
      refine wp_region_quiet_tail 14 (by kernel_rfl) (by kernel_rfl) ?_
      simp only [List.take_succ_cons, List.take_zero, List.drop_succ_cons, List.drop_zero]
      repeat (first | go_big_quiet_step (fail) | quiet_step (fail))
      refine wpQuiet_nil ?_
      intro w3 hb3
      clear a0 a1 a2 a3 a4 a5 b0 b1 b2 b3 b4 al bl
      clear xc xf'
      have WB3 := Lib.hid (WB2.out.trans (hb3.mono WB2.out.size))
      have WR3 := Lib.hid (WR2.out.below hb3)
      have WX3 := Lib.hid (WX2.out.below hb3)
      have WG3 := Lib.hid (WG2.out.below hb3)
      have KX3 := Lib.hid (KX2.out.below hb3)
      have O13 := Lib.hid (owns_below O12.out hb3)
      have O23 := Lib.hid (owns_below O22.out hb3)
      have O33 := Lib.hid (owns_below O32.out hb3)
      have O43 := Lib.hid (owns_below O42.out hb3)
      clear WB2 WR2 WX2 WG2 KX2 O12 O22 O32 O42
      clear hb3
      clear yc yf yl hkl
      have hlt2 := own_lt O33.out (g := g3) rfl
      have yc := (Ls_of_row encI_len HE3.out O33.out).c k _ (List.getElem?_eq_getElem (show k < ma.length by have := HE3.out; omega)) 0 _ rfl
      rw [Nat.zero_add, Nat.mul_one, Nat.add_zero] at yc
      obtain ⟨cu, hcu⟩ := own_blk O33.out (g := g3) rfl
      have yf : w3.frozen? ⟨g3, k, none⟩ = false := Blk.frozen (show Blk w3 g3 _ cu from hcu) _
      have yl := hlt2.2
      clear hcu hlt2
      obtain ⟨a0, a1, a2, a3, a4, a5, al⟩ := cells6 WG3.out
      obtain ⟨b0, b1, b2, b3, b4, bl⟩ := cells5 WX3.out
      have hgr := grownBy_set w3 g3 k (.int .i64 (wrap64 (y + xb)))
      have hlt := (own_lt O33.out (g := g3) rfl).1
      have WB4 := Lib.hid (WB3.out.setCell (p := ⟨g3, k, none⟩) (by simp; omega) (.int .i64 (wrap64 (y + xb))))
      have WR4 := Lib.hid (WR3.out.grown hgr (own_ne O33.out WR3.out (by decide)))
      have WX4 := Lib.hid (WX3.out.grown hgr (own_ne O33.out WX3.out (by decide)))
      have WG4 := Lib.hid (WG3.out.grown hgr (own_ne O33.out WG3.out (by decide)))
      have KX4 := Lib.hid (KX0.out.farq KX3.out hgr (fun r hr => by have e2 := Option.some.inj hr; omega))
      have O14 := Lib.hid (owns_grown O13.out hgr (fun r hr e => F13.out r hr e))
      have O24 := Lib.hid (owns_grown O23.out hgr (fun r hr e => F23.out r hr e))
      have O34 := Lib.hid (by have h := owns_set O33.out k (by rw [flat_len encI_len, HE3.out]; omega) (.int .i64 (wrap64 (y + xb))); rw [flat_setI1] at h; exact h)
      have O44 := Lib.hid (owns_grown O43.out hgr (fun r hr e => F43.out r hr e))
      clear hgr hlt
      go_upto_region 19 with fail
      clear yc yf yl
      clear a0 a1 a2 a3 a4 a5 b0 b1 b2 b3 b4 al bl
      generalize hW : w3.setCell ⟨g3, k, none⟩ (.int .i64 (wrap64 (y + xb))) = W4 at *
      clear hW
      clear WB3 WR3 WX3 WG3 KX3 O13 O23 O33 O43
      skip
      obtain ⟨c0, c1, c2, c3, c4, c5, cl⟩ := cells6 WR4.out
      obtain ⟨a0, a1, a2, a3, a4, a5, al⟩ := cells6 WG4.out
      obtain ⟨b0, b1, b2, b3, b4, bl⟩ := cells5 WX4.out
      obtain ⟨ff0, ff1, ff2, ff3, ff4, ff5⟩ := frz6 WR4.out
      go_wp2
      have hf := blk_set6 WR4.out (.int .i64 (val)) (.slice P1 n1 q1) (.slice P2 n2 q2) (.slice (some ⟨g3, 0, none⟩) n3 q3) (.int .i64 (way)) (.slice P4 n4 q4)
      obtain ⟨x0, x1, x2, x3, x4, x5, -⟩ := cells6 hf
      have hgz := grown_set6 W4 (w.heap.size + 2) (.int .i64 (val)) (.slice P1 n1 q1) (.slice P2 n2 q2) (.slice (some ⟨g3, 0, none⟩) n3 q3) (.int .i64 (way)) (.slice P4 n4 q4)
      exact bodyPost_ret (v := .agg #[.int .i64 val, .slice P1 n1 q1, .slice P2 n2 q2, .slice (some ⟨g3, 0, none⟩) n3 q3, .int .i64 way, .slice P4 n4 q4]) (by simp [results, Tryz.results51, go_sem, x0, x1, x2, x3, x4, x5]) rfl ⟨val, P1, n1, q1, P2, n2, q2, (some ⟨g3, 0, none⟩), n3, q3, way, P4, n4, q4, _, _, _, _, rfl, sat_of_owns HE1.out (owns_grown O14.out hgz (fun r hr e => own_ne O14.out WR4.out (by decide) (by rw [hr, ← e]))), sat_of_owns HE2.out (owns_grown O24.out hgz (fun r hr e => own_ne O24.out WR4.out (by decide) (by rw [hr, ← e]))), sat_of_owns (by rw [List.length_set]; exact HE3.out) (owns_grown O34.out hgz (fun r hr e => own_ne O34.out WR4.out (by decide) (by rw [hr, ← e]))), sat_of_owns HE4.out (owns_grown O44.out hgz (fun r hr e => own_ne O44.out WR4.out (by decide) (by rw [hr, ← e]))), by omega, below_set6 WB4.out (by omega) _ _ _ _ _ _⟩
    case neg =>
      have z1 : (xw == 1) = false := by simp; omega
      have z2 : (xw == 2) = true := by simp; omega
      have z3 : (xw == 3) = false := by simp; omega
      have z4 : (xw == 4) = false := by simp; omega
      have z5 : (xw == 5) = false := by simp; omega
      have z6 : (xw == 6) = false := by simp; omega
      have p1 : decide ((0 : Int) < (n3 : Int)) = false := decide_eq_false (by omega)
      have p2 : decide (0 < n3) = false := decide_eq_false (by omega)
      obtain ⟨a0, a1, a2, a3, a4, a5, al⟩ := cells6 WG1.out
      obtain ⟨b0, b1, b2, b3, b4, bl⟩ := cells5 WX1.out
      go_upto_region 19 with fail
      clear a0 a1 a2 a3 a4 a5 b0 b1 b2 b3 b4 al bl
      obtain ⟨c0, c1, c2, c3, c4, c5, cl⟩ := cells6 WR1.out
      obtain ⟨a0, a1, a2, a3, a4, a5, al⟩ := cells6 WG1.out
      obtain ⟨b0, b1, b2, b3, b4, bl⟩ := cells5 WX1.out
      obtain ⟨ff0, ff1, ff2, ff3, ff4, ff5⟩ := frz6 WR1.out
      go_wp2
      have hf := blk_set6 WR1.out (.int .i64 (val)) (.slice P1 n1 q1) (.slice P2 n2 q2) (.slice P3 n3 q3) (.int .i64 (way)) (.slice P4 n4 q4)
      obtain ⟨x0, x1, x2, x3, x4, x5, -⟩ := cells6 hf
      have hgz := grown_set6 W1 (w.heap.size + 2) (.int .i64 (val)) (.slice P1 n1 q1) (.slice P2 n2 q2) (.slice P3 n3 q3) (.int .i64 (way)) (.slice P4 n4 q4)
      exact bodyPost_ret (v := .agg #[.int .i64 val, .slice P1 n1 q1, .slice P2 n2 q2, .slice P3 n3 q3, .int .i64 way, .slice P4 n4 q4]) (by simp [results, Tryz.results51, go_sem, x0, x1, x2, x3, x4, x5]) rfl ⟨val, P1, n1, q1, P2, n2, q2, P3, n3, q3, way, P4, n4, q4, _, _, _, _, rfl, sat_of_owns HE1.out (owns_grown O11.out hgz (fun r hr e => own_ne O11.out WR1.out (by decide) (by rw [hr, ← e]))), sat_of_owns HE2.out (owns_grown O21.out hgz (fun r hr e => own_ne O21.out WR1.out (by decide) (by rw [hr, ← e]))), sat_of_owns HE3.out (owns_grown O31.out hgz (fun r hr e => own_ne O31.out WR1.out (by decide) (by rw [hr, ← e]))), sat_of_owns HE4.out (owns_grown O41.out hgz (fun r hr e => own_ne O41.out WR1.out (by decide) (by rw [hr, ← e]))), by omega, below_set6 WB1.out (by omega) _ _ _ _ _ _⟩
  case neg =>
  by_cases c3 : xw = 3
  case pos =>
    by_cases c0 : 0 < n2
    case pos =>
      by_cases cq : n1 = n2
      case pos =>
        subst cq
        have z1 : (xw == 1) = false := by simp; omega
        have z2 : (xw == 2) = false := by simp; omega
        have z3 : (xw == 3) = true := by simp; omega
        have z4 : (xw == 4) = false := by simp; omega
        have z5 : (xw == 5) = false := by simp; omega
        have z6 : (xw == 6) = false := by simp; omega
        have p1 : decide ((0 : Int) < (n1 : Int)) = true := decide_eq_true (by omega)
        have p2 : decide (0 < n1) = true := decide_eq_true (by omega)
        obtain ⟨g2, qq2, he2⟩ := Joins.ownsRow_form O21.out (by omega)
        cases he2
        obtain ⟨g1, qq1, he1⟩ := Joins.ownsRow_form O11.out (by omega)
        cases he1
        obtain ⟨a0, a1, a2, a3, a4, a5, al⟩ := cells6 WG1.out
        obtain ⟨b0, b1, b2, b3, b4, bl⟩ := cells5 WX1.out
        have HC := Lib.hid (bent1_any n1 (by omega) (by omega) (w.heap.size + 1) xw xa xb xway B4 m4 d4 W1 WX1.out)
        go_upto_region 10 with (go_at_call 105; go_loud (with_reducible refine HC.out.mono ?_); go_loud (rintro e u2 ⟨k, hk, rfl, hb⟩))
        clear a0 a1 a2 a3 a4 a5 b0 b1 b2 b3 b4 al bl
        clear HC
        have WB2 := Lib.hid (WB1.out.trans (hb.mono WB1.out.size))
        have WR2 := Lib.hid (WR1.out.below hb)
        have WX2 := Lib.hid (WX1.out.below hb)
        have WG2 := Lib.hid (WG1.out.below hb)
        have KX2 := Lib.hid (KX1.out.below hb)
        have O12 := Lib.hid (owns_below O11.out hb)
        have O22 := Lib.hid (owns_below O21.out hb)
        have O32 := Lib.hid (owns_below O31.out hb)
        have O42 := Lib.hid (owns_below O41.out hb)
        clear WB1 WR1 WX1 WG1 KX1 O11 O21 O31 O41
        clear hb
        obtain ⟨a0, a1, a2, a3, a4, a5, al⟩ := cells6 WG2.out
        obtain ⟨b0, b1, b2, b3, b4, bl⟩ := cells5 WX2.out
        have hkl : k < en.length := by have := HE2.out; omega
        have yc := (Ls_of_row encI_len HE2.out O22.out).c k _ (List.getElem?_eq_getElem hkl) 0 _ rfl
        rw [Nat.zero_add, Nat.mul_one, Nat.add_zero] at yc
        obtain ⟨cu, hcu⟩ := own_blk O22.out (g := g2) rfl
        have yf : u2.frozen? ⟨g2, k, none⟩ = false := Blk.frozen (show Blk u2 g2 _ cu from hcu) _
        have yl := (own_lt O22.out (g := g2) rfl).2
        clear hcu
        generalize hyy : en[k] = y at yc
        clear hyy
        obtain ⟨xc, xf'⟩ := xcell (W := u2)
        refine wp_region_quiet_tail 14 (by kernel_rfl) (by kernel_rfl) ?_
        simp only [List.take_succ_cons, List.take_zero, List.drop_succ_cons, List.drop_zero]
        repeat (first | go_big_quiet_step (fail) | quiet_step (fail))
        refine wpQuiet_nil ?_
        intro w3 hb3
        clear a0 a1 a2 a3 a4 a5 b0 b1 b2 b3 b4 al bl
        clear xc xf'
        have WB3 := Lib.hid (WB2.out.trans (hb3.mono WB2.out.size))
        have WR3 := Lib.hid (WR2.out.below hb3)
        have WX3 := Lib.hid (WX2.out.below hb3)
        have WG3 := Lib.hid (WG2.out.below hb3)
        have KX3 := Lib.hid (KX2.out.below hb3)
        have O13 := Lib.hid (owns_below O12.out hb3)
        have O23 := Lib.hid (owns_below O22.out hb3)
        have O33 := Lib.hid (owns_below O32.out hb3)
        have O43 := Lib.hid (owns_below O42.out hb3)
        clear WB2 WR2 WX2 WG2 KX2 O12 O22 O32 O42
        clear hb3
        clear yc yf yl hkl
        have hlt2 := own_lt O23.out (g := g2) rfl
        have yc := (Ls_of_row encI_len HE2.out O23.out).c k _ (List.getElem?_eq_getElem (show k < en.length by have := HE2.out; omega)) 0 _ rfl
        rw [Nat.zero_add, Nat.mul_one, Nat.add_zero] at yc
        obtain ⟨cu, hcu⟩ := own_blk O23.out (g := g2) rfl
        have yf : w3.frozen? ⟨g2, k, none⟩ = false := Blk.frozen (show Blk w3 g2 _ cu from hcu) _
        have yl := hlt2.2
        clear hcu hlt2
        obtain ⟨a0, a1, a2, a3, a4, a5, al⟩ := cells6 WG3.out
        obtain ⟨b0, b1, b2, b3, b4, bl⟩ := cells5 WX3.out
        have hgr := grownBy_set w3 g2 k (.int .i64 (wrap64 (y + xb)))
        have hlt := (own_lt O23.out (g := g2) rfl).1
        have WB4 := Lib.hid (WB3.out.setCell (p := ⟨g2, k, none⟩) (by simp; omega) (.int .i64 (wrap64 (y + xb))))
        have WR4 := Lib.hid (WR3.out.grown hgr (own_ne O23.out WR3.out (by decide)))
        have WX4 := Lib.hid (WX3.out.grown hgr (own_ne O23.out WX3.out (by decide)))
        have WG4 := Lib.hid (WG3.out.grown hgr (own_ne O23.out WG3.out (by decide)))
        have KX4 := Lib.hid (KX0.out.farq KX3.out hgr (fun r hr => by have e2 := Option.some.inj hr; omega))
        have O14 := Lib.hid (owns_grown O13.out hgr (fun r hr e => F12.out r hr e))
        have O24 := Lib.hid (by have h := owns_set O23.out k (by rw [flat_len encI_len, HE2.out]; omega) (.int .i64 (wrap64 (y + xb))); rw [flat_setI1] at h; exact h)
        have O34 := Lib.hid (owns_grown O33.out hgr (fun r hr e => F32.out r hr e))
        have O44 := Lib.hid (owns_grown O43.out hgr (fun r hr e => F42.out r hr e))
        clear hgr hlt
        go_upto_region 11 with fail
        clear yc yf yl
        clear a0 a1 a2 a3 a4 a5 b0 b1 b2 b3 b4 al bl
        generalize hW : w3.setCell ⟨g2, k, none⟩ (.int .i64 (wrap64 (y + xb))) = W4 at *
        clear hW
        clear WB3 WR3 WX3 WG3 KX3 O13 O23 O33 O43
        skip
        obtain ⟨a0, a1, a2, a3, a4, a5, al⟩ := cells6 WG4.out
        obtain ⟨b0, b1, b2, b3, b4, bl⟩ := cells5 WX4.out
        have hkl : k < st.length := by have := HE1.out; omega
        have yc := (Ls_of_row encI_len HE1.out O14.out).c k _ (List.getElem?_eq_getElem hkl) 0 _ rfl
        rw [Nat.zero_add, Nat.mul_one, Nat.add_zero] at yc
        obtain ⟨cu, hcu⟩ := own_blk O14.out (g := g1) rfl
        have yf : W4.frozen? ⟨g1, k, none⟩ = false := Blk.frozen (show Blk W4 g1 _ cu from hcu) _
        have yl := (own_lt O14.out (g := g1) rfl).2
        clear hcu
        generalize hyy : st[k] = y at yc
        clear hyy
        obtain ⟨xc, xf'⟩ := xcell (W := W4)
        refine wp_region_quiet_tail 14 (by kernel_rfl) (by kernel_rfl) ?_
        simp only [List.take_succ_cons, List.take_zero, List.drop_succ_cons, List.drop_zero]
        repeat (first | go_big_quiet_step (fail) | quiet_step (fail))
        refine wpQuiet_nil ?_
        intro w5 hb5
        clear a0 a1 a2 a3 a4 a5 b0 b1 b2 b3 b4 al bl
        clear xc xf'
        have WB5 := Lib.hid (WB4.out.trans (hb5.mono WB4.out.size))
        have WR5 := Lib.hid (WR4.out.below hb5)
        have WX5 := Lib.hid (WX4.out.below hb5)
        have WG5 := Lib.hid (WG4.out.below hb5)
        have KX5 := Lib.hid (KX4.out.below hb5)
        have O15 := Lib.hid (owns_below O14.out hb5)
        have O25 := Lib.hid (owns_below O24.out hb5)
        have O35 := Lib.hid (owns_below O34.out hb5)
        have O45 := Lib.hid (owns_below O44.out hb5)
        clear WB4 WR4 WX4 WG4 KX4 O14 O24 O34 O44
        clear hb5
        clear yc yf yl hkl
        have hlt2 := own_lt O15.out (g := g1) rfl
        have yc := (Ls_of_row encI_len HE1.out O15.out).c k _ (List.getElem?_eq_getElem (show k < st.length by have := HE1.out; omega)) 0 _ rfl
        rw [Nat.zero_add, Nat.mul_one, Nat.add_zero] at yc
        obtain ⟨cu, hcu⟩ := own_blk O15.out (g := g1) rfl
        have yf : w5.frozen? ⟨g1, k, none⟩ = false := Blk.frozen (show Blk w5 g1 _ cu from hcu) _
        have yl := hlt2.2
        clear hcu hlt2
        obtain ⟨a0, a1, a2, a3, a4, a5, al⟩ := cells6 WG5.out
        obtain ⟨b0, b1, b2, b3, b4, bl⟩ := cells5 WX5.out
        have hgr := grownBy_set w5 g1 k (.int .i64 (wrap64 (y + xb)))
        have hlt := (own_lt O15.out (g := g1) rfl).1
        have WB6 := Lib.hid (WB5.out.setCell (p := ⟨g1, k, none⟩) (by simp; omega) (.int .i64 (wrap64 (y + xb))))
        have WR6 := Lib.hid (WR5.out.grown hgr (own_ne O15.out WR5.out (by decide)))
        have WX6 := Lib.hid (WX5.out.grown hgr (own_ne O15.out WX5.out (by decide)))
        have WG6 := Lib.hid (WG5.out.grown hgr (own_ne O15.out WG5.out (by decide)))
        have KX6 := Lib.hid (KX0.out.farq KX5.out hgr (fun r hr => by have e2 := Option.some.inj hr; omega))
        have O16 := Lib.hid (by have h := owns_set O15.out k (by rw [flat_len encI_len, HE1.out]; omega) (.int .i64 (wrap64 (y + xb))); rw [flat_setI1] at h; exact h)
        have O26 := Lib.hid (owns_grown O25.out hgr (fun r hr e => F21.out r hr e))
        have O36 := Lib.hid (owns_grown O35.out hgr (fun r hr e => F31.out r hr e))
        have O46 := Lib.hid (owns_grown O45.out hgr (fun r hr e => F41.out r hr e))
        clear hgr hlt
        go_upto_region 19 with fail
        clear yc yf yl
        clear a0 a1 a2 a3 a4 a5 b0 b1 b2 b3 b4 al bl
        generalize hW : w5.setCell ⟨g1, k, none⟩ (.int .i64 (wrap64 (y + xb))) = W6 at *
        clear hW
        clear WB5 WR5 WX5 WG5 KX5 O15 O25 O35 O45
        skip
        obtain ⟨c0, c1, c2, c3, c4, c5, cl⟩ := cells6 WR6.out
        obtain ⟨a0, a1, a2, a3, a4, a5, al⟩ := cells6 WG6.out
        obtain ⟨b0, b1, b2, b3, b4, bl⟩ := cells5 WX6.out
        obtain ⟨ff0, ff1, ff2, ff3, ff4, ff5⟩ := frz6 WR6.out
        go_wp2
        have hf := blk_set6 WR6.out (.int .i64 (val)) (.slice (some ⟨g1, 0, none⟩) n1 q1) (.slice (some ⟨g2, 0, none⟩) n1 q2) (.slice P3 n3 q3) (.int .i64 (way)) (.slice P4 n4 q4)
        obtain ⟨x0, x1, x2, x3, x4, x5, -⟩ := cells6 hf
        have hgz := grown_set6 W6 (w.heap.size + 2) (.int .i64 (val)) (.slice (some ⟨g1, 0, none⟩) n1 q1) (.slice (some ⟨g2, 0, none⟩) n1 q2) (.slice P3 n3 q3) (.int .i64 (way)) (.slice P4 n4 q4)
        exact bodyPost_ret (v := .agg #[.int .i64 val, .slice (some ⟨g1, 0, none⟩) n1 q1, .slice (some ⟨g2, 0, none⟩) n1 q2, .slice P3 n3 q3, .int .i64 way, .slice P4 n4 q4]) (by simp [results, Tryz.results51, go_sem, x0, x1, x2, x3, x4, x5]) rfl ⟨val, (some ⟨g1, 0, none⟩), n1, q1, (some ⟨g2, 0, none⟩), n1, q2, P3, n3, q3, way, P4, n4, q4, _, _, _, _, rfl, sat_of_owns (by rw [List.length_set]; exact HE1.out) (owns_grown O16.out hgz (fun r hr e => own_ne O16.out WR6.out (by decide) (by rw [hr, ← e]))), sat_of_owns (by rw [List.length_set]; exact HE2.out) (owns_grown O26.out hgz (fun r hr e => own_ne O26.out WR6.out (by decide) (by rw [hr, ← e]))), sat_of_owns HE3.out (owns_grown O36.out hgz (fun r hr e => own_ne O36.out WR6.out (by decide) (by rw [hr, ← e]))), sat_of_owns HE4.out (owns_grown O46.out hgz (fun r hr e => own_ne O46.out WR6.out (by decide) (by rw [hr, ← e]))), by omega, below_set6 WB6.out (by omega) _ _ _ _ _ _⟩
      case neg =>
        have z1 : (xw == 1) = false := by simp; omega
        have z2 : (xw == 2) = false := by simp; omega
        have z3 : (xw == 3) = true := by simp; omega
        have z4 : (xw == 4) = false := by simp; omega
        have z5 : (xw == 5) = false := by simp; omega
        have z6 : (xw == 6) = false := by simp; omega
        have p1 : decide ((0 : Int) < (n2 : Int)) = true := decide_eq_true (by omega)
        have p2 : decide (0 < n2) = true := decide_eq_true (by omega)
        have w1 : ((n1 : Int) == (n2 : Int)) = false := by simp; omega
        have w2 : (n1 == n2) = false := by simpa using cq
        have w3 : decide (n1 = n2) = false := decide_eq_false cq
        obtain ⟨a0, a1, a2, a3, a4, a5, al⟩ := cells6 WG1.out
        obtain ⟨b0, b1, b2, b3, b4, bl⟩ := cells5 WX1.out
        go_upto_region 19 with fail
        clear a0 a1 a2 a3 a4 a5 b0 b1 b2 b3 b4 al bl
        obtain ⟨c0, c1, c2, c3, c4, c5, cl⟩ := cells6 WR1.out
        obtain ⟨a0, a1, a2, a3, a4, a5, al⟩ := cells6 WG1.out
        obtain ⟨b0, b1, b2, b3, b4, bl⟩ := cells5 WX1.out
        obtain ⟨ff0, ff1, ff2, ff3, ff4, ff5⟩ := frz6 WR1.out
        go_wp2
        have hf := blk_set6 WR1.out (.int .i64 (val)) (.slice P1 n1 q1) (.slice P2 n2 q2) (.slice P3 n3 q3) (.int .i64 (way)) (.slice P4 n4 q4)
        obtain ⟨x0, x1, x2, x3, x4, x5, -⟩ := cells6 hf
        have hgz := grown_set6 W1 (w.heap.size + 2) (.int .i64 (val)) (.slice P1 n1 q1) (.slice P2 n2 q2) (.slice P3 n3 q3) (.int .i64 (way)) (.slice P4 n4 q4)
        exact bodyPost_ret (v := .agg #[.int .i64 val, .slice P1 n1 q1, .slice P2 n2 q2, .slice P3 n3 q3, .int .i64 way, .slice P4 n4 q4]) (by simp [results, Tryz.results51, go_sem, x0, x1, x2, x3, x4, x5]) rfl ⟨val, P1, n1, q1, P2, n2, q2, P3, n3, q3, way, P4, n4, q4, _, _, _, _, rfl, sat_of_owns HE1.out (owns_grown O11.out hgz (fun r hr e => own_ne O11.out WR1.out (by decide) (by rw [hr, ← e]))), sat_of_owns HE2.out (owns_grown O21.out hgz (fun r hr e => own_ne O21.out WR1.out (by decide) (by rw [hr, ← e]))), sat_of_owns HE3.out (owns_grown O31.out hgz (fun r hr e => own_ne O31.out WR1.out (by decide) (by rw [hr, ← e]))), sat_of_owns HE4.out (owns_grown O41.out hgz (fun r hr e => own_ne O41.out WR1.out (by decide) (by rw [hr, ← e]))), by omega, below_set6 WB1.out (by omega) _ _ _ _ _ _⟩
    case neg =>
      have z1 : (xw == 1) = false := by simp; omega
      have z2 : (xw == 2) = false := by simp; omega
      have z3 : (xw == 3) = true := by simp; omega
      have z4 : (xw == 4) = false := by simp; omega
      have z5 : (xw == 5) = false := by simp; omega
      have z6 : (xw == 6) = false := by simp; omega
      have p1 : decide ((0 : Int) < (n2 : Int)) = false := decide_eq_false (by omega)
      have p2 : decide (0 < n2) = false := decide_eq_false (by omega)
      obtain ⟨a0, a1, a2, a3, a4, a5, al⟩ := cells6 WG1.out
      obtain ⟨b0, b1, b2, b3, b4, bl⟩ := cells5 WX1.out
      go_upto_region 19 with fail
      clear a0 a1 a2 a3 a4 a5 b0 b1 b2 b3 b4 al bl
      obtain ⟨c0, c1, c2, c3, c4, c5, cl⟩ := cells6 WR1.out
      obtain ⟨a0, a1, a2, a3, a4, a5, al⟩ := cells6 WG1.out
      obtain ⟨b0, b1, b2, b3, b4, bl⟩ := cells5 WX1.out
      obtain ⟨ff0, ff1, ff2, ff3, ff4, ff5⟩ := frz6 WR1.out
      go_wp2
      have hf := blk_set6 WR1.out (.int .i64 (val)) (.slice P1 n1 q1) (.slice P2 n2 q2) (.slice P3 n3 q3) (.int .i64 (way)) (.slice P4 n4 q4)
      obtain ⟨x0, x1, x2, x3, x4, x5, -⟩ := cells6 hf
      have hgz := grown_set6 W1 (w.heap.size + 2) (.int .i64 (val)) (.slice P1 n1 q1) (.slice P2 n2 q2) (.slice P3 n3 q3) (.int .i64 (way)) (.slice P4 n4 q4)
      exact bodyPost_ret (v := .agg #[.int .i64 val, .slice P1 n1 q1, .slice P2 n2 q2, .slice P3 n3 q3, .int .i64 way, .slice P4 n4 q4]) (by simp [results, Tryz.results51, go_sem, x0, x1, x2, x3, x4, x5]) rfl ⟨val, P1, n1, q1, P2, n2, q2, P3, n3, q3, way, P4, n4, q4, _, _, _, _, rfl, sat_of_owns HE1.out (owns_grown O11.out hgz (fun r hr e => own_ne O11.out WR1.out (by decide) (by rw [hr, ← e]))), sat_of_owns HE2.out (owns_grown O21.out hgz (fun r hr e => own_ne O21.out WR1.out (by decide) (by rw [hr, ← e]))), sat_of_owns HE3.out (owns_grown O31.out hgz (fun r hr e => own_ne O31.out WR1.out (by decide) (by rw [hr, ← e]))), sat_of_owns HE4.out (owns_grown O41.out hgz (fun r hr e => own_ne O41.out WR1.out (by decide) (by rw [hr, ← e]))), by omega, below_set6 WB1.out (by omega) _ _ _ _ _ _⟩
  case neg =>
  by_cases c4 : xw = 4
  case pos =>
    have z1 : (xw == 1) = false := by simp; omega
    have z2 : (xw == 2) = false := by simp; omega
    have z3 : (xw == 3) = false := by simp; omega
    have z4 : (xw == 4) = true := by simp; omega
    have z5 : (xw == 5) = false := by simp; omega
    have z6 : (xw == 6) = false := by simp; omega
    obtain ⟨a0, a1, a2, a3, a4, a5, al⟩ := cells6 WG1.out
    obtain ⟨b0, b1, b2, b3, b4, bl⟩ := cells5 WX1.out
    obtain ⟨e0, e1, e2, e3, e4, e5⟩ := frz6 WG1.out
    have hgr := (grown_trans (grownBy_set W1 g 4 (.int .i64 xway)) (grownBy_set _ g 5 (.slice B4 m4 d4)))
    have WB2 := Lib.hid (((WB1.out.setCell (p := ⟨g, 4, none⟩) (by simp; omega) (.int .i64 xway)).setCell (p := ⟨g, 5, none⟩) (by simp; omega) (.slice B4 m4 d4)))
    have WR2 := Lib.hid (WR1.out.grown hgr (fun e => by have e2 := Option.some.inj e; omega))
    have WX2 := Lib.hid (WX1.out.grown hgr (fun e => by have e2 := Option.some.inj e; omega))
    have WG2 : Hid (Blk ((W1.setCell ⟨g, 4, none⟩ (.int .i64 xway)).setCell ⟨g, 5, none⟩ (.slice B4 m4 d4)) g 95 #[.int .i64 val, .slice P1 n1 q1, .slice P2 n2 q2, .slice P3 n3 q3, .int .i64 xway, .slice B4 m4 d4]) := Lib.hid (by have := ((WG1.out.set_ 4 (.int .i64 xway)).set_ 5 (.slice B4 m4 d4)); simpa using this)
    have KX2 := Lib.hid (KX0.out.farq KX1.out hgr (fun r hr => by have e2 := Option.some.inj hr; omega))
    have O12 := Lib.hid (owns_grown O11.out hgr (fun r hr e => own_ne O11.out WG1.out (by decide) (by rw [hr, ← e])))
    have O22 := Lib.hid (owns_grown O21.out hgr (fun r hr e => own_ne O21.out WG1.out (by decide) (by rw [hr, ← e])))
    have O32 := Lib.hid (owns_grown O31.out hgr (fun r hr e => own_ne O31.out WG1.out (by decide) (by rw [hr, ← e])))
    have O42 := Lib.hid (owns_grown O41.out hgr (fun r hr e => own_ne O41.out WG1.out (by decide) (by rw [hr, ← e])))
    clear hgr
    go_upto_region 19 with fail
    clear e0 e1 e2 e3 e4 e5
    clear a0 a1 a2 a3 a4 a5 b0 b1 b2 b3 b4 al bl
    generalize hW : (W1.setCell ⟨g, 4, none⟩ (.int .i64 xway)).setCell ⟨g, 5, none⟩ (.slice B4 m4 d4) = W2 at *
    clear hW
    clear WB1 WR1 WX1 WG1 KX1 O11 O21 O31 O41
    obtain ⟨c0, c1, c2, c3, c4, c5, cl⟩ := cells6 WR2.out
    obtain ⟨a0, a1, a2, a3, a4, a5, al⟩ := cells6 WG2.out
    obtain ⟨b0, b1, b2, b3, b4, bl⟩ := cells5 WX2.out
    obtain ⟨ff0, ff1, ff2, ff3, ff4, ff5⟩ := frz6 WR2.out
    go_wp2
    have hf := blk_set6 WR2.out (.int .i64 (val)) (.slice P1 n1 q1) (.slice P2 n2 q2) (.slice P3 n3 q3) (.int .i64 (xway)) (.slice B4 m4 d4)
    obtain ⟨x0, x1, x2, x3, x4, x5, -⟩ := cells6 hf
    have hgz := grown_set6 W2 (w.heap.size + 2) (.int .i64 (val)) (.slice P1 n1 q1) (.slice P2 n2 q2) (.slice P3 n3 q3) (.int .i64 (xway)) (.slice B4 m4 d4)
    exact bodyPost_ret (v := .agg #[.int .i64 val, .slice P1 n1 q1, .slice P2 n2 q2, .slice P3 n3 q3, .int .i64 xway, .slice B4 m4 d4]) (by simp [results, Tryz.results51, go_sem, x0, x1, x2, x3, x4, x5]) rfl ⟨val, P1, n1, q1, P2, n2, q2, P3, n3, q3, xway, B4, m4, d4, _, _, _, _, rfl, sat_of_owns HE1.out (owns_grown O12.out hgz (fun r hr e => own_ne O12.out WR2.out (by decide) (by rw [hr, ← e]))), sat_of_owns HE2.out (owns_grown O22.out hgz (fun r hr e => own_ne O22.out WR2.out (by decide) (by rw [hr, ← e]))), sat_of_owns HE3.out (owns_grown O32.out hgz (fun r hr e => own_ne O32.out WR2.out (by decide) (by rw [hr, ← e]))), HXo.out.farq KX2.out hgz (fun r hr => by have e2 := Option.some.inj hr; omega), l5, below_set6 WB2.out (by omega) _ _ _ _ _ _⟩
  case neg =>
  by_cases c5 : xw = 5
  case pos =>
    have z1 : (xw == 1) = false := by simp; omega
    have z2 : (xw == 2) = false := by simp; omega
    have z3 : (xw == 3) = false := by simp; omega
    have z4 : (xw == 4) = false := by simp; omega
    have z5 : (xw == 5) = true := by simp; omega
    have z6 : (xw == 6) = false := by simp; omega
    obtain ⟨a0, a1, a2, a3, a4, a5, al⟩ := cells6 WG1.out
    obtain ⟨b0, b1, b2, b3, b4, bl⟩ := cells5 WX1.out
    obtain ⟨e0, e1, e2, e3, e4, e5⟩ := frz6 WG1.out
    have hgr := (grownBy_set W1 g 4 (.int .i64 (wrap64 (3 - way))))
    have WB2 := Lib.hid ((WB1.out.setCell (p := ⟨g, 4, none⟩) (by simp; omega) (.int .i64 (wrap64 (3 - way)))))
    have WR2 := Lib.hid (WR1.out.grown hgr (fun e => by have e2 := Option.some.inj e; omega))
    have WX2 := Lib.hid (WX1.out.grown hgr (fun e => by have e2 := Option.some.inj e; omega))
    have WG2 : Hid (Blk (W1.setCell ⟨g, 4, none⟩ (.int .i64 (wrap64 (3 - way)))) g 95 #[.int .i64 val, .slice P1 n1 q1, .slice P2 n2 q2, .slice P3 n3 q3, .int .i64 (wrap64 (3 - way)), .slice P4 n4 q4]) := Lib.hid (by have := (WG1.out.set_ 4 (.int .i64 (wrap64 (3 - way)))); simpa using this)
    have KX2 := Lib.hid (KX0.out.farq KX1.out hgr (fun r hr => by have e2 := Option.some.inj hr; omega))
    have O12 := Lib.hid (owns_grown O11.out hgr (fun r hr e => own_ne O11.out WG1.out (by decide) (by rw [hr, ← e])))
    have O22 := Lib.hid (owns_grown O21.out hgr (fun r hr e => own_ne O21.out WG1.out (by decide) (by rw [hr, ← e])))
    have O32 := Lib.hid (owns_grown O31.out hgr (fun r hr e => own_ne O31.out WG1.out (by decide) (by rw [hr, ← e])))
    have O42 := Lib.hid (owns_grown O41.out hgr (fun r hr e => own_ne O41.out WG1.out (by decide) (by rw [hr, ← e])))
    clear hgr
    go_upto_region 19 with fail
    clear e0 e1 e2 e3 e4 e5
    clear a0 a1 a2 a3 a4 a5 b0 b1 b2 b3 b4 al bl
    generalize hW : W1.setCell ⟨g, 4, none⟩ (.int .i64 (wrap64 (3 - way))) = W2 at *
    clear hW
    clear WB1 WR1 WX1 WG1 KX1 O11 O21 O31 O41
    obtain ⟨c0, c1, c2, c3, c4, c5, cl⟩ := cells6 WR2.out
    obtain ⟨a0, a1, a2, a3, a4, a5, al⟩ := cells6 WG2.out
    obtain ⟨b0, b1, b2, b3, b4, bl⟩ := cells5 WX2.out
    obtain ⟨ff0, ff1, ff2, ff3, ff4, ff5⟩ := frz6 WR2.out
    go_wp2
    have hf := blk_set6 WR2.out (.int .i64 (val)) (.slice P1 n1 q1) (.slice P2 n2 q2) (.slice P3 n3 q3) (.int .i64 ((wrap64 (3 - way)))) (.slice P4 n4 q4)
    obtain ⟨x0, x1, x2, x3, x4, x5, -⟩ := cells6 hf
    have hgz := grown_set6 W2 (w.heap.size + 2) (.int .i64 (val)) (.slice P1 n1 q1) (.slice P2 n2 q2) (.slice P3 n3 q3) (.int .i64 ((wrap64 (3 - way)))) (.slice P4 n4 q4)
    exact bodyPost_ret (v := .agg #[.int .i64 val, .slice P1 n1 q1, .slice P2 n2 q2, .slice P3 n3 q3, .int .i64 (wrap64 (3 - way)), .slice P4 n4 q4]) (by simp [results, Tryz.results51, go_sem, x0, x1, x2, x3, x4, x5]) rfl ⟨val, P1, n1, q1, P2, n2, q2, P3, n3, q3, (wrap64 (3 - way)), P4, n4, q4, _, _, _, _, rfl, sat_of_owns HE1.out (owns_grown O12.out hgz (fun r hr e => own_ne O12.out WR2.out (by decide) (by rw [hr, ← e]))), sat_of_owns HE2.out (owns_grown O22.out hgz (fun r hr e => own_ne O22.out WR2.out (by decide) (by rw [hr, ← e]))), sat_of_owns HE3.out (owns_grown O32.out hgz (fun r hr e => own_ne O32.out WR2.out (by decide) (by rw [hr, ← e]))), sat_of_owns HE4.out (owns_grown O42.out hgz (fun r hr e => own_ne O42.out WR2.out (by decide) (by rw [hr, ← e]))), by omega, below_set6 WB2.out (by omega) _ _ _ _ _ _⟩
  case neg =>
  by_cases c6 : xw = 6
  case pos =>
    by_cases c0 : 0 < n4
    case pos =>
      have z1 : (xw == 1) = false := by simp; omega
      have z2 : (xw == 2) = false := by simp; omega
      have z3 : (xw == 3) = false := by simp; omega
      have z4 : (xw == 4) = false := by simp; omega
      have z5 : (xw == 5) = false := by simp; omega
      have z6 : (xw == 6) = true := by simp; omega
      have p1 : decide ((0 : Int) < (n4 : Int)) = true := decide_eq_true (by omega)
      have p2 : decide (0 < n4) = true := decide_eq_true (by omega)
      obtain ⟨g4, qq4, he4⟩ := Joins.ownsRow_form O41.out (by omega)
      cases he4
      obtain ⟨a0, a1, a2, a3, a4, a5, al⟩ := cells6 WG1.out
      obtain ⟨b0, b1, b2, b3, b4, bl⟩ := cells5 WX1.out
      have HC := Lib.hid (bent1_any n4 (by omega) (by omega) (w.heap.size + 1) xw xa xb xway B4 m4 d4 W1 WX1.out)
      go_upto_region 18 with (go_at_call 105; go_loud (with_reducible refine HC.out.mono ?_); go_loud (rintro e u2 ⟨k, hk, rfl, hb⟩))
      clear a0 a1 a2 a3 a4 a5 b0 b1 b2 b3 b4 al bl
      clear HC
      have WB2 := Lib.hid (WB1.out.trans (hb.mono WB1.out.size))
      have WR2 := Lib.hid (WR1.out.below hb)
      have WX2 := Lib.hid (WX1.out.below hb)
      have WG2 := Lib.hid (WG1.out.below hb)
      have KX2 := Lib.hid (KX1.out.below hb)
      have O12 := Lib.hid (owns_below O11.out hb)
      have O22 := Lib.hid (owns_below O21.out hb)
      have O32 := Lib.hid (owns_below O31.out hb)
      have O42 := Lib.hid (owns_below O41.out hb)
      clear WB1 WR1 WX1 WG1 KX1 O11 O21 O31 O41
      clear hb
      have hcap := owns_cap' O42.out
      obtain ⟨r5, gr5⟩ := owns_erase HE4.out hk O42.out
      by_cases hq : q4 = k + 1
      case pos =>
        subst hq
        have hk1 : k ≤ (k + 1) := by omega
        have hk2 : k + 1 ≤ (k + 1) := by omega
        have hk3 : k ≤ n4 := by omega
        have hk4 : k + 1 ≤ n4 := by omega
        have R5 := Lib.hid r5
        have G5 := Lib.hid gr5
        clear r5 gr5
        have NG := Lib.hid (own_ne O42.out WG2.out (by decide))
        refine wp_region_preC 14 [(11, 181)] (fun v => u2.grownBy v (some g4)) (fun ls vs v => (ls 11 = false → v.ownsRow V0.heap.size 3 1 (.slice (some ⟨g4, 0, none⟩) n4 (k + 1)) n4 (s.flatMap encI)) ∧ (ls 11 = true → vs 11 = .slice (some ⟨g4, 0, none⟩) (n4 - 1) (k + 1) ∧ v.ownsRow V0.heap.size 3 1 (.slice (some ⟨g4, 0, none⟩) (n4 - 1) (k + 1)) (n4 - 1) ((s.eraseIdx k).flatMap encI))) (by kernel_rfl) (by kernel_rfl) (grown_refl _ _) (fun v v' h kk => grown_below h kk) (fun v hb => ⟨fun _ => owns_below O42.out hb, fun h => (by cases h)⟩) (fun ls vs v v' _ h kk => ⟨fun a => owns_below (h.1 a) kk, fun a => ⟨(h.2 a).1, owns_below (h.2 a).2 kk⟩⟩) ?_
        apply Exists.intro
        refine ⟨?walk, ?loud, ?last⟩
        case walk =>
          intro V hV
          have HTv := WG2.out.grown hV NG.out
          have a5 := HTv.cell 5
          simp only [List.getElem?_toArray, List.getElem?_cons_zero, List.getElem?_cons_succ] at a5
          have al := HTv.lt
          clear HTv
          obtain ⟨xc, xf'⟩ := xcell (W := V)
          simp only [List.take_succ_cons, List.take_zero, qOf, isLoud, List.any_cons, List.any_nil, Nat.reduceBEq, Bool.or_false, Nat.reduceAdd, Bool.false_eq_true, if_true, if_false, beq_self_eq_true, Nat.zero_add]
          repeat (first | go_big_quiet_step (fail) | quiet_step (fail))
          exact wpQuiet_nil rfl
        case loud =>
          rintro pp hpp vs v hC ls hI hls hw o ho
          simp only [List.mem_cons, List.not_mem_nil, or_false] at hpp
          subst hpp
          have r0 := hI.1 hls
          obtain ⟨r6, gr6⟩ := owns_erase HE4.out hk r0
          have hln : ((s.drop (k + 1)).flatMap encI).length = (n4 - (k + 1)) * 1 := by rw [flat_len encI_len, List.length_drop]; have := HE4.out; omega
          simp only [List.getElem?_cons_succ, List.getElem?_cons_zero, Option.some.injEq] at ho
          subst ho
          refine loudAt_append_room (.tmp 174) (.tmp 180) 42 rfl 3 i0 1 Tryz.underlying42 HI.out.1 HI.out.2.2.1 g4 k (k + 1) rfl ⟨g4, 0, none⟩ (n4 - (k + 1)) (k + 1 - (k + 1)) ((s.drop (k + 1)).flatMap encI) ?gx hln ?gc (encI_one _) (by omega) ?gsp ?_
          case gx => simp [putsL, Act.put, Act.eval]; omega
          case gc =>
            intro t u hu; rw [List.drop_of_length_le (by have := HE4.out; omega)] at hu; simp at hu
          case gsp =>
            intro t ht
            rw [hln] at ht
            obtain ⟨cu, hcu⟩ := own_blk r0 (g := g4) rfl
            refine ⟨?_, Blk.frozen (show Blk v g4 _ cu from hcu) _⟩
            have := r0.cells (g := g4) rfl (0 + k * 1 + t) _ (List.getElem?_eq_getElem (by rw [flat_len encI_len]; have := HE4.out; omega))
            rw [addr_add, Nat.zero_add] at this
            rw [this]; rfl
          rw [show k + (n4 - (k + 1)) = n4 - 1 by omega]
          exact ⟨grown_trans hC gr6, fun a => (by simp [updB] at a), fun _ => ⟨by simp [upd], r6⟩⟩
        case last =>
        rintro ls vs V hV hI hls
        obtain ⟨e11, r11⟩ := hI.2 (hls (11, 181) (by simp))
        have hlt := (own_lt O42.out (g := g4) rfl).1
        have WB3 := Lib.hid (WB2.out.grown hV WB2.out.size (fun r hr => by have e2 := Option.some.inj hr; omega))
        have WR3 := Lib.hid (WR2.out.grown hV (own_ne O42.out WR2.out (by decide)))
        have WX3 := Lib.hid (WX2.out.grown hV (own_ne O42.out WX2.out (by decide)))
        have WG3 := Lib.hid (WG2.out.grown hV NG.out)
        have KX3 := Lib.hid (KX0.out.farq KX2.out hV (fun r hr => by have e2 := Option.some.inj hr; omega))
        have O13 := Lib.hid (owns_grown O12.out hV (fun r hr e => F14.out r hr e))
        have O23 := Lib.hid (owns_grown O22.out hV (fun r hr e => F24.out r hr e))
        have O33 := Lib.hid (owns_grown O32.out hV (fun r hr e => F34.out r hr e))
        have O43 := Lib.hid r11
        clear hI hls hV r11 hlt NG R5 G5
        simp only [putsL, List.foldl_cons, List.foldl_nil, List.drop_succ_cons, List.drop_zero, Act.put, e11, List.setIfInBounds_toArray, List.set_cons_succ, List.set_cons_zero]
        clear e11
        clear WB2 WR2 WX2 WG2 KX2 O12 O22 O32 O42
        obtain ⟨a0, a1, a2, a3, a4, a5, al⟩ := cells6 WG3.out
        obtain ⟨b0, b1, b2, b3, b4, bl⟩ := cells5 WX3.out
        obtain ⟨e0, e1, e2, e3, e4, e5⟩ := frz6 WG3.out
        have hgr := (grownBy_set V g 5 (.slice (some ⟨g4, 0, none⟩) (n4 - 1) (k + 1)))
        have WB4 := Lib.hid ((WB3.out.setCell (p := ⟨g, 5, none⟩) (by simp; omega) (.slice (some ⟨g4, 0, none⟩) (n4 - 1) (k + 1))))
        have WR4 := Lib.hid (WR3.out.grown hgr (fun e => by have e2 := Option.some.inj e; omega))
        have WX4 := Lib.hid (WX3.out.grown hgr (fun e => by have e2 := Option.some.inj e; omega))
        have WG4 : Hid (Blk (V.setCell ⟨g, 5, none⟩ (.slice (some ⟨g4, 0, none⟩) (n4 - 1) (k + 1))) g 95 #[.int .i64 val, .slice P1 n1 q1, .slice P2 n2 q2, .slice P3 n3 q3, .int .i64 way, .slice (some ⟨g4, 0, none⟩) (n4 - 1) (k + 1)]) := Lib.hid (by have := (WG3.out.set_ 5 (.slice (some ⟨g4, 0, none⟩) (n4 - 1) (k + 1))); simpa using this)
        have KX4 := Lib.hid (KX0.out.farq KX3.out hgr (fun r hr => by have e2 := Option.some.inj hr; omega))
        have O14 := Lib.hid (owns_grown O13.out hgr (fun r hr e => own_ne O13.out WG3.out (by decide) (by rw [hr, ← e])))
        have O24 := Lib.hid (owns_grown O23.out hgr (fun r hr e => own_ne O23.out WG3.out (by decide) (by rw [hr, ← e])))
        have O34 := Lib.hid (owns_grown O33.out hgr (fun r hr e => own_ne O33.out WG3.out (by decide) (by rw [hr, ← e])))
        have O44 := Lib.hid (owns_grown O43.out hgr (fun r hr e => own_ne O43.out WG3.out (by decide) (by rw [hr, ← e])))
        clear hgr
        go_upto_region 19 with fail
        clear e0 e1 e2 e3 e4 e5
        clear a0 a1 a2 a3 a4 a5 b0 b1 b2 b3 b4 al bl
        generalize hW : V.setCell ⟨g, 5, none⟩ (.slice (some ⟨g4, 0, none⟩) (n4 - 1) (k + 1)) = W4 at *
        clear hW
        clear WB3 WR3 WX3 WG3 KX3 O13 O23 O33 O43
        obtain ⟨c0, c1, c2, c3, c4, c5, cl⟩ := cells6 WR4.out
        obtain ⟨a0, a1, a2, a3, a4, a5, al⟩ := cells6 WG4.out
        obtain ⟨b0, b1, b2, b3, b4, bl⟩ := cells5 WX4.out
        obtain ⟨ff0, ff1, ff2, ff3, ff4, ff5⟩ := frz6 WR4.out
        go_wp2
        have hf := blk_set6 WR4.out (.int .i64 (val)) (.slice P1 n1 q1) (.slice P2 n2 q2) (.slice P3 n3 q3) (.int .i64 (way)) (.slice (some ⟨g4, 0, none⟩) (n4 - 1) (k + 1))
        obtain ⟨x0, x1, x2, x3, x4, x5, -⟩ := cells6 hf
        have hgz := grown_set6 W4 (w.heap.size + 2) (.int .i64 (val)) (.slice P1 n1 q1) (.slice P2 n2 q2) (.slice P3 n3 q3) (.int .i64 (way)) (.slice (some ⟨g4, 0, none⟩) (n4 - 1) (k + 1))
        exact bodyPost_ret (v := .agg #[.int .i64 val, .slice P1 n1 q1, .slice P2 n2 q2, .slice P3 n3 q3, .int .i64 way, .slice (some ⟨g4, 0, none⟩) (n4 - 1) (k + 1)]) (by simp [results, Tryz.results51, go_sem, x0, x1, x2, x3, x4, x5]) rfl ⟨val, P1, n1, q1, P2, n2, q2, P3, n3, q3, way, (some ⟨g4, 0, none⟩), (n4 - 1), (k + 1), _, _, _, _, rfl, sat_of_owns HE1.out (owns_grown O14.out hgz (fun r hr e => own_ne O14.out WR4.out (by decide) (by rw [hr, ← e]))), sat_of_owns HE2.out (owns_grown O24.out hgz (fun r hr e => own_ne O24.out WR4.out (by decide) (by rw [hr, ← e]))), sat_of_owns HE3.out (owns_grown O34.out hgz (fun r hr e => own_ne O34.out WR4.out (by decide) (by rw [hr, ← e]))), sat_of_owns (show (s.eraseIdx k).length = n4 - 1 by rw [List.length_eraseIdx, if_pos (by have := HE4.out; omega), HE4.out]) (owns_grown O44.out hgz (fun r hr e => own_ne O44.out WR4.out (by decide) (by rw [hr, ← e]))), by omega, below_set6 WB4.out (by omega) _ _ _ _ _ _⟩
      case neg =>
        have hk1 : k ≤ q4 := by omega
        have hk2 : k + 1 ≤ q4 := by omega
        have hk3 : k ≤ n4 := by omega
        have hk4 : k + 1 ≤ n4 := by omega
        have hk5 : ¬ k + 1 = q4 := fun e => hq e.symm
        have R5 := Lib.hid r5
        have G5 := Lib.hid gr5
        clear r5 gr5
        have NG := Lib.hid (own_ne O42.out WG2.out (by decide))
        refine wp_region_preC 14 [(11, 181)] (fun v => u2.grownBy v (some g4)) (fun ls vs v => (ls 11 = false → v.ownsRow V0.heap.size 3 1 (.slice (some ⟨g4, 0, none⟩) n4 q4) n4 (s.flatMap encI)) ∧ (ls 11 = true → vs 11 = .slice (some ⟨g4, 0, none⟩) (n4 - 1) q4 ∧ v.ownsRow V0.heap.size 3 1 (.slice (some ⟨g4, 0, none⟩) (n4 - 1) q4) (n4 - 1) ((s.eraseIdx k).flatMap encI))) (by kernel_rfl) (by kernel_rfl) (grown_refl _ _) (fun v v' h kk => grown_below h kk) (fun v hb => ⟨fun _ => owns_below O42.out hb, fun h => (by cases h)⟩) (fun ls vs v v' _ h kk => ⟨fun a => owns_below (h.1 a) kk, fun a => ⟨(h.2 a).1, owns_below (h.2 a).2 kk⟩⟩) ?_
        apply Exists.intro
        refine ⟨?walk, ?loud, ?last⟩
        case walk =>
          intro V hV
          have HTv := WG2.out.grown hV NG.out
          have a5 := HTv.cell 5
          simp only [List.getElem?_toArray, List.getElem?_cons_zero, List.getElem?_cons_succ] at a5
          have al := HTv.lt
          clear HTv
          obtain ⟨xc, xf'⟩ := xcell (W := V)
          simp only [List.take_succ_cons, List.take_zero, qOf, isLoud, List.any_cons, List.any_nil, Nat.reduceBEq, Bool.or_false, Nat.reduceAdd, Bool.false_eq_true, if_true, if_false, beq_self_eq_true, Nat.zero_add]
          repeat (first | go_big_quiet_step (fail) | quiet_step (fail))
          exact wpQuiet_nil rfl
        case loud =>
          rintro pp hpp vs v hC ls hI hls hw o ho
          simp only [List.mem_cons, List.not_mem_nil, or_false] at hpp
          subst hpp
          have r0 := hI.1 hls
          obtain ⟨r6, gr6⟩ := owns_erase HE4.out hk r0
          have hln : ((s.drop (k + 1)).flatMap encI).length = (n4 - (k + 1)) * 1 := by rw [flat_len encI_len, List.length_drop]; have := HE4.out; omega
          simp only [List.getElem?_cons_succ, List.getElem?_cons_zero, Option.some.injEq] at ho
          subst ho
          refine loudAt_append_room (.tmp 174) (.tmp 180) 42 rfl 3 i0 1 Tryz.underlying42 HI.out.1 HI.out.2.2.1 g4 k q4 rfl ⟨g4, k + 1, none⟩ (n4 - (k + 1)) (q4 - (k + 1)) ((s.drop (k + 1)).flatMap encI) ?gx hln ?gc (encI_one _) (by omega) ?gsp ?_
          case gx => rfl
          case gc =>
            intro t u hu
            rw [addr_add]
            have := ((Ls_of_row encI_len HE4.out r0).dropJ (k + 1)).flat encI_len (by decide) t u hu
            rwa [Nat.zero_add] at this
          case gsp =>
            intro t ht
            rw [hln] at ht
            obtain ⟨cu, hcu⟩ := own_blk r0 (g := g4) rfl
            refine ⟨?_, Blk.frozen (show Blk v g4 _ cu from hcu) _⟩
            have := r0.cells (g := g4) rfl (0 + k * 1 + t) _ (List.getElem?_eq_getElem (by rw [flat_len encI_len]; have := HE4.out; omega))
            rw [addr_add, Nat.zero_add] at this
            rw [this]; rfl
          rw [show k + (n4 - (k + 1)) = n4 - 1 by omega]
          exact ⟨grown_trans hC gr6, fun a => (by simp [updB] at a), fun _ => ⟨by simp [upd], r6⟩⟩
        case last =>
        rintro ls vs V hV hI hls
        obtain ⟨e11, r11⟩ := hI.2 (hls (11, 181) (by simp))
        have hlt := (own_lt O42.out (g := g4) rfl).1
        have WB3 := Lib.hid (WB2.out.grown hV WB2.out.size (fun r hr => by have e2 := Option.some.inj hr; omega))
        have WR3 := Lib.hid (WR2.out.grown hV (own_ne O42.out WR2.out (by decide)))
        have WX3 := Lib.hid (WX2.out.grown hV (own_ne O42.out WX2.out (by decide)))
        have WG3 := Lib.hid (WG2.out.grown hV NG.out)
        have KX3 := Lib.hid (KX0.out.farq KX2.out hV (fun r hr => by have e2 := Option.some.inj hr; omega))
        have O13 := Lib.hid (owns_grown O12.out hV (fun r hr e => F14.out r hr e))
        have O23 := Lib.hid (owns_grown O22.out hV (fun r hr e => F24.out r hr e))
        have O33 := Lib.hid (owns_grown O32.out hV (fun r hr e => F34.out r hr e))
        have O43 := Lib.hid r11
        clear hI hls hV r11 hlt NG R5 G5
        simp only [putsL, List.foldl_cons, List.foldl_nil, List.drop_succ_cons, List.drop_zero, Act.put, e11, List.setIfInBounds_toArray, List.set_cons_succ, List.set_cons_zero]
        clear e11
        clear WB2 WR2 WX2 WG2 KX2 O12 O22 O32 O42
        obtain ⟨a0, a1, a2, a3, a4, a5, al⟩ := cells6 WG3.out
        obtain ⟨b0, b1, b2, b3, b4, bl⟩ := cells5 WX3.out
        obtain ⟨e0, e1, e2, e3, e4, e5⟩ := frz6 WG3.out
        have hgr := (grownBy_set V g 5 (.slice (some ⟨g4, 0, none⟩) (n4 - 1) q4))
        have WB4 := Lib.hid ((WB3.out.setCell (p := ⟨g, 5, none⟩) (by simp; omega) (.slice (some ⟨g4, 0, none⟩) (n4 - 1) q4)))
        have WR4 := Lib.hid (WR3.out.grown hgr (fun e => by have e2 := Option.some.inj e; omega))
        have WX4 := Lib.hid (WX3.out.grown hgr (fun e => by have e2 := Option.some.inj e; omega))
        have WG4 : Hid (Blk (V.setCell ⟨g, 5, none⟩ (.slice (some ⟨g4, 0, none⟩) (n4 - 1) q4)) g 95 #[.int .i64 val, .slice P1 n1 q1, .slice P2 n2 q2, .slice P3 n3 q3, .int .i64 way, .slice (some ⟨g4, 0, none⟩) (n4 - 1) q4]) := Lib.hid (by have := (WG3.out.set_ 5 (.slice (some ⟨g4, 0, none⟩) (n4 - 1) q4)); simpa using this)
        have KX4 := Lib.hid (KX0.out.farq KX3.out hgr (fun r hr => by have e2 := Option.some.inj hr; omega))
        have O14 := Lib.hid (owns_grown O13.out hgr (fun r hr e => own_ne O13.out WG3.out (by decide) (by rw [hr, ← e])))
        have O24 := Lib.hid (owns_grown O23.out hgr (fun r hr e => own_ne O23.out WG3.out (by decide) (by rw [hr, ← e])))
        have O34 := Lib.hid (owns_grown O33.out hgr (fun r hr e => own_ne O33.out WG3.out (by decide) (by rw [hr, ← e])))
        have O44 := Lib.hid (owns_grown O43.out hgr (fun r hr e => own_ne O43.out WG3.out (by decide) (by rw [hr, ← e])))
        clear hgr
        go_upto_region 19 with fail
        clear e0 e1 e2 e3 e4 e5
        clear a0 a1 a2 a3 a4 a5 b0 b1 b2 b3 b4 al bl
        generalize hW : V.setCell ⟨g, 5, none⟩ (.slice (some ⟨g4, 0, none⟩) (n4 - 1) q4) = W4 at *
        clear hW
        clear WB3 WR3 WX3 WG3 KX3 O13 O23 O33 O43
        obtain ⟨c0, c1, c2, c3, c4, c5, cl⟩ := cells6 WR4.out
        obtain ⟨a0, a1, a2, a3, a4, a5, al⟩ := cells6 WG4.out
        obtain ⟨b0, b1, b2, b3, b4, bl⟩ := cells5 WX4.out
        obtain ⟨ff0, ff1, ff2, ff3, ff4, ff5⟩ := frz6 WR4.out
        go_wp2
        have hf := blk_set6 WR4.out (.int .i64 (val)) (.slice P1 n1 q1) (.slice P2 n2 q2) (.slice P3 n3 q3) (.int .i64 (way)) (.slice (some ⟨g4, 0, none⟩) (n4 - 1) q4)
        obtain ⟨x0, x1, x2, x3, x4, x5, -⟩ := cells6 hf
        have hgz := grown_set6 W4 (w.heap.size + 2) (.int .i64 (val)) (.slice P1 n1 q1) (.slice P2 n2 q2) (.slice P3 n3 q3) (.int .i64 (way)) (.slice (some ⟨g4, 0, none⟩) (n4 - 1) q4)
        exact bodyPost_ret (v := .agg #[.int .i64 val, .slice P1 n1 q1, .slice P2 n2 q2, .slice P3 n3 q3, .int .i64 way, .slice (some ⟨g4, 0, none⟩) (n4 - 1) q4]) (by simp [results, Tryz.results51, go_sem, x0, x1, x2, x3, x4, x5]) rfl ⟨val, P1, n1, q1, P2, n2, q2, P3, n3, q3, way, (some ⟨g4, 0, none⟩), (n4 - 1), q4, _, _, _, _, rfl, sat_of_owns HE1.out (owns_grown O14.out hgz (fun r hr e => own_ne O14.out WR4.out (by decide) (by rw [hr, ← e]))), sat_of_owns HE2.out (owns_grown O24.out hgz (fun r hr e => own_ne O24.out WR4.out (by decide) (by rw [hr, ← e]))), sat_of_owns HE3.out (owns_grown O34.out hgz (fun r hr e => own_ne O34.out WR4.out (by decide) (by rw [hr, ← e]))), sat_of_owns (show (s.eraseIdx k).length = n4 - 1 by rw [List.length_eraseIdx, if_pos (by have := HE4.out; omega), HE4.out]) (owns_grown O44.out hgz (fun r hr e => own_ne O44.out WR4.out (by decide) (by rw [hr, ← e]))), by omega, below_set6 WB4.out (by omega) _ _ _ _ _ _⟩
    case neg =>
      have z1 : (xw == 1) = false := by simp; omega
      have z2 : (xw == 2) = false := by simp; omega
      have z3 : (xw == 3) = false := by simp; omega
      have z4 : (xw == 4) = false := by simp; omega
      have z5 : (xw == 5) = false := by simp; omega
      have z6 : (xw == 6) = true := by simp; omega
      have p1 : decide ((0 : Int) < (n4 : Int)) = false := decide_eq_false (by omega)
      have p2 : decide (0 < n4) = false := decide_eq_false (by omega)
      obtain ⟨a0, a1, a2, a3, a4, a5, al⟩ := cells6 WG1.out
      obtain ⟨b0, b1, b2, b3, b4, bl⟩ := cells5 WX1.out
      go_upto_region 19 with fail
      clear a0 a1 a2 a3 a4 a5 b0 b1 b2 b3 b4 al bl
      obtain ⟨c0, c1, c2, c3, c4, c5, cl⟩ := cells6 WR1.out
      obtain ⟨a0, a1, a2, a3, a4, a5, al⟩ := cells6 WG1.out
      obtain ⟨b0, b1, b2, b3, b4, bl⟩ := cells5 WX1.out
      obtain ⟨ff0, ff1, ff2, ff3, ff4, ff5⟩ := frz6 WR1.out
      go_wp2
      have hf := blk_set6 WR1.out (.int .i64 (val)) (.slice P1 n1 q1) (.slice P2 n2 q2) (.slice P3 n3 q3) (.int .i64 (way)) (.slice P4 n4 q4)
      obtain ⟨x0, x1, x2, x3, x4, x5, -⟩ := cells6 hf
      have hgz := grown_set6 W1 (w.heap.size + 2) (.int .i64 (val)) (.slice P1 n1 q1) (.slice P2 n2 q2) (.slice P3 n3 q3) (.int .i64 (way)) (.slice P4 n4 q4)
      exact bodyPost_ret (v := .agg #[.int .i64 val, .slice P1 n1 q1, .slice P2 n2 q2, .slice P3 n3 q3, .int .i64 way, .slice P4 n4 q4]) (by simp [results, Tryz.results51, go_sem, x0, x1, x2, x3, x4, x5]) rfl ⟨val, P1, n1, q1, P2, n2, q2, P3, n3, q3, way, P4, n4, q4, _, _, _, _, rfl, sat_of_owns HE1.out (owns_grown O11.out hgz (fun r hr e => own_ne O11.out WR1.out (by decide) (by rw [hr, ← e]))), sat_of_owns HE2.out (owns_grown O21.out hgz (fun r hr e => own_ne O21.out WR1.out (by decide) (by rw [hr, ← e]))), sat_of_owns HE3.out (owns_grown O31.out hgz (fun r hr e => own_ne O31.out WR1.out (by decide) (by rw [hr, ← e]))), sat_of_owns HE4.out (owns_grown O41.out hgz (fun r hr e => own_ne O41.out WR1.out (by decide) (by rw [hr, ← e]))), by omega, below_set6 WB1.out (by omega) _ _ _ _ _ _⟩
  case neg =>
    have z1 : (xw == 1) = false := by simp; omega
    have z2 : (xw == 2) = false := by simp; omega
    have z3 : (xw == 3) = false := by simp; omega
    have z4 : (xw == 4) = false := by simp; omega
    have z5 : (xw == 5) = false := by simp; omega
    have z6 : (xw == 6) = false := by simp; omega
    obtain ⟨a0, a1, a2, a3, a4, a5, al⟩ := cells6 WG1.out
    obtain ⟨b0, b1, b2, b3, b4, bl⟩ := cells5 WX1.out
    go_upto_region 19 with fail
    clear a0 a1 a2 a3 a4 a5 b0 b1 b2 b3 b4 al bl
    obtain ⟨c0, c1, c2, c3, c4, c5, cl⟩ := cells6 WR1.out
    obtain ⟨a0, a1, a2, a3, a4, a5, al⟩ := cells6 WG1.out
    obtain ⟨b0, b1, b2, b3, b4, bl⟩ := cells5 WX1.out
    obtain ⟨ff0, ff1, ff2, ff3, ff4, ff5⟩ := frz6 WR1.out
    go_wp2
    have hf := blk_set6 WR1.out (.int .i64 (val)) (.slice P1 n1 q1) (.slice P2 n2 q2) (.slice P3 n3 q3) (.int .i64 (way)) (.slice P4 n4 q4)
    obtain ⟨x0, x1, x2, x3, x4, x5, -⟩ := cells6 hf
    have hgz := grown_set6 W1 (w.heap.size + 2) (.int .i64 (val)) (.slice P1 n1 q1) (.slice P2 n2 q2) (.slice P3 n3 q3) (.int .i64 (way)) (.slice P4 n4 q4)
    exact bodyPost_ret (v := .agg #[.int .i64 val, .slice P1 n1 q1, .slice P2 n2 q2, .slice P3 n3 q3, .int .i64 way, .slice P4 n4 q4]) (by simp [results, Tryz.results51, go_sem, x0, x1, x2, x3, x4, x5]) rfl ⟨val, P1, n1, q1, P2, n2, q2, P3, n3, q3, way, P4, n4, q4, _, _, _, _, rfl, sat_of_owns HE1.out (owns_grown O11.out hgz (fun r hr e => own_ne O11.out WR1.out (by decide) (by rw [hr, ← e]))), sat_of_owns HE2.out (owns_grown O21.out hgz (fun r hr e => own_ne O21.out WR1.out (by decide) (by rw [hr, ← e]))), sat_of_owns HE3.out (owns_grown O31.out hgz (fun r hr e => own_ne O31.out WR1.out (by decide) (by rw [hr, ← e]))), sat_of_owns HE4.out (owns_grown O41.out hgz (fun r hr e => own_ne O41.out WR1.out (by decide) (by rw [hr, ← e]))), by omega, below_set6 WB1.out (by omega) _ _ _ _ _ _⟩
end Go.Proofs.YtighfmgkoepfkaaGreat

namespace Go.Proofs.YtighfmgkoepfkaaGreat
open Go.RowKit Go.WideShapes Go.ChangeShapes Go.Joins Go.Deep

theorem ask_far {w w' : World} {hs : List Hd} {ms : List Mv} {kind id : Int} {gr : Bool} {e : Ending} (h : AskOut w hs ms kind id gr e w') :
    ∃ (A1 : Option Addr) (n1 c1 : Nat) (A2 : Option Addr) (n2 c2 : Nat) (A3 : Option Addr) (n3 c3 : Nat) (way : Int) (A4 : Option Addr) (n4 c4 : Nat) (st ed ma s : List Int),
      e = .returned (.tuple #[vLi (asV hs ms kind id gr) A1 n1 c1 A2 n2 c2 A3 n3 c3 way A4 n4 c4, .int .i64 (asE hs ms kind id)]) ∧ SAt encI 1 w' A1 n1 st ∧ SAt encI 1 w' A2 n2 ed ∧ SAt encI 1 w' A3 n3 ma ∧ SAt encI 1 w' A4 n4 s ∧
      (n1 ≤ 9 ∧ n2 ≤ 9 ∧ n3 ≤ 24 ∧ n4 ≤ 9) ∧ (n1 ≤ c1 ∧ n2 ≤ c2 ∧ n3 ≤ c3 ∧ n4 ≤ c4) ∧ (asE hs ms kind id = 0 → LimF hs ms (placeN hs ms kind id) gr st ed ma way s ∧ valAt st ed ma (placeN hs ms kind id) = asV hs ms kind id gr) ∧ (asE hs ms kind id ≠ 0 → (n1 = 0 ∧ n2 = 0 ∧ n3 = 0 ∧ n4 = 0) ∧ way = 0 ∧ asV hs ms kind id gr = 0) ∧ ((∀ a, A1 = some a → w.heap.size ≤ a.block) ∧ (∀ a, A2 = some a → w.heap.size ≤ a.block) ∧ (∀ a, A3 = some a → w.heap.size ≤ a.block) ∧ (∀ a, A4 = some a → w.heap.size ≤ a.block)) ∧ Below w.heap.size w w' := by
  obtain ⟨hb, ⟨h1, rfl⟩ | ⟨h1, h2, rfl⟩ | ⟨h1, h2, v, st, ed, ma, way, s, rfl, hl, hf⟩⟩ := h
  · have e1 : asE hs ms kind id = plE hs ms kind id := by unfold asE; rw [if_pos h1]
    have e2 : asV hs ms kind id gr = 0 := by unfold asV; rw [e1, if_neg h1]
    exact ⟨none, 0, 0, none, 0, 0, none, 0, 0, 0, none, 0, 0, [], [], [], [], by rw [e1, e2], SAt.nil _ _ _ _, SAt.nil _ _ _ _, SAt.nil _ _ _ _, SAt.nil _ _ _ _, by omega, by omega, fun q => absurd (e1.symm.trans q) h1, fun _ => ⟨by omega, rfl, e2⟩, ⟨fun a h => (by cases h), fun a h => (by cases h), fun a h => (by cases h), fun a h => (by cases h)⟩, hb⟩
  · have e1 : asE hs ms kind id = 9 := by unfold asE; rw [if_neg (by simpa using h1), if_neg (by rw [h2]; decide)]
    have e2 : asV hs ms kind id gr = 0 := by unfold asV; rw [e1, if_neg (by decide)]
    exact ⟨none, 0, 0, none, 0, 0, none, 0, 0, 0, none, 0, 0, [], [], [], [], by rw [e1, e2], SAt.nil _ _ _ _, SAt.nil _ _ _ _, SAt.nil _ _ _ _, SAt.nil _ _ _ _, by omega, by omega, fun q => (by rw [e1] at q; cases q), fun _ => ⟨by omega, rfl, e2⟩, ⟨fun a h => (by cases h), fun a h => (by cases h), fun a h => (by cases h), fun a h => (by cases h)⟩, hb⟩
  · have e1 : asE hs ms kind id = 0 := by unfold asE; rw [if_neg (by simpa using h1), if_pos h2]
    obtain ⟨hv, hpl⟩ := plE_tv h1
    have hlt := placeN_lt hpl
    have e2 : valAt st ed ma (placeN hs ms kind id) = asV hs ms kind id gr := by
      unfold asV limN
      rw [if_pos e1]
      cases gr with
      | true => rw [if_pos rfl, (lim_hi hv hlt hf.ok).2]
      | false => rw [if_neg (by decide), (lim_lo hv hlt hf.ok).2]
    obtain ⟨A1, n1, c1, A2, n2, c2, A3, n3, c3, A4, n4, c4, rfl, hc, hu⟩ := hl
    obtain ⟨B1, m1, d1, B2, m2, d2, B3, m3, d3, e3, k1, k2, k3, ⟨k4, k5, k6⟩, f1, f2, f3⟩ := hc
    obtain ⟨B4, m4, d4, e4, k7, k8, f4⟩ := hu
    cases e3
    cases e4
    obtain ⟨l1, l2, l3⟩ := fits_len hf.ok.fits
    have := hv.lenH
    have := hv.lenM
    have := hf.len
    have q1 := k1.len
    have q2 := k2.len
    have q3 := k3.len
    have q4 := k7.len
    exact ⟨A1, n1, c1, A2, n2, c2, A3, n3, c3, way, A4, n4, c4, st, ed, ma, s, by rw [e1, e2], k1, k2, k3, k7, ⟨by omega, by omega, by omega, by omega⟩, ⟨k4, k5, k6, k8⟩, fun _ => ⟨hf, e2⟩, fun q => absurd e1 q, ⟨f1, f2, f3, f4⟩, hb⟩
theorem array5 {α : Type} {cs : Array α} (h : cs.size = 5) : ∃ c0 c1 c2 c3 c4, cs = #[c0, c1, c2, c3, c4] := by
  obtain ⟨l⟩ := cs
  match l, h with
  | [c0, c1, c2, c3, c4], _ => exact ⟨c0, c1, c2, c3, c4, rfl⟩
section
variable {H : Type} {enc : TypeId × Value → H} {w : World} {base : Nat} {spare : Nat → Bool} {held : Bool}
set_option maxRecDepth 100000 in
/-- What changes a limit, by value. -/
theorem open_be {r : Reach} {b0 : Nat} {v : Value} {d : DataW H} {p : List MemPlace} (hv : Value.okWide Tryz.prog w r b0 101 v) (h : DataW.Trod enc Tryz.prog w base spare held 101 v d p) :
    ∃ (xw xa xb xway : Int) (B4 : Option Addr) (m4 d4 : Nat) (xs : List Int), v = vBe xw xa xb xway B4 m4 d4 ∧ SAt encI 1 w B4 m4 xs ∧ m4 ≤ 9223372036854775807 ∧ ∃ e, d = .agg e := by
  obtain ⟨cs, rfl, hsz⟩ := okWide_struct Tryz.underlying101 hv
  obtain ⟨c0, c1, c2, c3, c4, rfl⟩ := array5 (hsz.trans (by kernel_rfl))
  obtain ⟨fuel, hf⟩ := h
  obtain ⟨y0, y1, y2, y3, n, hx, _, h0, h1, h2, h3⟩ := trod_struct4 Tryz.underlying101 hf
  have o1 : Tryz.prog.cellsOf 3 = 1 := by kernel_rfl
  have o2 : Tryz.prog.cellsOf 93 = 2 := by kernel_rfl
  have o4 : Tryz.prog.cellsOf 42 = 1 := by kernel_rfl
  simp only [Prod.mk.injEq] at hx
  replace h0 : DataW.trod enc Tryz.prog w base spare held n 3 [c0] = some y0 := by simpa [Value.cells, o1] using h0
  replace h1 : DataW.trod enc Tryz.prog w base spare held n 3 [c1] = some y1 := by simpa [Value.cells, o1] using h1
  replace h2 : DataW.trod enc Tryz.prog w base spare held n 3 [c2] = some y2 := by simpa [Value.cells, o1] using h2
  replace h3 : DataW.trod enc Tryz.prog w base spare held n 93 [c3, c4] = some y3 := by simpa [Value.cells, o2] using h3
  obtain ⟨xw, e0, _⟩ := DataW.trod_int (cs := [c0]) Tryz.underlying3 h0
  obtain ⟨xa, e1, _⟩ := DataW.trod_int (cs := [c1]) Tryz.underlying3 h1
  obtain ⟨xb, e2, _⟩ := DataW.trod_int (cs := [c2]) Tryz.underlying3 h2
  obtain ⟨x0, x1, n'', _, _, k0, k1⟩ := trod_struct2 Tryz.underlying93 h3
  replace k0 : DataW.trod enc Tryz.prog w base spare held n'' 3 [c3] = some x0 := by simpa [o1] using k0
  replace k1 : DataW.trod enc Tryz.prog w base spare held n'' 42 [c4] = some x1 := by simpa [o4] using k1
  obtain ⟨xway, e3, _⟩ := DataW.trod_int (cs := [c3]) Tryz.underlying3 k0
  obtain ⟨B4, m4, d4, xs, e4, q4, l4, _⟩ := open_ns k1
  simp only [List.cons.injEq, and_true] at e0 e1 e2 e3 e4
  subst e0 e1 e2 e3 e4
  exact ⟨xw, xa, xb, xway, B4, m4, d4, xs, rfl, q4, l4, _, hx.1⟩
open Go.ChangeShapes in
theorem trodAll_five {P : Program} {t t' ta t3 t4 : TypeId} {args : Array Value} {ds : List (DataW H)} {ps : List MemPlace} (h : DataW.TrodAll enc P w base spare held [t, t', ta, t3, t4] args.toList ds ps) :
    ∃ v v' va v3 v4 d d' da d3 d4 p p' pa p3 p4, args = #[v, v', va, v3, v4] ∧ ds = [d, d', da, d3, d4] ∧ ps = p ++ p' ++ pa ++ p3 ++ p4 ∧ DataW.Trod enc P w base spare held t v d p ∧ DataW.Trod enc P w base spare held t' v' d' p' ∧ DataW.Trod enc P w base spare held ta va da pa ∧ DataW.Trod enc P w base spare held t3 v3 d3 p3 ∧ DataW.Trod enc P w base spare held t4 v4 d4 p4 := by
  obtain ⟨v, vs, d, ds', p, q, hargs, rfl, rfl, hd, hrest⟩ := trodAll_cons h
  obtain ⟨v', vs', d', dsa, p', q', rfl, rfl, rfl, hd', hrest'⟩ := trodAll_cons hrest
  obtain ⟨va, vsa, da, dsb, pa, qa, rfl, rfl, rfl, hda, hresta⟩ := trodAll_cons hrest'
  obtain ⟨v3, vs3, d3, ds3, p3, q3, rfl, rfl, rfl, hd3, hrest3⟩ := trodAll_cons hresta
  obtain ⟨v4, vs4, d4, ds4, p4, q4, rfl, rfl, rfl, hd4, hrest4⟩ := trodAll_cons hrest3
  obtain ⟨rfl, rfl, rfl⟩ := trodAll_nil hrest4
  exact ⟨v, v', va, v3, v4, d, d', da, d3, d4, p, p', pa, p3, p4, by cases args; simp_all, rfl, by simp, hd, hd', hda, hd3, hd4⟩
end
end Go.Proofs.YtighfmgkoepfkaaGreat
