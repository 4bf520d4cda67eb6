/- Regions whose order of evaluation is open: one walk in the order of the text serves every order, where each
   operation of the head yields one value in every world of a class (it may make memory of its own), some operations
   of the head (the loud ones) yield a value of which a lasting fact is known, and the rest (the tail) has one order. Regions whose order is open, where the last writes may come ahead of some operations that touch no memory
   (the floating ones, Fl): one walk in the order of the text serves every order. The walk of a head that holds loud operations, out of walks in every single world of the class. Regions that draw their order, with loud operations: the quiet ones walked in one go in every world of the class, then the loud ones with one joint invariant. Generic laws for walks: blocks known whole, rows that are owned, what a call leaves alone. -/
import Derived.StillTail
import Derived.Deep.Quiet
import Derived.Below
import Derived.OrdersIn
import Derived.OwnWalkIn
import Derived.RangeFuncCalls
import Derived.RangeFuncNested
import Derived.Shelf.Abstract
import Derived.RangeFuncBound
import Derived.RangeFuncLeaves
import Derived.WalkKit
import Derived.TacticsInMore
import Derived.LoopNIn
import Derived.LoopIn
import Derived.WalkLawsBesides
import Derived.Deep.QuietTactic
import Derived.BigQuiet
import Derived.RegionTactic
import Derived.Lib.Hide
import Derived.Outline
import Derived.WalkSmall
import Derived.OwnWalk
namespace Go.Proofs.YtgojpgggbflgoaaGreat
open Go.RowKit Go

/-- What an operation leaves: a value and a world. -/
def loudUpon (P : Program) (R : Value → World → Prop) : Result Next → Prop
  | .ok (.value v) w' => R v w'
  | .ok .skip w' => R undef w'
  | .ok (.enter f args) w' => Calls P f args w' fun e w'' => ∃ v, e = .returned v ∧ R v w''
  | _ => False
def loudAt (P : Program) (o : Oper) (a : Act) (w : World) (R : Value → World → Prop) : Prop := loudUpon P R ((execOp a.eval o).run P w)

theorem loudAt_mono {P : Program} {o : Oper} {a : Act} {w : World} {R R' : Value → World → Prop} (h : loudAt P o a w R) (hr : ∀ v w', R v w' → R' v w') : loudAt P o a w R' := by
  unfold loudAt at *
  generalize (execOp a.eval o).run P w = r at *
  cases r with
  | ok n w' =>
    cases n <;> simp only [loudUpon] at h ⊢
    case value v => exact hr _ _ h
    case skip => exact hr _ _ h
    case enter f args => exact h.mono fun e w'' ⟨v, he, hv⟩ => ⟨v, he, hr _ _ hv⟩
  | halt x w' => simp only [loudUpon] at h

theorem loudAt_of_quiet {P : Program} {o : Oper} {a : Act} {w : World} {v : Value} {S : World → Prop} (hS : S w) (h : o.quietAt P a S w v) :
    loudAt P o a w fun v' w' => v' = v ∧ S w' := by
  unfold Oper.quietAt at h
  unfold loudAt
  generalize (execOp a.eval o).run P w = r at *
  cases r with
  | ok n w' =>
    cases n <;> simp only [Oper.quietUpon] at h <;> simp only [loudUpon]
    case value u => exact ⟨h.2, by rw [h.1]; exact hS⟩
    case skip => exact ⟨h.2.symm, by rw [h.1]; exact hS⟩
    case enter f args =>
      obtain ⟨rfl, hc⟩ := h
      exact hc.mono fun e w'' ⟨he, hb⟩ => ⟨v, he, rfl, hb⟩
  | halt x w' => simp only [Oper.quietUpon] at h

def isLoud (L : List (Nat × Tmp)) (i : Nat) : Bool := L.any fun p => p.1 == i

/-- The walk in the order of the text, the loud operations (L: index and slot) passed over. -/
def wpQS (P : Program) (ops : Array Oper) (C : World → Prop) (S : World → World → Prop) (L : List (Nat × Tmp)) (Q : Act → Prop) : Nat → List Oper → Act → Prop
  | _, [], a => Q a
  | k, o :: rest, a =>
    if isLoud L k = true then wpQS P ops C S L Q (k + 1) rest a
    else if Region.wanted o (yielded ops a.tmps) then ∃ v, (∀ w, C w → o.quietAt P a (S w) w v) ∧ wpQS P ops C S L Q (k + 1) rest (a.put o.dst v)
    else wpQS P ops C S L Q (k + 1) rest (a.put o.dst undef)

section
variable {P : Program} {ops : Array Oper} {C : World → Prop} {S : World → World → Prop} {L : List (Nat × Tmp)} {Q : Act → Prop} {a : Act} {k : Nat} {o : Oper} {rest : List Oper}
theorem wpQS_nil (h : Q a) : wpQS P ops C S L Q k [] a := h
theorem wpQS_loud (hk : isLoud L k = true) (h : wpQS P ops C S L Q (k + 1) rest a) : wpQS P ops C S L Q k (o :: rest) a := by
  unfold wpQS; rw [if_pos hk]; exact h
theorem wpQS_step (hk : isLoud L k = false)
    (h : ∀ K : Act → Prop, (∀ a, wpQS P ops C S L Q (k + 1) rest a → K a) →
      if Region.wanted o (yielded ops a.tmps) then ∃ v, (∀ w, C w → o.quietAt P a (S w) w v) ∧ K (a.put o.dst v) else K (a.put o.dst undef)) : wpQS P ops C S L Q k (o :: rest) a := by
  unfold wpQS; rw [if_neg (by rw [hk]; exact Bool.false_ne_true)]
  exact h _ fun _ h => h
end

def YlS (P : Program) (ops : Array Oper) (C : World → Prop) (S : World → World → Prop) (o : Oper) (v : Value) (a : Act) : Prop :=
  (Region.wanted o (yielded ops a.tmps) = true ∧ ∀ w, C w → o.quietAt P a (S w) w v) ∨
  (Region.wanted o (yielded ops a.tmps) = false ∧ v = undef)

/-- A is a with the quiet values u of the operations k .. m - 1 laid into their slots. -/
structure PW (ops : Array Oper) (L : List (Nat × Tmp)) (u : Nat → Value) (k m : Nat) (a A : Act) : Prop where
  defers : A.defers = a.defers
  size : A.tmps.size = a.tmps.size
  at_ : ∀ i o d, k ≤ i → i < m → isLoud L i = false → ops[i]? = some o → o.dst = some d → d < a.tmps.size → A.tmps[d]? = some (u i)
  else_ : ∀ t, (∀ i o, k ≤ i → i < m → isLoud L i = false → ops[i]? = some o → o.dst ≠ some t) → A.tmps[t]? = a.tmps[t]?

def Distinct (ops : Array Oper) (n : Nat) : Prop := ∀ i j oi oj d, i < n → j < n → ops[i]? = some oi → ops[j]? = some oj → oi.dst = some d → oj.dst = some d → i = j

theorem put_size (a : Act) (d : Option Tmp) (v : Value) : (a.put d v).tmps.size = a.tmps.size := by cases d <;> simp [Act.put]
theorem put_defers' (a : Act) (d : Option Tmp) (v : Value) : (a.put d v).defers = a.defers := by cases d <;> rfl
theorem put_at (a : Act) (d : Tmp) (v : Value) (h : d < a.tmps.size) : (a.put (some d) v).tmps[d]? = some v := by simp [Act.put, h]
theorem put_ne (a : Act) (d : Option Tmp) (v : Value) (t : Nat) (h : d ≠ some t) : (a.put d v).tmps[t]? = a.tmps[t]? := by
  cases d with
  | none => rfl
  | some e => simp only [Act.put]; rw [Array.getElem?_setIfInBounds_ne (fun he => h (by rw [he]))]

theorem qs_extract {P : Program} {ops : Array Oper} {C : World → Prop} {S : World → World → Prop} {L : List (Nat × Tmp)} {Q : Act → Prop} :
    ∀ (l : List Oper) (k : Nat) (a : Act), (∀ j, j < l.length → l[j]? = ops[k + j]?) → Distinct ops (k + l.length) → wpQS P ops C S L Q k l a →
      ∃ (u : Nat → Value) (aQ : Act), Q aQ ∧ PW ops L u k (k + l.length) a aQ ∧
        ∀ j o, k ≤ j → j < k + l.length → isLoud L j = false → ops[j]? = some o → ∃ A, YlS P ops C S o (u j) A ∧ PW ops L u k j a A
  | [], k, a, _, _, h => ⟨fun _ => undef, a, h, ⟨rfl, rfl, fun i o d h1 h2 => by simp at h2; omega, fun _ _ => rfl⟩, fun j o h1 h2 => by simp at h2; omega⟩
  | o :: l, k, a, hl, hd, h => by
    have h0 : ops[k]? = some o := by have := hl 0 (by simp); simpa using this.symm
    have hl' : ∀ j, j < l.length → l[j]? = ops[k + 1 + j]? := fun j hj => by
      have := hl (j + 1) (by simp; omega)
      simpa [Nat.add_assoc, Nat.add_comm 1 j] using this
    have hlen : k + (o :: l).length = k + 1 + l.length := by simp; omega
    rw [hlen] at hd ⊢
    by_cases hk : isLoud L k = true
    · have h' : wpQS P ops C S L Q (k + 1) l a := by unfold wpQS at h; rwa [if_pos hk] at h
      obtain ⟨u, aQ, hQ, hp, hy⟩ := qs_extract l (k + 1) a hl' hd h'
      have lift : ∀ m A, PW ops L u (k + 1) m a A → PW ops L u k m a A := fun m A hA =>
        ⟨hA.defers, hA.size, fun i o' d h1 h2 h3 => by
          rcases Nat.lt_or_ge k i with h4 | h4
          · exact hA.at_ i o' d h4 h2 h3
          · have : i = k := by omega
            subst this; rw [hk] at h3; exact (Bool.noConfusion h3),
         fun t ht => hA.else_ t fun i o' h1 h2 => ht i o' (by omega) h2⟩
      refine ⟨u, aQ, hQ, lift _ _ hp, fun j oj h1 h2 h3 h4 => ?_⟩
      rcases Nat.lt_or_ge k j with h5 | h5
      · obtain ⟨A, hA, hA'⟩ := hy j oj h5 h2 h3 h4
        exact ⟨A, hA, lift _ _ hA'⟩
      · have : j = k := by omega
        subst this; rw [hk] at h3; exact (Bool.noConfusion h3)
    · have hk' : isLoud L k = false := by simpa using hk
      have hstep : ∃ v, YlS P ops C S o v a ∧ wpQS P ops C S L Q (k + 1) l (a.put o.dst v) := by
        unfold wpQS at h
        rw [if_neg hk] at h
        by_cases hw : Region.wanted o (yielded ops a.tmps) = true
        · rw [if_pos hw] at h
          obtain ⟨v, hv, h⟩ := h
          exact ⟨v, .inl ⟨hw, hv⟩, h⟩
        · rw [if_neg hw] at h
          exact ⟨undef, .inr ⟨by simpa using hw, rfl⟩, h⟩
      obtain ⟨v, hyk, h'⟩ := hstep
      obtain ⟨u, aQ, hQ, hp, hy⟩ := qs_extract l (k + 1) (a.put o.dst v) hl' hd h'
      let u' : Nat → Value := fun i => if i = k then v else u i
      have hu' : ∀ i, i ≠ k → u' i = u i := fun i hi => by simp [u', hi]
      have lift : ∀ m A, m ≤ k + 1 + l.length → PW ops L u (k + 1) m (a.put o.dst v) A → k < m → PW ops L u' k m a A := fun m A hm hA hkm =>
        ⟨hA.defers.trans (put_defers' _ _ _), hA.size.trans (put_size _ _ _), fun i o' d h1 h2 h3 h4 h5 h6 => by
          rcases Nat.lt_or_ge k i with h7 | h7
          · rw [hu' i (by omega)]
            exact hA.at_ i o' d h7 h2 h3 h4 h5 (by rw [put_size]; exact h6)
          · have : i = k := by omega
            subst this
            have : o' = o := by rw [h0] at h4; exact (Option.some.inj h4).symm
            subst this
            rw [hA.else_ d (fun i' o'' h8 h9 h10 h11 h12 => by
              have := hd i i' o' o'' d (by omega) (by omega) h4 h11 h5 h12
              omega), h5, put_at _ _ _ h6]
            simp [u'],
         fun t ht => by
          rw [hA.else_ t (fun i o' h1 h2 => ht i o' (by omega) h2), put_ne _ _ _ _ (ht k o (Nat.le_refl _) hkm hk' h0)]⟩
      refine ⟨u', aQ, hQ, lift _ _ (Nat.le_refl _) hp (by omega), fun j oj h1 h2 h3 h4 => ?_⟩
      rcases Nat.lt_or_ge k j with h5 | h5
      · obtain ⟨A, hA, hA'⟩ := hy j oj h5 h2 h3 h4
        exact ⟨A, by rw [hu' j (by omega)]; exact hA, lift _ _ (by omega) hA' h5⟩
      · have : j = k := by omega
        subst this
        have : oj = o := by rw [h0] at h4; exact (Option.some.inj h4).symm
        subst this
        exact ⟨a, by simpa [u'] using hyk, ⟨rfl, rfl, fun i o' d h6 h7 => by omega, fun _ _ => rfl⟩⟩

/-! ### Whatever order: the abstract walk -/
def anyOf (step : Nat → (Act → World → Prop) → Act → World → Prop) (ops : Array Oper) (Q : Act → World → Prop) : Nat → Array Bool → Act → World → Prop
  | 0, listed, a, w => Region.ready .any ops listed = [] ∧ Q a w
  | f + 1, listed, a, w => (Region.ready .any ops listed = [] → Q a w) ∧ ∀ i ∈ Region.ready .any ops listed, step i (anyOf step ops Q f (listed.setIfInBounds i true)) a w

def putsL (a : Act) (L : List (Nat × Tmp)) (vs : Nat → Value) : Act := L.foldl (fun a p => a.put (some p.2) (vs p.1)) a

theorem putsL_size (L : List (Nat × Tmp)) (vs : Nat → Value) : ∀ a, (putsL a L vs).tmps.size = a.tmps.size := by
  induction L with
  | nil => intro a; rfl
  | cons p L ih => intro a; show (putsL (a.put (some p.2) (vs p.1)) L vs).tmps.size = _; rw [ih, put_size]
theorem putsL_defers (L : List (Nat × Tmp)) (vs : Nat → Value) : ∀ a, (putsL a L vs).defers = a.defers := by
  induction L with
  | nil => intro a; rfl
  | cons p L ih => intro a; show (putsL (a.put (some p.2) (vs p.1)) L vs).defers = _; rw [ih, put_defers']
theorem putsL_ne (L : List (Nat × Tmp)) (vs : Nat → Value) (t : Nat) : ∀ a, (∀ p ∈ L, p.2 ≠ t) → (putsL a L vs).tmps[t]? = a.tmps[t]? := by
  induction L with
  | nil => intro a _; rfl
  | cons p L ih =>
    intro a h
    show (putsL (a.put (some p.2) (vs p.1)) L vs).tmps[t]? = _
    rw [ih _ (fun q hq => h q (List.mem_cons_of_mem _ hq)), put_ne _ _ _ _ (fun he => h p (List.mem_cons_self ..) (Option.some.inj he))]
theorem putsL_at (L : List (Nat × Tmp)) (vs : Nat → Value) : ∀ a, (∀ p ∈ L, ∀ q ∈ L, p.2 = q.2 → p.1 = q.1) → ∀ p ∈ L, p.2 < a.tmps.size → (putsL a L vs).tmps[p.2]? = some (vs p.1) := by
  induction L with
  | nil => intro a _ p hp; cases hp
  | cons q L ih =>
    intro a h p hp hs
    show (putsL (a.put (some q.2) (vs q.1)) L vs).tmps[p.2]? = _
    by_cases hx : ∃ r ∈ L, r.2 = p.2
    · obtain ⟨r, hr, he⟩ := hx
      have := ih (a.put (some q.2) (vs q.1)) (fun x hx y hy => h x (List.mem_cons_of_mem _ hx) y (List.mem_cons_of_mem _ hy)) r hr (by rw [put_size, he]; exact hs)
      rw [he] at this
      rw [this, h r (List.mem_cons_of_mem _ hr) p hp he]
    · have hq : p = q := by
        rcases List.mem_cons.1 hp with e | e
        · exact e
        · exact absurd ⟨p, e, rfl⟩ hx
      subst hq
      rw [putsL_ne _ _ _ _ (fun r hr he => hx ⟨r, hr, he⟩), put_at _ _ _ hs]

def headOk (ops : Array Oper) (L : List (Nat × Tmp)) (i j : Nat) : Bool :=
  match ops[i]?, ops[j]? with
  | some oi, some oj =>
    match oi.dst with
    | none => true
    | some d =>
      if i == j then !isLoud L j || !(oj.looksAt ops).contains d
      else oj.dst != some d && (!(oj.looksAt ops).contains d || (decide (i < j) && Region.waitsFor .any ops j i && (isLoud L j || !isLoud L i)) || (!isLoud L j && decide (j < i) && Region.waitsFor .any ops i j))
  | _, _ => false

/-- The closed check over a region: n operations of the head, the loud ones L. -/
def regB (ops : Array Oper) (n : Nat) (L : List (Nat × Tmp)) : Bool :=
  Region.noSelect ops && ops.all (fun o => match o.op with | .defer _ => false | _ => true) &&
  decide (n ≤ ops.size) && (decide (n = ops.size) || (Region.sinkB .any ops n && Region.chainB .any ops n)) &&
  Region.seqB .any ops (ops.size - n) n (Array.replicate n true ++ Array.replicate (ops.size - n) false) &&
  (List.range n).all (fun i => match ops[i]? with | some o => o.after.all (fun e => !Region.binds .any e || decide (e.on < i)) | none => false) &&
  (List.range n).all (fun i => (List.range n).all (fun j => headOk ops L i j)) &&
  L.all (fun p => decide (p.1 < n) && (match ops[p.1]? with | some o => o.guard.isNone && (o.dst == some p.2 || o.dst == none) | none => false)) &&
  L.all (fun p => L.all fun q => p.2 != q.2 || p.1 == q.1)

structure RegOk (ops : Array Oper) (n : Nat) (L : List (Nat × Tmp)) : Prop where
  sel : Region.noSelect ops = true
  defer_ : ∀ (i : Nat) (o : Oper), ops[i]? = some o → ∀ c, o.op ≠ .defer c
  le : n ≤ ops.size
  tail : n < ops.size → Region.sinkB .any ops n = true ∧ Region.chainB .any ops n = true
  seq : Region.seqB .any ops (ops.size - n) n (Array.replicate n true ++ Array.replicate (ops.size - n) false) = true
  back : ∀ (i : Nat) (o : Oper), i < n → ops[i]? = some o → ∀ e ∈ o.after, Region.binds .any e = true → e.on < i
  distinct : Distinct ops n
  looks : ∀ (i j : Nat) (oi oj : Oper) (d : Tmp), i < n → j < n → i ≠ j → ops[i]? = some oi → ops[j]? = some oj → oi.dst = some d → d ∈ oj.looksAt ops →
    (i < j ∧ Region.waitsFor .any ops j i = true ∧ (isLoud L j = false → isLoud L i = false)) ∨ (isLoud L j = false ∧ j < i ∧ Region.waitsFor .any ops i j = true)
  own : ∀ (j : Nat) (oj : Oper) (d : Tmp), j < n → ops[j]? = some oj → oj.dst = some d → isLoud L j = true → d ∉ oj.looksAt ops
  loud : ∀ p ∈ L, p.1 < n ∧ ∀ (o : Oper), ops[p.1]? = some o → o.guard = none ∧ (o.dst = some p.2 ∨ o.dst = none)
  slots : ∀ p ∈ L, ∀ q ∈ L, p.2 = q.2 → p.1 = q.1

theorem regB_ok {ops : Array Oper} {n : Nat} {L : List (Nat × Tmp)} (h : regB ops n L = true) : RegOk ops n L := by
  simp only [regB, Bool.and_eq_true, decide_eq_true_eq, Bool.or_eq_true, List.all_eq_true, List.mem_range] at h
  obtain ⟨⟨⟨⟨⟨⟨⟨⟨h1, h2⟩, h3⟩, h4⟩, h5⟩, h6⟩, h7⟩, h8⟩, h9⟩ := h
  have hk : ∀ i j oi oj d, i < n → j < n → ops[i]? = some oi → ops[j]? = some oj → oi.dst = some d →
      (if i == j then !isLoud L j || !(oj.looksAt ops).contains d
      else oj.dst != some d && (!(oj.looksAt ops).contains d || (decide (i < j) && Region.waitsFor .any ops j i && (isLoud L j || !isLoud L i)) || (!isLoud L j && decide (j < i) && Region.waitsFor .any ops i j))) = true := by
    intro i j oi oj d hi hj hoi hoj hd
    have := h7 i hi j hj
    unfold headOk at this
    rw [hoi, hoj] at this
    simpa only [hd] using this
  refine ⟨h1, fun i o ho c hc => ?_, h3, fun hlt => ?_, h5, fun i o hi ho e he hb => ?_, fun i j oi oj d hi hj hoi hoj hdi hdj => ?_, fun i j oi oj d hi hj hij hoi hoj hd hmem => ?_, fun j oj d hj hoj hd hl hmem => ?_, fun p hp => ?_, fun p hp q hq he => ?_⟩
  · have hlt : i < ops.size := (Array.getElem?_eq_some_iff.1 ho).1
    have := Array.all_eq_true.1 h2 i hlt
    have he : ops[i] = o := by simpa [Array.getElem?_eq_getElem hlt] using ho
    rw [he, hc] at this
    exact Bool.noConfusion this
  · rcases h4 with h4 | h4
    · omega
    · exact h4
  · have := h6 i hi
    rw [ho] at this
    have := Array.all_eq_true'.1 this e he
    simpa [hb] using this
  · by_cases hij : i = j
    · exact hij
    · have := hk i j oi oj d hi hj hoi hoj hdi
      rw [if_neg (by simpa using hij)] at this
      simp only [Bool.and_eq_true, bne_iff_ne, ne_eq] at this
      exact absurd hdj this.1
  · have := hk i j oi oj d hi hj hoi hoj hd
    rw [if_neg (by simpa using hij)] at this
    have hc : (oj.looksAt ops).contains d = true := by simpa using hmem
    simp only [Bool.and_eq_true, hc, Bool.not_true, Bool.or_eq_true, Bool.false_eq_true, false_or, decide_eq_true_eq, Bool.not_eq_true'] at this
    rcases this.2 with ⟨⟨h1, h2⟩, h3⟩ | ⟨⟨h1, h2⟩, h3⟩
    · exact .inl ⟨h1, h2, fun hl => h3.resolve_left (by rw [hl]; exact Bool.false_ne_true)⟩
    · exact .inr ⟨h1, h2, h3⟩
  · have := hk j j oj oj d hj hj hoj hoj hd
    rw [if_pos (by simp)] at this
    simp only [hl, Bool.not_true, Bool.false_or, Bool.not_eq_true', List.contains_eq_mem, decide_eq_false_iff_not] at this
    exact this hmem
  · have := h8 p hp
    refine ⟨this.1, fun o ho => ?_⟩
    have h2 := this.2
    rw [ho] at h2
    simpa [Option.isNone_iff_eq_none] using h2
  · have := h9 p hp q hq
    simpa [he] using this

def unl (listed : Array Bool) : Nat → Nat
  | 0 => 0
  | n + 1 => unl listed n + (if listed.getD n false = true then 0 else 1)
theorem unl_ge (listed : Array Bool) (j : Nat) : ∀ n, n ≤ j → unl (listed.setIfInBounds j true) n = unl listed n
  | 0, _ => rfl
  | n + 1, h => by
    unfold unl
    rw [unl_ge listed j n (by omega), getD_set_ne false (by omega)]
theorem unl_set (listed : Array Bool) (j : Nat) (hj : listed.getD j true = false) : ∀ n, j < n → unl (listed.setIfInBounds j true) n + 1 = unl listed n
  | 0, h => by omega
  | n + 1, h => by
    unfold unl
    by_cases hn : j = n
    · subst hn
      have hs : j < listed.size := by
        rcases Nat.lt_or_ge j listed.size with h' | h'
        · exact h'
        · simp [Array.getElem?_eq_none h'] at hj
      rw [unl_ge listed j j (Nat.le_refl _), getD_both hj]
      simp [hs]
    · have := unl_set listed j hj n (by omega)
      rw [getD_set_ne false hn]
      omega
theorem unl_zero (listed : Array Bool) : ∀ n, unl listed n = 0 → ∀ i, i < n → listed.getD i false = true
  | 0, _, i, h => by omega
  | n + 1, h, i, hi => by
    unfold unl at h
    by_cases hin : i = n
    · subst hin
      by_cases hl : listed.getD i false = true
      · exact hl
      · rw [if_neg hl] at h; omega
    · exact unl_zero listed n (by omega) i (by omega)
theorem unl_first (listed : Array Bool) : ∀ n, unl listed n ≠ 0 → ∃ i, i < n ∧ listed.getD i false = false ∧ ∀ k, k < i → listed.getD k false = true
  | 0, h => absurd rfl h
  | n + 1, h => by
    by_cases h0 : unl listed n = 0
    · unfold unl at h
      refine ⟨n, by omega, ?_, fun k hk => unl_zero listed n h0 k hk⟩
      by_cases hl : listed.getD n false = true
      · rw [h0, if_pos hl] at h; exact absurd rfl h
      · simpa using hl
    · obtain ⟨i, hi, h1, h2⟩ := unl_first listed n h0
      exact ⟨i, by omega, h1, h2⟩

/-- What stands in the frame when the operations of 'listed' are done. -/
structure StR (ops : Array Oper) (n : Nat) (L : List (Nat × Tmp)) (u vs : Nat → Value) (a₀ : Act) (listed : Array Bool) (a : Act) : Prop where
  defers : a.defers = a₀.defers
  size : a.tmps.size = a₀.tmps.size
  at_ : ∀ i o d, i < n → ops[i]? = some o → o.dst = some d → d < a₀.tmps.size → listed.getD i false = true → a.tmps[d]? = some (if isLoud L i = true then vs i else u i)
  else_ : ∀ t, (∀ i o, i < n → ops[i]? = some o → listed.getD i false = true → o.dst ≠ some t) → a.tmps[t]? = a₀.tmps[t]?

theorem exec_agree {ops : Array Oper} {o : Oper} {a A : Act} (hs : ∀ cs b, o.op ≠ .select cs b) (h : ∀ t ∈ o.looksAt ops, a.tmps[t]? = A.tmps[t]?) :
    execOp a.eval o = execOp A.eval o ∧ Region.wanted o (yielded ops a.tmps) = Region.wanted o (yielded ops A.tmps) := by
  refine ⟨execOp_congr o hs fun x hx => ?_, ?_⟩
  · cases x with
    | tmp t =>
      have := h t (List.mem_append_left _ (List.mem_filterMap.2 ⟨.tmp t, by simpa using hx, rfl⟩))
      simp only [Act.eval, Array.getD_eq_getD_getElem?, this]
    | _ => rfl
  · unfold Region.wanted
    cases hg : o.guard with
    | none => rfl
    | some gw =>
      obtain ⟨g, want⟩ := gw
      have : yielded ops a.tmps g = yielded ops A.tmps g := by
        unfold yielded
        cases hd : (ops[g]?).bind (·.dst) with
        | none => rfl
        | some d =>
          have := h d (List.mem_append_right _ (by rw [hg]; simp [hd]))
          simp only [Option.bind_some, this]
      simp only [this]

theorem loudAt_agree {P : Program} {o : Oper} {a A : Act} {w : World} {R : Value → World → Prop} (he : execOp a.eval o = execOp A.eval o) (h : loudAt P o A w R) : loudAt P o a w R := by
  unfold loudAt at *; rwa [he]

theorem isLoud_iff {L : List (Nat × Tmp)} {i : Nat} : isLoud L i = true ↔ ∃ p ∈ L, p.1 = i := by simp [isLoud, List.any_eq_true]

def upd (vs : Nat → Value) (k : Nat) (v : Value) : Nat → Value := fun i => if i = k then v else vs i

def updB (ls : Nat → Bool) (k : Nat) : Nat → Bool := fun i => if i = k then true else ls i
/-- Which loud operations are done. -/
def lsOf (L : List (Nat × Tmp)) (listed : Array Bool) : Nat → Bool := fun i => isLoud L i && listed.getD i false

theorem any_of_head {P : Program} {ops : Array Oper} {n : Nat} {L : List (Nat × Tmp)} {step : Nat → (Act → World → Prop) → Act → World → Prop} {Q T : Act → World → Prop}
    (ok : RegOk ops n L)
    (hstep : ∀ i o a w K, ops[i]? = some o → Region.wanted o (yielded ops a.tmps) = true → loudAt P o a w (fun v w' => K (a.put o.dst v) w') → step i K a w)
    (hskip : ∀ i o a w K, ops[i]? = some o → Region.wanted o (yielded ops a.tmps) = false → K (a.put o.dst undef) w → step i K a w)
    {C : World → Prop} {S : World → World → Prop} {Φ : (Nat → Bool) → (Nat → Value) → World → Prop} (hS : ∀ w, C w → S w w) (hC : ∀ w w', C w → S w w' → C w')
    (hΦ : ∀ ls vs w w', C w → Φ ls vs w → S w w' → Φ ls vs w')
    {u : Nat → Value} {a₀ aQ : Act} (hQ : PW ops L u 0 n a₀ aQ) (hout : ∀ p ∈ L, ∀ o, ops[p.1]? = some o → o.dst = none → a₀.tmps.size ≤ p.2)
    (hy : ∀ j o, j < n → isLoud L j = false → ops[j]? = some o → ∃ A, YlS P ops C S o (u j) A ∧ PW ops L u 0 j a₀ A)
    (hloud : ∀ p ∈ L, ∀ (vs : Nat → Value) (w : World), C w → ∀ ls, Φ ls vs w → ls p.1 = false → (∀ q ∈ L, Region.waitsFor .any ops p.1 q.1 = true → ls q.1 = true) → ∀ o, ops[p.1]? = some o →
      loudAt P o (putsL aQ L vs) w fun v w' => C w' ∧ Φ (updB ls p.1) (upd vs p.1 v) w')
    (hfin : ∀ (ls : Nat → Bool) (vs : Nat → Value) (w : World), C w → Φ ls vs w → (∀ p ∈ L, ls p.1 = true) → T (putsL aQ L vs) w)
    (hT : ∀ a w, T a w → anyOf step ops Q (ops.size - n) (Array.replicate n true ++ Array.replicate (ops.size - n) false) a w) :
    ∀ (f : Nat) (listed : Array Bool) (a : Act) (w : World) (vs : Nat → Value), unl listed n = f → HeadInv .any ops n listed → StR ops n L u vs a₀ listed a → C w →
      Φ (lsOf L listed) vs w → anyOf step ops Q (f + (ops.size - n)) listed a w := by
  have hLd := ok.slots
  have hdst : ∀ p ∈ L, ∀ o, ops[p.1]? = some o → p.2 < a₀.tmps.size → o.dst = some p.2 := fun p hp o ho hs => by
    rcases ((ok.loud p hp).2 o ho).2 with h | h
    · exact h
    · exact absurd hs (Nat.not_lt.2 (hout p hp o ho h))
  have big : ∀ {A B : Act} {t : Nat}, A.tmps.size = B.tmps.size → ¬ t < B.tmps.size → A.tmps[t]? = B.tmps[t]? := fun h1 h2 => by
    rw [Array.getElem?_eq_none (by omega), Array.getElem?_eq_none (by omega)]
  intro f
  induction f with
  | zero =>
    intro listed a w vs hun inv st hc hf
    have hall := unl_zero listed n hun
    have hl : listed = Array.replicate n true ++ Array.replicate (ops.size - n) false := by
      apply Array.ext
      · simp [inv.size]; have := ok.le; omega
      · intro i h1 h2
        rcases Nat.lt_or_ge i n with h | h
        · have := hall i h
          simp [h1] at this
          rw [Array.getElem_append_left (by simpa using h)]
          simp [this]
        · have := inv.tail i h (by rw [← inv.size]; exact h1)
          simp [h1] at this
          rw [Array.getElem_append_right (by simpa using h)]
          simp [this]
    have ha : a = putsL aQ L vs := by
      have htmps : a.tmps = (putsL aQ L vs).tmps := by
        apply Array.ext_getElem?
        intro t
        by_cases hx : ∃ i o, i < n ∧ ops[i]? = some o ∧ o.dst = some t
        · obtain ⟨i, o, h1, h2, h3⟩ := hx
          by_cases hs : t < a₀.tmps.size
          · rw [st.at_ i o t h1 h2 h3 hs (hall i h1)]
            by_cases hl : isLoud L i = true
            · rw [if_pos hl]
              obtain ⟨p, hp, rfl⟩ := isLoud_iff.1 hl
              have : p.2 = t := by
                rcases ((ok.loud p hp).2 o h2).2 with h | h
                · rw [h3] at h; exact (Option.some.inj h).symm
                · rw [h3] at h; cases h
              subst this
              rw [putsL_at L vs aQ hLd p hp (by rw [hQ.size]; exact hs)]
            · rw [if_neg hl, putsL_ne L vs t aQ (fun p hp he => ?_), hQ.at_ i o t (Nat.zero_le _) h1 (by simpa using hl) h2 h3 hs]
              obtain ⟨h4, h5⟩ := ok.loud p hp
              have hop := Array.getElem?_eq_getElem (show p.1 < ops.size by have := ok.le; omega)
              exact hl (isLoud_iff.2 ⟨p, hp, ok.distinct p.1 i _ o t h4 h1 hop h2 (by rw [hdst p hp _ hop (by rw [he]; exact hs), he]) h3⟩)
          · exact big (by rw [st.size, putsL_size, hQ.size]) (by rw [putsL_size, hQ.size]; exact hs)
        · by_cases hs : t < a₀.tmps.size
          case neg => exact big (by rw [st.size, putsL_size, hQ.size]) (by rw [putsL_size, hQ.size]; exact hs)
          rw [st.else_ t (fun i o h1 h2 _ h3 => hx ⟨i, o, h1, h2, h3⟩), putsL_ne L vs t aQ (fun p hp he => ?_), hQ.else_ t (fun i o _ h1 _ h2 h3 => hx ⟨i, o, h1, h2, h3⟩)]
          obtain ⟨h4, h5⟩ := ok.loud p hp
          have hop := Array.getElem?_eq_getElem (show p.1 < ops.size by have := ok.le; omega)
          exact hx ⟨p.1, _, h4, hop, by rw [hdst p hp _ hop (by rw [he]; exact hs), he]⟩
      have hdef : a.defers = (putsL aQ L vs).defers := by rw [st.defers, putsL_defers, hQ.defers]
      cases a
      generalize putsL aQ L vs = b at htmps hdef
      cases b
      simp only at htmps hdef
      rw [htmps, hdef]
    obtain ⟨listed', hl'⟩ : ∃ l', l' = listed := ⟨_, rfl⟩
    rw [← hl'] at hf hall
    rw [Nat.zero_add, hl, ha]
    exact hT _ _ (hfin (lsOf L listed') vs w hc hf fun p hp => (by unfold lsOf; rw [isLoud_iff.2 ⟨p, hp, rfl⟩, hall p.1 (ok.loud p hp).1]; rfl))
  | succ f ih =>
    intro listed a w vs hun inv st hc hf
    have hsz : n ≤ listed.size := by rw [inv.size]; exact ok.le
    rw [show f + 1 + (ops.size - n) = (f + (ops.size - n)) + 1 by omega]
    obtain ⟨m, hm, hm1, hm2⟩ := unl_first listed n (by omega)
    refine ⟨fun h => ?_, fun j hj => ?_⟩
    · have hom := Array.getElem?_eq_getElem (show m < ops.size by have := ok.le; omega)
      have : m ∈ Region.ready .any ops listed := mem_ready.2 ⟨getD_in (by omega) hm1, _, hom, fun e he hb => hm2 _ (ok.back m _ hm hom e he hb)⟩
      rw [h] at this
      cases this
    · obtain ⟨hjun, oj, hoj, hall⟩ := mem_ready.1 hj
      have hjn : j < n := by
        rcases Nat.lt_or_ge j n with h | h
        · exact h
        · have hlt : j < ops.size := (Array.getElem?_eq_some_iff.1 hoj).1
          obtain ⟨hs, hcn⟩ := ok.tail (by omega)
          exact absurd hj (tail_waits hs hcn (by omega) inv _ m rfl hm (getD_in (by omega) hm1) j h)
      have hwait : ∀ i, Region.waitsFor .any ops j i = true → listed.getD i false = true := fun i h => by
        obtain ⟨o', ho', e, he, hb, hon⟩ := Region.waitsFor_spec h
        have : o' = oj := Option.some.inj (ho'.symm.trans hoj)
        subst this
        rw [← hon]; exact hall e he hb
      have hnot : ∀ i, Region.waitsFor .any ops i j = true → listed.getD i false = false := fun i h => by
        obtain ⟨o', ho', e, he, hb, hon⟩ := Region.waitsFor_spec h
        cases hl : listed.getD i false with
        | false => rfl
        | true =>
          have := inv.closed i o' ho' hl e he hb
          rw [hon, getD_both hjun] at this
          cases this
      have hun' : unl (listed.setIfInBounds j true) n = f := by have := unl_set listed j hjun n hjn; omega
      have inv' := inv.set hj hjn
      have hlj : (listed.setIfInBounds j true).getD j false = true := by simp [show j < listed.size by omega]
      have st' : ∀ v vs', (∀ i, i ≠ j → vs' i = vs i) → (if isLoud L j = true then vs' j else u j) = v → StR ops n L u vs' a₀ (listed.setIfInBounds j true) (a.put oj.dst v) := fun v vs' hvs hv =>
        ⟨by rw [put_defers', st.defers], by rw [put_size, st.size], fun i o d h1 h2 h3 h4 h5 => by
          by_cases hij : i = j
          · subst hij
            have : o = oj := Option.some.inj (h2.symm.trans hoj)
            subst this
            rw [h3, put_at _ _ _ (by rw [st.size]; exact h4), hv]
          · rw [put_ne _ _ _ _ (fun he => hij (ok.distinct i j o oj d h1 hjn h2 hoj h3 he)), st.at_ i o d h1 h2 h3 h4 (by rwa [getD_set_ne false (Ne.symm hij)] at h5), hvs i hij],
         fun t ht => by
          rw [put_ne _ _ _ _ (ht j oj hjn hoj hlj), st.else_ t (fun i o h1 h2 h3 => ht i o h1 h2 (getD_set_true h3))]⟩
      have hsel : ∀ cs b, oj.op ≠ .select cs b := fun cs b => Region.noSelect_spec ok.sel j oj cs b hoj
      by_cases hlo : isLoud L j = true
      · -- a loud one
        obtain ⟨p, hp, rfl⟩ := isLoud_iff.1 hlo
        obtain ⟨_, hp2⟩ := ok.loud p hp
        obtain ⟨hgd, _⟩ := hp2 oj hoj
        have hag : ∀ t ∈ oj.looksAt ops, a.tmps[t]? = (putsL aQ L vs).tmps[t]? := fun t ht => by
          by_cases hs : t < a₀.tmps.size
          case neg => exact big (by rw [st.size, putsL_size, hQ.size]) (by rw [putsL_size, hQ.size]; exact hs)
          by_cases hx : ∃ i o, i < n ∧ ops[i]? = some o ∧ o.dst = some t
          · obtain ⟨i, o, h1, h2, h3⟩ := hx
            have hij : i ≠ p.1 := fun he => by
              subst he
              have : o = oj := Option.some.inj (h2.symm.trans hoj)
              subst this
              exact ok.own _ _ t hjn hoj h3 hlo ht
            rcases ok.looks i p.1 o oj t h1 hjn hij h2 hoj h3 ht with ⟨h4, h5, _⟩ | ⟨h4, _⟩
            · rw [st.at_ i o t h1 h2 h3 hs (hwait i h5)]
              by_cases hl : isLoud L i = true
              · rw [if_pos hl]
                obtain ⟨q, hq, rfl⟩ := isLoud_iff.1 hl
                have : q.2 = t := by
                  rcases ((ok.loud q hq).2 o h2).2 with h | h
                  · rw [h3] at h; exact (Option.some.inj h).symm
                  · rw [h3] at h; cases h
                subst this
                rw [putsL_at L vs aQ hLd q hq (by rw [hQ.size]; exact hs)]
              · rw [if_neg hl, putsL_ne L vs t aQ (fun q hq he => ?_), hQ.at_ i o t (Nat.zero_le _) h1 (by simpa using hl) h2 h3 hs]
                obtain ⟨h4, h5⟩ := ok.loud q hq
                have hop := Array.getElem?_eq_getElem (show q.1 < ops.size by have := ok.le; omega)
                exact hl (isLoud_iff.2 ⟨q, hq, ok.distinct q.1 i _ o t h4 h1 hop h2 (by rw [hdst q hq _ hop (by rw [he]; exact hs), he]) h3⟩)
            · rw [hlo] at h4; cases h4
          · rw [st.else_ t (fun i o h1 h2 _ h3 => hx ⟨i, o, h1, h2, h3⟩), putsL_ne L vs t aQ (fun q hq he => ?_), hQ.else_ t (fun i o _ h1 _ h2 h3 => hx ⟨i, o, h1, h2, h3⟩)]
            obtain ⟨h4, h5⟩ := ok.loud q hq
            have hop := Array.getElem?_eq_getElem (show q.1 < ops.size by have := ok.le; omega)
            exact hx ⟨q.1, _, h4, hop, by rw [hdst q hq _ hop (by rw [he]; exact hs), he]⟩
        obtain ⟨hex, _⟩ := exec_agree hsel hag
        refine hstep p.1 oj a w _ hoj (by simp [Region.wanted, hgd]) (loudAt_agree hex (loudAt_mono (hloud p hp vs w hc _ hf (by unfold lsOf; rw [getD_both hjun]; simp) (fun q hq hw => (by unfold lsOf; rw [isLoud_iff.2 ⟨q, hq, rfl⟩, hwait _ hw]; rfl)) oj hoj) ?_))
        rintro v w' ⟨hc', hv⟩
        refine ih _ _ w' (upd vs p.1 v) hun' inv' (st' v _ (fun i hi => by simp [upd, hi]) (by simp [upd, hlo])) hc' ?_
        have e : lsOf L (listed.setIfInBounds p.1 true) = updB (lsOf L listed) p.1 := by
          funext i
          unfold lsOf updB
          by_cases hi : i = p.1
          · subst hi; rw [if_pos rfl, hlo, hlj]; rfl
          · rw [if_neg hi, getD_set_ne false (Ne.symm hi)]
        rw [e]; exact hv
      · -- a quiet one
        have hlo' : isLoud L j = false := by simpa using hlo
        have hls : lsOf L (listed.setIfInBounds j true) = lsOf L listed := by
          funext i
          unfold lsOf
          by_cases hi : i = j
          · subst hi; rw [hlo']; rfl
          · rw [getD_set_ne false (Ne.symm hi)]
        obtain ⟨A, hA, hPA⟩ := hy j oj hjn hlo' hoj
        have hag : ∀ t ∈ oj.looksAt ops, a.tmps[t]? = A.tmps[t]? := fun t ht => by
          by_cases hs : t < a₀.tmps.size
          case neg => exact big (by rw [st.size, hPA.size]) (by rw [hPA.size]; exact hs)
          by_cases hx : ∃ i o, i < n ∧ ops[i]? = some o ∧ o.dst = some t ∧ i ≠ j
          · obtain ⟨i, o, h1, h2, h3, hij⟩ := hx
            rcases ok.looks i j o oj t h1 hjn hij h2 hoj h3 ht with ⟨h4, h5, h6⟩ | ⟨_, h4, h5⟩
            · rw [st.at_ i o t h1 h2 h3 hs (hwait i h5), hPA.at_ i o t (Nat.zero_le _) h4 (h6 hlo') h2 h3 hs, if_neg (by rw [h6 hlo']; exact Bool.false_ne_true)]
            · rw [st.else_ t (fun i' o' h6 h7 h8 h9 => ?_), hPA.else_ t (fun i' o' _ h6 _ h7 h8 => ?_)]
              · have := ok.distinct i' i o' o t (by omega) h1 h7 h2 h8 h3
                omega
              · have := ok.distinct i' i o' o t h6 h1 h7 h2 h9 h3
                subst this
                rw [hnot _ h5] at h8
                cases h8
          · rw [st.else_ t (fun i o h1 h2 h3 h4 => ?_), hPA.else_ t (fun i o _ h1 _ h2 h3 => hx ⟨i, o, by omega, h2, h3, by omega⟩)]
            by_cases hij : i = j
            · subst hij; rw [getD_both hjun] at h3; cases h3
            · exact hx ⟨i, o, h1, h2, h4, hij⟩
        obtain ⟨hex, hwa⟩ := exec_agree hsel hag
        have hst := st' (u j) vs (fun _ _ => rfl) (by rw [if_neg hlo])
        rcases hA with ⟨h1, h2⟩ | ⟨h1, h2⟩
        · refine hstep j oj a w _ hoj (by rw [hwa]; exact h1) (loudAt_agree hex (loudAt_mono (loudAt_of_quiet (hS w hc) (h2 w hc)) ?_))
          rintro v w' ⟨rfl, hb⟩
          refine ih _ _ w' vs hun' inv' hst (hC w w' hc hb) ?_
          rw [hls]; exact hΦ _ _ _ _ hc hf hb
        · refine hskip j oj a w _ hoj (by rw [hwa]; exact h1) ?_
          rw [h2] at hst
          refine ih _ _ w vs hun' inv' hst hc ?_
          rw [hls]; exact hf

/-! ### The tail -/
def seqOf (step : Nat → (Act → World → Prop) → Act → World → Prop) (Q : Act → World → Prop) : Nat → Nat → Act → World → Prop
  | 0, _, a, w => Q a w
  | g + 1, k, a, w => step k (seqOf step Q g (k + 1)) a w

theorem anyOf_of_seq {step : Nat → (Act → World → Prop) → Act → World → Prop} {ops : Array Oper} {Q : Act → World → Prop}
    (hmono : ∀ i a w K K', (∀ a w, K a w → K' a w) → step i K a w → step i K' a w) :
    ∀ (g k : Nat) (listed : Array Bool) (a : Act) (w : World), Region.seqB .any ops g k listed = true → seqOf step Q g k a w → anyOf step ops Q g listed a w
  | 0, k, listed, a, w, hB, h => ⟨by simpa [Region.seqB] using hB, h⟩
  | g + 1, k, listed, a, w, hB, h => by
    simp only [Region.seqB, Bool.and_eq_true, decide_eq_true_eq] at hB
    refine ⟨fun h1 => (by rw [hB.1] at h1; cases h1), fun i hi => ?_⟩
    rw [hB.1] at hi
    have hik : i = k := by simpa using hi
    subst hik
    exact hmono _ _ _ _ _ (fun a w h' => anyOf_of_seq hmono g (i + 1) _ a w hB.2 h') h

theorem seqOf_of_wpList {P : Program} {ops : Array Oper} {Q : Exit → Act → World → Prop} : ∀ (l : List Oper) (k : Nat), (∀ j, j < l.length → l[j]? = ops[k + j]?) →
    ∀ a w, wpList P ops Q l a w → seqOf (fun i K a w => wpOp P ops Q i K a w) (Q .normal) l.length k a w
  | [], _, _, _, _, h => h
  | o :: l, k, hl, a, w, h => by
    have h0 : ops[k]? = some o := by have := hl 0 (by simp); simpa using this.symm
    have : wpOp P ops Q k (wpList P ops Q l) a w := by unfold wpOp; simp only [h0]; exact h
    exact wpOp_mono (fun a w h => seqOf_of_wpList l (k + 1) (fun j hj => by
      have := hl (j + 1) (by simp; omega)
      simpa [Nat.add_assoc, Nat.add_comm 1 j] using this) a w h) this

theorem anyOf_wpAny {P : Program} {ops : Array Oper} {Q : Exit → Act → World → Prop} : ∀ (f : Nat) (listed : Array Bool) (a : Act) (w : World),
    anyOf (fun i K a w => wpOp P ops Q i K a w) ops (Q .normal) f listed a w → wpAny P .any ops Q f listed a w
  | 0, _, _, _, h => h
  | f + 1, _, _, _, h => ⟨h.1, fun i hi => wpOp_mono (fun a w => anyOf_wpAny f _ a w) (h.2 i hi)⟩

theorem seqOf_of_wpListIn {F : Fence} {m : Nat} {P : Program} {ops : Array Oper} {Q : Exit → Act → World → Prop} : ∀ (l : List Oper) (k : Nat), (∀ j, j < l.length → l[j]? = ops[k + j]?) →
    ∀ a w, wpListIn F m P ops Q l a w → seqOf (fun i K a w => wpOpIn F m P ops Q i K a w) (Q .normal) l.length k a w
  | [], _, _, _, _, h => h
  | o :: l, k, hl, a, w, h => by
    have h0 : ops[k]? = some o := by have := hl 0 (by simp); simpa using this.symm
    have : wpOpIn F m P ops Q k (wpListIn F m P ops Q l) a w := by unfold wpOpIn; simp only [h0]; exact h
    exact wpOpIn_mono (fun a w h => seqOf_of_wpListIn l (k + 1) (fun j hj => by
      have := hl (j + 1) (by simp; omega)
      simpa [Nat.add_assoc, Nat.add_comm 1 j] using this) a w h) this

theorem anyOf_wpAnyIn {F : Fence} {m : Nat} {P : Program} {ops : Array Oper} {Q : Exit → Act → World → Prop} : ∀ (f : Nat) (listed : Array Bool) (a : Act) (w : World),
    anyOf (fun i K a w => wpOpIn F m P ops Q i K a w) ops (Q .normal) f listed a w → wpAnyIn F m P .any ops Q f listed a w
  | 0, _, _, _, h => h
  | f + 1, _, _, _, h => ⟨h.1, fun i hi => wpOpIn_mono (fun a w => anyOf_wpAnyIn f _ a w) (h.2 i hi)⟩

/-- What the walk of the head must end in. -/
def HeadEnd (P : Program) (l : List Oper) (L : List (Nat × Tmp)) (C : World → Prop) (Φ : (Nat → Bool) → (Nat → Value) → World → Prop) (T : Act → World → Prop) (aQ : Act) : Prop :=
  (∀ p ∈ L, ∀ (vs : Nat → Value) (w : World), C w → ∀ ls, Φ ls vs w → ls p.1 = false → (∀ q ∈ L, Region.waitsFor .any l.toArray p.1 q.1 = true → ls q.1 = true) → ∀ o, l[p.1]? = some o →
      loudAt P o (putsL aQ L vs) w fun v w' => C w' ∧ Φ (updB ls p.1) (upd vs p.1 v) w') ∧
  (∀ (ls : Nat → Bool) (vs : Nat → Value) (w : World), C w → Φ ls vs w → (∀ p ∈ L, ls p.1 = true) → T (putsL aQ L vs) w)

theorem any_head {P : Program} {l : List Oper} {n : Nat} {L : List (Nat × Tmp)} {step : Nat → (Act → World → Prop) → Act → World → Prop} {Q T : Act → World → Prop}
    (hB : regB l.toArray n L = true)
    (hstep : ∀ i o a w K, l.toArray[i]? = some o → (∀ c, o.op ≠ .defer c) → Region.wanted o (yielded l.toArray a.tmps) = true → loudAt P o a w (fun v w' => K (a.put o.dst v) w') → step i K a w)
    (hskip : ∀ i o a w K, l.toArray[i]? = some o → Region.wanted o (yielded l.toArray a.tmps) = false → K (a.put o.dst undef) w → step i K a w)
    (hmono : ∀ i a w K K', (∀ a w, K a w → K' a w) → step i K a w → step i K' a w)
    {C : World → Prop} {S : World → World → Prop} {Φ : (Nat → Bool) → (Nat → Value) → World → Prop} (hS : ∀ w, C w → S w w) (hC : ∀ w w', C w → S w w' → C w')
    (hΦ : ∀ ls vs w w', C w → Φ ls vs w → S w w' → Φ ls vs w') {a : Act} {w : World} (hw : C w) (h0 : Φ (fun _ => false) (fun _ => undef) w) (hout : ∀ p ∈ L, ∀ o, l[p.1]? = some o → o.dst = none → a.tmps.size ≤ p.2)
    (hT : ∀ a w, T a w → seqOf step Q (l.toArray.size - n) n a w)
    (h : wpQS P l.toArray C S L (HeadEnd P l L C Φ T) 0 (l.take n) a) : anyOf step l.toArray Q l.toArray.size (Array.replicate l.toArray.size false) a w := by
  have ok := regB_ok hB
  have hn : n ≤ l.length := by simpa using ok.le
  have htl : (l.take n).length = n := by simp; omega
  obtain ⟨u, aQ, hQ, hp, hy⟩ := qs_extract (l.take n) 0 a (fun j hj => by
    have : j < n := by omega
    simp [this]) (by rw [htl, Nat.zero_add]; exact ok.distinct) h
  rw [htl, Nat.zero_add] at hp hy
  have hun : ∀ m, unl (Array.replicate l.toArray.size false) m = m := fun m => by
    induction m with
    | zero => rfl
    | succ m ih => unfold unl; rw [ih, getD_replicate_false]; rfl
  have H := any_of_head (T := T) (Q := Q) ok (fun i o a w K h1 => hstep i o a w K h1 (ok.defer_ i o h1)) hskip hS hC hΦ hp (fun p hp o ho => hout p hp o (by simpa using ho)) (fun j o h1 h2 h3 => hy j o (Nat.zero_le _) h1 h2 h3)
    (fun p hp vs w hc ls hf h0 hq o ho => hQ.1 p hp vs w hc ls hf h0 hq o (by simpa using ho)) hQ.2 (fun a w h => anyOf_of_seq hmono _ n _ a w ok.seq (hT a w h))
    n (Array.replicate l.toArray.size false) a w (fun _ => undef) (hun n)
    ⟨by simp, fun j oj _ hl => (by rw [getD_replicate_false] at hl; cases hl), fun t _ ht => getD_in (by simpa using ht) (getD_replicate_false _ _)⟩
    ⟨rfl, rfl, fun i o d _ _ _ _ h => (by rw [getD_replicate_false] at h; cases h), fun _ _ => rfl⟩ hw (by
      have e : lsOf L (Array.replicate l.toArray.size false) = fun _ => false := by funext i; unfold lsOf; rw [getD_replicate_false]; simp
      rw [e]; exact h0)
  rwa [show n + (l.toArray.size - n) = l.toArray.size by have := ok.le; omega] at H

/-- **A REGION THAT DRAWS ITS ORDER.** -/
theorem wp_region_head {P : Program} {id : Nat} {Q : Exit → Act → World → Prop} {a : Act} {w : World} {l : List Oper} (n : Nat) (L : List (Nat × Tmp)) (C : World → Prop) (S : World → World → Prop) (Φ : (Nat → Bool) → (Nat → Value) → World → Prop)
    (hm : P.follows .mixedOrders = true) (hB : regB l.toArray n L = true) (hw : C { w with drawn := w.drawn + 1 }) (h0 : Φ (fun _ => false) (fun _ => undef) { w with drawn := w.drawn + 1 }) (hout : ∀ p ∈ L, ∀ o, l[p.1]? = some o → o.dst = none → a.tmps.size ≤ p.2) (hS : ∀ w, C w → S w w) (hC : ∀ w w', C w → S w w' → C w')
    (hΦ : ∀ ls vs w w', C w → Φ ls vs w → S w w' → Φ ls vs w')
    (h : wpQS P l.toArray C S L (HeadEnd P l L C Φ (fun a w => wpList P l.toArray Q (l.drop n) a w)) 0 (l.take n) a) : (Code.region id l.toArray true).wp P Q a w := by
  have ok := regB_ok hB
  refine wp_region_any hm (anyOf_wpAny _ _ _ _ (any_head (Q := Q .normal) (step := fun i K a w => wpOp P l.toArray Q i K a w) hB ?_ ?_ ?_ hS hC hΦ hw h0 hout ?_ h))
  · intro i o a w K h1 _ h2 h3
    show wpOp P l.toArray Q i K a w
    unfold wpOp
    simp only [h1, h2, if_true]
    refine .inl ?_
    unfold loudAt at h3
    unfold Oper.wp
    generalize (execOp a.eval o).run P w = r at *
    cases r with
    | ok x w' =>
      cases x <;> simp only [loudUpon] at h3 <;> simp only [Oper.upon]
      case value v => exact h3
      case skip => exact h3
      case enter f args => exact h3.mono fun e w'' ⟨v, he, hv⟩ => by subst he; exact hv
    | halt x w' => simp only [loudUpon] at h3
  · intro i o a w K h1 h2 h3
    show wpOp P l.toArray Q i K a w
    unfold wpOp
    simp only [h1, h2, Bool.false_eq_true, if_false]
    exact h3
  · exact fun i a w K K' hk h => wpOp_mono hk h
  · intro a w h
    have hlen : l.toArray.size - n = (l.drop n).length := by simp
    rw [hlen]
    exact seqOf_of_wpList (l.drop n) n (fun j _ => by simp [List.getElem?_drop]) a w h

/-- A fence that shuts nothing out. -/
structure OpenFence (F : Fence) (P : Program) : Prop where
  fn : ∀ f, F.fn f
  depth : F.depth = none
  calls : ∀ (m : Nat) (f : FuncId) (args : Array Value) (w : World) (R : Ending → World → Prop), Calls P f args w R → CallsIn F m P f args w R
theorem openWide (P : Program) : OpenFence Fence.wide P := ⟨fun _ => trivial, rfl, fun _ _ _ _ _ h => callsIn_wide.2 h⟩
theorem openRound (P : Program) (r : Nat) : OpenFence (Fence.wide.inRound r) P := ⟨fun _ => trivial, rfl, fun _ _ _ _ _ h => CallsIn.inRound _ (callsIn_wide.2 h)⟩

/-- **The same in the round of a range over a function.** -/
theorem wpIn_region_head {F : Fence} {P : Program} {id m : Nat} {Q : Exit → Act → World → Prop} {a : Act} {w : World} {l : List Oper} (n : Nat) (L : List (Nat × Tmp)) (C : World → Prop) (S : World → World → Prop) (Φ : (Nat → Bool) → (Nat → Value) → World → Prop)
    (hF : OpenFence F P) (hm : P.follows .mixedOrders = true) (hB : regB l.toArray n L = true) (hw : C { w with drawn := w.drawn + 1 }) (h0 : Φ (fun _ => false) (fun _ => undef) { w with drawn := w.drawn + 1 }) (hout : ∀ p ∈ L, ∀ o, l[p.1]? = some o → o.dst = none → a.tmps.size ≤ p.2) (hS : ∀ w, C w → S w w) (hC : ∀ w w', C w → S w w' → C w')
    (hΦ : ∀ ls vs w w', C w → Φ ls vs w → S w w' → Φ ls vs w')
    (h : wpQS P l.toArray C S L (HeadEnd P l L C Φ (fun a w => wpListIn F m P l.toArray Q (l.drop n) a w)) 0 (l.take n) a) :
    (Code.region id l.toArray true).wpIn F m P Q a w := by
  have ok := regB_ok hB
  refine wpIn_region_any hm (anyOf_wpAnyIn _ _ _ _ (any_head (Q := Q .normal) (step := fun i K a w => wpOpIn F m P l.toArray Q i K a w) hB ?_ ?_ ?_ hS hC hΦ hw h0 hout ?_ h))
  · intro i o a w K h1 hnd h2 h3
    show wpOpIn F m P l.toArray Q i K a w
    unfold wpOpIn
    simp only [h1, h2, if_true]
    refine ⟨fun f _ => hF.fn f, ?_⟩
    rw [Oper.semAt_plain _ _ _ hnd]
    unfold loudAt at h3
    generalize (execOp a.eval o).run P w = r at *
    cases r with
    | ok x w' =>
      cases x <;> simp only [loudUpon] at h3 <;> simp only [Oper.uponIn]
      case value v => exact h3
      case skip => exact h3
      case enter f args =>
        refine ⟨fun h => (by rw [hF.depth] at h; cases h), hF.calls _ _ _ _ _ (h3.mono fun e w'' ⟨v, he, hv⟩ => ?_)⟩
        subst he; exact hv
    | halt x w' => simp only [loudUpon] at h3
  · intro i o a w K h1 h2 h3
    show wpOpIn F m P l.toArray Q i K a w
    unfold wpOpIn
    simp only [h1, h2, Bool.false_eq_true, if_false]
    exact ⟨fun f _ => hF.fn f, h3⟩
  · exact fun i a w K K' hk h => wpOpIn_mono hk h
  · intro a w h
    have hlen : l.toArray.size - n = (l.drop n).length := by simp
    rw [hlen]
    exact seqOf_of_wpListIn (l.drop n) n (fun j _ => by simp [List.getElem?_drop]) a w h

/-! ### The class of worlds that lie above one: old memory is as it was -/
structure Ext (W : World) where
  w : World
  below : Below W.heap.size W w

instance extNonempty (W : World) : Nonempty (Ext W) := ⟨⟨W, Below.refl _ _⟩⟩

theorem wpQS_of_wpQuiet {P : Program} {ops : Array Oper} {C : World → Prop} {Q Q' : Act → Prop} (hQ : ∀ a, Q a → Q' a) : ∀ (l : List Oper) (k : Nat) (a : Act), wpQuiet P ops C Q l a → wpQS P ops C (fun _ => C) [] Q' k l a
  | [], _, _, h => hQ _ h
  | o :: l, k, a, h => by
    unfold wpQuiet at h
    unfold wpQS
    rw [if_neg (by simp [isLoud])]
    split at h
    · rename_i hw
      obtain ⟨v, h1, h2⟩ := h
      rw [if_pos hw]
      exact ⟨v, h1, wpQS_of_wpQuiet hQ l (k + 1) _ h2⟩
    · rename_i hw
      rw [if_neg hw]
      exact wpQS_of_wpQuiet hQ l (k + 1) _ h

/-- Without loud operations. -/
theorem wp_region_quiet_tail {P : Program} {id : Nat} {Q : Exit → Act → World → Prop} {a : Act} {w : World} {l : List Oper} (n : Nat) (hm : P.follows .mixedOrders = true) (hB : regB l.toArray n [] = true)
    (h : wpQuiet P l.toArray (fun w' => ∃ x : Ext w, w' = x.w) (fun a' => ∀ w', Below w.heap.size w w' → wpList P l.toArray Q (l.drop n) a' w') (l.take n) a) : (Code.region id l.toArray true).wp P Q a w :=
  wp_region_head n [] (fun w' => ∃ x : Ext w, w' = x.w) (fun _ w' => ∃ x : Ext w, w' = x.w) (fun _ _ _ => True) hm hB ⟨⟨_, (Below.refl _ w).drew⟩, rfl⟩ trivial (fun p hp => (by cases hp)) (fun _ h => h) (fun _ _ _ h => h)
    (fun _ _ _ _ _ _ _ => trivial) (wpQS_of_wpQuiet (fun _ h => ⟨fun p hp => (by cases hp), fun _ _ w' hc _ _ => (by obtain ⟨x, rfl⟩ := hc; exact h _ x.below)⟩) _ _ _ h)

theorem wpIn_region_quiet_tail {F : Fence} {P : Program} {id m : Nat} {Q : Exit → Act → World → Prop} {a : Act} {w : World} {l : List Oper} (n : Nat) (hF : OpenFence F P) (hm : P.follows .mixedOrders = true) (hB : regB l.toArray n [] = true)
    (h : wpQuiet P l.toArray (fun w' => ∃ x : Ext w, w' = x.w) (fun a' => ∀ w', Below w.heap.size w w' → wpListIn F m P l.toArray Q (l.drop n) a' w') (l.take n) a) :
    (Code.region id l.toArray true).wpIn F m P Q a w :=
  wpIn_region_head n [] (fun w' => ∃ x : Ext w, w' = x.w) (fun _ w' => ∃ x : Ext w, w' = x.w) (fun _ _ _ => True) hF hm hB ⟨⟨_, (Below.refl _ w).drew⟩, rfl⟩ trivial (fun p hp => (by cases hp)) (fun _ h => h) (fun _ _ _ h => h)
    (fun _ _ _ _ _ _ _ => trivial) (wpQS_of_wpQuiet (fun _ h => ⟨fun p hp => (by cases hp), fun _ _ w' hc _ _ => (by obtain ⟨x, rfl⟩ := hc; exact h _ x.below)⟩) _ _ _ h)

/-- A callee's contract, met in a world of the class. -/
theorem calls_ext {P : Program} {f : FuncId} {args : Array Value} {W : World} {x : Ext W} {v : Value}
    (h : Calls P f args x.w fun e w' => e = .returned v ∧ Below x.w.heap.size x.w w') : Calls P f args x.w fun e w'' => e = .returned v ∧ ∃ y : Ext W, w'' = y.w :=
  h.mono fun _ w' ⟨he, hb⟩ => ⟨he, ⟨w', x.below.trans (hb.mono x.below.size)⟩, rfl⟩
theorem calls_ext_same {P : Program} {f : FuncId} {args : Array Value} {W : World} {x : Ext W} {v : Value}
    (h : Calls P f args x.w fun e w' => e = .returned v ∧ x.w = w') : Calls P f args x.w fun e w'' => e = .returned v ∧ ∃ y : Ext W, w'' = y.w :=
  h.mono fun _ _ ⟨he, hb⟩ => ⟨he, x, hb.symm⟩
theorem xcell {W : World} : (∀ (x : Ext W) b o, b < W.heap.size → x.w.cell? ⟨b, o, none⟩ = W.cell? ⟨b, o, none⟩) ∧ (∀ (x : Ext W) b o, b < W.heap.size → x.w.frozen? ⟨b, o, none⟩ = W.frozen? ⟨b, o, none⟩) :=
  ⟨fun x b o h => x.below.cell (p := ⟨b, o, none⟩) h, fun x b o h => x.below.frozen (p := ⟨b, o, none⟩) h⟩
end Go.Proofs.YtgojpgggbflgoaaGreat

namespace Go.Proofs.YtgojpgggbflgoaaGreat
open Go.RowKit Go

/-- j comes behind i in every order: by at most f + 1 edges. -/
def dep (ops : Array Oper) : Nat → Nat → Nat → Bool
  | 0, j, i => Region.waitsFor .any ops j i
  | f + 1, j, i => Region.waitsFor .any ops j i || (List.range ops.size).any fun m => Region.waitsFor .any ops j m && dep ops f m i

def Closed (ops : Array Oper) (listed : Array Bool) : Prop :=
  ∀ j oj, ops[j]? = some oj → listed.getD j false = true → ∀ e ∈ oj.after, Region.binds .any e = true → listed.getD e.on false = true

theorem closed_waits {ops : Array Oper} {listed : Array Bool} (hc : Closed ops listed) {j i : Nat} (hj : listed.getD j false = true) (h : Region.waitsFor .any ops j i = true) : listed.getD i false = true := by
  obtain ⟨o, ho, e, he, hb, hon⟩ := Region.waitsFor_spec h
  rw [← hon]; exact hc j o ho hj e he hb
theorem closed_dep {ops : Array Oper} {listed : Array Bool} (hc : Closed ops listed) : ∀ (f j i : Nat), listed.getD j false = true → dep ops f j i = true → listed.getD i false = true
  | 0, j, i, hj, h => closed_waits hc hj h
  | f + 1, j, i, hj, h => by
    simp only [dep, Bool.or_eq_true, List.any_eq_true, Bool.and_eq_true] at h
    rcases h with h | ⟨m, _, h1, h2⟩
    · exact closed_waits hc hj h
    · exact closed_dep hc f m i (closed_waits hc hj h1) h2
theorem ready_dep {ops : Array Oper} {listed : Array Bool} (hc : Closed ops listed) {j : Nat} (hj : j ∈ Region.ready .any ops listed) {f i : Nat} (h : dep ops f j i = true) : listed.getD i false = true := by
  obtain ⟨_, oj, hoj, hall⟩ := mem_ready.1 hj
  have hw : ∀ i, Region.waitsFor .any ops j i = true → listed.getD i false = true := fun i h => by
    obtain ⟨o', ho', e, he, hb, hon⟩ := Region.waitsFor_spec h
    have : o' = oj := Option.some.inj (ho'.symm.trans hoj)
    subst this
    rw [← hon]; exact hall e he hb
  cases f with
  | zero => exact hw i h
  | succ f =>
    simp only [dep, Bool.or_eq_true, List.any_eq_true, Bool.and_eq_true] at h
    rcases h with h | ⟨m, _, h1, h2⟩
    · exact hw i h
    · exact closed_dep hc f m i (hw m h1) h2

def pairB (ops : Array Oper) (n : Nat) (i j : Nat) : Bool :=
  match ops[i]?, ops[j]? with
  | some oi, some oj =>
    match oi.dst with
    | none => true
    | some d => (i == j || oj.dst != some d) && (decide (n ≤ i) || decide (n ≤ j) || i == j || !(oj.looksAt ops).contains d || (decide (i < j) && Region.waitsFor .any ops j i) || (decide (j < i) && Region.waitsFor .any ops i j))
  | _, _ => false
def floatPair (ops : Array Oper) (n : Nat) (Fl : List Nat) (i j : Nat) : Bool :=
  match ops[i]?, ops[j]? with
  | some oi, some oj =>
    match oi.dst with
    | none => true
    | some d => (!Fl.contains j || !(oj.looksAt ops).contains d || (decide (i < j) && decide (i < n) && Region.waitsFor .any ops j i)) &&
        (!(decide (n ≤ j) && Fl.contains i) || !(oj.looksAt ops).contains d || dep ops 3 j i)
  | _, _ => false
/-- The closed check: n operations of the head, Fl the floating ones among them. -/
def floatB (ops : Array Oper) (n : Nat) (Fl : List Nat) : Bool :=
  Region.noSelect ops && ops.all (fun o => match o.op with | .defer _ => false | _ => true) && decide (n ≤ ops.size) &&
  (List.range ops.size).all (fun i => match ops[i]? with | some o => o.after.all (fun e => !Region.binds .any e || decide (e.on < i)) | none => false) &&
  (List.range ops.size).all (fun i => (List.range ops.size).all fun j => pairB ops n i j && floatPair ops n Fl i j) &&
  (List.range ops.size).all (fun t => decide (t < n) || (List.range t).all fun i => (decide (i < n) && Fl.contains i) || dep ops 3 t i) &&
  Fl.all (fun i => decide (i < n))

structure FloatOk (ops : Array Oper) (n : Nat) (Fl : List Nat) : Prop where
  sel : Region.noSelect ops = true
  defer_ : ∀ (i : Nat) (o : Oper), ops[i]? = some o → ∀ c, o.op ≠ .defer c
  le : n ≤ ops.size
  back : ∀ (i : Nat) (o : Oper), ops[i]? = some o → ∀ e ∈ o.after, Region.binds .any e = true → e.on < i
  distinct : Distinct ops ops.size
  looks : ∀ (i j : Nat) (oi oj : Oper) (d : Tmp), i < n → j < n → i ≠ j → ops[i]? = some oi → ops[j]? = some oj → oi.dst = some d → d ∈ oj.looksAt ops →
    (i < j ∧ Region.waitsFor .any ops j i = true) ∨ (j < i ∧ Region.waitsFor .any ops i j = true)
  flo : ∀ (i j : Nat) (oi oj : Oper) (d : Tmp), Fl.contains j = true → ops[i]? = some oi → ops[j]? = some oj → oi.dst = some d → d ∈ oj.looksAt ops → i < j ∧ i < n ∧ Region.waitsFor .any ops j i = true
  tlo : ∀ (i j : Nat) (oi oj : Oper) (d : Tmp), n ≤ j → Fl.contains i = true → ops[i]? = some oi → ops[j]? = some oj → oi.dst = some d → d ∈ oj.looksAt ops → dep ops 3 j i = true
  tail : ∀ (t i : Nat), n ≤ t → t < ops.size → i < t → (i < n ∧ Fl.contains i = true) ∨ dep ops 3 t i = true
  fl : ∀ i, Fl.contains i = true → i < n

theorem floatB_ok {ops : Array Oper} {n : Nat} {Fl : List Nat} (h : floatB ops n Fl = true) : FloatOk ops n Fl := by
  simp only [floatB, Bool.and_eq_true, decide_eq_true_eq, List.all_eq_true, List.mem_range] at h
  obtain ⟨⟨⟨⟨⟨⟨h1, h2⟩, h3⟩, h4⟩, h5⟩, h6⟩, h7⟩ := h
  have hp : ∀ i j oi oj d, ops[i]? = some oi → ops[j]? = some oj → oi.dst = some d →
      ((i == j || oj.dst != some d) && (decide (n ≤ i) || decide (n ≤ j) || i == j || !(oj.looksAt ops).contains d || (decide (i < j) && Region.waitsFor .any ops j i) || (decide (j < i) && Region.waitsFor .any ops i j))) = true ∧
      ((!Fl.contains j || !(oj.looksAt ops).contains d || (decide (i < j) && decide (i < n) && Region.waitsFor .any ops j i)) &&
        (!(decide (n ≤ j) && Fl.contains i) || !(oj.looksAt ops).contains d || dep ops 3 j i)) = true := by
    intro i j oi oj d hoi hoj hd
    have := h5 i (Array.getElem?_eq_some_iff.1 hoi).1 j (Array.getElem?_eq_some_iff.1 hoj).1
    unfold pairB floatPair at this
    rw [hoi, hoj] at this
    simpa only [hd] using this
  refine ⟨h1, fun i o ho c hc => ?_, h3, fun i o ho e he hb => ?_, fun i j oi oj d hi hj hoi hoj hdi hdj => ?_, fun i j oi oj d hi hj hij hoi hoj hd hmem => ?_,
    fun i j oi oj d hj hoi hoj hd hmem => ?_, fun i j oi oj d hj hi hoi hoj hd hmem => ?_, fun t i ht hts hit => ?_, fun i hi => h7 i (by simpa using hi)⟩
  · have hlt : i < ops.size := (Array.getElem?_eq_some_iff.1 ho).1
    have := Array.all_eq_true.1 h2 i hlt
    have he : ops[i] = o := by simpa [Array.getElem?_eq_getElem hlt] using ho
    rw [he, hc] at this
    exact Bool.noConfusion this
  · have := h4 i (Array.getElem?_eq_some_iff.1 ho).1
    rw [ho] at this
    have := Array.all_eq_true'.1 this e he
    simpa [hb] using this
  · by_cases hij : i = j
    · exact hij
    · have := (hp i j oi oj d hoi hoj hdi).1
      simp [hij, hdj] at this
  · have hc : (oj.looksAt ops).contains d = true := by simpa using hmem
    have := (hp i j oi oj d hoi hoj hd).1
    rw [hc] at this
    simp only [Bool.and_eq_true, Bool.or_eq_true, decide_eq_true_eq, beq_iff_eq, Bool.not_true, Bool.false_eq_true, or_false] at this
    rcases this.2 with ((((h | h) | h) | h)) | h
    · omega
    · omega
    · exact absurd h hij
    · exact .inl h
    · exact .inr h
  · have hc : (oj.looksAt ops).contains d = true := by simpa using hmem
    have := (hp i j oi oj d hoi hoj hd).2
    rw [hc, hj] at this
    simp only [Bool.and_eq_true, Bool.or_eq_true, decide_eq_true_eq, Bool.not_true, Bool.false_eq_true, false_or] at this
    exact ⟨this.1.1.1, this.1.1.2, this.1.2⟩
  · have hc : (oj.looksAt ops).contains d = true := by simpa using hmem
    have := (hp i j oi oj d hoi hoj hd).2
    rw [hc, hi] at this
    simp only [Bool.and_eq_true, Bool.or_eq_true, decide_eq_true_eq, Bool.not_true, Bool.false_eq_true, or_false, Bool.and_true, Bool.not_eq_true', decide_eq_false_iff_not] at this
    rcases this.2 with h | h
    · exact absurd hj h
    · exact h
  · have := h6 t hts
    simp only [Bool.or_eq_true, decide_eq_true_eq, List.all_eq_true, List.mem_range, Bool.and_eq_true] at this
    rcases this with h | h
    · omega
    · exact h i hit

/-- The tail in the order of the text; none of it panics. -/
def tlOf (P : Program) (ops : Array Oper) (Q : Act → World → Prop) : Nat → Nat → Act → World → Prop
  | 0, _, a, w => Q a w
  | g + 1, k, a, w => ∃ o, ops[k]? = some o ∧ o.guard = none ∧ loudAt P o a w fun v w' => tlOf P ops Q g (k + 1) (a.put o.dst v) w'

/-- A floating operation yields the same value in every world. -/
def floatAt (P : Program) (ops : Array Oper) (o : Oper) (v : Value) (a : Act) : Prop :=
  (Region.wanted o (yielded ops a.tmps) = true ∧ ∀ w, loudAt P o a w fun v' w' => v' = v ∧ w' = w) ∨ (Region.wanted o (yielded ops a.tmps) = false ∧ v = undef)

theorem ready_some {ops : Array Oper} {n : Nat} {Fl : List Nat} (ok : FloatOk ops n Fl) {listed : Array Bool} (hs : listed.size = ops.size) (h : unl listed ops.size ≠ 0) : Region.ready .any ops listed ≠ [] := by
  obtain ⟨m, hm, hm1, hm2⟩ := unl_first listed _ h
  intro he
  have hom := Array.getElem?_eq_getElem hm
  have : m ∈ Region.ready .any ops listed := mem_ready.2 ⟨getD_in (by omega) hm1, _, hom, fun e he hb => hm2 _ (ok.back m _ hom e he hb)⟩
  rw [he] at this
  cases this
theorem ready_none {ops : Array Oper} {listed : Array Bool} (_ : listed.size = ops.size) (h : unl listed ops.size = 0) : Region.ready .any ops listed = [] := by
  cases hr : Region.ready .any ops listed with
  | nil => rfl
  | cons j l =>
    have hj : j ∈ Region.ready .any ops listed := by rw [hr]; exact List.mem_cons_self
    obtain ⟨h1, o, ho, _⟩ := mem_ready.1 hj
    have := unl_zero listed _ h j (Array.getElem?_eq_some_iff.1 ho).1
    rw [getD_both h1] at this
    cases this
theorem closed_set {ops : Array Oper} {listed : Array Bool} (hc : Closed ops listed) {j : Nat} (hj : j ∈ Region.ready .any ops listed) : Closed ops (listed.setIfInBounds j true) := by
  obtain ⟨_, oj, hoj, hall⟩ := mem_ready.1 hj
  intro i oi hoi hl e he hb
  by_cases hij : j = i
  · subst hij
    have : oi = oj := Option.some.inj (hoi.symm.trans hoj)
    subst this
    exact getD_set_true (hall e he hb)
  · rw [getD_set_ne false hij] at hl
    exact getD_set_true (hc i oi hoi hl e he hb)

section
variable {P : Program} {ops : Array Oper} {n : Nat} {Fl : List Nat} {step : Nat → (Act → World → Prop) → Act → World → Prop} {Q : Act → World → Prop}

/-- The frame but for the slots of floating operations that are not yet done. -/
structure Near (ops : Array Oper) (Fl : List Nat) (listed : Array Bool) (a b : Act) : Prop where
  defers : a.defers = b.defers
  size : a.tmps.size = b.tmps.size
  at_ : ∀ t, (∀ i o, Fl.contains i = true → ops[i]? = some o → listed.getD i false = false → o.dst ≠ some t) → a.tmps[t]? = b.tmps[t]?

theorem big2 {A B : Act} {t : Nat} (h1 : A.tmps.size = B.tmps.size) (h2 : ¬ t < B.tmps.size) : A.tmps[t]? = B.tmps[t]? := by
  rw [Array.getElem?_eq_none (by omega), Array.getElem?_eq_none (by omega)]
theorem float2 (ok : FloatOk ops n Fl)
    (hstep : ∀ i o a w K, ops[i]? = some o → Region.wanted o (yielded ops a.tmps) = true → loudAt P o a w (fun v w' => K (a.put o.dst v) w') → step i K a w)
    (hskip : ∀ i o a w K, ops[i]? = some o → Region.wanted o (yielded ops a.tmps) = false → K (a.put o.dst undef) w → step i K a w)
    {u : Nat → Value} {aQ : Act} (hpure : ∀ j o, Fl.contains j = true → ops[j]? = some o → floatAt P ops o (u j) aQ) :
    ∀ (f : Nat) (listed : Array Bool) (a b : Act) (w : World) (g k : Nat), unl listed ops.size = f → listed.size = ops.size → Closed ops listed → g + k = ops.size → n ≤ k →
      (∀ t, n ≤ t → t < ops.size → listed.getD t false = decide (t < k)) → (∀ i, i < n → Fl.contains i = false → listed.getD i false = true) →
      Near ops Fl listed a b → (∀ i o d, Fl.contains i = true → ops[i]? = some o → o.dst = some d → d < b.tmps.size → b.tmps[d]? = some (u i)) →
      b.tmps.size = aQ.tmps.size → (∀ t, (∀ i o, n ≤ i → ops[i]? = some o → o.dst ≠ some t) → b.tmps[t]? = aQ.tmps[t]?) →
      tlOf P ops Q g k b w → anyOf step ops Q f listed a w := by
  intro f
  induction f with
  | zero =>
    intro listed a b w g k hun hs hc hgk hnk htl hM hN hF hbs hbq hT
    refine ⟨ready_none hs hun, ?_⟩
    have hall := unl_zero listed _ hun
    have hg : g = 0 := by
      rcases Nat.eq_zero_or_pos g with h | h
      · exact h
      · have h1 := hall k (by omega)
        rw [htl k hnk (by omega)] at h1
        simp at h1
    subst hg
    have hab : a = b := by
      have h1 : a.tmps = b.tmps := Array.ext_getElem? fun t => hN.at_ t (fun i o _ h2 h3 => by
        rw [hall i (Array.getElem?_eq_some_iff.1 h2).1] at h3; cases h3)
      have h2 := hN.defers
      cases a; cases b
      simp only at h1 h2
      rw [h1, h2]
    rw [hab]
    exact hT
  | succ f ih =>
    intro listed a b w g k hun hs hc hgk hnk htl hM hN hF hbs hbq hT
    refine ⟨fun h => absurd h (ready_some ok hs (by omega)), fun j hj => ?_⟩
    obtain ⟨hjun, oj, hoj, hall⟩ := mem_ready.1 hj
    have hjs : j < ops.size := (Array.getElem?_eq_some_iff.1 hoj).1
    have hun' : unl (listed.setIfInBounds j true) ops.size = f := by have := unl_set listed j hjun ops.size hjs; omega
    have hlj : (listed.setIfInBounds j true).getD j false = true := by simp [show j < listed.size by omega]
    have hc' := closed_set hc hj
    have hsel : ∀ cs b, oj.op ≠ .select cs b := fun cs b => Region.noSelect_spec ok.sel j oj cs b hoj
    have hkeep : ∀ i, i ≠ j → (listed.setIfInBounds j true).getD i false = listed.getD i false := fun i hi => getD_set_ne false (Ne.symm hi)
    rcases Nat.lt_or_ge j n with hjn | hjn
    · -- a floating one
      have hjF : Fl.contains j = true := by
        cases h : Fl.contains j with
        | true => rfl
        | false => have := hM j hjn h; rw [getD_both hjun] at this; cases this
      have hag : ∀ t ∈ oj.looksAt ops, a.tmps[t]? = aQ.tmps[t]? := fun t ht => by
        rw [hN.at_ t (fun i o h1 h2 h3 h4 => ?_), hbq t (fun i o h1 h2 h4 => ?_)]
        · have := (ok.flo i j o oj t hjF h2 hoj h4 ht).2.1; omega
        · have := (ok.flo i j o oj t hjF h2 hoj h4 ht).2.2
          have := ready_dep hc hj (f := 0) (i := i) this
          rw [h3] at this; cases this
      obtain ⟨hex, hwa⟩ := exec_agree hsel hag
      have hN' : Near ops Fl (listed.setIfInBounds j true) (a.put oj.dst (u j)) b := ⟨by rw [put_defers']; exact hN.defers, by rw [put_size]; exact hN.size, fun t ht => by
        by_cases htj : oj.dst = some t
        · by_cases hts : t < a.tmps.size
          · rw [htj, put_at _ _ _ hts, hF j oj t hjF hoj htj (by rw [← hN.size]; exact hts)]
          · exact big2 (by rw [put_size]; exact hN.size) (by rw [← hN.size]; exact hts)
        · rw [put_ne _ _ _ _ htj]
          exact hN.at_ t fun i o h1 h2 h3 => by
            by_cases hij : i = j
            · subst hij
              have : o = oj := Option.some.inj (h2.symm.trans hoj)
              subst this; exact htj
            · exact ht i o h1 h2 (by rw [hkeep i hij]; exact h3)⟩
      have hfin := ih (listed.setIfInBounds j true) (a.put oj.dst (u j)) b w g k hun' (by simp [hs]) hc' hgk hnk
        (fun t ht hts => by rw [hkeep t (by omega)]; exact htl t ht hts) (fun i hi hF' => by rw [hkeep i (fun e => by subst e; rw [hF'] at hjF; cases hjF)]; exact hM i hi hF') hN' hF hbs hbq hT
      rcases hpure j oj hjF hoj with ⟨h1, h2⟩ | ⟨h1, h2⟩
      · refine hstep j oj a w _ hoj (by rw [hwa]; exact h1) (loudAt_agree hex (loudAt_mono (h2 w) ?_))
        rintro v w' ⟨rfl, rfl⟩
        exact hfin
      · refine hskip j oj a w _ hoj (by rw [hwa]; exact h1) ?_
        rw [h2] at hfin
        exact hfin
    · -- one of the tail
      have hjk : j = k := by
        have h1 := htl j hjn hjs
        rw [getD_both hjun] at h1
        have h2 : ¬ j < k := by simpa using h1.symm
        rcases Nat.lt_or_ge k j with h3 | h3
        · rcases ok.tail j k hjn hjs h3 with h4 | h4
          · omega
          · have := ready_dep hc hj h4
            rw [htl k hnk (by omega)] at this
            simp at this
        · omega
      subst hjk
      obtain ⟨g, rfl⟩ : ∃ g', g = g' + 1 := ⟨g - 1, by omega⟩
      obtain ⟨o', ho', hgd, hl⟩ := hT
      have : o' = oj := Option.some.inj (ho'.symm.trans hoj)
      subst this
      have hag : ∀ t ∈ o'.looksAt ops, a.tmps[t]? = b.tmps[t]? := fun t ht => hN.at_ t (fun i o h1 h2 h3 h4 => by
        have := ready_dep hc hj (ok.tlo i j o o' t hjn h1 h2 hoj h4 ht)
        rw [h3] at this; cases this)
      obtain ⟨hex, _⟩ := exec_agree hsel hag
      refine hstep j o' a w _ hoj (by simp [Region.wanted, hgd]) (loudAt_agree hex (loudAt_mono hl ?_))
      intro v w' hT'
      have hdis : ∀ i o d, Fl.contains i = true → ops[i]? = some o → o.dst = some d → o'.dst ≠ some d := fun i o d h1 h2 h3 h4 => by
        have := ok.distinct i j o o' d (by have := ok.fl i h1; omega) hjs h2 hoj h3 h4
        have := ok.fl i h1
        omega
      refine ih (listed.setIfInBounds j true) (a.put o'.dst v) (b.put o'.dst v) w' g (j + 1) hun' (by simp [hs]) hc' (by omega) (by omega) (fun t ht hts => ?_) (fun i hi hF' => ?_) ⟨?_, ?_, fun t ht => ?_⟩ (fun i o d h1 h2 h3 h4 => ?_) (by rw [put_size]; exact hbs) (fun t ht => ?_) hT'
      · by_cases htj : t = j
        · subst htj; rw [hlj]; simp
        · rw [hkeep t htj, htl t ht hts]
          simp only [decide_eq_decide]
          omega
      · rw [hkeep i (by omega)]; exact hM i hi hF'
      · rw [put_defers', put_defers']; exact hN.defers
      · rw [put_size, put_size]; exact hN.size
      · by_cases htj : o'.dst = some t
        · by_cases hts : t < a.tmps.size
          · rw [htj, put_at _ _ _ hts, put_at _ _ _ (by rw [← hN.size]; exact hts)]
          · exact big2 (by rw [put_size, put_size]; exact hN.size) (by rw [put_size, ← hN.size]; exact hts)
        · rw [put_ne _ _ _ _ htj, put_ne _ _ _ _ htj]
          exact hN.at_ t fun i o h1 h2 h3 => ht i o h1 h2 (by rw [hkeep i (by have := ok.fl i h1; omega)]; exact h3)
      · rw [put_ne _ _ _ _ (hdis i o d h1 h2 h3)]
        exact hF i o d h1 h2 h3 (by rwa [put_size] at h4)
      · rw [put_ne _ _ _ _ (ht j o' hjn hoj)]
        exact hbq t ht

theorem unl_tail {listed : Array Bool} {n : Nat} : ∀ (g : Nat), (∀ t, n ≤ t → t < n + g → listed.getD t false = false) → unl listed (n + g) = unl listed n + g
  | 0, _ => rfl
  | g + 1, h => by
    have e := unl_tail g (fun t h1 h2 => h t h1 (by omega))
    have h' := h (n + g) (by omega) (by omega)
    show unl listed (n + g) + (if listed.getD (n + g) false = true then 0 else 1) = unl listed n + (g + 1)
    rw [e, if_neg (by rw [h']; exact Bool.false_ne_true)]
    omega

theorem float1 (ok : FloatOk ops n Fl)
    (hstep : ∀ i o a w K, ops[i]? = some o → Region.wanted o (yielded ops a.tmps) = true → loudAt P o a w (fun v w' => K (a.put o.dst v) w') → step i K a w)
    (hskip : ∀ i o a w K, ops[i]? = some o → Region.wanted o (yielded ops a.tmps) = false → K (a.put o.dst undef) w → step i K a w)
    {C : World → Prop} {u : Nat → Value} {a₀ aQ : Act} (hQ : PW ops [] u 0 n a₀ aQ)
    (hy : ∀ j o, j < n → ops[j]? = some o → ∃ A, YlS P ops C (fun _ => C) o (u j) A ∧ PW ops [] u 0 j a₀ A)
    (hpure : ∀ j o, Fl.contains j = true → ops[j]? = some o → floatAt P ops o (u j) aQ)
    (hfin : ∀ (w : World), C w → tlOf P ops Q (ops.size - n) n aQ w) :
    ∀ (f : Nat) (listed : Array Bool) (a : Act) (w : World), unl listed n = f → HeadInv .any ops n listed → StR ops n [] u u a₀ listed a → C w →
      anyOf step ops Q (f + (ops.size - n)) listed a w := by
  have hL : ∀ i, isLoud [] i = false := fun _ => rfl
  have big : ∀ {A B : Act} {t : Nat}, A.tmps.size = B.tmps.size → ¬ t < B.tmps.size → A.tmps[t]? = B.tmps[t]? := fun h1 h2 => by
    rw [Array.getElem?_eq_none (by omega), Array.getElem?_eq_none (by omega)]
  have hle := ok.le
  -- when all but floating ones are done, the second half goes on
  have over : ∀ (f : Nat) (listed : Array Bool) (a : Act) (w : World), unl listed n = f → HeadInv .any ops n listed → StR ops n [] u u a₀ listed a → C w →
      (∀ i, i < n → Fl.contains i = false → listed.getD i false = true) → anyOf step ops Q (f + (ops.size - n)) listed a w := by
    intro f listed a w hun inv st hc hM
    have htl : ∀ t, n ≤ t → t < n + (ops.size - n) → listed.getD t false = false := fun t h1 h2 => getD_both (inv.tail t h1 (by omega))
    have hu := unl_tail (ops.size - n) htl
    rw [show n + (ops.size - n) = ops.size by omega, hun] at hu
    refine float2 ok hstep hskip hpure _ listed a aQ w (ops.size - n) n hu inv.size inv.closed (by omega) (Nat.le_refl _) (fun t h1 h2 => by rw [getD_both (inv.tail t h1 h2)]; simp; omega) hM ⟨?_, ?_, fun t ht => ?_⟩ (fun i o d h1 h2 h3 h4 => ?_) rfl (fun _ _ => rfl) (hfin w hc)
    · rw [st.defers, hQ.defers]
    · rw [st.size, hQ.size]
    · by_cases hx : ∃ i o, i < n ∧ ops[i]? = some o ∧ o.dst = some t
      · obtain ⟨i, o, h1, h2, h3⟩ := hx
        by_cases hs : t < a₀.tmps.size
        · have hl : listed.getD i false = true := by
            cases hF : Fl.contains i with
            | false => exact hM i h1 hF
            | true =>
              cases hl : listed.getD i false with
              | true => rfl
              | false => exact absurd h3 (ht i o hF h2 hl)
          rw [st.at_ i o t h1 h2 h3 hs hl, if_neg (by rw [hL]; exact Bool.false_ne_true), hQ.at_ i o t (Nat.zero_le _) h1 (hL i) h2 h3 hs]
        · exact big (by rw [st.size, hQ.size]) (by rw [hQ.size]; exact hs)
      · rw [st.else_ t (fun i o h1 h2 _ h3 => hx ⟨i, o, h1, h2, h3⟩), hQ.else_ t (fun i o _ h1 _ h2 h3 => hx ⟨i, o, h1, h2, h3⟩)]
    · exact hQ.at_ i o d (Nat.zero_le _) (ok.fl i h1) (hL i) h2 h3 (by rw [← hQ.size]; exact h4)
  intro f
  induction f with
  | zero =>
    intro listed a w hun inv st hc
    exact over 0 listed a w hun inv st hc fun i hi _ => unl_zero listed n hun i hi
  | succ f ih =>
    intro listed a w hun inv st hc
    by_cases hM : ∀ i, i < n → Fl.contains i = false → listed.getD i false = true
    · exact over (f + 1) listed a w hun inv st hc hM
    have hs2 : unl listed ops.size ≠ 0 := by
      have hu := unl_tail (listed := listed) (n := n) (ops.size - n) fun t h1 h2 => getD_both (inv.tail t h1 (by omega))
      rw [show n + (ops.size - n) = ops.size by omega, hun] at hu
      omega
    rw [show f + 1 + (ops.size - n) = (f + (ops.size - n)) + 1 by omega]
    refine ⟨fun h => absurd h (ready_some ok inv.size hs2), fun j hj => ?_⟩
    obtain ⟨hjun, oj, hoj, hall⟩ := mem_ready.1 hj
    have hjs : j < ops.size := (Array.getElem?_eq_some_iff.1 hoj).1
    have hjn : j < n := by
      rcases Nat.lt_or_ge j n with h | h
      · exact h
      · refine absurd (fun i hi hF => ?_) hM
        rcases ok.tail j i h hjs (by omega) with h1 | h1
        · rw [h1.2] at hF; cases hF
        · exact ready_dep inv.closed hj h1
    have hun' : unl (listed.setIfInBounds j true) n = f := by have := unl_set listed j hjun n hjn; omega
    have inv' := inv.set hj hjn
    have hlj : (listed.setIfInBounds j true).getD j false = true := by have := inv.size; simp [show j < listed.size by omega]
    have hsel : ∀ cs b, oj.op ≠ .select cs b := fun cs b => Region.noSelect_spec ok.sel j oj cs b hoj
    have hwait : ∀ i, Region.waitsFor .any ops j i = true → listed.getD i false = true := fun i h => ready_dep inv.closed hj (f := 0) (i := i) h
    have hnot : ∀ i, Region.waitsFor .any ops i j = true → listed.getD i false = false := fun i h => by
      cases hl : listed.getD i false with
      | false => rfl
      | true =>
        have := closed_waits inv.closed hl h
        rw [getD_both hjun] at this
        cases this
    have st' : StR ops n [] u u a₀ (listed.setIfInBounds j true) (a.put oj.dst (u j)) :=
      ⟨by rw [put_defers', st.defers], by rw [put_size, st.size], fun i o d h1 h2 h3 h4 h5 => by
        by_cases hij : i = j
        · subst hij
          have : o = oj := Option.some.inj (h2.symm.trans hoj)
          subst this
          rw [h3, put_at _ _ _ (by rw [st.size]; exact h4), hL]; rfl
        · rw [put_ne _ _ _ _ (fun he => hij (ok.distinct i j o oj d (by omega) hjs h2 hoj h3 he)), st.at_ i o d h1 h2 h3 h4 (by rwa [getD_set_ne false (Ne.symm hij)] at h5)],
       fun t ht => by
        rw [put_ne _ _ _ _ (ht j oj hjn hoj hlj), st.else_ t (fun i o h1 h2 h3 => ht i o h1 h2 (getD_set_true h3))]⟩
    obtain ⟨A, hA, hPA⟩ := hy j oj hjn hoj
    have hag : ∀ t ∈ oj.looksAt ops, a.tmps[t]? = A.tmps[t]? := fun t ht => by
      by_cases hs : t < a₀.tmps.size
      case neg => exact big (by rw [st.size, hPA.size]) (by rw [hPA.size]; exact hs)
      by_cases hx : ∃ i o, i < n ∧ ops[i]? = some o ∧ o.dst = some t ∧ i ≠ j
      · obtain ⟨i, o, h1, h2, h3, hij⟩ := hx
        rcases ok.looks i j o oj t h1 hjn hij h2 hoj h3 ht with ⟨h4, h5⟩ | ⟨h4, h5⟩
        · rw [st.at_ i o t h1 h2 h3 hs (hwait i h5), hPA.at_ i o t (Nat.zero_le _) h4 (hL i) h2 h3 hs, if_neg (by rw [hL]; exact Bool.false_ne_true)]
        · rw [st.else_ t (fun i' o' h6 h7 h8 h9 => ?_), hPA.else_ t (fun i' o' _ h6 _ h7 h8 => ?_)]
          · have := ok.distinct i' i o' o t (by omega) (by omega) h7 h2 h8 h3
            omega
          · have := ok.distinct i' i o' o t (by omega) (by omega) h7 h2 h9 h3
            subst this
            rw [hnot _ h5] at h8
            cases h8
      · rw [st.else_ t (fun i o h1 h2 h3 h4 => ?_), hPA.else_ t (fun i o _ h1 _ h2 h3 => hx ⟨i, o, by omega, h2, h3, by omega⟩)]
        by_cases hij : i = j
        · subst hij; rw [getD_both hjun] at h3; cases h3
        · exact hx ⟨i, o, h1, h2, h4, hij⟩
    obtain ⟨hex, hwa⟩ := exec_agree hsel hag
    rcases hA with ⟨h1, h2⟩ | ⟨h1, h2⟩
    · refine hstep j oj a w _ hoj (by rw [hwa]; exact h1) (loudAt_agree hex (loudAt_mono (loudAt_of_quiet hc (h2 w hc)) ?_))
      rintro v w' ⟨rfl, hb⟩
      exact ih _ _ w' hun' inv' st' hb
    · refine hskip j oj a w _ hoj (by rw [hwa]; exact h1) ?_
      rw [h2] at st'
      exact ih _ _ w hun' inv' st' hc
end

/-- Stores and assignments alone, none of them guarded. -/
def tailB (l : List Oper) : Bool := l.all fun o => o.guard.isNone && match o.op with | .store _ _ _ => true | .assign _ => true | _ => false
def onlyN (R : Act → World → Prop) : Exit → Act → World → Prop := fun e a w => e = .normal ∧ R a w

theorem loud_of_wp {P : Program} {o : Oper} {a : Act} {w : World} {K : Act → World → Prop} {R : Act → World → Prop} (ho : (match o.op with | .store _ _ _ => true | .assign _ => true | _ => false) = true)
    (h : o.wp P a w K (onlyN R)) : loudAt P o a w fun v w' => K (a.put o.dst v) w' := by
  unfold Oper.wp at h
  unfold loudAt
  have hr : ∀ f args w', (execOp a.eval o).run P w ≠ .ok (.enter f args) w' ∧ (∀ d, (execOp a.eval o).run P w ≠ .ok (.defer d) w') ∧ (∀ r, (execOp a.eval o).run P w ≠ .ok (.row r args) w') := by
    intro f args w'
    cases hop : o.op <;> rw [hop] at ho <;> simp only [Bool.false_eq_true] at ho
    case assign x =>
      have e : (execOp a.eval o).run P w = .ok (.value (a.eval x)) w := by simp only [execOp, hop]; rfl
      rw [e]
      exact ⟨by simp, by simp, by simp⟩
    case store t p x =>
      have e : (execOp a.eval o).run P w = ((Instr.storeAt t (a.eval p) (a.eval x)).run P w).andThen fun _ w' => .ok .skip w' := by simp [execOp, hop]
      rw [e]
      cases (Instr.storeAt t (a.eval p) (a.eval x)).run P w <;> simp [Result.andThen]
  generalize hg : (execOp a.eval o).run P w = r at *
  cases r with
  | ok x w' =>
    cases x <;> simp only [Oper.upon] at h <;> simp only [loudUpon]
    case value v => exact h
    case skip => exact h
    case enter f args => exact absurd rfl (hr f args w').1
    case defer d => exact absurd rfl ((hr 0 #[] w').2.1 d)
    case row r args => exact absurd rfl ((hr 0 args w').2.2 r)
  | halt x w' =>
    cases x <;> simp [Oper.upon, onlyN] at h

theorem tl_of_wpList {P : Program} {ops : Array Oper} {R : Act → World → Prop} : ∀ (l : List Oper) (k : Nat), (∀ j, j < l.length → l[j]? = ops[k + j]?) → tailB l = true →
    ∀ a w, wpList P ops (onlyN R) l a w → tlOf P ops R l.length k a w
  | [], _, _, _, _, _, h => h.2
  | o :: l, k, hl, hB, a, w, h => by
    have h0 : ops[k]? = some o := by have := hl 0 (by simp); simpa using this.symm
    simp only [tailB, List.all_cons, Bool.and_eq_true, Option.isNone_iff_eq_none] at hB
    obtain ⟨⟨hg, ho⟩, hB⟩ := hB
    unfold wpList at h
    rw [if_pos (by simp [Region.wanted, hg])] at h
    rcases h with h | ⟨_, a', w', h, _⟩
    · exact ⟨o, h0, hg, loudAt_mono (loud_of_wp ho h) fun v w' h' => tl_of_wpList l (k + 1) (fun j hj => by
        have := hl (j + 1) (by simp; omega)
        simpa [Nat.add_assoc, Nat.add_comm 1 j] using this) hB _ _ h'⟩
    · cases h

/-- What the walk of the head must end in. -/
def FloatEnd (P : Program) (l : List Oper) (n : Nat) (Fl : List Nat) (C : World → Prop) (R : Act → World → Prop) (aQ : Act) : Prop :=
  (∀ j ∈ Fl, ∀ o, l[j]? = some o → (∃ d, o.dst = some d ∧ d < aQ.tmps.size) ∧ ∀ w, wpQuiet P l.toArray (fun w' => w' = w) (fun a' => a' = aQ) [o] aQ) ∧
  ∀ w', C w' → wpList P l.toArray (onlyN R) (l.drop n) aQ w'

theorem any_float {P : Program} {l : List Oper} {n : Nat} {Fl : List Nat} {step : Nat → (Act → World → Prop) → Act → World → Prop} {Q : Act → World → Prop}
    (hB : floatB l.toArray n Fl = true) (hTb : tailB (l.drop n) = true)
    (hstep : ∀ i o a w K, l.toArray[i]? = some o → (∀ c, o.op ≠ .defer c) → Region.wanted o (yielded l.toArray a.tmps) = true → loudAt P o a w (fun v w' => K (a.put o.dst v) w') → step i K a w)
    (hskip : ∀ i o a w K, l.toArray[i]? = some o → Region.wanted o (yielded l.toArray a.tmps) = false → K (a.put o.dst undef) w → step i K a w)
    {C : World → Prop} {a : Act} {w : World} (hw : C w)
    (h : wpQuiet P l.toArray C (FloatEnd P l n Fl C Q) (l.take n) a) : anyOf step l.toArray Q l.toArray.size (Array.replicate l.toArray.size false) a w := by
  have ok := floatB_ok hB
  have hn : n ≤ l.length := by simpa using ok.le
  have htl : (l.take n).length = n := by simp; omega
  have h' : wpQS P l.toArray C (fun _ => C) [] (FloatEnd P l n Fl C Q) 0 (l.take n) a := wpQS_of_wpQuiet (fun _ h => h) _ _ _ h
  have hD : Distinct l.toArray n := fun i j oi oj d hi hj => ok.distinct i j oi oj d (by have := ok.le; omega) (by have := ok.le; omega)
  obtain ⟨u, aQ, hQ, hp, hy⟩ := qs_extract (l.take n) 0 a (fun j hj => by
    have : j < n := by omega
    simp [this]) (by rw [htl, Nat.zero_add]; exact hD) h'
  rw [htl, Nat.zero_add] at hp hy
  have hun : ∀ m, unl (Array.replicate l.toArray.size false) m = m := fun m => by
    induction m with
    | zero => rfl
    | succ m ih => unfold unl; rw [ih, getD_replicate_false]; rfl
  have H := float1 (P := P) (Q := Q) ok (fun i o a w K h1 => hstep i o a w K h1 (ok.defer_ i o h1)) hskip hp (fun j o h1 h2 => hy j o (Nat.zero_le _) h1 rfl h2)
    (fun j o hj ho => by
      obtain ⟨⟨d, hd, hds⟩, hpu⟩ := hQ.1 j (by simpa using hj) o (by simpa using ho)
      have hu : aQ.tmps[d]? = some (u j) := hp.at_ j o d (Nat.zero_le _) (ok.fl j hj) rfl ho hd (by rw [← hp.size]; exact hds)
      by_cases hwa : Region.wanted o (yielded l.toArray aQ.tmps) = true
      · refine .inl ⟨hwa, fun w => ?_⟩
        have h1 := hpu w
        unfold wpQuiet at h1
        rw [if_pos hwa] at h1
        obtain ⟨v, h2, h3⟩ := h1
        have hv : v = u j := by
          have e : (aQ.put o.dst v).tmps[d]? = some v := by rw [hd, put_at _ _ _ hds]
          rw [show aQ.put o.dst v = aQ from h3, hu] at e
          exact (Option.some.inj e).symm
        subst hv
        exact loudAt_of_quiet (S := fun w' => w' = w) rfl (h2 w rfl)
      · refine .inr ⟨by simpa using hwa, ?_⟩
        have h1 := hpu w
        unfold wpQuiet at h1
        rw [if_neg hwa] at h1
        have e : (aQ.put o.dst undef).tmps[d]? = some undef := by rw [hd, put_at _ _ _ hds]
        rw [show aQ.put o.dst undef = aQ from h1, hu] at e
        exact Option.some.inj e)
    (fun w hc => by
      have hlen : l.toArray.size - n = (l.drop n).length := by simp
      rw [hlen]
      exact tl_of_wpList (l.drop n) n (fun j _ => by simp [List.getElem?_drop]) hTb aQ w (hQ.2 w hc))
    n (Array.replicate l.toArray.size false) a w (hun n)
    ⟨by simp, fun j oj _ hl => (by rw [getD_replicate_false] at hl; cases hl), fun t _ ht => getD_in (by simpa using ht) (getD_replicate_false _ _)⟩
    ⟨rfl, rfl, fun i o d _ _ _ _ h => (by rw [getD_replicate_false] at h; cases h), fun _ _ => rfl⟩ hw
  rwa [show n + (l.toArray.size - n) = l.toArray.size by have := ok.le; omega] at H

/-- **A REGION THAT DRAWS ITS ORDER, with floating operations.** -/
theorem wp_region_float {P : Program} {id : Nat} {Q : Exit → Act → World → Prop} {a : Act} {w : World} {l : List Oper} (n : Nat) (Fl : List Nat)
    (hm : P.follows .mixedOrders = true) (hB : floatB l.toArray n Fl = true) (hTb : tailB (l.drop n) = true)
    (h : wpQuiet P l.toArray (fun w' => ∃ x : Ext w, w' = x.w) (FloatEnd P l n Fl (fun w' => ∃ x : Ext w, w' = x.w) (Q .normal)) (l.take n) a) : (Code.region id l.toArray true).wp P Q a w := by
  refine wp_region_any hm (anyOf_wpAny _ _ _ _ (any_float (Q := Q .normal) (step := fun i K a w => wpOp P l.toArray Q i K a w) hB hTb ?_ ?_ ⟨⟨_, (Below.refl _ w).drew⟩, rfl⟩ h))
  · intro i o a w K h1 _ h2 h3
    show wpOp P l.toArray Q i K a w
    unfold wpOp
    simp only [h1, h2, if_true]
    refine .inl ?_
    unfold loudAt at h3
    unfold Oper.wp
    generalize (execOp a.eval o).run P w = r at *
    cases r with
    | ok x w' =>
      cases x <;> simp only [loudUpon] at h3 <;> simp only [Oper.upon]
      case value v => exact h3
      case skip => exact h3
      case enter f args => exact h3.mono fun e w'' ⟨v, he, hv⟩ => by subst he; exact hv
    | halt x w' => simp only [loudUpon] at h3
  · intro i o a w K h1 h2 h3
    show wpOp P l.toArray Q i K a w
    unfold wpOp
    simp only [h1, h2, Bool.false_eq_true, if_false]
    exact h3

/-- **The same in the round of a range over a function.** -/
theorem wpIn_region_float {F : Fence} {P : Program} {id m : Nat} {Q : Exit → Act → World → Prop} {a : Act} {w : World} {l : List Oper} (n : Nat) (Fl : List Nat)
    (hF : OpenFence F P) (hm : P.follows .mixedOrders = true) (hB : floatB l.toArray n Fl = true) (hTb : tailB (l.drop n) = true)
    (h : wpQuiet P l.toArray (fun w' => ∃ x : Ext w, w' = x.w) (FloatEnd P l n Fl (fun w' => ∃ x : Ext w, w' = x.w) (Q .normal)) (l.take n) a) : (Code.region id l.toArray true).wpIn F m P Q a w := by
  refine wpIn_region_any hm (anyOf_wpAnyIn _ _ _ _ (any_float (Q := Q .normal) (step := fun i K a w => wpOpIn F m P l.toArray Q i K a w) hB hTb ?_ ?_ ⟨⟨_, (Below.refl _ w).drew⟩, rfl⟩ h))
  · intro i o a w K h1 hnd h2 h3
    show wpOpIn F m P l.toArray Q i K a w
    unfold wpOpIn
    simp only [h1, h2, if_true]
    refine ⟨fun f _ => hF.fn f, ?_⟩
    rw [Oper.semAt_plain _ _ _ hnd]
    unfold loudAt at h3
    generalize (execOp a.eval o).run P w = r at *
    cases r with
    | ok x w' =>
      cases x <;> simp only [loudUpon] at h3 <;> simp only [Oper.uponIn]
      case value v => exact h3
      case skip => exact h3
      case enter f args =>
        refine ⟨fun h => (by rw [hF.depth] at h; cases h), hF.calls _ _ _ _ _ (h3.mono fun e w'' ⟨v, he, hv⟩ => ?_)⟩
        subst he; exact hv
    | halt x w' => simp only [loudUpon] at h3
  · intro i o a w K h1 h2 h3
    show wpOpIn F m P l.toArray Q i K a w
    unfold wpOpIn
    simp only [h1, h2, Bool.false_eq_true, if_false]
    exact ⟨fun f _ => hF.fn f, h3⟩
end Go.Proofs.YtgojpgggbflgoaaGreat

namespace Go.Proofs.YtgojpgggbflgoaaGreat
open Go.RowKit Go

theorem slot_kept {P : Program} {ops : Array Oper} {C : World → Prop} {aQ : Act} {d : Nat} : ∀ (l : List Oper) (a : Act), (∀ o ∈ l, o.dst ≠ some d) → wpQuiet P ops C (fun a' => a' = aQ) l a → aQ.tmps[d]? = a.tmps[d]?
  | [], a, _, h => by rw [show a = aQ from h]
  | o :: l, a, hd, h => by
    have h1 : o.dst ≠ some d := hd o List.mem_cons_self
    have h2 : ∀ o ∈ l, o.dst ≠ some d := fun o ho => hd o (List.mem_cons_of_mem _ ho)
    unfold wpQuiet at h
    split at h
    · obtain ⟨v, _, h⟩ := h
      rw [slot_kept l _ h2 h, put_ne _ _ _ _ h1]
    · rw [slot_kept l _ h2 h, put_ne _ _ _ _ h1]

/-- One value an operation, whichever world the walk begins in. -/
theorem qs_of_each {P : Program} {ops : Array Oper} {C : World → Prop} {S : World → World → Prop} {L : List (Nat × Tmp)} {Q : Act → Prop} {aQ : Act} (hS : ∀ w, C w → S w w) (w0 : World) (hw0 : C w0) :
    ∀ (l : List Oper) (k : Nat) (rest : List Oper) (a : Act), (∀ i, k ≤ i → i < k + l.length → isLoud L i = false) → (l.map (·.dst)).Nodup → (∀ o ∈ l, ∃ d, o.dst = some d ∧ d < a.tmps.size) →
      (∀ W, C W → wpQuiet P ops (S W) (fun a' => a' = aQ) l a) → wpQS P ops C S L Q (k + l.length) rest aQ → wpQS P ops C S L Q k (l ++ rest) a
  | [], k, rest, a, _, _, _, h, hQ => by
    have : a = aQ := h w0 hw0
    rw [this]; exact hQ
  | o :: l, k, rest, a, hL, hnd, hd, h, hQ => by
    have hnd' := List.nodup_cons.1 hnd
    obtain ⟨d, hod, hds⟩ := hd o List.mem_cons_self
    have hne : ∀ o' ∈ l, o'.dst ≠ some d := fun o' ho' e => hnd'.1 (List.mem_map.2 ⟨o', ho', e.trans hod.symm⟩)
    have hd' : ∀ v, ∀ o' ∈ l, ∃ d, o'.dst = some d ∧ d < (a.put o.dst v).tmps.size := fun v o' ho' => by
      rw [put_size]; exact hd o' (List.mem_cons_of_mem _ ho')
    have hL' : ∀ i, k + 1 ≤ i → i < k + 1 + l.length → isLoud L i = false := fun i h1 h2 => hL i (by omega) (by simp; omega)
    have hQ' : wpQS P ops C S L Q (k + 1 + l.length) rest aQ := by
      rw [show k + 1 + l.length = k + (o :: l).length by simp; omega]; exact hQ
    show wpQS P ops C S L Q k (o :: (l ++ rest)) a
    unfold wpQS
    rw [if_neg (by rw [hL k (Nat.le_refl _) (by simp)]; exact Bool.false_ne_true)]
    by_cases hw : Region.wanted o (yielded ops a.tmps) = true
    · rw [if_pos hw]
      have hv : ∀ W, C W → o.quietAt P a (S W) W (aQ.tmps.getD d undef) ∧ wpQuiet P ops (S W) (fun a' => a' = aQ) l (a.put o.dst (aQ.tmps.getD d undef)) := fun W hW => by
        have h1 := h W hW
        unfold wpQuiet at h1
        rw [if_pos hw] at h1
        obtain ⟨v, h2, h3⟩ := h1
        have e := slot_kept l _ hne h3
        rw [hod, put_at _ _ _ hds] at e
        have ev : aQ.tmps.getD d undef = v := by simp [Array.getD_eq_getD_getElem?, e]
        rw [ev]
        exact ⟨h2 W (hS W hW), h3⟩
      exact ⟨_, fun w hc => (hv w hc).1, qs_of_each hS w0 hw0 l (k + 1) rest _ hL' hnd'.2 (hd' _) (fun W hW => (hv W hW).2) hQ'⟩
    · rw [if_neg hw]
      exact qs_of_each hS w0 hw0 l (k + 1) rest _ hL' hnd'.2 (hd' _) (fun W hW => by
        have h1 := h W hW
        unfold wpQuiet at h1
        rwa [if_neg hw] at h1) hQ'
end Go.Proofs.YtgojpgggbflgoaaGreat

namespace Go.Proofs.YtgojpgggbflgoaaGreat
open Go.RowKit Go

/-- The quiet operations of a list. -/
def qOf (L : List (Nat × Tmp)) : Nat → List Oper → List Oper
  | _, [] => []
  | k, o :: l => if isLoud L k = true then qOf L (k + 1) l else o :: qOf L (k + 1) l

theorem qOf_mem {L : List (Nat × Tmp)} : ∀ (l : List Oper) (k : Nat) (o : Oper), o ∈ qOf L k l → o ∈ l
  | [], _, o, h => by simp [qOf] at h
  | x :: l, k, o, h => by
    unfold qOf at h
    split at h
    · exact List.mem_cons_of_mem _ (qOf_mem l _ o h)
    · rcases List.mem_cons.1 h with rfl | h
      · exact List.mem_cons_self
      · exact List.mem_cons_of_mem _ (qOf_mem l _ o h)

def dstsB (size : Nat) : List Oper → Bool
  | [] => true
  | o :: l => (match o.dst with | some d => decide (d < size) && l.all (fun o' => o'.dst != some d) | none => false) && dstsB size l

/-- One value an operation, whichever world the walk begins in; loud ones anywhere. -/
theorem qs_of_q {P : Program} {ops : Array Oper} {C : World → Prop} {S : World → World → Prop} {L : List (Nat × Tmp)} {Q : Act → Prop} {aQ : Act} (hS : ∀ w, C w → S w w) (w0 : World) (hw0 : C w0) (hQ : Q aQ) :
    ∀ (l : List Oper) (k : Nat) (a : Act), dstsB a.tmps.size (qOf L k l) = true →
      (∀ W, C W → wpQuiet P ops (S W) (fun a' => a' = aQ) (qOf L k l) a) → wpQS P ops C S L Q k l a
  | [], k, a, _, h => by
    have : a = aQ := h w0 hw0
    rw [this]; exact hQ
  | o :: l, k, a, hd, h => by
    by_cases hL : isLoud L k = true
    · unfold wpQS
      rw [if_pos hL]
      unfold qOf at hd h
      rw [if_pos hL] at hd
      simp only [if_pos hL] at h
      exact qs_of_q hS w0 hw0 hQ l (k + 1) a hd h
    · unfold qOf at hd h
      rw [if_neg hL] at hd
      simp only [if_neg hL] at h
      unfold dstsB at hd
      rw [Bool.and_eq_true] at hd
      obtain ⟨h1, hd'⟩ := hd
      cases hod : o.dst with
      | none => rw [hod] at h1; cases h1
      | some d =>
        rw [hod] at h1
        simp only [Bool.and_eq_true, decide_eq_true_eq, List.all_eq_true] at h1
        obtain ⟨hds, hne⟩ := h1
        have hne : ∀ o' ∈ qOf L (k + 1) l, o'.dst ≠ some d := fun o' ho' e => by
          have := hne o' ho'
          simp [e] at this
        unfold wpQS
        rw [if_neg hL]
        by_cases hw : Region.wanted o (yielded ops a.tmps) = true
        · rw [if_pos hw]
          have hv : ∀ W, C W → o.quietAt P a (S W) W (aQ.tmps.getD d undef) ∧ wpQuiet P ops (S W) (fun a' => a' = aQ) (qOf L (k + 1) l) (a.put o.dst (aQ.tmps.getD d undef)) := fun W hW => by
            have h1 := h W hW
            unfold wpQuiet at h1
            rw [if_pos hw] at h1
            obtain ⟨v, h2, h3⟩ := h1
            have e := slot_kept _ _ hne h3
            rw [hod, put_at _ _ _ hds] at e
            have ev : aQ.tmps.getD d undef = v := by simp [Array.getD_eq_getD_getElem?, e]
            rw [ev]
            exact ⟨h2 W (hS W hW), h3⟩
          rw [hod] at hv
          exact ⟨_, fun w hc => (hv w hc).1, by rw [hod]; exact qs_of_q hS w0 hw0 hQ l (k + 1) _ (by rw [put_size]; exact hd') (fun W hW => (hv W hW).2)⟩
        · rw [if_neg hw]
          exact qs_of_q hS w0 hw0 hQ l (k + 1) _ (by rw [put_size]; exact hd') (fun W hW => by
            have h1 := h W hW
            unfold wpQuiet at h1
            rwa [if_neg hw] at h1)

/-- The class over a world. -/
def Over (w v : World) : Prop := ∃ x : Ext w, v = x.w
theorem Over.refl (w : World) : Over w w := ⟨⟨w, Below.refl _ _⟩, rfl⟩
theorem Over.below {w v : World} (h : Over w v) : Below w.heap.size w v := by obtain ⟨x, rfl⟩ := h; exact x.below
theorem Over.of {w v : World} (h : Below w.heap.size w v) : Over w v := ⟨⟨v, h⟩, rfl⟩
theorem Over.trans {u w v : World} (h : Over u w) (k : Over w v) : Over u v := .of (h.below.trans (k.below.mono h.below.size))

/-- **A REGION THAT DRAWS ITS ORDER**, the quiet operations of the head in one walk, the loud ones of the head with one joint invariant, and the tail in its order. -/
theorem wp_region_pre {P : Program} {id : Nat} {Q : Exit → Act → World → Prop} {a : Act} {w : World} {l : List Oper} (n : Nat) (L : List (Nat × Tmp)) (Φ : (Nat → Bool) → (Nat → Value) → World → Prop) 
    (hm : P.follows .mixedOrders = true) (hB : (regB l.toArray n L && dstsB a.tmps.size (qOf L 0 (l.take n)) && L.all fun p => match l[p.1]? with | some o => o.dst.isSome || decide (a.tmps.size ≤ p.2) | none => true) = true)
    (h0 : ∀ v, Below w.heap.size w v → Φ (fun _ => false) (fun _ => undef) v)
    (hΦ : ∀ ls vs v v', Below w.heap.size w v → Φ ls vs v → Below v.heap.size v v' → Φ ls vs v')
    (h : ∃ aQ, (∀ W, Below w.heap.size w W → wpQuiet P l.toArray (fun v' => ∃ x : Ext W, v' = x.w) (fun a' => a' = aQ) (qOf L 0 (l.take n)) a) ∧
      HeadEnd P l L (fun v => ∃ x : Ext w, v = x.w) Φ (fun a w => wpList P l.toArray Q (l.drop n) a w) aQ) : (Code.region id l.toArray true).wp P Q a w := by
  simp only [Bool.and_eq_true, List.all_eq_true] at hB
  obtain ⟨⟨hB, hd⟩, ho⟩ := hB
  obtain ⟨aQ, h, he⟩ := h
  refine wp_region_head n L (fun v => ∃ x : Ext w, v = x.w) (fun W v' => ∃ x : Ext W, v' = x.w) Φ hm hB ⟨⟨_, (Below.refl _ w).drew⟩, rfl⟩ (h0 _ (Below.refl _ w).drew) (fun p hp o hpo hn => ?_) (fun v _ => Over.refl v) (fun _ _ h k => Over.trans h k)
    (fun ls vs v v' hc h k => hΦ ls vs v v' (Over.below hc) h (Over.below k)) (qs_of_q (fun v _ => Over.refl v) w (Over.refl w) he _ 0 a hd fun W hW => h W (Over.below hW))
  have := ho p hp
  rw [hpo] at this
  simpa [hn] using this

theorem wpIn_region_pre {F : Fence} {P : Program} {id m : Nat} {Q : Exit → Act → World → Prop} {a : Act} {w : World} {l : List Oper} (n : Nat) (L : List (Nat × Tmp)) (Φ : (Nat → Bool) → (Nat → Value) → World → Prop) 
    (hF : OpenFence F P) (hm : P.follows .mixedOrders = true) (hB : (regB l.toArray n L && dstsB a.tmps.size (qOf L 0 (l.take n)) && L.all fun p => match l[p.1]? with | some o => o.dst.isSome || decide (a.tmps.size ≤ p.2) | none => true) = true)
    (h0 : ∀ v, Below w.heap.size w v → Φ (fun _ => false) (fun _ => undef) v)
    (hΦ : ∀ ls vs v v', Below w.heap.size w v → Φ ls vs v → Below v.heap.size v v' → Φ ls vs v')
    (h : ∃ aQ, (∀ W, Below w.heap.size w W → wpQuiet P l.toArray (fun v' => ∃ x : Ext W, v' = x.w) (fun a' => a' = aQ) (qOf L 0 (l.take n)) a) ∧
      HeadEnd P l L (fun v => ∃ x : Ext w, v = x.w) Φ (fun a w => wpListIn F m P l.toArray Q (l.drop n) a w) aQ) : (Code.region id l.toArray true).wpIn F m P Q a w := by
  simp only [Bool.and_eq_true, List.all_eq_true] at hB
  obtain ⟨⟨hB, hd⟩, ho⟩ := hB
  obtain ⟨aQ, h, he⟩ := h
  refine wpIn_region_head n L (fun v => ∃ x : Ext w, v = x.w) (fun W v' => ∃ x : Ext W, v' = x.w) Φ hF hm hB ⟨⟨_, (Below.refl _ w).drew⟩, rfl⟩ (h0 _ (Below.refl _ w).drew) (fun p hp o hpo hn => ?_) (fun v _ => Over.refl v) (fun _ _ h k => Over.trans h k)
    (fun ls vs v v' hc h k => hΦ ls vs v v' (Over.below hc) h (Over.below k)) (qs_of_q (fun v _ => Over.refl v) w (Over.refl w) he _ 0 a hd fun W hW => h W (Over.below hW))
  have := ho p hp
  rw [hpo] at this
  simpa [hn] using this

/-- The same with a class of worlds of one's own. -/
theorem wp_region_preC {P : Program} {id : Nat} {Q : Exit → Act → World → Prop} {a : Act} {w : World} {l : List Oper} (n : Nat) (L : List (Nat × Tmp)) (C : World → Prop) (Φ : (Nat → Bool) → (Nat → Value) → World → Prop)
    (hm : P.follows .mixedOrders = true) (hB : (regB l.toArray n L && dstsB a.tmps.size (qOf L 0 (l.take n)) && L.all fun p => match l[p.1]? with | some o => o.dst.isSome || decide (a.tmps.size ≤ p.2) | none => true) = true)
    (hw : C w) (hC : ∀ v v', C v → Below v.heap.size v v' → C v') (h0 : ∀ v, Below w.heap.size w v → Φ (fun _ => false) (fun _ => undef) v)
    (hΦ : ∀ ls vs v v', C v → Φ ls vs v → Below v.heap.size v v' → Φ ls vs v')
    (h : ∃ aQ, (∀ W, C W → wpQuiet P l.toArray (fun v' => ∃ x : Ext W, v' = x.w) (fun a' => a' = aQ) (qOf L 0 (l.take n)) a) ∧
      HeadEnd P l L C Φ (fun a w => wpList P l.toArray Q (l.drop n) a w) aQ) : (Code.region id l.toArray true).wp P Q a w := by
  simp only [Bool.and_eq_true, List.all_eq_true] at hB
  obtain ⟨⟨hB, hd⟩, ho⟩ := hB
  obtain ⟨aQ, h, he⟩ := h
  refine wp_region_head n L C (fun W v' => ∃ x : Ext W, v' = x.w) Φ hm hB (hC _ _ hw (Below.refl _ w).drew) (h0 _ (Below.refl _ w).drew) (fun p hp o hpo hn => ?_) (fun v _ => Over.refl v) (fun _ _ h k => hC _ _ h (Over.below k))
    (fun ls vs v v' hc h k => hΦ ls vs v v' hc h (Over.below k)) (qs_of_q (fun v _ => Over.refl v) w hw he _ 0 a hd h)
  have := ho p hp
  rw [hpo] at this
  simpa [hn] using this
end Go.Proofs.YtgojpgggbflgoaaGreat

namespace Go.Proofs.YtgojpgggbflgoaaGreat
open Go.RowKit

theorem ret_int {k : IntKind} {a b : Int} (h : a = b) : Ending.returned (.int k a) = .returned (.int k b) := by rw [h]

theorem ret_bool {a b : Bool} (h : a = b) : Ending.returned (.bool a) = .returned (.bool b) := by rw [h]

theorem bcell {W w1 : World} (hb : Below W.heap.size W w1) : (∀ b o, b < W.heap.size → w1.cell? ⟨b, o, none⟩ = W.cell? ⟨b, o, none⟩) ∧ (∀ b o, b < W.heap.size → w1.frozen? ⟨b, o, none⟩ = W.frozen? ⟨b, o, none⟩) :=
  ⟨fun b o h => hb.cell (p := ⟨b, o, none⟩) h, fun b o h => hb.frozen (p := ⟨b, o, none⟩) h⟩

/-- A block that is known whole. -/
def Blk (W : World) (g : Nat) (t : TypeId) (cs : Array Value) : Prop := W.heap[g]? = some (.cells cs t (0, 0))
theorem Blk.lt {W : World} {g : Nat} {t : TypeId} {cs : Array Value} (h : Blk W g t cs) : g < W.heap.size := (Array.getElem?_eq_some_iff.1 h).1
theorem Blk.cell {W : World} {g : Nat} {t : TypeId} {cs : Array Value} (h : Blk W g t cs) (i : Nat) : W.cell? ⟨g, i, none⟩ = cs[i]? := by simp [World.cell?, show W.heap[g]? = _ from h]
theorem Blk.frozen {W : World} {g : Nat} {t : TypeId} {cs : Array Value} (h : Blk W g t cs) (i : Nat) : W.frozen? ⟨g, i, none⟩ = false := by simp [World.frozen?, show W.heap[g]? = _ from h]
theorem Blk.new (W : World) (t : TypeId) (cs : Array Value) : Blk (W.alloc (.cells cs t)) W.heap.size t cs := World.alloc_heap_new W _
theorem Blk.at_new {W : World} {g : Nat} (t : TypeId) (cs : Array Value) (h : g = W.heap.size) : Blk (W.alloc (.cells cs t)) g t cs := by subst h; exact Blk.new W t cs
theorem Blk.alloc {W : World} {g : Nat} {t : TypeId} {cs : Array Value} (h : Blk W g t cs) (o : Obj) : Blk (W.alloc o) g t cs := (Below.heap_alloc W o g h.lt).trans h
theorem Blk.below {W W' : World} {g : Nat} {t : TypeId} {cs : Array Value} (h : Blk W g t cs) (hb : Below W.heap.size W W') : Blk W' g t cs := (hb.block g h.lt).trans h
theorem Blk.far {W : World} {g : Nat} {t : TypeId} {cs : Array Value} (h : Blk W g t cs) {p : Addr} (hp : g ≠ p.block) (u : Value) : Blk (W.setCell p u) g t cs := (Below.heap_setCell W p u g hp).trans h
theorem Blk.set_ {W : World} {g : Nat} {t : TypeId} {cs : Array Value} (h : Blk W g t cs) (i : Nat) (u : Value) : Blk (W.setCell ⟨g, i, none⟩ u) g t (cs.setIfInBounds i u) := by
  have h' : W.heap[g]? = some (.cells cs t (0, 0)) := h
  simp [Blk, World.setCell, Array.getElem?_modify, h']
theorem Blk.own {β : Type} (B g : Nat) (t : TypeId) (cs : Array Value) : OwnFrom B (fun (_ : β) W => Blk W g t cs) := fun _ X _ _ hs hg hr =>
  (hg.block g (Blk.lt hs) (fun e => by
    obtain ⟨_, o, ho, hc⟩ := hr g e.symm
    rw [show X.heap[g]? = _ from hs] at ho
    cases ho
    cases hc)).trans hs
theorem keepsFrom_below {B : Nat} {W W' : World} (h : Below W.heap.size W W') : KeepsFrom B W W' := ⟨h.size, fun k _ _ hk _ => (h.block k (Array.getElem?_eq_some_iff.1 hk).1).trans hk⟩


theorem mul_bd {x y A B : Int} (h1 : -A ≤ x) (h2 : x ≤ A) (h3 : -B ≤ y) (h4 : y ≤ B) : -(A * B) ≤ x * y ∧ x * y ≤ A * B := by
  have hA : 0 ≤ A := by omega
  have hB : 0 ≤ B := by omega
  have e : (x * y).natAbs ≤ (A * B).natAbs := by
    rw [Int.natAbs_mul, Int.natAbs_mul]
    exact Nat.mul_le_mul (by omega) (by omega)
  have hAB : 0 ≤ A * B := Int.mul_nonneg hA hB
  generalize x * y = p at *
  generalize A * B = q at *
  omega

theorem leave_one {fn : Func} {tmps : Array Value} {R : Ending → World → Prop} {D : Nat} {W : World} (hK : W.heap[D]? = some (.deferred (some []))) {P : Program} {m : Nat}
    (h : ∃ v, (results fn tmps).run P (W.putObj D (.deferred none)) = .ok v (W.putObj D (.deferred none)) ∧ R (.returned v) (W.putObj D (.deferred none))) :
    bodyPostM Fence.wide m P fn R .ret { tmps := tmps, defers := [{ target := .collected D, args := #[] }] } W :=
  ⟨by simp, .inl ⟨_, _, rfl, run_takeDeferred hK, h⟩⟩

theorem Blk.put {W : World} {g D : Nat} {t : TypeId} {cs : Array Value} {o : Obj} (h : Blk W g t cs) (hne : g ≠ D) : Blk (W.putObj D o) g t cs := (World.putObj_heap_other (by omega)).trans h

theorem below_put {B D : Nat} {w W : World} {o : Obj} (h : Below B w W) (hB : B ≤ D) : Below B w (W.putObj D o) :=
  h.trans ⟨rfl, rfl, rfl, by simp [World.putObj], fun k hk => World.putObj_heap_other (by omega)⟩

theorem grownBy_of_below {W W' : World} (h : Below W.heap.size W W') : W.grownBy W' none := ⟨h.os, h.tape, h.output, h.size, fun i hi _ => h.block i hi⟩

theorem finRange_take_succ (m k : Nat) (h : k < m) : (List.finRange m).take (k + 1) = (List.finRange m).take k ++ [⟨k, h⟩] := by
  rw [List.take_succ_eq_append_getElem (by simpa using h)]
  simp

theorem owns_below {W W' : World} {B e size : Nat} {v : Value} {n : Nat} {xs : List Value} (h : W.ownsRow B e size v n xs) (hb : Below W.heap.size W W') : W'.ownsRow B e size v n xs := by
  refine ⟨h.1, ?_⟩
  rcases h.2 with hn | ⟨g, cap, cur, rfl, hg, hgg, rest⟩
  · exact .inl hn
  · exact .inr ⟨g, cap, cur, rfl, hg, (hb.block g (Array.getElem?_eq_some_iff.1 hgg).1).trans hgg, rest⟩

theorem app_step {w W w1 : World} {B e size n : Nat} {t : TypeId} {cs : Array Value} {v : Value} {xs : List Value} (hb : Below B w W) (hB : B ≤ W.heap.size) (hs : Blk W B t cs) (hown : W.ownsRow (B + 1) e size v n xs) (hg : W.grownBy w1 v.ownBlock) : Below B w w1 ∧ Blk w1 B t cs :=
  ⟨hb.grown hg hB (fun k hk => by have := (hown.lt k hk).1; omega), (hg.block B hs.lt (fun e => by have := (hown.lt B e.symm).1; omega)).trans hs⟩

theorem flat_at {α : Type} (k : Nat) (enc : α → List Value) (hk : ∀ x, (enc x).length = k) : ∀ (zs : List α) (j i : Nat) (d : α), j < zs.length → i < k → (zs.flatMap enc)[j * k + i]? = (enc (zs.getD j d))[i]?
  | [], j, i, d, h, _ => absurd h (by simp)
  | z :: zs, 0, i, d, _, hi => by
    rw [List.flatMap_cons, List.getElem?_append_left (by rw [hk]; omega)]
    simp
  | z :: zs, j + 1, i, d, h, hi => by
    rw [List.flatMap_cons, List.getElem?_append_right (by rw [hk, Nat.add_mul]; omega), hk, show (j + 1) * k + i - k = j * k + i from by rw [Nat.add_mul]; omega, flat_at k enc hk zs j i d (by simpa using h) hi]
    simp

end Go.Proofs.YtgojpgggbflgoaaGreat
