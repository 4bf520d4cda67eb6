/- Regions that draw their order, with loud operations: the quiet ones walked in one go in every world of the class, then the loud ones with one joint invariant. -/
import Derived.Test.YtipablcbkoedbaaReg3
namespace Go.Proofs.Ytipablcbkoedbaa
open Go.RowKit Go

/-- The quiet operations of a list. -/
def qOf (L : List (Nat × Tmp)) : Nat → List Oper → List Oper
  | _, [] => []
  | k, o :: l => if isLoud L k = true then qOf L (k + 1) l else o :: qOf L (k + 1) l

theorem qOf_mem {L : List (Nat × Tmp)} : ∀ (l : List Oper) (k : Nat) (o : Oper), o ∈ qOf L k l → o ∈ l
  | [], _, o, h => by simp [qOf] at h
  | x :: l, k, o, h => by
    unfold qOf at h
    split at h
    · exact List.mem_cons_of_mem _ (qOf_mem l _ o h)
    · rcases List.mem_cons.1 h with rfl | h
      · exact List.mem_cons_self
      · exact List.mem_cons_of_mem _ (qOf_mem l _ o h)

def dstsB (size : Nat) : List Oper → Bool
  | [] => true
  | o :: l => (match o.dst with | some d => decide (d < size) && l.all (fun o' => o'.dst != some d) | none => false) && dstsB size l

/-- One value an operation, whichever world the walk begins in; loud ones anywhere. -/
theorem qs_of_q {P : Program} {ops : Array Oper} {C : World → Prop} {S : World → World → Prop} {L : List (Nat × Tmp)} {Q : Act → Prop} {aQ : Act} (hS : ∀ w, C w → S w w) (w0 : World) (hw0 : C w0) (hQ : Q aQ) :
    ∀ (l : List Oper) (k : Nat) (a : Act), dstsB a.tmps.size (qOf L k l) = true →
      (∀ W, C W → wpQuiet P ops (S W) (fun a' => a' = aQ) (qOf L k l) a) → wpQS P ops C S L Q k l a
  | [], k, a, _, h => by
    have : a = aQ := h w0 hw0
    rw [this]; exact hQ
  | o :: l, k, a, hd, h => by
    by_cases hL : isLoud L k = true
    · unfold wpQS
      rw [if_pos hL]
      unfold qOf at hd h
      rw [if_pos hL] at hd
      simp only [if_pos hL] at h
      exact qs_of_q hS w0 hw0 hQ l (k + 1) a hd h
    · unfold qOf at hd h
      rw [if_neg hL] at hd
      simp only [if_neg hL] at h
      unfold dstsB at hd
      rw [Bool.and_eq_true] at hd
      obtain ⟨h1, hd'⟩ := hd
      cases hod : o.dst with
      | none => rw [hod] at h1; cases h1
      | some d =>
        rw [hod] at h1
        simp only [Bool.and_eq_true, decide_eq_true_eq, List.all_eq_true] at h1
        obtain ⟨hds, hne⟩ := h1
        have hne : ∀ o' ∈ qOf L (k + 1) l, o'.dst ≠ some d := fun o' ho' e => by
          have := hne o' ho'
          simp [e] at this
        unfold wpQS
        rw [if_neg hL]
        by_cases hw : Region.wanted o (yielded ops a.tmps) = true
        · rw [if_pos hw]
          have hv : ∀ W, C W → o.quietAt P a (S W) W (aQ.tmps.getD d undef) ∧ wpQuiet P ops (S W) (fun a' => a' = aQ) (qOf L (k + 1) l) (a.put o.dst (aQ.tmps.getD d undef)) := fun W hW => by
            have h1 := h W hW
            unfold wpQuiet at h1
            rw [if_pos hw] at h1
            obtain ⟨v, h2, h3⟩ := h1
            have e := slot_kept _ _ hne h3
            rw [hod, put_at _ _ _ hds] at e
            have ev : aQ.tmps.getD d undef = v := by simp [Array.getD_eq_getD_getElem?, e]
            rw [ev]
            exact ⟨h2 W (hS W hW), h3⟩
          rw [hod] at hv
          exact ⟨_, fun w hc => (hv w hc).1, by rw [hod]; exact qs_of_q hS w0 hw0 hQ l (k + 1) _ (by rw [put_size]; exact hd') (fun W hW => (hv W hW).2)⟩
        · rw [if_neg hw]
          exact qs_of_q hS w0 hw0 hQ l (k + 1) _ (by rw [put_size]; exact hd') (fun W hW => by
            have h1 := h W hW
            unfold wpQuiet at h1
            rwa [if_neg hw] at h1)

/-- The class over a world. -/
def Over (w v : World) : Prop := ∃ x : Ext w, v = x.w
theorem Over.refl (w : World) : Over w w := ⟨⟨w, Below.refl _ _⟩, rfl⟩
theorem Over.below {w v : World} (h : Over w v) : Below w.heap.size w v := by obtain ⟨x, rfl⟩ := h; exact x.below
theorem Over.of {w v : World} (h : Below w.heap.size w v) : Over w v := ⟨⟨v, h⟩, rfl⟩
theorem Over.trans {u w v : World} (h : Over u w) (k : Over w v) : Over u v := .of (h.below.trans (k.below.mono h.below.size))

/-- **A REGION THAT DRAWS ITS ORDER**, the quiet operations of the head in one walk, the loud ones of the head with one joint invariant, and the tail in its order. -/
theorem wp_region_pre {P : Program} {id : Nat} {Q : Exit → Act → World → Prop} {a : Act} {w : World} {l : List Oper} (n : Nat) (L : List (Nat × Tmp)) (Φ : (Nat → Bool) → (Nat → Value) → World → Prop) 
    (hm : P.follows .mixedOrders = true) (hB : (regB l.toArray n L && dstsB a.tmps.size (qOf L 0 (l.take n)) && L.all fun p => match l[p.1]? with | some o => o.dst.isSome || decide (a.tmps.size ≤ p.2) | none => true) = true)
    (h0 : ∀ v, Below w.heap.size w v → Φ (fun _ => false) (fun _ => undef) v)
    (hΦ : ∀ ls vs v v', Below w.heap.size w v → Φ ls vs v → Below v.heap.size v v' → Φ ls vs v')
    (h : ∃ aQ, (∀ W, Below w.heap.size w W → wpQuiet P l.toArray (fun v' => ∃ x : Ext W, v' = x.w) (fun a' => a' = aQ) (qOf L 0 (l.take n)) a) ∧
      HeadEnd P l L (fun v => ∃ x : Ext w, v = x.w) Φ (fun a w => wpList P l.toArray Q (l.drop n) a w) aQ) : (Code.region id l.toArray true).wp P Q a w := by
  simp only [Bool.and_eq_true, List.all_eq_true] at hB
  obtain ⟨⟨hB, hd⟩, ho⟩ := hB
  obtain ⟨aQ, h, he⟩ := h
  refine wp_region_head n L (fun v => ∃ x : Ext w, v = x.w) (fun W v' => ∃ x : Ext W, v' = x.w) Φ hm hB ⟨⟨_, (Below.refl _ w).drew⟩, rfl⟩ (h0 _ (Below.refl _ w).drew) (fun p hp o hpo hn => ?_) (fun v _ => Over.refl v) (fun _ _ h k => Over.trans h k)
    (fun ls vs v v' hc h k => hΦ ls vs v v' (Over.below hc) h (Over.below k)) (qs_of_q (fun v _ => Over.refl v) w (Over.refl w) he _ 0 a hd fun W hW => h W (Over.below hW))
  have := ho p hp
  rw [hpo] at this
  simpa [hn] using this

theorem wpIn_region_pre {F : Fence} {P : Program} {id m : Nat} {Q : Exit → Act → World → Prop} {a : Act} {w : World} {l : List Oper} (n : Nat) (L : List (Nat × Tmp)) (Φ : (Nat → Bool) → (Nat → Value) → World → Prop) 
    (hF : OpenFence F P) (hm : P.follows .mixedOrders = true) (hB : (regB l.toArray n L && dstsB a.tmps.size (qOf L 0 (l.take n)) && L.all fun p => match l[p.1]? with | some o => o.dst.isSome || decide (a.tmps.size ≤ p.2) | none => true) = true)
    (h0 : ∀ v, Below w.heap.size w v → Φ (fun _ => false) (fun _ => undef) v)
    (hΦ : ∀ ls vs v v', Below w.heap.size w v → Φ ls vs v → Below v.heap.size v v' → Φ ls vs v')
    (h : ∃ aQ, (∀ W, Below w.heap.size w W → wpQuiet P l.toArray (fun v' => ∃ x : Ext W, v' = x.w) (fun a' => a' = aQ) (qOf L 0 (l.take n)) a) ∧
      HeadEnd P l L (fun v => ∃ x : Ext w, v = x.w) Φ (fun a w => wpListIn F m P l.toArray Q (l.drop n) a w) aQ) : (Code.region id l.toArray true).wpIn F m P Q a w := by
  simp only [Bool.and_eq_true, List.all_eq_true] at hB
  obtain ⟨⟨hB, hd⟩, ho⟩ := hB
  obtain ⟨aQ, h, he⟩ := h
  refine wpIn_region_head n L (fun v => ∃ x : Ext w, v = x.w) (fun W v' => ∃ x : Ext W, v' = x.w) Φ hF hm hB ⟨⟨_, (Below.refl _ w).drew⟩, rfl⟩ (h0 _ (Below.refl _ w).drew) (fun p hp o hpo hn => ?_) (fun v _ => Over.refl v) (fun _ _ h k => Over.trans h k)
    (fun ls vs v v' hc h k => hΦ ls vs v v' (Over.below hc) h (Over.below k)) (qs_of_q (fun v _ => Over.refl v) w (Over.refl w) he _ 0 a hd fun W hW => h W (Over.below hW))
  have := ho p hp
  rw [hpo] at this
  simpa [hn] using this

/-- The same with a class of worlds of one's own. -/
theorem wp_region_preC {P : Program} {id : Nat} {Q : Exit → Act → World → Prop} {a : Act} {w : World} {l : List Oper} (n : Nat) (L : List (Nat × Tmp)) (C : World → Prop) (Φ : (Nat → Bool) → (Nat → Value) → World → Prop)
    (hm : P.follows .mixedOrders = true) (hB : (regB l.toArray n L && dstsB a.tmps.size (qOf L 0 (l.take n)) && L.all fun p => match l[p.1]? with | some o => o.dst.isSome || decide (a.tmps.size ≤ p.2) | none => true) = true)
    (hw : C w) (hC : ∀ v v', C v → Below v.heap.size v v' → C v') (h0 : ∀ v, Below w.heap.size w v → Φ (fun _ => false) (fun _ => undef) v)
    (hΦ : ∀ ls vs v v', C v → Φ ls vs v → Below v.heap.size v v' → Φ ls vs v')
    (h : ∃ aQ, (∀ W, C W → wpQuiet P l.toArray (fun v' => ∃ x : Ext W, v' = x.w) (fun a' => a' = aQ) (qOf L 0 (l.take n)) a) ∧
      HeadEnd P l L C Φ (fun a w => wpList P l.toArray Q (l.drop n) a w) aQ) : (Code.region id l.toArray true).wp P Q a w := by
  simp only [Bool.and_eq_true, List.all_eq_true] at hB
  obtain ⟨⟨hB, hd⟩, ho⟩ := hB
  obtain ⟨aQ, h, he⟩ := h
  refine wp_region_head n L C (fun W v' => ∃ x : Ext W, v' = x.w) Φ hm hB (hC _ _ hw (Below.refl _ w).drew) (h0 _ (Below.refl _ w).drew) (fun p hp o hpo hn => ?_) (fun v _ => Over.refl v) (fun _ _ h k => hC _ _ h (Over.below k))
    (fun ls vs v v' hc h k => hΦ ls vs v v' hc h (Over.below k)) (qs_of_q (fun v _ => Over.refl v) w hw he _ 0 a hd h)
  have := ho p hp
  rw [hpo] at this
  simpa [hn] using this
end Go.Proofs.Ytipablcbkoedbaa
