/- The walk of a head that holds loud operations, out of walks in every single world of the class. -/
import Derived.Test.YtipablcbkoedbaaReg
namespace Go.Proofs.Ytipablcbkoedbaa
open Go.RowKit Go

theorem slot_kept {P : Program} {ops : Array Oper} {C : World → Prop} {aQ : Act} {d : Nat} : ∀ (l : List Oper) (a : Act), (∀ o ∈ l, o.dst ≠ some d) → wpQuiet P ops C (fun a' => a' = aQ) l a → aQ.tmps[d]? = a.tmps[d]?
  | [], a, _, h => by rw [show a = aQ from h]
  | o :: l, a, hd, h => by
    have h1 : o.dst ≠ some d := hd o List.mem_cons_self
    have h2 : ∀ o ∈ l, o.dst ≠ some d := fun o ho => hd o (List.mem_cons_of_mem _ ho)
    unfold wpQuiet at h
    split at h
    · obtain ⟨v, _, h⟩ := h
      rw [slot_kept l _ h2 h, put_ne _ _ _ _ h1]
    · rw [slot_kept l _ h2 h, put_ne _ _ _ _ h1]

/-- One value an operation, whichever world the walk begins in. -/
theorem qs_of_each {P : Program} {ops : Array Oper} {C : World → Prop} {S : World → World → Prop} {L : List (Nat × Tmp)} {Q : Act → Prop} {aQ : Act} (hS : ∀ w, C w → S w w) (w0 : World) (hw0 : C w0) :
    ∀ (l : List Oper) (k : Nat) (rest : List Oper) (a : Act), (∀ i, k ≤ i → i < k + l.length → isLoud L i = false) → (l.map (·.dst)).Nodup → (∀ o ∈ l, ∃ d, o.dst = some d ∧ d < a.tmps.size) →
      (∀ W, C W → wpQuiet P ops (S W) (fun a' => a' = aQ) l a) → wpQS P ops C S L Q (k + l.length) rest aQ → wpQS P ops C S L Q k (l ++ rest) a
  | [], k, rest, a, _, _, _, h, hQ => by
    have : a = aQ := h w0 hw0
    rw [this]; exact hQ
  | o :: l, k, rest, a, hL, hnd, hd, h, hQ => by
    have hnd' := List.nodup_cons.1 hnd
    obtain ⟨d, hod, hds⟩ := hd o List.mem_cons_self
    have hne : ∀ o' ∈ l, o'.dst ≠ some d := fun o' ho' e => hnd'.1 (List.mem_map.2 ⟨o', ho', e.trans hod.symm⟩)
    have hd' : ∀ v, ∀ o' ∈ l, ∃ d, o'.dst = some d ∧ d < (a.put o.dst v).tmps.size := fun v o' ho' => by
      rw [put_size]; exact hd o' (List.mem_cons_of_mem _ ho')
    have hL' : ∀ i, k + 1 ≤ i → i < k + 1 + l.length → isLoud L i = false := fun i h1 h2 => hL i (by omega) (by simp; omega)
    have hQ' : wpQS P ops C S L Q (k + 1 + l.length) rest aQ := by
      rw [show k + 1 + l.length = k + (o :: l).length by simp; omega]; exact hQ
    show wpQS P ops C S L Q k (o :: (l ++ rest)) a
    unfold wpQS
    rw [if_neg (by rw [hL k (Nat.le_refl _) (by simp)]; exact Bool.false_ne_true)]
    by_cases hw : Region.wanted o (yielded ops a.tmps) = true
    · rw [if_pos hw]
      have hv : ∀ W, C W → o.quietAt P a (S W) W (aQ.tmps.getD d undef) ∧ wpQuiet P ops (S W) (fun a' => a' = aQ) l (a.put o.dst (aQ.tmps.getD d undef)) := fun W hW => by
        have h1 := h W hW
        unfold wpQuiet at h1
        rw [if_pos hw] at h1
        obtain ⟨v, h2, h3⟩ := h1
        have e := slot_kept l _ hne h3
        rw [hod, put_at _ _ _ hds] at e
        have ev : aQ.tmps.getD d undef = v := by simp [Array.getD_eq_getD_getElem?, e]
        rw [ev]
        exact ⟨h2 W (hS W hW), h3⟩
      exact ⟨_, fun w hc => (hv w hc).1, qs_of_each hS w0 hw0 l (k + 1) rest _ hL' hnd'.2 (hd' _) (fun W hW => (hv W hW).2) hQ'⟩
    · rw [if_neg hw]
      exact qs_of_each hS w0 hw0 l (k + 1) rest _ hL' hnd'.2 (hd' _) (fun W hW => by
        have h1 := h W hW
        unfold wpQuiet at h1
        rwa [if_neg hw] at h1) hQ'
end Go.Proofs.Ytipablcbkoedbaa
