/- Sorted lists that are filtered; a list of one number. -/
import Derived.Test.YtighfmgkoepfkaaGreatMQ2
import Derived.Test.YtighfmgkoepfkaaGreatMH
namespace Go.Proofs.YtighfmgkoepfkaaGreat
open Go.RowKit

theorem sortI_permw (l : List Int) : (sortI l).Perm l := List.mergeSort_perm _ _
theorem sort_filter (p : Int → Bool) (l : List Int) : (sortI l).filter p = sortI (l.filter p) :=
  sorted_one ((sortI_sorted l).filter _) (sortI_sorted _) (((sortI_permw l).filter p).trans (sortI_permw _).symm)
theorem one_sat {v : World} {g : Nat} {x : Int} (h : Blk v g 3 #[.int .i64 x]) : SAt encI 1 v (some ⟨g, 0, none⟩) 1 [x] :=
  ⟨rfl, fun _ => ⟨g, 0, rfl, h.lt, fun i y hi j u hu => by
    match i, hi with
    | 0, hi =>
      have e : y = x := by simpa using hi.symm
      subst e
      match j, hu with
      | 0, hu =>
        have e : u = .int .i64 y := by simpa [encI] using hu.symm
        subst e
        simpa using h.cell 0⟩⟩
theorem SAt.farw {α : Type} {enc : α → List Value} {k : Nat} {w0 w w' : World} {A : Option Addr} {n : Nat} {l : List α} {r : Option Nat} (h0 : SAt enc k w0 A n l) (h : SAt enc k w A n l) (hg : w.grownBy w' r) (hr : ∀ g, r = some g → w0.heap.size ≤ g) : SAt enc k w' A n l := by
  refine ⟨h.len, fun hn => ?_⟩
  obtain ⟨b, off, e, hk⟩ := h.at_ hn
  obtain ⟨b', off', e', hk'⟩ := h0.at_ hn
  rw [e] at e'
  cases e'
  exact ⟨b, off, e, hk.grown hg (fun f => by have := hr _ f; have := hk'.lt; omega)⟩
theorem TR.Ok.farw {w0 w w' : World} {t : TR} {r : Option Nat} (h0 : t.Ok w0) (h : t.Ok w) (hg : w.grownBy w' r) (hr : ∀ g, r = some g → w0.heap.size ≤ g) : t.Ok w' :=
  ⟨h0.h.farw h.h hg hr, h0.m.farw h.m hg hr, h.n_le, h.m_le, h.n_cap, h.m_cap⟩
end Go.Proofs.YtighfmgkoepfkaaGreat
