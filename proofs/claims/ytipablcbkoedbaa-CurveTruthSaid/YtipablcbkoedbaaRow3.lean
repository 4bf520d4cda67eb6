/- A list of curves, opened. -/
import Derived.Test.YtipablcbkoedbaaRow2
namespace Go.Proofs.Ytipablcbkoedbaa
open Go.RowKit Go.WideShapes Go.ChangeShapes Go.Joins Go.Deep

section
variable {H : Type} {enc : TypeId × Value → H} {w : World} {base : Nat} {spare : Nat → Bool} {held : Bool}

set_option maxRecDepth 100000 in
/-- A curve in memory. -/
theorem curve_cells {a : Addr} {n : Nat} {cs' : List Value} {z : DataW H × List MemPlace} (hc : w.cells? base a 2 = some cs') (ht : DataW.trod enc Try.prog w base spare held n 24 cs' = some z) :
    ∃ c : CV, w.cell? a = some (.slice c.A c.n c.cap) ∧ w.cell? (a.add 1) = some (.int .i64 c.err) ∧ CAt w c.A c.n c.ks ∧ c.n ≤ 9223372036854775807 := by
  obtain ⟨_, hl, hat⟩ := World.cells?_some hc
  obtain ⟨y0, y1, m, _, _, h0, h1⟩ := trod_struct2 Try.underlying24 ht
  match cs', hl with
  | [u, v], _ =>
    have c0 := hat 0 (by omega)
    have c1 := hat 1 (by omega)
    have hone : Try.prog.cellsOf 3 = 1 := by kernel_rfl
    have hone' : Try.prog.cellsOf 22 = 1 := by kernel_rfl
    obtain ⟨A, l, cap, ks, ex, hk, hm⟩ := open_knots (cs := [u]) (by simpa [hone'] using h0)
    obtain ⟨y, ey, _⟩ := DataW.trod_int (cs := [v]) Try.underlying3 (by simpa [hone] using h1)
    simp only [List.cons.injEq, and_true] at ex ey
    subst ex ey
    exact ⟨⟨A, l, cap, y, ks⟩, by simpa [Addr.add] using c0, by simpa using c1, hk, hm⟩

theorem list_of {α : Type} (d : α) (p : Nat → α → Prop) : ∀ n, (∀ i, i < n → ∃ c, p i c) → ∃ l : List α, l.length = n ∧ ∀ i, i < n → p i (l.getD i d)
  | 0, _ => ⟨[], rfl, fun i h => absurd h (by omega)⟩
  | n + 1, h => by
    obtain ⟨l, hl, hp⟩ := list_of d p n fun i hi => h i (by omega)
    obtain ⟨c, hc⟩ := h n (by omega)
    refine ⟨l ++ [c], by simp [hl], fun i hi => ?_⟩
    by_cases e : i = n
    · subst e
      have : (l ++ [c]).getD i d = c := by simp [List.getD_eq_getElem?_getD, ← hl]
      rw [this]; exact hc
    · have : (l ++ [c]).getD i d = l.getD i d := by
        simp only [List.getD_eq_getElem?_getD]
        rw [List.getElem?_append_left (by omega)]
      rw [this]; exact hp i (by omega)

set_option maxRecDepth 100000 in
theorem open_cvs {r : Reach} {b0 : Nat} {v : Value} {d : DataW H} {p : List MemPlace} (hv : Value.okWide Try.prog w r b0 45 v) (h : DataW.Trod enc Try.prog w base spare held 45 v d p) :
    ∃ (A : Option Addr) (n cap : Nat) (cs : List CV), v = .slice A n cap ∧ LAt w A n cs ∧ n ≤ 9223372036854775807 := by
  obtain ⟨A, n, cap, rfl⟩ := okWide_slice Try.underlying45 hv
  obtain ⟨fuel, hf⟩ := h
  rcases open_slice Try.underlying45 hf with ⟨e0, _⟩ | ⟨a, len, cap', m, n', D, Pl, e0, hb, hl, hc, hm, _, hfi⟩
  · simp only [Value.cells, List.cons.injEq, and_true] at e0
    obtain ⟨rfl, rfl, rfl⟩ : A = none ∧ n = 0 ∧ cap = 0 := by simpa using e0
    exact ⟨none, 0, 0, [], rfl, ⟨rfl, fun h => absurd h (by omega)⟩, by omega⟩
  · obtain ⟨rfl, rfl, rfl⟩ : A = some a ∧ n = len ∧ cap = cap' := by simpa [Value.cells] using e0
    have hlm : n ≤ m := by rw [hm]; split <;> omega
    have hcl : n ≤ 9223372036854775807 := by unfold maxLen at hc; omega
    rw [show Try.prog.cellsOf 24 = 2 by kernel_rfl] at hfi
    obtain ⟨cs, hlen, hall⟩ := list_of (⟨none, 0, 0, 0, []⟩ : CV) (fun i c => w.cell? (a.add (i * 2)) = some (.slice c.A c.n c.cap) ∧ w.cell? (a.add (i * 2 + 1)) = some (.int .i64 c.err) ∧ CAt w c.A c.n c.ks ∧ c.n ≤ 9223372036854775807) n fun i hi => by
      obtain ⟨cs', hc', ht'⟩ := hfi i (by omega)
      obtain ⟨c, h1, h2, h3, h4⟩ := curve_cells hc' ht'
      rw [add_add] at h2
      exact ⟨c, h1, h2, h3, h4⟩
    refine ⟨some a, n, cap, cs, rfl, ⟨hlen, fun h0 => ?_⟩, hcl⟩
    have h00 := (hall 0 h0).1
    simp only [Nat.zero_mul] at h00
    rw [show a.add 0 = a from rfl] at h00
    obtain ⟨hlt, hsp⟩ := cell_lt h00
    have ha := addr_none hsp
    generalize a.block = b at *
    generalize a.off = off at *
    subst ha
    refine ⟨b, off, rfl, hlt, fun i hi => ?_, fun i hi => ?_, fun i hi => ?_, fun i hi => ?_⟩
    · have := (hall i (by omega)).1; rw [add_at] at this; exact this
    · have := (hall i (by omega)).2.1; rw [add_at] at this; rw [Nat.add_assoc]; exact this
    · exact (hall i (by omega)).2.2.1
    · exact (hall i (by omega)).2.2.2
end
end Go.Proofs.Ytipablcbkoedbaa
