/- The arguments of the laws on offices, opened: holders, deeds, a movement. -/
import Derived.Test.YtighfmgkoepfkaaGreatMI
import Derived.Test.YtighfmgkoepfkaaGreatMOb
namespace Go.Proofs.YtighfmgkoepfkaaGreat
open Go.RowKit Go.WideShapes Go.ChangeShapes Go.Joins Go.Deep

/-- A deed whose ID is a number of the machine. -/
abbrev DdR := { d : Dd // -9223372036854775808 ≤ d.mv.id ∧ d.mv.id ≤ 9223372036854775807 }
def encDR (d : DdR) : List Value := encD d.1
theorem SAt.plain {k : Nat} {w : World} {A : Option Addr} {n : Nat} {l : List DdR} (h : SAt encDR k w A n l) : SAt encD k w A n (l.map Subtype.val) := by
  refine ⟨by rw [List.length_map]; exact h.len, fun hn => ?_⟩
  obtain ⟨b, off, e, hl⟩ := h.at_ hn
  refine ⟨b, off, e, hl.lt, fun i x hi j v hv => ?_⟩
  rw [List.getElem?_map] at hi
  cases hq : l[i]? with
  | none => rw [hq] at hi; cases hi
  | some y =>
    rw [hq] at hi
    have e : y.1 = x := by simpa using hi
    subst e
    exact hl.c i y hq j v hv
section
variable {H : Type} {enc : TypeId × Value → H} {w : World} {base : Nat} {spare : Nat → Bool} {held : Bool}
set_option maxRecDepth 100000 in
/-- A movement's cells. -/
theorem move_list {n : Nat} {cs : List Value} {z : DataW H × List MemPlace} (hl : cs.length = 5) (ht : DataW.trod enc Tryz.prog w base spare held n 59 cs = some z) :
    ∃ x : Mv, cs = encM x ∧ -9223372036854775808 ≤ x.id ∧ x.id ≤ 9223372036854775807 := by
  obtain ⟨y0, y1, y2, y3, m, _, _, h0, h1, h2, h3⟩ := trod_struct4 Tryz.underlying59 ht
  match cs, hl with
  | [c0, c1, c2, c3, c4], _ =>
    have hone : Tryz.prog.cellsOf 3 = 1 := by kernel_rfl
    obtain ⟨i, e0, _, ww⟩ := DataW.trod_int (cs := [c0]) Tryz.underlying3 (by simpa [hone] using h0)
    obtain ⟨f, e1, _⟩ := DataW.trod_int (cs := [c1]) Tryz.underlying3 (by simpa [hone] using h1)
    obtain ⟨g, e2, _⟩ := DataW.trod_int (cs := [c2]) Tryz.underlying3 (by simpa [hone] using h2)
    obtain ⟨lo, hi, e3⟩ := span_parts (cs := [c3, c4]) rfl (by simpa [hone, show Tryz.prog.cellsOf 57 = 2 by kernel_rfl] using h3)
    simp only [List.cons.injEq, and_true] at e0 e1 e2 e3
    obtain ⟨rfl, rfl⟩ := e3
    subst e0 e1 e2
    exact ⟨⟨i, f, g, lo, hi⟩, rfl, wf_i64 ww⟩
set_option maxRecDepth 100000 in
/-- A movement, by value. -/
theorem open_mv {r : Reach} {b0 : Nat} {v : Value} {d : DataW H} {p : List MemPlace} (hv : Value.okWide Tryz.prog w r b0 59 v) (h : DataW.Trod enc Tryz.prog w base spare held 59 v d p) :
    ∃ x : Mv, v = vMv x ∧ (-9223372036854775808 ≤ x.id ∧ x.id ≤ 9223372036854775807) ∧ ∃ e, d = .agg e := by
  obtain ⟨cs, rfl, hsz⟩ := okWide_struct Tryz.underlying59 hv
  obtain ⟨fuel, hf⟩ := h
  have h5 : cs.toList.length = 5 := by rw [Array.length_toList]; exact hsz.trans (by kernel_rfl)
  obtain ⟨y0, y1, y2, y3, n, hx, _⟩ := trod_struct4 Tryz.underlying59 hf
  obtain ⟨x, e, hr⟩ := move_list h5 hf
  simp only [Prod.mk.injEq] at hx
  obtain ⟨l⟩ := cs
  have e : l = encM x := e
  subst e
  exact ⟨x, rfl, hr, _, hx.1⟩
set_option maxRecDepth 100000 in
theorem deed_cells {a : Addr} {n : Nat} {cs' : List Value} {z : DataW H × List MemPlace} (hc : w.cells? base a 6 = some cs') (ht : DataW.trod enc Tryz.prog w base spare held n 78 cs' = some z) :
    ∃ x : DdR, ∀ j v, (encDR x)[j]? = some v → w.cell? (a.add j) = some v := by
  obtain ⟨_, hl, hat⟩ := World.cells?_some hc
  obtain ⟨y0, y1, m, _, _, h0, h1⟩ := trod_struct2 Tryz.underlying78 ht
  match cs', hl with
  | [c0, c1, c2, c3, c4, c5], _ =>
    have hone : Tryz.prog.cellsOf 4 = 1 := by kernel_rfl
    have h5 : Tryz.prog.cellsOf 59 = 5 := by kernel_rfl
    obtain ⟨b, e0, _⟩ := DataW.trod_bool (cs := [c0]) Tryz.underlying4 (by simpa [hone] using h0)
    obtain ⟨x, e1, hr⟩ := move_list (cs := [c1, c2, c3, c4, c5]) rfl (by simpa [hone, h5] using h1)
    simp only [List.cons.injEq, and_true] at e0
    subst e0
    refine ⟨⟨⟨b, x⟩, hr⟩, fun j v hj => ?_⟩
    have hj6 : j < 6 := (List.getElem?_eq_some_iff.1 hj).1
    have := hat j (by omega)
    rw [this]
    rw [e1]
    exact hj
set_option maxRecDepth 100000 in
/-- Holders, by value. -/
theorem open_hs {r : Reach} {b0 : Nat} {v : Value} {d : DataW H} {p : List MemPlace} (hv : Value.okWide Tryz.prog w r b0 22 v) (h : DataW.Trod enc Tryz.prog w base spare held 22 v d p) :
    ∃ (A : Option Addr) (n cap : Nat) (l : List Hd), v = .slice A n cap ∧ SAt encH 6 w A n l ∧ n ≤ 9223372036854775807 ∧ n ≤ cap := by
  obtain ⟨A, n, cap, rfl⟩ := okWide_slice Tryz.underlying22 hv
  obtain ⟨fuel, hf⟩ := h
  obtain ⟨A', n', c', l, e, h1, h2, h3⟩ := open_rows encH (fun x => by rw [encH_len']; decide) default Tryz.underlying22 (by kernel_rfl) holder_cells hf
  have hcs : (Value.slice A n cap).cells.toList = [.slice A n cap] := rfl
  rw [hcs] at e
  simp only [List.cons.injEq, and_true] at e
  exact ⟨A', n', c', l, e, h1, h2, h3⟩
set_option maxRecDepth 100000 in
/-- Deeds, by value. -/
theorem open_ds {r : Reach} {b0 : Nat} {v : Value} {d : DataW H} {p : List MemPlace} (hv : Value.okWide Tryz.prog w r b0 72 v) (h : DataW.Trod enc Tryz.prog w base spare held 72 v d p) :
    ∃ (A : Option Addr) (n cap : Nat) (l : List Dd), v = .slice A n cap ∧ SAt encD 6 w A n l ∧ n ≤ 9223372036854775807 ∧ ∀ d ∈ l, -9223372036854775808 ≤ d.mv.id ∧ d.mv.id ≤ 9223372036854775807 := by
  obtain ⟨A, n, cap, rfl⟩ := okWide_slice Tryz.underlying72 hv
  obtain ⟨fuel, hf⟩ := h
  obtain ⟨A', n', c', l, e, h1, h2, _⟩ := open_rows encDR (fun _ => by show 0 < 6; decide) ⟨⟨false, ⟨0, 0, 0, 0, 0⟩⟩, by dsimp only; omega⟩ Tryz.underlying72 (by kernel_rfl) deed_cells hf
  have hcs : (Value.slice A n cap).cells.toList = [.slice A n cap] := rfl
  rw [hcs] at e
  simp only [List.cons.injEq, and_true] at e
  refine ⟨A', n', c', _, e, h1.plain, h2, fun d hd => ?_⟩
  obtain ⟨y, _, rfl⟩ := List.mem_map.1 hd
  exact y.2
end
end Go.Proofs.YtighfmgkoepfkaaGreat
