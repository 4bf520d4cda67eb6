/- A limit as an argument. -/
import Derived.Test.YtighfmgkoepfkaaGreatML
import Derived.Test.YtighfmgkoepfkaaGreatMI
namespace Go.Proofs.YtighfmgkoepfkaaGreat
open Go.RowKit Go.WideShapes Go.ChangeShapes Go.Joins Go.Deep

theorem array6 {α : Type} {cs : Array α} (h : cs.size = 6) : ∃ c0 c1 c2 c3 c4 c5, cs = #[c0, c1, c2, c3, c4, c5] := by
  obtain ⟨l⟩ := cs
  match l, h with
  | [c0, c1, c2, c3, c4, c5], _ => exact ⟨c0, c1, c2, c3, c4, c5, rfl⟩
section
variable {H : Type} {enc : TypeId × Value → H} {w : World} {base : Nat} {spare : Nat → Bool} {held : Bool}
set_option maxRecDepth 100000 in
/-- A limit, by value. -/
theorem open_li {r : Reach} {b0 : Nat} {v : Value} {d : DataW H} {p : List MemPlace} (hv : Value.okWide Tryz.prog w r b0 95 v) (h : DataW.Trod enc Tryz.prog w base spare held 95 v d p) :
    ∃ (val : Int) (A1 : Option Addr) (n1 c1 : Nat) (A2 : Option Addr) (n2 c2 : Nat) (A3 : Option Addr) (n3 c3 : Nat) (way : Int) (A4 : Option Addr) (n4 c4 : Nat) (st en ma s : List Int), v = vLim val A1 n1 c1 A2 n2 c2 A3 n3 c3 way A4 n4 c4 ∧ SAt encI 1 w A1 n1 st ∧ SAt encI 1 w A2 n2 en ∧ SAt encI 1 w A3 n3 ma ∧ SAt encI 1 w A4 n4 s ∧
      (n1 ≤ 9223372036854775807 ∧ n2 ≤ 9223372036854775807 ∧ n3 ≤ 9223372036854775807 ∧ n4 ≤ 9223372036854775807) ∧ ∃ e, d = .agg e := by
  obtain ⟨cs, rfl, hsz⟩ := okWide_struct Tryz.underlying95 hv
  obtain ⟨c0, c1, c2, c3, c4, c5, rfl⟩ := array6 (hsz.trans (by kernel_rfl))
  obtain ⟨fuel, hf⟩ := h
  obtain ⟨y0, y1, y2, n, hx, _, h0, h1, h2⟩ := trod_struct3 Tryz.underlying95 hf
  have o1 : Tryz.prog.cellsOf 3 = 1 := by kernel_rfl
  have o3 : Tryz.prog.cellsOf 68 = 3 := by kernel_rfl
  have o2 : Tryz.prog.cellsOf 93 = 2 := by kernel_rfl
  have o4 : Tryz.prog.cellsOf 42 = 1 := by kernel_rfl
  simp only [Prod.mk.injEq] at hx
  replace h0 : DataW.trod enc Tryz.prog w base spare held n 3 [c0] = some y0 := by simpa [Value.cells, o1] using h0
  replace h1 : DataW.trod enc Tryz.prog w base spare held n 68 [c1, c2, c3] = some y1 := by simpa [Value.cells, o3] using h1
  replace h2 : DataW.trod enc Tryz.prog w base spare held n 93 [c4, c5] = some y2 := by simpa [Value.cells, o2] using h2
  obtain ⟨val, e0, _⟩ := DataW.trod_int (cs := [c0]) Tryz.underlying3 h0
  obtain ⟨z0, z1, z2, n', _, _, g0, g1, g2⟩ := trod_struct3 Tryz.underlying68 h1
  obtain ⟨x0, x1, n'', _, _, k0, k1⟩ := trod_struct2 Tryz.underlying93 h2
  replace g0 : DataW.trod enc Tryz.prog w base spare held n' 42 [c1] = some z0 := by simpa [o4] using g0
  replace g1 : DataW.trod enc Tryz.prog w base spare held n' 42 [c2] = some z1 := by simpa [o4] using g1
  replace g2 : DataW.trod enc Tryz.prog w base spare held n' 42 [c3] = some z2 := by simpa [o4] using g2
  replace k0 : DataW.trod enc Tryz.prog w base spare held n'' 3 [c4] = some x0 := by simpa [o1] using k0
  replace k1 : DataW.trod enc Tryz.prog w base spare held n'' 42 [c5] = some x1 := by simpa [o4] using k1
  obtain ⟨way, e4, _⟩ := DataW.trod_int (cs := [c4]) Tryz.underlying3 k0
  obtain ⟨A1, n1, d1, st, e1, q1, l1, _⟩ := open_ns g0
  obtain ⟨A2, n2, d2, en, e2, q2, l2, _⟩ := open_ns g1
  obtain ⟨A3, n3, d3, ma, e3, q3, l3, _⟩ := open_ns g2
  obtain ⟨A4, n4, d4, s, e5, q4, l4, _⟩ := open_ns k1
  simp only [List.cons.injEq, and_true] at e0 e1 e2 e3 e4 e5
  subst e0 e1 e2 e3 e4 e5
  exact ⟨val, A1, n1, d1, A2, n2, d2, A3, n3, d3, way, A4, n4, d4, st, en, ma, s, rfl, q1, q2, q3, q4, ⟨l1, l2, l3, l4⟩, _, hx.1⟩
end
end Go.Proofs.YtighfmgkoepfkaaGreat
