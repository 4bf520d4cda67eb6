/- The arguments of the laws, opened: structs of two ints, curves, lists of curves, lists of ints. -/
import Derived.Lib.SmallJoins
import Derived.Deep.Slices
import Derived.Deep.Fields
import Derived.ChangeSlices
import Derived.Test.YtipablcbkoedbaaRow
import Derived.Test.YtipablcbkoedbaaB3
namespace Go.Proofs.Ytipablcbkoedbaa
open Go.RowKit Go.WideShapes Go.ChangeShapes Go.Joins Go.Deep

theorem laid_out : laidOutB Try.prog = true := by kernel_rfl
theorem wf_i64 {n : Int} (h : (Lit.int .i64 n).wf = true) : -9223372036854775808 ≤ n ∧ n ≤ 9223372036854775807 := by
  simp [Lit.wf, IntKind.min, IntKind.max, IntKind.signed, IntKind.bits] at h
  omega
section
variable {H : Type} {enc : TypeId × Value → H} {w : World} {base : Nat} {spare : Nat → Bool} {held : Bool}
set_option maxRecDepth 100000 in
/-- A struct of two ints, by value. -/
theorem open_ints2 {r : Reach} {b0 : Nat} {t : TypeId} {f0 f1 : Field} {v : Value} {d : DataW H} {p : List MemPlace} (hs : Try.prog.underlying t = some (.struct #[f0, f1])) (hone : oneCellFields Try.prog #[f0, f1] = true) (hC : Try.prog.cellsOf t = 2)
    (h0 : Try.prog.underlying f0.type = some (.int .i64)) (h1 : Try.prog.underlying f1.type = some (.int .i64)) (hv : Value.okWide Try.prog w r b0 t v) (h : DataW.Trod enc Try.prog w base spare held t v d p) :
    ∃ x y : Int, v = .agg #[.int .i64 x, .int .i64 y] ∧ (-9223372036854775808 ≤ x ∧ x ≤ 9223372036854775807) ∧ (-9223372036854775808 ≤ y ∧ y ≤ 9223372036854775807) ∧ ∃ e, d = .agg e := by
  obtain ⟨c0, c1, y0, y1, m, rfl, rfl, rfl, hy0, hy1⟩ := open_agg2 hs hone hC hv h
  obtain ⟨a, ea, _, wa⟩ := DataW.trod_int h0 hy0
  obtain ⟨b, eb, _, wb⟩ := DataW.trod_int h1 hy1
  simp only [List.cons.injEq, and_true] at ea eb
  subst ea eb
  exact ⟨a, b, rfl, wf_i64 wa, wf_i64 wb, _, rfl⟩
set_option maxRecDepth 100000 in
theorem open_fr {r : Reach} {b0 : Nat} {v : Value} {d : DataW H} {p : List MemPlace} (hv : Value.okWide Try.prog w r b0 30 v) (h : DataW.Trod enc Try.prog w base spare held 30 v d p) :
    ∃ x y : Int, v = .agg #[.int .i64 x, .int .i64 y] ∧ (-9223372036854775808 ≤ x ∧ x ≤ 9223372036854775807) ∧ (-9223372036854775808 ≤ y ∧ y ≤ 9223372036854775807) ∧ ∃ e, d = .agg e :=
  open_ints2 Try.underlying30 (by kernel_rfl) (by kernel_rfl) Try.underlying3 Try.underlying3 hv h
set_option maxRecDepth 100000 in
theorem open_sp {r : Reach} {b0 : Nat} {v : Value} {d : DataW H} {p : List MemPlace} (hv : Value.okWide Try.prog w r b0 26 v) (h : DataW.Trod enc Try.prog w base spare held 26 v d p) :
    ∃ x y : Int, v = .agg #[.int .i64 x, .int .i64 y] ∧ (-9223372036854775808 ≤ x ∧ x ≤ 9223372036854775807) ∧ (-9223372036854775808 ≤ y ∧ y ≤ 9223372036854775807) ∧ ∃ e, d = .agg e :=
  open_ints2 Try.underlying26 (by kernel_rfl) (by kernel_rfl) Try.underlying3 Try.underlying3 hv h

theorem cell_lt {w : World} {a : Addr} {v : Value} (h : w.cell? a = some v) : a.block < w.heap.size ∧ a.spot = none := by
  unfold World.cell? at h
  split at h
  · rename_i c t f hb
    split at h
    · cases h
    · rename_i hs
      exact ⟨(Array.getElem?_eq_some_iff.1 hb).1, by cases he : a.spot <;> simp_all⟩
  · cases h
theorem addr_none {a : Addr} (h : a.spot = none) : a = ⟨a.block, a.off, none⟩ := by cases a; simp_all
theorem add_at {b off n : Nat} : (⟨b, off, none⟩ : Addr).add n = ⟨b, off + n, none⟩ := by
  unfold Addr.add; split
  · rename_i h; subst h; rfl
  · rfl

set_option maxRecDepth 100000 in
/-- A knot in memory. -/
theorem knot_cells {a : Addr} {n : Nat} {cs' : List Value} {z : DataW H × List MemPlace} (hc : w.cells? base a 2 = some cs') (ht : DataW.trod enc Try.prog w base spare held n 108 cs' = some z) :
    ∃ x y : Int, w.cell? a = some (.int .i64 x) ∧ w.cell? (a.add 1) = some (.int .i64 y) := by
  obtain ⟨_, hl, hat⟩ := World.cells?_some hc
  obtain ⟨y0, y1, m, _, _, h0, h1⟩ := trod_struct2 Try.underlying108 ht
  match cs', hl with
  | [u, v], _ =>
    have c0 := hat 0 (by omega)
    have c1 := hat 1 (by omega)
    have hone : Try.prog.cellsOf 3 = 1 := by kernel_rfl
    obtain ⟨x, ex, _⟩ := DataW.trod_int (cs := [u]) Try.underlying3 (by simpa [hone] using h0)
    obtain ⟨y, ey, _⟩ := DataW.trod_int (cs := [v]) Try.underlying3 (by simpa [hone] using h1)
    simp only [List.cons.injEq, and_true] at ex ey
    subst ex ey
    exact ⟨x, y, by simpa [Addr.add] using c0, by simpa using c1⟩

def rdInt (w : World) (a : Addr) : Int := match w.cell? a with | some (.int _ n) => n | _ => 0
theorem rdInt_of {w : World} {a : Addr} {n : Int} (h : w.cell? a = some (.int .i64 n)) : rdInt w a = n := by unfold rdInt; rw [h]
/-- The knots that lie from an address on. -/
def rdKs (w : World) (a : Addr) (len : Nat) : List (Int × Int) := (List.range len).map fun i => (rdInt w (a.add (i * 2)), rdInt w (a.add (i * 2 + 1)))
theorem rdKs_at (w : World) (a : Addr) (len i : Nat) (h : i < len) : (rdKs w a len).getD i (0, 0) = (rdInt w (a.add (i * 2)), rdInt w (a.add (i * 2 + 1))) := by
  unfold rdKs
  simp [List.getD_eq_getElem?_getD, h]

set_option maxRecDepth 100000 in
/-- A slice of knots reads as a list. -/
theorem open_knots {fuel : Nat} {cs : List Value} {x : DataW H × List MemPlace} (h : DataW.trod enc Try.prog w base spare held fuel 22 cs = some x) :
    ∃ (A : Option Addr) (n cap : Nat) (ks : List (Int × Int)), cs = [.slice A n cap] ∧ CAt w A n ks ∧ n ≤ 9223372036854775807 := by
  rcases open_slice Try.underlying22 h with ⟨e0, _⟩ | ⟨a, len, cap, m, n, D, Pl, e0, hb, hl, hc, hm, _, hf⟩
  · exact ⟨none, 0, 0, [], e0, ⟨rfl, fun h => absurd h (by omega)⟩, by omega⟩
  · have hlm : len ≤ m := by rw [hm]; split <;> omega
    have hcl : len ≤ 9223372036854775807 := by unfold maxLen at hc; omega
    rw [show Try.prog.cellsOf 108 = 2 by kernel_rfl] at hf
    refine ⟨some a, len, cap, rdKs w a len, e0, ⟨by simp [rdKs], fun h0 => ?_⟩, hcl⟩
    have hall : ∀ i, i < len → w.cell? (a.add (i * 2)) = some (.int .i64 (rdInt w (a.add (i * 2)))) ∧ w.cell? (a.add (i * 2 + 1)) = some (.int .i64 (rdInt w (a.add (i * 2 + 1)))) := fun i hi => by
      obtain ⟨cs', hc', ht'⟩ := hf i (by omega)
      obtain ⟨p, q, h1, h2⟩ := knot_cells hc' ht'
      rw [add_add] at h2
      exact ⟨by rw [rdInt_of h1]; exact h1, by rw [rdInt_of h2]; exact h2⟩
    have h00 := (hall 0 h0).1
    simp only [Nat.zero_mul] at h00
    rw [show a.add 0 = a from rfl] at h00
    obtain ⟨hlt, hsp⟩ := cell_lt h00
    have ha := addr_none hsp
    generalize a.block = b at *
    generalize a.off = off at *
    subst ha
    refine ⟨b, off, rfl, hlt, fun i hi => ?_, fun i hi => ?_⟩
    · have hi' : i < len := by simpa [rdKs] using hi
      unfold kx
      rw [rdKs_at _ _ _ _ hi', ← (hall i hi').1, add_at]
    · have hi' : i < len := by simpa [rdKs] using hi
      unfold ky
      rw [rdKs_at _ _ _ _ hi', ← (hall i hi').2, add_at, Nat.add_assoc]

set_option maxRecDepth 100000 in
/-- A curve, by value. -/
theorem open_cv {r : Reach} {b0 : Nat} {v : Value} {d : DataW H} {p : List MemPlace} (hv : Value.okWide Try.prog w r b0 24 v) (h : DataW.Trod enc Try.prog w base spare held 24 v d p) :
    ∃ (A : Option Addr) (n cap : Nat) (err : Int) (ks : List (Int × Int)), v = vCv A n cap err ∧ CAt w A n ks ∧ n ≤ 9223372036854775807 ∧ (-9223372036854775808 ≤ err ∧ err ≤ 9223372036854775807) ∧ ∃ e, d = .agg e := by
  obtain ⟨c0, c1, y0, y1, m, rfl, rfl, rfl, hy0, hy1⟩ := open_agg2 Try.underlying24 (by kernel_rfl) (by kernel_rfl) hv h
  obtain ⟨err, ee, _, we⟩ := DataW.trod_int Try.underlying3 hy1
  obtain ⟨A, n, cap, ks, e0, hc, hm⟩ := open_knots hy0
  simp only [List.cons.injEq, and_true] at ee e0
  subst ee e0
  exact ⟨A, n, cap, err, ks, rfl, hc, hm, wf_i64 we, _, rfl⟩
end
end Go.Proofs.Ytipablcbkoedbaa
