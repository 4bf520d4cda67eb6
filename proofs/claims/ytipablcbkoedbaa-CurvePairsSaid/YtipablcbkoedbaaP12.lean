/- CurvePairs is proved: for every two curves and a span the program's Apart, Cross, Clash and Same answer as the reference implementation does. No condition. -/
import Derived.Lib.SmallJoins
import Derived.Deep.Slices
import Derived.Deep.Fields
import Derived.ChangeSlices
import Derived.WalkKit
import Derived.WalkLawsBesides
import Derived.Deep.QuietTactic
import Derived.BigQuiet
import Derived.RegionTactic
import Derived.OwnWalk
import Derived.RangeFuncBox
import Derived.Lib.Hide
import Derived.Outline
import Derived.WalkSmall
import Derived.IntWalk
import Derived.Deep.DeepCutAuto
import Derived.Test.YtipablcbkoedbaaRow
import Derived.Test.YtipablcbkoedbaaB3
import Derived.Test.YtipablcbkoedbaaO2
import Derived.Test.YtipablcbkoedbaaF2
import Derived.Test.YtipablcbkoedbaaReg6
import Derived.Test.YtipablcbkoedbaaReg5
import Derived.Test.YtipablcbkoedbaaProg
import Derived.Test.YtipablcbkoedbaaS2
import Derived.Test.YtipablcbkoedbaaReg4
import Derived.Test.YtipablcbkoedbaaR2
import Derived.Test.YtipablcbkoedbaaS1
import Derived.Test.YtipablcbkoedbaaC9
import Derived.Test.YtipablcbkoedbaaR1
import Derived.Test.YtipablcbkoedbaaU1
import Derived.Test.YtipablcbkoedbaaU2
import Derived.Test.YtipablcbkoedbaaF3
namespace Go.Proofs.Ytipablcbkoedbaa
open Go.RowKit Go.WideShapes Go.ChangeShapes Go.Joins Go.Deep

theorem laid_out : laidOutB Try.prog = true := by kernel_rfl
theorem wf_i64 {n : Int} (h : (Lit.int .i64 n).wf = true) : -9223372036854775808 ≤ n ∧ n ≤ 9223372036854775807 := by
  simp [Lit.wf, IntKind.min, IntKind.max, IntKind.signed, IntKind.bits] at h
  omega
section
variable {H : Type} {enc : TypeId × Value → H} {w : World} {base : Nat} {spare : Nat → Bool} {held : Bool}
set_option maxRecDepth 100000 in
/-- A struct of two ints, by value. -/
theorem open_ints2 {r : Reach} {b0 : Nat} {t : TypeId} {f0 f1 : Field} {v : Value} {d : DataW H} {p : List MemPlace} (hs : Try.prog.underlying t = some (.struct #[f0, f1])) (hone : oneCellFields Try.prog #[f0, f1] = true) (hC : Try.prog.cellsOf t = 2)
    (h0 : Try.prog.underlying f0.type = some (.int .i64)) (h1 : Try.prog.underlying f1.type = some (.int .i64)) (hv : Value.okWide Try.prog w r b0 t v) (h : DataW.Trod enc Try.prog w base spare held t v d p) :
    ∃ x y : Int, v = .agg #[.int .i64 x, .int .i64 y] ∧ (-9223372036854775808 ≤ x ∧ x ≤ 9223372036854775807) ∧ (-9223372036854775808 ≤ y ∧ y ≤ 9223372036854775807) ∧ ∃ e, d = .agg e := by
  obtain ⟨c0, c1, y0, y1, m, rfl, rfl, rfl, hy0, hy1⟩ := open_agg2 hs hone hC hv h
  obtain ⟨a, ea, _, wa⟩ := DataW.trod_int h0 hy0
  obtain ⟨b, eb, _, wb⟩ := DataW.trod_int h1 hy1
  simp only [List.cons.injEq, and_true] at ea eb
  subst ea eb
  exact ⟨a, b, rfl, wf_i64 wa, wf_i64 wb, _, rfl⟩
set_option maxRecDepth 100000 in
theorem open_fr {r : Reach} {b0 : Nat} {v : Value} {d : DataW H} {p : List MemPlace} (hv : Value.okWide Try.prog w r b0 30 v) (h : DataW.Trod enc Try.prog w base spare held 30 v d p) :
    ∃ x y : Int, v = .agg #[.int .i64 x, .int .i64 y] ∧ (-9223372036854775808 ≤ x ∧ x ≤ 9223372036854775807) ∧ (-9223372036854775808 ≤ y ∧ y ≤ 9223372036854775807) ∧ ∃ e, d = .agg e :=
  open_ints2 Try.underlying30 (by kernel_rfl) (by kernel_rfl) Try.underlying3 Try.underlying3 hv h
set_option maxRecDepth 100000 in
theorem open_sp {r : Reach} {b0 : Nat} {v : Value} {d : DataW H} {p : List MemPlace} (hv : Value.okWide Try.prog w r b0 26 v) (h : DataW.Trod enc Try.prog w base spare held 26 v d p) :
    ∃ x y : Int, v = .agg #[.int .i64 x, .int .i64 y] ∧ (-9223372036854775808 ≤ x ∧ x ≤ 9223372036854775807) ∧ (-9223372036854775808 ≤ y ∧ y ≤ 9223372036854775807) ∧ ∃ e, d = .agg e :=
  open_ints2 Try.underlying26 (by kernel_rfl) (by kernel_rfl) Try.underlying3 Try.underlying3 hv h

theorem cell_lt {w : World} {a : Addr} {v : Value} (h : w.cell? a = some v) : a.block < w.heap.size ∧ a.spot = none := by
  unfold World.cell? at h
  split at h
  · rename_i c t f hb
    split at h
    · cases h
    · rename_i hs
      exact ⟨(Array.getElem?_eq_some_iff.1 hb).1, by cases he : a.spot <;> simp_all⟩
  · cases h
theorem addr_none {a : Addr} (h : a.spot = none) : a = ⟨a.block, a.off, none⟩ := by cases a; simp_all
theorem add_at {b off n : Nat} : (⟨b, off, none⟩ : Addr).add n = ⟨b, off + n, none⟩ := by
  unfold Addr.add; split
  · rename_i h; subst h; rfl
  · rfl

set_option maxRecDepth 100000 in
/-- A knot in memory. -/
theorem knot_cells {a : Addr} {n : Nat} {cs' : List Value} {z : DataW H × List MemPlace} (hc : w.cells? base a 2 = some cs') (ht : DataW.trod enc Try.prog w base spare held n 108 cs' = some z) :
    ∃ x y : Int, w.cell? a = some (.int .i64 x) ∧ w.cell? (a.add 1) = some (.int .i64 y) := by
  obtain ⟨_, hl, hat⟩ := World.cells?_some hc
  obtain ⟨y0, y1, m, _, _, h0, h1⟩ := trod_struct2 Try.underlying108 ht
  match cs', hl with
  | [u, v], _ =>
    have c0 := hat 0 (by omega)
    have c1 := hat 1 (by omega)
    have hone : Try.prog.cellsOf 3 = 1 := by kernel_rfl
    obtain ⟨x, ex, _⟩ := DataW.trod_int (cs := [u]) Try.underlying3 (by simpa [hone] using h0)
    obtain ⟨y, ey, _⟩ := DataW.trod_int (cs := [v]) Try.underlying3 (by simpa [hone] using h1)
    simp only [List.cons.injEq, and_true] at ex ey
    subst ex ey
    exact ⟨x, y, by simpa [Addr.add] using c0, by simpa using c1⟩

def rdInt (w : World) (a : Addr) : Int := match w.cell? a with | some (.int _ n) => n | _ => 0
theorem rdInt_of {w : World} {a : Addr} {n : Int} (h : w.cell? a = some (.int .i64 n)) : rdInt w a = n := by unfold rdInt; rw [h]
/-- The knots that lie from an address on. -/
def rdKs (w : World) (a : Addr) (len : Nat) : List (Int × Int) := (List.range len).map fun i => (rdInt w (a.add (i * 2)), rdInt w (a.add (i * 2 + 1)))
theorem rdKs_at (w : World) (a : Addr) (len i : Nat) (h : i < len) : (rdKs w a len).getD i (0, 0) = (rdInt w (a.add (i * 2)), rdInt w (a.add (i * 2 + 1))) := by
  unfold rdKs
  simp [List.getD_eq_getElem?_getD, h]

set_option maxRecDepth 100000 in
/-- A slice of knots reads as a list. -/
theorem open_knots {fuel : Nat} {cs : List Value} {x : DataW H × List MemPlace} (h : DataW.trod enc Try.prog w base spare held fuel 22 cs = some x) :
    ∃ (A : Option Addr) (n cap : Nat) (ks : List (Int × Int)), cs = [.slice A n cap] ∧ CAt w A n ks ∧ n ≤ 9223372036854775807 := by
  rcases open_slice Try.underlying22 h with ⟨e0, _⟩ | ⟨a, len, cap, m, n, D, Pl, e0, hb, hl, hc, hm, _, hf⟩
  · exact ⟨none, 0, 0, [], e0, ⟨rfl, fun h => absurd h (by omega)⟩, by omega⟩
  · have hlm : len ≤ m := by rw [hm]; split <;> omega
    have hcl : len ≤ 9223372036854775807 := by unfold maxLen at hc; omega
    rw [show Try.prog.cellsOf 108 = 2 by kernel_rfl] at hf
    refine ⟨some a, len, cap, rdKs w a len, e0, ⟨by simp [rdKs], fun h0 => ?_⟩, hcl⟩
    have hall : ∀ i, i < len → w.cell? (a.add (i * 2)) = some (.int .i64 (rdInt w (a.add (i * 2)))) ∧ w.cell? (a.add (i * 2 + 1)) = some (.int .i64 (rdInt w (a.add (i * 2 + 1)))) := fun i hi => by
      obtain ⟨cs', hc', ht'⟩ := hf i (by omega)
      obtain ⟨p, q, h1, h2⟩ := knot_cells hc' ht'
      rw [add_add] at h2
      exact ⟨by rw [rdInt_of h1]; exact h1, by rw [rdInt_of h2]; exact h2⟩
    have h00 := (hall 0 h0).1
    simp only [Nat.zero_mul] at h00
    rw [show a.add 0 = a from rfl] at h00
    obtain ⟨hlt, hsp⟩ := cell_lt h00
    have ha := addr_none hsp
    generalize a.block = b at *
    generalize a.off = off at *
    subst ha
    refine ⟨b, off, rfl, hlt, fun i hi => ?_, fun i hi => ?_⟩
    · have hi' : i < len := by simpa [rdKs] using hi
      unfold kx
      rw [rdKs_at _ _ _ _ hi', ← (hall i hi').1, add_at]
    · have hi' : i < len := by simpa [rdKs] using hi
      unfold ky
      rw [rdKs_at _ _ _ _ hi', ← (hall i hi').2, add_at, Nat.add_assoc]

set_option maxRecDepth 100000 in
/-- A curve, by value. -/
theorem open_cv {r : Reach} {b0 : Nat} {v : Value} {d : DataW H} {p : List MemPlace} (hv : Value.okWide Try.prog w r b0 24 v) (h : DataW.Trod enc Try.prog w base spare held 24 v d p) :
    ∃ (A : Option Addr) (n cap : Nat) (err : Int) (ks : List (Int × Int)), v = vCv A n cap err ∧ CAt w A n ks ∧ n ≤ 9223372036854775807 ∧ (-9223372036854775808 ≤ err ∧ err ≤ 9223372036854775807) ∧ ∃ e, d = .agg e := by
  obtain ⟨c0, c1, y0, y1, m, rfl, rfl, rfl, hy0, hy1⟩ := open_agg2 Try.underlying24 (by kernel_rfl) (by kernel_rfl) hv h
  obtain ⟨err, ee, _, we⟩ := DataW.trod_int Try.underlying3 hy1
  obtain ⟨A, n, cap, ks, e0, hc, hm⟩ := open_knots hy0
  simp only [List.cons.injEq, and_true] at ee e0
  subst ee e0
  exact ⟨A, n, cap, err, ks, rfl, hc, hm, wf_i64 we, _, rfl⟩
end
end Go.Proofs.Ytipablcbkoedbaa

namespace Go.Proofs.Ytipablcbkoedbaa
open Go.RowKit Go.WideShapes Go.ChangeShapes Go.Joins Go.Deep

section
variable {H : Type} {enc : TypeId × Value → H} {w : World} {base : Nat} {spare : Nat → Bool} {held : Bool}

set_option maxRecDepth 100000 in
/-- A curve in memory. -/
theorem curve_cells {a : Addr} {n : Nat} {cs' : List Value} {z : DataW H × List MemPlace} (hc : w.cells? base a 2 = some cs') (ht : DataW.trod enc Try.prog w base spare held n 24 cs' = some z) :
    ∃ c : CV, w.cell? a = some (.slice c.A c.n c.cap) ∧ w.cell? (a.add 1) = some (.int .i64 c.err) ∧ CAt w c.A c.n c.ks ∧ c.n ≤ 9223372036854775807 := by
  obtain ⟨_, hl, hat⟩ := World.cells?_some hc
  obtain ⟨y0, y1, m, _, _, h0, h1⟩ := trod_struct2 Try.underlying24 ht
  match cs', hl with
  | [u, v], _ =>
    have c0 := hat 0 (by omega)
    have c1 := hat 1 (by omega)
    have hone : Try.prog.cellsOf 3 = 1 := by kernel_rfl
    have hone' : Try.prog.cellsOf 22 = 1 := by kernel_rfl
    obtain ⟨A, l, cap, ks, ex, hk, hm⟩ := open_knots (cs := [u]) (by simpa [hone'] using h0)
    obtain ⟨y, ey, _⟩ := DataW.trod_int (cs := [v]) Try.underlying3 (by simpa [hone] using h1)
    simp only [List.cons.injEq, and_true] at ex ey
    subst ex ey
    exact ⟨⟨A, l, cap, y, ks⟩, by simpa [Addr.add] using c0, by simpa using c1, hk, hm⟩

theorem list_of {α : Type} (d : α) (p : Nat → α → Prop) : ∀ n, (∀ i, i < n → ∃ c, p i c) → ∃ l : List α, l.length = n ∧ ∀ i, i < n → p i (l.getD i d)
  | 0, _ => ⟨[], rfl, fun i h => absurd h (by omega)⟩
  | n + 1, h => by
    obtain ⟨l, hl, hp⟩ := list_of d p n fun i hi => h i (by omega)
    obtain ⟨c, hc⟩ := h n (by omega)
    refine ⟨l ++ [c], by simp [hl], fun i hi => ?_⟩
    by_cases e : i = n
    · subst e
      have : (l ++ [c]).getD i d = c := by simp [List.getD_eq_getElem?_getD, ← hl]
      rw [this]; exact hc
    · have : (l ++ [c]).getD i d = l.getD i d := by
        simp only [List.getD_eq_getElem?_getD]
        rw [List.getElem?_append_left (by omega)]
      rw [this]; exact hp i (by omega)

set_option maxRecDepth 100000 in
theorem open_cvs {r : Reach} {b0 : Nat} {v : Value} {d : DataW H} {p : List MemPlace} (hv : Value.okWide Try.prog w r b0 45 v) (h : DataW.Trod enc Try.prog w base spare held 45 v d p) :
    ∃ (A : Option Addr) (n cap : Nat) (cs : List CV), v = .slice A n cap ∧ LAt w A n cs ∧ n ≤ 9223372036854775807 := by
  obtain ⟨A, n, cap, rfl⟩ := okWide_slice Try.underlying45 hv
  obtain ⟨fuel, hf⟩ := h
  rcases open_slice Try.underlying45 hf with ⟨e0, _⟩ | ⟨a, len, cap', m, n', D, Pl, e0, hb, hl, hc, hm, _, hfi⟩
  · simp only [Value.cells, List.cons.injEq, and_true] at e0
    obtain ⟨rfl, rfl, rfl⟩ : A = none ∧ n = 0 ∧ cap = 0 := by simpa using e0
    exact ⟨none, 0, 0, [], rfl, ⟨rfl, fun h => absurd h (by omega)⟩, by omega⟩
  · obtain ⟨rfl, rfl, rfl⟩ : A = some a ∧ n = len ∧ cap = cap' := by simpa [Value.cells] using e0
    have hlm : n ≤ m := by rw [hm]; split <;> omega
    have hcl : n ≤ 9223372036854775807 := by unfold maxLen at hc; omega
    rw [show Try.prog.cellsOf 24 = 2 by kernel_rfl] at hfi
    obtain ⟨cs, hlen, hall⟩ := list_of (⟨none, 0, 0, 0, []⟩ : CV) (fun i c => w.cell? (a.add (i * 2)) = some (.slice c.A c.n c.cap) ∧ w.cell? (a.add (i * 2 + 1)) = some (.int .i64 c.err) ∧ CAt w c.A c.n c.ks ∧ c.n ≤ 9223372036854775807) n fun i hi => by
      obtain ⟨cs', hc', ht'⟩ := hfi i (by omega)
      obtain ⟨c, h1, h2, h3, h4⟩ := curve_cells hc' ht'
      rw [add_add] at h2
      exact ⟨c, h1, h2, h3, h4⟩
    refine ⟨some a, n, cap, cs, rfl, ⟨hlen, fun h0 => ?_⟩, hcl⟩
    have h00 := (hall 0 h0).1
    simp only [Nat.zero_mul] at h00
    rw [show a.add 0 = a from rfl] at h00
    obtain ⟨hlt, hsp⟩ := cell_lt h00
    have ha := addr_none hsp
    generalize a.block = b at *
    generalize a.off = off at *
    subst ha
    refine ⟨b, off, rfl, hlt, fun i hi => ?_, fun i hi => ?_, fun i hi => ?_, fun i hi => ?_⟩
    · have := (hall i (by omega)).1; rw [add_at] at this; exact this
    · have := (hall i (by omega)).2.1; rw [add_at] at this; rw [Nat.add_assoc]; exact this
    · exact (hall i (by omega)).2.2.1
    · exact (hall i (by omega)).2.2.2
end
end Go.Proofs.Ytipablcbkoedbaa

namespace Go.Proofs.Ytipablcbkoedbaa
open Go.RowKit

/-- Whether three knots lie on a straight line. -/
def lineB (p q r : Int × Int) : Bool := decide ((q.2 - p.2) * (r.1 - q.1) = (r.2 - q.2) * (q.1 - p.1))
theorem lineB_iff (p q r : Int × Int) : lineB p q r = true ↔ (q.2 - p.2) * (r.1 - q.1) = (r.2 - q.2) * (q.1 - p.1) := by unfold lineB; simp
/-- What is left of a row (the last knot first) ahead of a knot. -/
def popR : List (Int × Int) → Int × Int → List (Int × Int)
  | q :: p :: rest, k => if lineB p q k = true then popR (p :: rest) k else q :: p :: rest
  | [q], _ => [q]
  | [], _ => []
/-- What stands behind knot m, the last one first. -/
def thO (l : Nat → Int × Int) : Nat → List (Int × Int)
  | 0 => [l 0]
  | m + 1 => l (m + 1) :: popR (thO l m) (l (m + 1))
/-- The knots ahead of knot m that matter, the last one first. -/
def thK (l : Nat → Int × Int) : Nat → List (Int × Int)
  | 0 => []
  | m + 1 => if m = 0 ∨ lineB (l (m - 1)) (l m) (l (m + 1)) = false then l m :: thK l m else thK l m
theorem popR_stop {q p : Int × Int} {rest : List (Int × Int)} {k : Int × Int} (h : lineB p q k = false) : popR (q :: p :: rest) k = q :: p :: rest := by
  show (if lineB p q k = true then _ else _) = _
  rw [h]; rfl
theorem popR_go {q p : Int × Int} {rest : List (Int × Int)} {k : Int × Int} (h : lineB p q k = true) : popR (q :: p :: rest) k = popR (p :: rest) k := by
  show (if lineB p q k = true then _ else _) = _
  rw [if_pos h]
theorem popR_len : ∀ (l : List (Int × Int)) (k : Int × Int), (popR l k).length ≤ l.length
  | q :: p :: rest, k => by
    show (if lineB p q k = true then popR (p :: rest) k else q :: p :: rest).length ≤ _
    split
    · have := popR_len (p :: rest) k
      simp at this ⊢; omega
    · exact Nat.le_refl _
  | [q], _ => Nat.le_refl _
  | [], _ => Nat.le_refl _
theorem thO_len (l : Nat → Int × Int) : ∀ m, (thO l m).length ≤ m + 1
  | 0 => Nat.le_refl _
  | m + 1 => by
    have a := popR_len (thO l m) (l (m + 1))
    have b := thO_len l m
    show (l (m + 1) :: popR (thO l m) (l (m + 1))).length ≤ _
    simp; omega
theorem thO_ne (l : Nat → Int × Int) : ∀ m, thO l m ≠ []
  | 0 => by simp [thO]
  | m + 1 => by simp [thO]

/-- Whether a row of kept knots goes with knot q, which stands behind o. -/
structure ThI (o q : Int × Int) (T : List (Int × Int)) : Prop where
  one : ∀ p r, T = p :: r → p.1 < q.1 ∧ (q.2 - p.2) * (q.1 - o.1) = (q.2 - o.2) * (q.1 - p.1)
  two : ∀ p s r, T = p :: s :: r → s.1 < p.1 ∧ lineB s p q = false

theorem slope_tr {a b c d e f : Int} (hd : 0 < d) (h1 : a * d = c * b) (h2 : c * f = e * d) : a * f = e * b := by
  have : d * (a * f) = d * (e * b) := by grind
  exact Int.eq_of_mul_eq_mul_left (by omega) this
/-- With one knot more. -/
theorem thI_step {o q k : Int × Int} {T : List (Int × Int)} (hoq : o.1 < q.1) (hqk : q.1 < k.1) (hT : T ≠ []) (h : ThI o q T) :
    (lineB o q k = true → popR (q :: T) k = T ∧ ThI q k T) ∧ (lineB o q k = false → popR (q :: T) k = q :: T ∧ ThI q k (q :: T)) := by
  cases T with
  | nil => exact absurd rfl hT
  | cons p rest =>
    obtain ⟨h1, h2⟩ := h.one p rest rfl
    have hle : lineB p q k = lineB o q k := by
      rw [Bool.eq_iff_iff, lineB_iff, lineB_iff]
      constructor
      · intro e; exact slope_tr (d := q.1 - p.1) (b := q.1 - o.1) (c := q.2 - p.2) (by omega) (by grind) (by grind)
      · intro e; exact slope_tr (d := q.1 - o.1) (b := q.1 - p.1) (c := q.2 - o.2) (by omega) (by grind) (by grind)
    constructor
    · intro hl
      have hpq : (q.2 - p.2) * (k.1 - q.1) = (k.2 - q.2) * (q.1 - p.1) := (lineB_iff _ _ _).1 (hle.trans hl)
      refine ⟨?_, fun p' r' e => ?_, fun p' s r' e => ?_⟩
      · rw [popR_go (hle.trans hl)]
        cases rest with
        | nil => rfl
        | cons s r =>
          obtain ⟨c1, c2⟩ := h.two p s r rfl
          refine popR_stop ?_
          cases hk : lineB s p k with
          | false => rfl
          | true =>
            rw [lineB_iff] at hk
            have : lineB s p q = true := (lineB_iff _ _ _).2 (slope_tr (d := k.1 - p.1) (c := k.2 - p.2) (by omega) hk (by grind))
            rw [c2] at this; cases this
      · obtain ⟨rfl, rfl⟩ := List.cons.inj e
        exact ⟨by omega, by grind⟩
      · obtain ⟨rfl, e2⟩ := List.cons.inj e
        obtain ⟨c1, c2⟩ := h.two p s r' (by rw [e2])
        refine ⟨c1, ?_⟩
        cases hk : lineB s p k with
        | false => rfl
        | true =>
          rw [lineB_iff] at hk
          have : lineB s p q = true := (lineB_iff _ _ _).2 (slope_tr (d := k.1 - p.1) (c := k.2 - p.2) (by omega) hk (by grind))
          rw [c2] at this; cases this
    · intro hl
      refine ⟨popR_stop (hle.trans hl), fun p' r' e => ?_, fun p' s r' e => ?_⟩
      · obtain ⟨rfl, rfl⟩ := List.cons.inj e
        exact ⟨hqk, rfl⟩
      · obtain ⟨rfl, e2⟩ := List.cons.inj e
        obtain ⟨rfl, rfl⟩ := List.cons.inj e2
        exact ⟨h1, hle.trans hl⟩

theorem thO_eq {l : Nat → Int × Int} {N : Nat} (hx : ∀ i, i + 1 < N → (l i).1 < (l (i + 1)).1) : ∀ m, m < N → thO l m = l m :: thK l m ∧ (0 < m → thK l m ≠ [] ∧ ThI (l (m - 1)) (l m) (thK l m))
  | 0, _ => ⟨rfl, fun h => absurd h (by omega)⟩
  | m + 1, hm => by
    obtain ⟨h1, h2⟩ := thO_eq hx m (by omega)
    have hxm := hx m hm
    show l (m + 1) :: popR (thO l m) (l (m + 1)) = _ ∧ _
    rw [h1]
    have e : thK l (m + 1) = if m = 0 ∨ lineB (l (m - 1)) (l m) (l (m + 1)) = false then l m :: thK l m else thK l m := rfl
    rw [e]
    by_cases h0 : m = 0
    · subst h0
      rw [if_pos (.inl rfl)]
      refine ⟨rfl, fun _ => ⟨by simp, fun p r e => ?_, fun p s r e => ?_⟩⟩
      · obtain ⟨rfl, rfl⟩ := List.cons.inj e
        exact ⟨hxm, rfl⟩
      · obtain ⟨_, e2⟩ := List.cons.inj e
        cases e2
    · obtain ⟨h3, h4⟩ := h2 (by omega)
      have hxp := hx (m - 1) (by omega)
      rw [show m - 1 + 1 = m by omega] at hxp
      obtain ⟨a, b⟩ := thI_step hxp hxm h3 h4
      cases hl : lineB (l (m - 1)) (l m) (l (m + 1)) with
      | true =>
        obtain ⟨c, d⟩ := a hl
        rw [if_neg (by simp [h0]), c]
        exact ⟨rfl, fun _ => ⟨h3, d⟩⟩
      | false =>
        obtain ⟨c, d⟩ := b hl
        rw [if_pos (.inr rfl), c]
        exact ⟨rfl, fun _ => ⟨by simp, d⟩⟩
/-- The knots that matter. -/
def thL (ks : List (Int × Int)) : List (Int × Int) := (thO (fun i => ks.getD i (0, 0)) (ks.length - 1)).reverse
theorem thL_eq {ks : List (Int × Int)} (hv : Valid ks) : thL ks = (thK (fun i => ks.getD i (0, 0)) (ks.length - 1)).reverse ++ [ks.getD (ks.length - 1) (0, 0)] := by
  unfold thL
  have hp := hv.pos
  rw [(thO_eq (l := fun i => ks.getD i (0, 0)) (N := ks.length) (fun i hi => by have := hv.up i hi; unfold kx at this; show (ks.getD i (0, 0)).1 < (ks.getD (i + 1) (0, 0)).1; omega) (ks.length - 1) (by omega)).1]
  simp
theorem thL_len (ks : List (Int × Int)) (h : 0 < ks.length) : (thL ks).length ≤ ks.length := by
  unfold thL
  rw [List.length_reverse]
  have := thO_len (fun i => ks.getD i (0, 0)) (ks.length - 1)
  omega
end Go.Proofs.Ytipablcbkoedbaa

namespace Go.Proofs.Ytipablcbkoedbaa
open Go.RowKit Go

def newInv2 (w : World) (i : Nat) (t : TypeId) (cs : Array Value) (i' : Nat) (t' : TypeId) (cs' : Array Value) (ls : Nat → Bool) (vs : Nat → Value) (v : World) : Prop :=
  (ls i = true → ∃ g, vs i = .pointer (some ⟨g, 0, none⟩) ∧ w.heap.size ≤ g ∧ Blk v g t cs) ∧ (ls i' = true → ∃ g, vs i' = .pointer (some ⟨g, 0, none⟩) ∧ w.heap.size ≤ g ∧ Blk v g t' cs') ∧ (ls i = true → ls i' = true → vs i ≠ vs i')

theorem wp_region_new2 {P : Program} {id : Nat} {Q : Exit → Act → World → Prop} {a : Act} {w : World} {l : List Oper} (n i : Nat) (d : Tmp) (t : TypeId) (cs : Array Value) (i' : Nat) (d' : Tmp) (t' : TypeId) (cs' : Array Value) (hii : i ≠ i')
    (hm : P.follows .mixedOrders = true) (hB : (regB l.toArray n [(i, d), (i', d')] && dstsB a.tmps.size (qOf [(i, d), (i', d')] 0 (l.take n)) && [(i, d), (i', d')].all fun p => match l[p.1]? with | some o => o.dst.isSome || decide (a.tmps.size ≤ p.2) | none => true) = true)
    (hop : ∀ (a' : Act) (v : World) (R : Value → World → Prop), R (.pointer (some ⟨v.heap.size, 0, none⟩)) (v.alloc (.cells cs t)) → ∀ o, l[i]? = some o → loudAt P o a' v R)
    (hop' : ∀ (a' : Act) (v : World) (R : Value → World → Prop), R (.pointer (some ⟨v.heap.size, 0, none⟩)) (v.alloc (.cells cs' t')) → ∀ o, l[i']? = some o → loudAt P o a' v R)
    (h : ∃ aQ, (∀ W, Below w.heap.size w W → wpQuiet P l.toArray (fun v' => ∃ x : Ext W, v' = x.w) (fun a' => a' = aQ) (qOf [(i, d), (i', d')] 0 (l.take n)) a) ∧
      ∀ g g' v, w.heap.size ≤ g → w.heap.size ≤ g' → g ≠ g' → Below w.heap.size w v → Blk v g t cs → Blk v g' t' cs' → wpList P l.toArray Q (l.drop n) ((aQ.put (some d) (.pointer (some ⟨g, 0, none⟩))).put (some d') (.pointer (some ⟨g', 0, none⟩))) v) : (Code.region id l.toArray true).wp P Q a w := by
  obtain ⟨aQ, h1, h2⟩ := h
  refine wp_region_pre n [(i, d), (i', d')] (newInv2 w i t cs i' t' cs') hm hB (fun v _ => ⟨fun h => (by cases h), fun h => (by cases h), fun h => (by cases h)⟩) (fun ls vs v v' _ h k => ⟨fun hl => ?_, fun hl => ?_, h.2.2⟩) ⟨aQ, h1, ?_, ?_⟩
  · obtain ⟨g, e, hg, hb⟩ := h.1 hl
    exact ⟨g, e, hg, hb.below k⟩
  · obtain ⟨g, e, hg, hb⟩ := h.2.1 hl
    exact ⟨g, e, hg, hb.below k⟩
  · rintro p hp vs v ⟨x, rfl⟩ ls hI hls _ o ho
    simp only [List.mem_cons, List.not_mem_nil, or_false] at hp
    rcases hp with rfl | rfl
    · refine hop _ _ _ ⟨Over.of (x.below.alloc x.below.size _), fun _ => ⟨x.w.heap.size, by simp [upd], x.below.size, Blk.new _ _ _⟩, fun hl => ?_, fun _ hl => ?_⟩ o ho
      · have hl' : ls i' = true := by simpa [updB, Ne.symm hii] using hl
        obtain ⟨g, e, hg, hb⟩ := hI.2.1 hl'
        exact ⟨g, by simpa [upd, Ne.symm hii] using e, hg, hb.alloc _⟩
      · have hl' : ls i' = true := by simpa [updB, Ne.symm hii] using hl
        obtain ⟨g, e, hg, hb⟩ := hI.2.1 hl'
        have := hb.lt
        have e1 : upd vs i (.pointer (some ⟨x.w.heap.size, 0, none⟩)) i = .pointer (some ⟨x.w.heap.size, 0, none⟩) := by simp [upd]
        have e2 : upd vs i (.pointer (some ⟨x.w.heap.size, 0, none⟩)) i' = .pointer (some ⟨g, 0, none⟩) := by simpa [upd, Ne.symm hii] using e
        rw [e1, e2]
        intro c
        simp at c
        try omega
    · refine hop' _ _ _ ⟨Over.of (x.below.alloc x.below.size _), fun hl => ?_, fun _ => ⟨x.w.heap.size, by simp [upd], x.below.size, Blk.new _ _ _⟩, fun hl _ => ?_⟩ o ho
      · have hl' : ls i = true := by simpa [updB, hii] using hl
        obtain ⟨g, e, hg, hb⟩ := hI.1 hl'
        exact ⟨g, by simpa [upd, hii] using e, hg, hb.alloc _⟩
      · have hl' : ls i = true := by simpa [updB, hii] using hl
        obtain ⟨g, e, hg, hb⟩ := hI.1 hl'
        have := hb.lt
        have e1 : upd vs i' (.pointer (some ⟨x.w.heap.size, 0, none⟩)) i' = .pointer (some ⟨x.w.heap.size, 0, none⟩) := by simp [upd]
        have e2 : upd vs i' (.pointer (some ⟨x.w.heap.size, 0, none⟩)) i = .pointer (some ⟨g, 0, none⟩) := by simpa [upd, hii] using e
        rw [e1, e2]
        intro c
        simp at c
        try omega
  · rintro ls vs _ ⟨x, rfl⟩ hI hls
    have a1 := hls (i, d) (by simp)
    have a2 := hls (i', d') (by simp)
    obtain ⟨g, e, hg, hb⟩ := hI.1 a1
    obtain ⟨g', e', hg', hb'⟩ := hI.2.1 a2
    have hne := hI.2.2 a1 a2
    rw [e, e'] at hne
    have := h2 g g' x.w hg hg' (fun c => hne (by rw [c])) x.below hb hb'
    show wpList P l.toArray Q (l.drop n) (putsL aQ [(i, d), (i', d')] vs) x.w
    have ep : putsL aQ [(i, d), (i', d')] vs = (aQ.put (some d) (vs i)).put (some d') (vs i') := rfl
    rw [ep, e, e']
    exact this

theorem owns_shrink {W : World} {B e g c n : Nat} {xs ys : List Value} (h : W.ownsRow B e 2 (.slice (some ⟨g, 0, none⟩) (n + 1) c) (n + 1) (xs ++ ys)) (hx : xs.length = n * 2) : W.ownsRow B e 2 (.slice (some ⟨g, 0, none⟩) n c) n xs := by
  obtain ⟨h1, h2⟩ := h
  rcases h2 with ⟨h0, _⟩ | ⟨g', cap', cur, hv, hg, hh, hn, hcap, hsz, htake⟩
  · cases h0
  · cases hv
    refine ⟨hx, .inr ⟨g, c, cur, rfl, hg, hh, by omega, hcap, hsz, ?_⟩⟩
    have h3 : (cur.toList.take ((n + 1) * 2)).take (n * 2) = (xs ++ ys).take (n * 2) := by rw [htake]
    rw [List.take_take, Nat.min_eq_left (by omega)] at h3
    rw [h3, ← hx]
    simp
theorem owns_cap {W : World} {B e size g c n : Nat} {xs : List Value} (h : W.ownsRow B e size (.slice (some ⟨g, 0, none⟩) n c) n xs) : n ≤ c := by
  rcases h.2 with ⟨h0, _⟩ | ⟨g', cap', cur, hv, hg, hh, hn, hcap, hsz, htake⟩
  · cases h0
  · cases hv
    exact hn
end Go.Proofs.Ytipablcbkoedbaa

namespace Go.Proofs.Ytipablcbkoedbaa
open Go.RowKit

/-- What stands ahead of knot k. -/
def thS (l : Nat → Int × Int) : Nat → List (Int × Int)
  | 0 => []
  | k + 1 => thO l k
theorem thS_succ (l : Nat → Int × Int) : ∀ k, thS l (k + 1) = l k :: popR (thS l k) (l k)
  | 0 => rfl
  | _ + 1 => rfl
theorem thS_len (l : Nat → Int × Int) : ∀ k, (thS l k).length ≤ k
  | 0 => Nat.le_refl _
  | k + 1 => thO_len l k
theorem thO_mem (l : Nat → Int × Int) {N : Nat} : ∀ m, m < N → ∀ z ∈ thO l m, ∃ i, i < N ∧ z = l i
  | 0, h, z, hz => ⟨0, h, by simpa [thO] using hz⟩
  | m + 1, h, z, hz => by
    have hp : ∀ (T : List (Int × Int)) (k : Int × Int), ∀ z ∈ popR T k, z ∈ T := by
      intro T
      induction T with
      | nil => intro k z hz; exact hz
      | cons q T ih =>
        cases T with
        | nil => intro k z hz; exact hz
        | cons p rest =>
          intro k z hz
          have : z ∈ (if lineB p q k = true then popR (p :: rest) k else q :: p :: rest) := hz
          split at this
          · exact List.mem_cons_of_mem _ (ih k z this)
          · exact this
    rcases List.mem_cons.1 (show z ∈ l (m + 1) :: popR (thO l m) (l (m + 1)) from hz) with rfl | hz
    · exact ⟨m + 1, h, rfl⟩
    · exact thO_mem l m (by omega) z (hp _ _ z hz)
/-- A row, the last knot first. -/
theorem rev_cons (q : Int × Int) (T : List (Int × Int)) : (q :: T).reverse.flatMap encF = T.reverse.flatMap encF ++ [.int .i64 q.1, .int .i64 q.2] := by
  rw [List.reverse_cons, List.flatMap_append]; simp [encF]
theorem rev_len (T : List (Int × Int)) : (T.reverse.flatMap encF).length = T.length * 2 := by
  rw [flat_len 2 encF (fun _ => rfl), List.length_reverse]
/-- The two last knots of a row. -/
theorem last_two {W : World} {base g c : Nat} {q p : Int × Int} {rest : List (Int × Int)} (h : W.ownsRow base 108 2 (.slice (some ⟨g, 0, none⟩) (rest.length + 2) c) (rest.length + 2) ((q :: p :: rest).reverse.flatMap encF)) :
    W.cell? ⟨g, rest.length * 2, none⟩ = some (.int .i64 p.1) ∧ W.cell? ⟨g, rest.length * 2 + 1, none⟩ = some (.int .i64 p.2) ∧ W.cell? ⟨g, (rest.length + 1) * 2, none⟩ = some (.int .i64 q.1) ∧ W.cell? ⟨g, (rest.length + 1) * 2 + 1, none⟩ = some (.int .i64 q.2) := by
  rw [rev_cons, rev_cons] at h
  have hl := rev_len rest
  generalize rest.reverse.flatMap encF = xs at *
  refine ⟨?_, ?_, ?_, ?_⟩
  · rw [h.cellAt _ (by omega), List.append_assoc, List.getElem?_append_right (by omega)]; simp [hl]
  · rw [h.cellAt _ (by omega), List.append_assoc, List.getElem?_append_right (by omega)]; simp [hl]
  · rw [h.cellAt _ (by omega), List.append_assoc, List.getElem?_append_right (by omega), hl, show (rest.length + 1) * 2 - rest.length * 2 = 2 by omega]; rfl
  · rw [h.cellAt _ (by omega), List.append_assoc, List.getElem?_append_right (by omega), hl, show (rest.length + 1) * 2 + 1 - rest.length * 2 = 3 by omega]; rfl
/-- What thin returns. -/
def thOut (w : World) (R : List (Int × Int)) (err : Int) (en : Ending) (w' : World) : Prop :=
  ∃ A n cap, en = .returned (vCv A n cap err) ∧ CAt w' A n R ∧ n ≤ 1000 ∧ (∀ a, A = some a → w.heap.size ≤ a.block) ∧ Below w.heap.size w w'

/-- Two new blocks of four cells, the first of them written: what is known while a region draws its order. -/
def twoI4 (w : World) (t : TypeId) (cs : Array Value) (ls : Nat → Bool) (vs : Nat → Value) (v : World) : Prop :=
  (ls 21 = true → ∃ g, vs 21 = .pointer (some ⟨g, 0, none⟩) ∧ w.heap.size ≤ g ∧ (∃ a b c d, Blk v g t #[a, b, c, d]) ∧ (ls 22 = true → vs 22 ≠ vs 21) ∧ (ls 23 = true → Blk v g t cs)) ∧
  (ls 22 = true → ∃ g, vs 22 = .pointer (some ⟨g, 0, none⟩) ∧ w.heap.size ≤ g ∧ ∃ a b c d, Blk v g t #[a, b, c, d]) ∧ (ls 23 = true → ls 21 = true)
theorem twoI4_below {w : World} {t : TypeId} {cs : Array Value} {ls : Nat → Bool} {vs : Nat → Value} {v v' : World} (h : twoI4 w t cs ls vs v) (k : Below v.heap.size v v') : twoI4 w t cs ls vs v' := by
  refine ⟨fun h1 => ?_, fun h1 => ?_, h.2.2⟩
  · obtain ⟨g, e, hg, ⟨a, b, c, d, hb⟩, h2, h3⟩ := h.1 h1
    exact ⟨g, e, hg, ⟨a, b, c, d, hb.below k⟩, h2, fun h4 => (h3 h4).below k⟩
  · obtain ⟨g, e, hg, a, b, c, d, hb⟩ := h.2.1 h1
    exact ⟨g, e, hg, a, b, c, d, hb.below k⟩
theorem twoI4_21 {w : World} {t : TypeId} {cs : Array Value} {ls : Nat → Bool} {vs : Nat → Value} {v : World} (h : twoI4 w t cs ls vs v) (h21 : ls 21 = false) (hv : Below w.heap.size w v) (a b c d : Value) :
    twoI4 w t cs (updB ls 21) (upd vs 21 (.pointer (some ⟨v.heap.size, 0, none⟩))) (v.alloc (.cells #[a, b, c, d] t)) := by
  refine ⟨fun _ => ⟨v.heap.size, by simp [upd], hv.size, ⟨_, _, _, _, Blk.new _ _ _⟩, fun h1 => ?_, fun h1 => ?_⟩, fun h1 => ?_, fun _ => by simp [updB]⟩
  · have h1 : ls 22 = true := by simpa [updB] using h1
    obtain ⟨g, e, hg, _, _, _, _, hb⟩ := h.2.1 h1
    have := hb.lt
    have hx : g ≠ v.heap.size := by omega
    simp [upd, e]
  · have h1 : ls 23 = true := by simpa [updB] using h1
    rw [h.2.2 h1] at h21; cases h21
  · have h1 : ls 22 = true := by simpa [updB] using h1
    obtain ⟨g, e, hg, _, _, _, _, hb⟩ := h.2.1 h1
    exact ⟨g, by simp [upd, e], hg, _, _, _, _, hb.alloc _⟩
theorem twoI4_22 {w : World} {t : TypeId} {cs : Array Value} {ls : Nat → Bool} {vs : Nat → Value} {v : World} (h : twoI4 w t cs ls vs v) (hv : Below w.heap.size w v) (a b c d : Value) :
    twoI4 w t cs (updB ls 22) (upd vs 22 (.pointer (some ⟨v.heap.size, 0, none⟩))) (v.alloc (.cells #[a, b, c, d] t)) := by
  refine ⟨fun h1 => ?_, fun _ => ⟨v.heap.size, by simp [upd], hv.size, _, _, _, _, Blk.new _ _ _⟩, fun h1 => ?_⟩
  · have h1 : ls 21 = true := by simpa [updB] using h1
    obtain ⟨g, e, hg, ⟨a, b, c, d, hb⟩, h2, h3⟩ := h.1 h1
    have := hb.lt
    refine ⟨g, by simp [upd, e], hg, ⟨a, b, c, d, hb.alloc _⟩, fun _ => by
      have hx : g ≠ v.heap.size := by omega
      simp [upd, e], fun h4 => ?_⟩
    exact (h3 (by simpa [updB] using h4)).alloc _
  · have h1 : ls 23 = true := by simpa [updB] using h1
    simpa [updB] using h.2.2 h1
theorem blk_four {W : World} {g : Nat} {t : TypeId} {p q r s : Value} (h : Blk W g t #[p, q, r, s]) (a b c d : Value) :
    Blk ((((W.setCell ⟨g, 0, none⟩ a).setCell ⟨g, 1, none⟩ b).setCell ⟨g, 2, none⟩ c).setCell ⟨g, 3, none⟩ d) g t #[a, b, c, d] := by
  have := (((h.set_ 0 a).set_ 1 b).set_ 2 c).set_ 3 d
  simpa using this
theorem far_four {W : World} {g g' : Nat} {t : TypeId} {cs : Array Value} (h : Blk W g' t cs) (hne : g' ≠ g) (a b c d : Value) :
    Blk ((((W.setCell ⟨g, 0, none⟩ a).setCell ⟨g, 1, none⟩ b).setCell ⟨g, 2, none⟩ c).setCell ⟨g, 3, none⟩ d) g' t cs :=
  (((h.far (p := ⟨g, 0, none⟩) hne a).far (p := ⟨g, 1, none⟩) hne b).far (p := ⟨g, 2, none⟩) hne c).far (p := ⟨g, 3, none⟩) hne d
theorem below_four {B : Nat} {w W : World} {g : Nat} (h : Below B w W) (hg : B ≤ g) (a b c d : Value) : Below B w ((((W.setCell ⟨g, 0, none⟩ a).setCell ⟨g, 1, none⟩ b).setCell ⟨g, 2, none⟩ c).setCell ⟨g, 3, none⟩ d) :=
  (((h.setCell (p := ⟨g, 0, none⟩) hg a).setCell (p := ⟨g, 1, none⟩) hg b).setCell (p := ⟨g, 2, none⟩) hg c).setCell (p := ⟨g, 3, none⟩) hg d
theorem twoI4_23 {w : World} {t : TypeId} {ls : Nat → Bool} {vs : Nat → Value} {v : World} {g : Nat} {a b c d : Value} (h : twoI4 w t #[a, b, c, d] ls vs v) (h21 : ls 21 = true) (e : vs 21 = .pointer (some ⟨g, 0, none⟩)) (u : Value) :
    twoI4 w t #[a, b, c, d] (updB ls 23) (upd vs 23 u) ((((v.setCell ⟨g, 0, none⟩ a).setCell ⟨g, 1, none⟩ b).setCell ⟨g, 2, none⟩ c).setCell ⟨g, 3, none⟩ d) := by
  obtain ⟨g1, e1, hg, ⟨_, _, _, _, hb⟩, h2, h3⟩ := h.1 h21
  rw [e1] at e
  have : g1 = g := by simpa using e
  subst this
  refine ⟨fun _ => ⟨g1, by simp [upd, e1], hg, ⟨_, _, _, _, blk_four hb _ _ _ _⟩, fun h1 => ?_, fun _ => blk_four hb _ _ _ _⟩, fun h1 => ?_, fun _ => by simpa [updB] using h21⟩
  · have h1 : ls 22 = true := by simpa [updB] using h1
    simpa [upd] using h2 h1
  · have h1 : ls 22 = true := by simpa [updB] using h1
    obtain ⟨g', e', hg', _, _, _, _, hb'⟩ := h.2.1 h1
    have hne : g' ≠ g1 := fun hh => h2 h1 (by rw [e1, e', hh])
    exact ⟨g', by simp [upd, e'], hg', _, _, _, _, far_four hb' hne _ _ _ _⟩

set_option maxRecDepth 100000 in
set_option maxHeartbeats 12800000 in
theorem thin_any (b off cap : Nat) (err : Int) (ks : List (Int × Int)) (w : World) (h : Kn w b off ks) (hv : Valid ks) :
    Calls Try.prog 123 #[vCv (some ⟨b, off, none⟩) ks.length cap err] w (thOut w (thL ks) err) := by
  have HKn := Lib.hid h
  have HV := Lib.hid hv
  have hpos := hv.pos
  have hle := hv.le
  have HTh := Lib.hid (show thL ks = (thO (fun i => ks.getD i (0, 0)) (ks.length - 1)).reverse from rfl)
  have HTl := Lib.hid (thL_len ks hpos)
  obtain ⟨i0, hi0, hi1, hi2, hi3⟩ := info_parts info_knot
  have HI := Lib.hid (show Try.prog.info? 108 = some i0 ∧ i0.zero = some (.agg #[.int .i64 0, .int .i64 0]) ∧ i0.size = 2 ∧ i0.bytes = 16 from ⟨hi0, hi1, hi2, hi3⟩)
  have HSs := Lib.hid (thS_succ fun i => ks.getD i (0, 0))
  have HSl := Lib.hid (thS_len fun i => ks.getD i (0, 0))
  have HSm := Lib.hid (fun (k : Nat) (hk : k < ks.length + 1) z (hz : z ∈ thS (fun i => ks.getD i (0, 0)) k) => (show -65536 ≤ z.2 ∧ z.2 ≤ 65536 ∧ 0 ≤ z.1 ∧ z.1 ≤ 2000 from by
    cases k with
    | zero => cases hz
    | succ k =>
      obtain ⟨i, hi, rfl⟩ := thO_mem (fun i => ks.getD i (0, 0)) (N := ks.length) k (by omega) z hz
      have a := hv.x0 i hi
      have b := hv.y0 i hi
      unfold kx at a
      unfold ky at b
      omega))
  have HPm := Lib.hid (fun (T S : List (Int × Int)) (k : Int × Int) (_ : popR T k = popR S k) => True.intro)
  clear h hv hi0 hi1 hi2 hi3 HPm
  generalize hn : ks.length = n at *
  have HNn := Lib.hid hn
  clear hn
  generalize hS : thS (fun i => ks.getD i (0, 0)) = S at *
  have HS := Lib.hid hS
  clear hS
  generalize hW : (w.alloc (.cells #[.slice (some ⟨b, off, none⟩) n cap, .int .i64 err] 24)).alloc (.cells #[.slice none 0 0, .int .i64 0] 24) = W
  have B0 : Below w.heap.size w W := by rw [← hW]; exact (((Below.refl w.heap.size w).alloc (Nat.le_refl _) _).alloc (by simp) _)
  have x0_0 : Blk W w.heap.size 24 #[.slice (some ⟨b, off, none⟩) n cap, .int .i64 err] := by rw [← hW]; exact ((Blk.at_new _ _ rfl).alloc _)
  have r_0 : Blk W (w.heap.size + 1) 24 #[.slice none 0 0, .int .i64 0] := by rw [← hW]; exact (Blk.at_new _ _ (by simp))
  have HWE := Lib.hid hW
  clear hW
  go_enter Try.func123, Try.ntmps123
  have x0_0c0 := x0_0.cell 0
  have x0_0c1 := x0_0.cell 1
  simp only [List.getElem?_toArray, List.getElem?_cons_zero, List.getElem?_cons_succ] at x0_0c0 x0_0c1
  have x0_0l := x0_0.lt
  have r_0c0 := r_0.cell 0
  have r_0c1 := r_0.cell 1
  simp only [List.getElem?_toArray, List.getElem?_cons_zero, List.getElem?_cons_succ] at r_0c0 r_0c1
  have r_0l := r_0.lt
  have hws : w.heap.size + 1 < W.heap.size := r_0l
  go_upto_region 1 with fail
  rw [HWE.out]
  have B1 := B0
  have B1a := B1.alloc B1.size (.cells #[.slice none 0 0, .int .i64 err] 24)
  go_wp2_with fail
  clear x0_0c0 x0_0c1 x0_0l r_0c0 r_0c1 r_0l
  have x0_1 := (x0_0.alloc (.cells #[.slice none 0 0, .int .i64 err] 24))
  have r_1 := (r_0.alloc (.cells #[.slice none 0 0, .int .i64 err] 24))
  clear x0_0 r_0
  have o_1 := (Blk.new W 24 #[.slice none 0 0, .int .i64 err])
  generalize hV1 : W.alloc (.cells #[.slice none 0 0, .int .i64 err] 24) = V1 at *
  generalize hg1 : W.heap.size = g1 at *
  clear hV1 hg1
  have x0_1c0 := x0_1.cell 0
  have x0_1c1 := x0_1.cell 1
  simp only [List.getElem?_toArray, List.getElem?_cons_zero, List.getElem?_cons_succ] at x0_1c0 x0_1c1
  have x0_1l := x0_1.lt
  have r_1c0 := r_1.cell 0
  have r_1c1 := r_1.cell 1
  simp only [List.getElem?_toArray, List.getElem?_cons_zero, List.getElem?_cons_succ] at r_1c0 r_1c1
  have r_1l := r_1.lt
  have o_1c0 := o_1.cell 0
  have o_1c1 := o_1.cell 1
  simp only [List.getElem?_toArray, List.getElem?_cons_zero, List.getElem?_cons_succ] at o_1c0 o_1c1
  have o_1l := o_1.lt
  have hbs : (g1 + 1) ≤ V1.heap.size := o_1l
  go_loopw [15] (fun i wx => ∃ (k : Nat) (v : Value) (t : Nat), k ≤ n ∧ i = .int .i64 k ∧ (S k).length = t ∧ wx.ownsRow (g1 + 1) 108 2 v t ((S k).reverse.flatMap encF) ∧ (g1 + 1) ≤ wx.heap.size ∧ Below w.heap.size w wx ∧ Blk wx w.heap.size 24 #[.slice (some ⟨b, off, none⟩) n cap, .int .i64 err] ∧ Blk wx (w.heap.size + 1) 24 #[.slice none 0 0, .int .i64 0] ∧ Blk wx g1 24 #[v, .int .i64 err]) (fun i _ => n - (intOf i).toNat)
  case atStart => exact ⟨0, .slice none 0 0, 0, Nat.zero_le _, rfl, by rw [← HS.out]; rfl, by rw [← HS.out]; exact World.ownsRow_nil _ _ _ _, hbs, (B1a), x0_1, r_1, o_1⟩
  case round =>
    clear x0_1c0 x0_1c1 x0_1l r_1c0 r_1c1 r_1l o_1c0 o_1c1 o_1l
    obtain ⟨wo, hwo⟩ : ∃ wo : World, wo = wr := ⟨_, rfl⟩
    subst hwo
    obtain ⟨k, v, t, hk, rfl, htl, ow_20, hbr, Br, x0_20, r_20, o_20⟩ := hrel
    have HTl2 := Lib.hid htl
    have htk : t ≤ k := by have := HSl.out k; omega
    clear htl
    have x0_20c0 := x0_20.cell 0
    have x0_20c1 := x0_20.cell 1
    simp only [List.getElem?_toArray, List.getElem?_cons_zero, List.getElem?_cons_succ] at x0_20c0 x0_20c1
    have x0_20l := x0_20.lt
    have r_20c0 := r_20.cell 0
    have r_20c1 := r_20.cell 1
    simp only [List.getElem?_toArray, List.getElem?_cons_zero, List.getElem?_cons_succ] at r_20c0 r_20c1
    have r_20l := r_20.lt
    have o_20c0 := o_20.cell 0
    have o_20c1 := o_20.cell 1
    simp only [List.getElem?_toArray, List.getElem?_cons_zero, List.getElem?_cons_succ] at o_20c0 o_20c1
    have o_20l := o_20.lt
    by_cases hkn : k < n
    · have hkl : k < ks.length := by rw [HNn.out]; exact hkn
      have hK := HKn.out.below Br
      have lt1 := hK.lt
      have xx := hK.x k hkl
      have xy := hK.y k hkl
      obtain ⟨y1, y2⟩ := HV.out.y0 k hkl
      obtain ⟨y3, y4⟩ := HV.out.x0 k hkl
      have HSk := Lib.hid (show S (k + 1) = (kx ks k, ky ks k) :: popR (S k) (kx ks k, ky ks k) by rw [← HS.out]; exact thS_succ _ k)
      have HSb := Lib.hid (fun z (hz : z ∈ S k) => HSm.out k (by omega) z (by rw [← HS.out] at hz; first | exact hz | (rw [HS.out] at hz; exact hz)))
      clear hK
      generalize kx ks k = ax at *
      generalize ky ks k = ay at *
      obtain ⟨A1, c1, hv1⟩ : ∃ A1 c1, v = .slice A1 t c1 := by
        rcases ow_20.2 with ⟨e, h0⟩ | ⟨gg, cp, cur, e, _⟩
        · exact ⟨none, 0, by rw [e, h0]⟩
        · exact ⟨_, _, e⟩
      subst hv1
      have HLT0 := Lib.hid (fun (q : Nat) hq => own_lt (g := q) ow_20 hq)
      clear x0_20c0 x0_20c1 x0_20l r_20c0 r_20c1 r_20l o_20c0 o_20c1 o_20l
      have x0_20c0 := x0_20.cell 0
      have x0_20c1 := x0_20.cell 1
      simp only [List.getElem?_toArray, List.getElem?_cons_zero, List.getElem?_cons_succ] at x0_20c0 x0_20c1
      have x0_20l := x0_20.lt
      have r_20c0 := r_20.cell 0
      have r_20c1 := r_20.cell 1
      simp only [List.getElem?_toArray, List.getElem?_cons_zero, List.getElem?_cons_succ] at r_20c0 r_20c1
      have r_20l := r_20.lt
      have o_20c0 := o_20.cell 0
      have o_20c1 := o_20.cell 1
      simp only [List.getElem?_toArray, List.getElem?_cons_zero, List.getElem?_cons_succ] at o_20c0 o_20c1
      have o_20l := o_20.lt
      have hwl := Br.size
      have B21 := Br
      have B21a := B21.alloc B21.size (.cells #[.int .i64 ax, .int .i64 ay] 108)
      go_wp2_with fail
      clear x0_20c0 x0_20c1 x0_20l r_20c0 r_20c1 r_20l o_20c0 o_20c1 o_20l
      have x0_21 := (x0_20.alloc (.cells #[.int .i64 ax, .int .i64 ay] 108))
      have r_21 := (r_20.alloc (.cells #[.int .i64 ax, .int .i64 ay] 108))
      have o_21 := (o_20.alloc (.cells #[.int .i64 ax, .int .i64 ay] 108))
      have ow_21 := (ow_20.alloc (.cells #[.int .i64 ax, .int .i64 ay] 108))
      clear x0_20 r_20 o_20
      have kn_21 := (Blk.new wo 108 #[.int .i64 ax, .int .i64 ay])
      generalize hV21 : wo.alloc (.cells #[.int .i64 ax, .int .i64 ay] 108) = V21 at *
      generalize hg21 : wo.heap.size = g21 at *
      clear hV21 hg21
      have x0_21c0 := x0_21.cell 0
      have x0_21c1 := x0_21.cell 1
      simp only [List.getElem?_toArray, List.getElem?_cons_zero, List.getElem?_cons_succ] at x0_21c0 x0_21c1
      have x0_21l := x0_21.lt
      have r_21c0 := r_21.cell 0
      have r_21c1 := r_21.cell 1
      simp only [List.getElem?_toArray, List.getElem?_cons_zero, List.getElem?_cons_succ] at r_21c0 r_21c1
      have r_21l := r_21.lt
      have o_21c0 := o_21.cell 0
      have o_21c1 := o_21.cell 1
      simp only [List.getElem?_toArray, List.getElem?_cons_zero, List.getElem?_cons_succ] at o_21c0 o_21c1
      have o_21l := o_21.lt
      have kn_21c0 := kn_21.cell 0
      have kn_21c1 := kn_21.cell 1
      simp only [List.getElem?_toArray, List.getElem?_cons_zero, List.getElem?_cons_succ] at kn_21c0 kn_21c1
      have kn_21l := kn_21.lt
      clear xx xy lt1
      have hgk : (g1 + 1) ≤ g21 := hbr
      have hgv : g21 < V21.heap.size := kn_21l
      go_loopw [6] (fun i wx => ∃ (T : List (Int × Int)) (v : Value) (t : Nat), i = .int .i64 t ∧ T.length = t ∧ popR T (ax, ay) = popR (S k) (ax, ay) ∧ t ≤ k ∧ (∀ z ∈ T, z ∈ S k) ∧ wx.ownsRow (g1 + 1) 108 2 v t (T.reverse.flatMap encF) ∧ (∀ q, v.ownBlock = some q → q < g21) ∧ g21 < wx.heap.size ∧ Below w.heap.size w wx ∧ Blk wx w.heap.size 24 #[.slice (some ⟨b, off, none⟩) n cap, .int .i64 err] ∧ Blk wx (w.heap.size + 1) 24 #[.slice none 0 0, .int .i64 0] ∧ Blk wx g1 24 #[v, .int .i64 err] ∧ Blk wx g21 108 #[.int .i64 ax, .int .i64 ay]) (fun i _ => (intOf i).toNat)
      case atStart => exact ⟨S k, _, t, rfl, HTl2.out, rfl, htk, fun z hz => hz, ow_21, fun q hq => (HLT0.out q hq).2, hgv, (B21a), x0_21, r_21, o_21, kn_21⟩
      case round =>
        clear x0_21c0 x0_21c1 x0_21l r_21c0 r_21c1 r_21l o_21c0 o_21c1 o_21l kn_21c0 kn_21c1 kn_21l
        obtain ⟨T, v, t2, rfl, hTt, hpop, hTk, hTS, ow_40, hvq, hgw, Bi, x0_40, r_40, o_40, kn_40⟩ := hrel
        clear ow_21
        have HPop := Lib.hid hpop
        have HTS := Lib.hid hTS
        have HVq := Lib.hid hvq
        clear hpop hTS hvq
        match T, HPop, HTS, hTt, ow_40 with
        | [], HPop, HTS, hTt, ow_40 =>
          obtain rfl : t2 = 0 := by simpa using hTt.symm
          have OW := Lib.hid ow_40
          clear ow_40 hTt
          obtain ⟨A5, c5, hv5⟩ : ∃ A5 c5, v = .slice A5 0 c5 := by
            rcases OW.out.2 with ⟨e, h0⟩ | ⟨gg, cp, cur, e, _⟩
            · exact ⟨none, 0, by rw [e, h0]⟩
            · exact ⟨_, _, e⟩
          subst hv5
          have x0_40c0 := x0_40.cell 0
          have x0_40c1 := x0_40.cell 1
          simp only [List.getElem?_toArray, List.getElem?_cons_zero, List.getElem?_cons_succ] at x0_40c0 x0_40c1
          have x0_40l := x0_40.lt
          have r_40c0 := r_40.cell 0
          have r_40c1 := r_40.cell 1
          simp only [List.getElem?_toArray, List.getElem?_cons_zero, List.getElem?_cons_succ] at r_40c0 r_40c1
          have r_40l := r_40.lt
          have o_40c0 := o_40.cell 0
          have o_40c1 := o_40.cell 1
          simp only [List.getElem?_toArray, List.getElem?_cons_zero, List.getElem?_cons_succ] at o_40c0 o_40c1
          have o_40l := o_40.lt
          have kn_40c0 := kn_40.cell 0
          have kn_40c1 := kn_40.cell 1
          simp only [List.getElem?_toArray, List.getElem?_cons_zero, List.getElem?_cons_succ] at kn_40c0 kn_40c1
          have kn_40l := kn_40.lt
          have HLT := Lib.hid (fun (q : Nat) hq => (⟨(own_lt (g := q) OW.out hq).1, HVq.out q hq⟩ : (g1 + 1) ≤ q ∧ q < g21))
          have HTe := Lib.hid (show ([] : List (Int × Int)) = popR (S k) (ax, ay) from HPop.out)
          have HLn := Lib.hid (show (([] : List (Int × Int))).length = 0 from rfl)
          have hbq : (g1 + 1) ≤ wr.heap.size := by omega
          go_wp2_with (at_builtin; go_loud (refine wpList_append_own _ rfl (.tmp 65) (.tmp 67) 22 rfl ((g1 + 1)) 108 i0 (.agg #[.int .i64 0, .int .i64 0]) 2 16 Try.underlying22 HI.out.1 HI.out.2.1 HI.out.2.2.1 HI.out.2.2.2 rfl (by decide) _ (0) (([] : List (Int × Int)).reverse.flatMap encF) rfl (OW.out.alloc _) ⟨wr.heap.size, 0, none⟩ 1 1 [.int .i64 ax, .int .i64 ay] rfl rfl (new_cells2 _ _ _ _) (one_ints2 _ _) (by unfold maxLen; omega) (by omega) (by simp; omega) ?_))
          intro v' w41 hown41 hgrow41 hnn41
          clear x0_40c0 x0_40c1 x0_40l r_40c0 r_40c1 r_40l o_40c0 o_40c1 o_40l kn_40c0 kn_40c1 kn_40l
          have x0_41 := Blk.grown (x0_40.alloc _) hgrow41 (fun h => by have := HLT.out _ h; omega)
          have r_41 := Blk.grown (r_40.alloc _) hgrow41 (fun h => by have := HLT.out _ h; omega)
          have o_41 := Blk.grown (o_40.alloc _) hgrow41 (fun h => by have := HLT.out _ h; omega)
          have kn_41 := Blk.grown (kn_40.alloc _) hgrow41 (fun h => by have := HLT.out _ h; omega)
          have B41 := ((Bi).alloc (Bi).size _).grown hgrow41 (Nat.le_trans (Bi).size (by simp)) (fun kk hk => by have := HLT.out _ hk; omega)
          have hbase41 : (g1 + 1) ≤ w41.heap.size := Nat.le_trans hbq (Nat.le_trans (by simp) hgrow41.size)
          have HN := Lib.hid hown41
          clear hown41 hgrow41 hnn41
          have x0_41c0 := x0_41.cell 0
          have x0_41c1 := x0_41.cell 1
          simp only [List.getElem?_toArray, List.getElem?_cons_zero, List.getElem?_cons_succ] at x0_41c0 x0_41c1
          have x0_41l := x0_41.lt
          have r_41c0 := r_41.cell 0
          have r_41c1 := r_41.cell 1
          simp only [List.getElem?_toArray, List.getElem?_cons_zero, List.getElem?_cons_succ] at r_41c0 r_41c1
          have r_41l := r_41.lt
          have o_41c0 := o_41.cell 0
          have o_41c1 := o_41.cell 1
          simp only [List.getElem?_toArray, List.getElem?_cons_zero, List.getElem?_cons_succ] at o_41c0 o_41c1
          have o_41l := o_41.lt
          have kn_41c0 := kn_41.cell 0
          have kn_41c1 := kn_41.cell 1
          simp only [List.getElem?_toArray, List.getElem?_cons_zero, List.getElem?_cons_succ] at kn_41c0 kn_41c1
          have kn_41l := kn_41.lt
          have hrow := HN.out
          obtain ⟨g2, c2, rfl⟩ := ownsRow_succ hrow
          have HRw := Lib.hid hrow
          clear hrow
          have of0 := o_41.frozen 0
          go_wp2
          go_roundw
          case rel =>
            refine ⟨k + 1, .slice (some ⟨g2, 0, none⟩) (0 + 1) c2, 0 + 1, by omega, by go_num, by rw [HSk.out, ← HTe.out, List.length_cons, HLn.out], ?_, by simpa [World.setCell] using hbase41, ?_⟩
            · rw [HSk.out, ← HTe.out, rev_cons]
              have := owns_grown HRw.out (grownBy_setCell' w41 g1 (.slice (some ⟨g2, 0, none⟩) (0 + 1) c2)) (fun q hq e => by have := (own_lt HRw.out hq).1; have e2 := Option.some.inj e; omega)
              simpa using this
            · exact ⟨B41.setCell (p := ⟨g1, 0, none⟩) (by simp <;> omega) _, x0_41.far (p := ⟨g1, 0, none⟩) (by simp <;> omega) _, r_41.far (p := ⟨g1, 0, none⟩) (by simp <;> omega) _, by simpa using o_41.set_ 0 (.slice (some ⟨g2, 0, none⟩) (0 + 1) c2)⟩
          case measure => simp [intOf]; omega
        | [q1], HPop, HTS, hTt, ow_40 =>
          obtain rfl : t2 = 1 := by simpa using hTt.symm
          have OW := Lib.hid ow_40
          clear ow_40 hTt
          obtain ⟨A5, c5, hv5⟩ : ∃ A5 c5, v = .slice A5 1 c5 := by
            rcases OW.out.2 with ⟨e, h0⟩ | ⟨gg, cp, cur, e, _⟩
            · exact ⟨none, 0, by rw [e, h0]⟩
            · exact ⟨_, _, e⟩
          subst hv5
          have x0_40c0 := x0_40.cell 0
          have x0_40c1 := x0_40.cell 1
          simp only [List.getElem?_toArray, List.getElem?_cons_zero, List.getElem?_cons_succ] at x0_40c0 x0_40c1
          have x0_40l := x0_40.lt
          have r_40c0 := r_40.cell 0
          have r_40c1 := r_40.cell 1
          simp only [List.getElem?_toArray, List.getElem?_cons_zero, List.getElem?_cons_succ] at r_40c0 r_40c1
          have r_40l := r_40.lt
          have o_40c0 := o_40.cell 0
          have o_40c1 := o_40.cell 1
          simp only [List.getElem?_toArray, List.getElem?_cons_zero, List.getElem?_cons_succ] at o_40c0 o_40c1
          have o_40l := o_40.lt
          have kn_40c0 := kn_40.cell 0
          have kn_40c1 := kn_40.cell 1
          simp only [List.getElem?_toArray, List.getElem?_cons_zero, List.getElem?_cons_succ] at kn_40c0 kn_40c1
          have kn_40l := kn_40.lt
          have HLT := Lib.hid (fun (q : Nat) hq => (⟨(own_lt (g := q) OW.out hq).1, HVq.out q hq⟩ : (g1 + 1) ≤ q ∧ q < g21))
          have HTe := Lib.hid (show [q1] = popR (S k) (ax, ay) from HPop.out)
          have HLn := Lib.hid (show ([q1]).length = 1 from rfl)
          have hbq : (g1 + 1) ≤ wr.heap.size := by omega
          go_wp2_with (at_builtin; go_loud (refine wpList_append_own _ rfl (.tmp 65) (.tmp 67) 22 rfl ((g1 + 1)) 108 i0 (.agg #[.int .i64 0, .int .i64 0]) 2 16 Try.underlying22 HI.out.1 HI.out.2.1 HI.out.2.2.1 HI.out.2.2.2 rfl (by decide) _ (1) ([q1].reverse.flatMap encF) rfl (OW.out.alloc _) ⟨wr.heap.size, 0, none⟩ 1 1 [.int .i64 ax, .int .i64 ay] rfl rfl (new_cells2 _ _ _ _) (one_ints2 _ _) (by unfold maxLen; omega) (by omega) (by simp; omega) ?_))
          intro v' w41 hown41 hgrow41 hnn41
          clear x0_40c0 x0_40c1 x0_40l r_40c0 r_40c1 r_40l o_40c0 o_40c1 o_40l kn_40c0 kn_40c1 kn_40l
          have x0_41 := Blk.grown (x0_40.alloc _) hgrow41 (fun h => by have := HLT.out _ h; omega)
          have r_41 := Blk.grown (r_40.alloc _) hgrow41 (fun h => by have := HLT.out _ h; omega)
          have o_41 := Blk.grown (o_40.alloc _) hgrow41 (fun h => by have := HLT.out _ h; omega)
          have kn_41 := Blk.grown (kn_40.alloc _) hgrow41 (fun h => by have := HLT.out _ h; omega)
          have B41 := ((Bi).alloc (Bi).size _).grown hgrow41 (Nat.le_trans (Bi).size (by simp)) (fun kk hk => by have := HLT.out _ hk; omega)
          have hbase41 : (g1 + 1) ≤ w41.heap.size := Nat.le_trans hbq (Nat.le_trans (by simp) hgrow41.size)
          have HN := Lib.hid hown41
          clear hown41 hgrow41 hnn41
          have x0_41c0 := x0_41.cell 0
          have x0_41c1 := x0_41.cell 1
          simp only [List.getElem?_toArray, List.getElem?_cons_zero, List.getElem?_cons_succ] at x0_41c0 x0_41c1
          have x0_41l := x0_41.lt
          have r_41c0 := r_41.cell 0
          have r_41c1 := r_41.cell 1
          simp only [List.getElem?_toArray, List.getElem?_cons_zero, List.getElem?_cons_succ] at r_41c0 r_41c1
          have r_41l := r_41.lt
          have o_41c0 := o_41.cell 0
          have o_41c1 := o_41.cell 1
          simp only [List.getElem?_toArray, List.getElem?_cons_zero, List.getElem?_cons_succ] at o_41c0 o_41c1
          have o_41l := o_41.lt
          have kn_41c0 := kn_41.cell 0
          have kn_41c1 := kn_41.cell 1
          simp only [List.getElem?_toArray, List.getElem?_cons_zero, List.getElem?_cons_succ] at kn_41c0 kn_41c1
          have kn_41l := kn_41.lt
          have hrow := HN.out
          obtain ⟨g2, c2, rfl⟩ := ownsRow_succ hrow
          have HRw := Lib.hid hrow
          clear hrow
          have of0 := o_41.frozen 0
          go_wp2
          go_roundw
          case rel =>
            refine ⟨k + 1, .slice (some ⟨g2, 0, none⟩) (1 + 1) c2, 1 + 1, by omega, by go_num, by rw [HSk.out, ← HTe.out, List.length_cons, HLn.out], ?_, by simpa [World.setCell] using hbase41, ?_⟩
            · rw [HSk.out, ← HTe.out, rev_cons]
              have := owns_grown HRw.out (grownBy_setCell' w41 g1 (.slice (some ⟨g2, 0, none⟩) (1 + 1) c2)) (fun q hq e => by have := (own_lt HRw.out hq).1; have e2 := Option.some.inj e; omega)
              simpa using this
            · exact ⟨B41.setCell (p := ⟨g1, 0, none⟩) (by simp <;> omega) _, x0_41.far (p := ⟨g1, 0, none⟩) (by simp <;> omega) _, r_41.far (p := ⟨g1, 0, none⟩) (by simp <;> omega) _, by simpa using o_41.set_ 0 (.slice (some ⟨g2, 0, none⟩) (1 + 1) c2)⟩
          case measure => simp [intOf]; omega
        | q1 :: p1 :: rest, HPop, HTS, hTt, ow_40 =>
          obtain ⟨m, rfl, hm⟩ : ∃ m, t2 = m + 1 + 1 ∧ rest.length = m := ⟨rest.length, by simpa using hTt.symm, rfl⟩
          have HM := Lib.hid hm
          clear hTt hm
          obtain ⟨gk1, ck1, rfl⟩ := Joins.ownsRow_form ow_40 (by omega)
          have hcap := owns_cap ow_40
          have hg1 := own_lt (g := gk1) ow_40 rfl
          obtain ⟨by1, by2, bx1, bx2⟩ := HSb.out q1 (HTS.out q1 (by simp))
          obtain ⟨by3, by4, bx3, bx4⟩ := HSb.out p1 (HTS.out p1 (by simp))
          have HGo := Lib.hid (fun (h : lineB p1 q1 (ax, ay) = true) => (popR_go (rest := rest) h).symm.trans HPop.out)
          have HSt := Lib.hid (fun (h : lineB p1 q1 (ax, ay) = false) => (popR_stop (rest := rest) h).symm.trans HPop.out)
          have HTT := Lib.hid (fun z (hz : z ∈ p1 :: rest) => HTS.out z (List.mem_cons_of_mem _ hz))
          have HLi := Lib.hid (lineB_iff p1 q1 (ax, ay))
          obtain ⟨q1x, q1y⟩ := q1
          obtain ⟨p1x, p1y⟩ := p1
          dsimp only at by1 by2 bx1 bx2 by3 by4 bx3 bx4 HLi
          have OW := Lib.hid ow_40
          have HSh := Lib.hid (owns_shrink (n := m + 1) (by have := ow_40; rw [rev_cons] at this; exact this) (by rw [rev_len, List.length_cons, HM.out]))
          clear ow_40
          have hw1 : IntKind.i64.wrap (((m + 1 + 1 : Nat) : Int) - 2) = (m : Int) := (IntWalk.i64_in _ (by omega)).trans (by omega)
          have hw2 : IntKind.i64.wrap (((m + 1 + 1 : Nat) : Int) - 1) = ((m + 1 : Nat) : Int) := (IntWalk.i64_in _ (by omega)).trans (by omega)
          have HW1 := Lib.hid hw1
          have HW2 := Lib.hid hw2
          clear hw1 hw2
          have x0_40c0 := x0_40.cell 0
          have x0_40c1 := x0_40.cell 1
          simp only [List.getElem?_toArray, List.getElem?_cons_zero, List.getElem?_cons_succ] at x0_40c0 x0_40c1
          have x0_40l := x0_40.lt
          have r_40c0 := r_40.cell 0
          have r_40c1 := r_40.cell 1
          simp only [List.getElem?_toArray, List.getElem?_cons_zero, List.getElem?_cons_succ] at r_40c0 r_40c1
          have r_40l := r_40.lt
          have o_40c0 := o_40.cell 0
          have o_40c1 := o_40.cell 1
          simp only [List.getElem?_toArray, List.getElem?_cons_zero, List.getElem?_cons_succ] at o_40c0 o_40c1
          have o_40l := o_40.lt
          have kn_40c0 := kn_40.cell 0
          have kn_40c1 := kn_40.cell 1
          simp only [List.getElem?_toArray, List.getElem?_cons_zero, List.getElem?_cons_succ] at kn_40c0 kn_40c1
          have kn_40l := kn_40.lt
          go_wp2_with fail
          refine wp_region_pre 24 [(21, 7), (22, 8), (23, 1000)] (twoI4 wr 134 #[.int .i64 p1x, .int .i64 p1y, .int .i64 q1x, .int .i64 q1y]) (by kernel_rfl) (by kernel_rfl) ?h0 ?hP ?ex
          case h0 => intro v _; simp [twoI4]
          case hP => exact fun ls vs v v' _ h k => twoI4_below h k
          case ex =>
            apply Exists.intro
            refine ⟨?walk, ?loud⟩
            case walk =>
              intro V hV
              have BV := (Bi).trans (hV.mono (Bi).size)
              have x0_v := x0_40.below hV
              have x0_vc0 := x0_v.cell 0
              have x0_vc1 := x0_v.cell 1
              simp only [List.getElem?_toArray, List.getElem?_cons_zero, List.getElem?_cons_succ] at x0_vc0 x0_vc1
              have x0_vl := x0_v.lt
              have r_v := r_40.below hV
              have r_vc0 := r_v.cell 0
              have r_vc1 := r_v.cell 1
              simp only [List.getElem?_toArray, List.getElem?_cons_zero, List.getElem?_cons_succ] at r_vc0 r_vc1
              have r_vl := r_v.lt
              have o_v := o_40.below hV
              have o_vc0 := o_v.cell 0
              have o_vc1 := o_v.cell 1
              simp only [List.getElem?_toArray, List.getElem?_cons_zero, List.getElem?_cons_succ] at o_vc0 o_vc1
              have o_vl := o_v.lt
              have kn_v := kn_40.below hV
              have kn_vc0 := kn_v.cell 0
              have kn_vc1 := kn_v.cell 1
              simp only [List.getElem?_toArray, List.getElem?_cons_zero, List.getElem?_cons_succ] at kn_vc0 kn_vc1
              have kn_vl := kn_v.lt
              obtain ⟨lc0, lc1, lc2, lc3⟩ := last_two (by have := owns_below OW.out hV; rw [← HM.out] at this; exact this)
              rw [HM.out] at lc0 lc1 lc2 lc3
              have hlg := Nat.lt_of_lt_of_le hg1.2 hV.size
              have hw1 := HW1.out
              have hw2 := HW2.out
              obtain ⟨xc, xf⟩ := xcell (W := V)
              simp only [List.take_succ_cons, List.take_zero, qOf, isLoud, List.any_cons, List.any_nil, Nat.reduceBEq, Bool.or_false, Bool.or_true, Nat.reduceAdd, Bool.false_eq_true, if_true, if_false, beq_self_eq_true, Nat.zero_add]
              repeat (first | go_big_quiet_step (fail) | quiet_step (fail))
              exact wpQuiet_nil rfl
            case loud =>
              simp only [List.drop_succ_cons, List.drop_zero]
              refine ⟨?_, ?_⟩
              · rintro p hp vs v ⟨x, rfl⟩ ls hI hls hw o ho
                simp only [List.mem_cons, List.not_mem_nil, or_false] at hp
                rcases hp with rfl | rfl | rfl
                · simp only [List.getElem?_cons_succ, List.getElem?_cons_zero, Option.some.injEq] at ho
                  subst ho
                  simp [loudAt, loudUpon, go_sem, execOp]
                  exact ⟨Over.of (x.below.alloc x.below.size _), twoI4_21 hI hls x.below _ _ _ _⟩
                · simp only [List.getElem?_cons_succ, List.getElem?_cons_zero, Option.some.injEq] at ho
                  subst ho
                  simp [loudAt, loudUpon, go_sem, execOp]
                  exact ⟨Over.of (x.below.alloc x.below.size _), twoI4_22 hI x.below _ _ _ _⟩
                · have h12 := hw (21, 7) (by simp) (by kernel_rfl)
                  simp only [List.getElem?_cons_succ, List.getElem?_cons_zero, Option.some.injEq] at ho
                  subst ho
                  obtain ⟨g, e, hg, ⟨c1, c2, c3, c4, hb⟩, h2, h3⟩ := hI.1 h12
                  have g0 := hb.cell 0
                  have g1 := hb.cell 1
                  have g2 := hb.cell 2
                  have g3 := hb.cell 3
                  have f0 := hb.frozen 0
                  have f1 := hb.frozen 1
                  have f2 := hb.frozen 2
                  have f3 := hb.frozen 3
                  simp only [List.getElem?_toArray, List.getElem?_cons_zero, List.getElem?_cons_succ] at g0 g1 g2 g3
                  simp [loudAt, loudUpon, go_sem, execOp, putsL, Act.put, e, g0, g1, g2, g3, f0, f1, f2, f3]
                  exact ⟨Over.of (below_four x.below hg _ _ _ _), twoI4_23 hI h12 e _⟩
              · rintro ls vs _ ⟨x, rfl⟩ hI hls
                have h12 := hls (21, 7) (by simp)
                have h13 := hls (22, 8) (by simp)
                have h14 := hls (23, 1000) (by simp)
                obtain ⟨ga, e, hga, _, h2, h3⟩ := hI.1 h12
                have hba := h3 h14
                obtain ⟨gb, e', hgb, _, _, _, _, hbb⟩ := hI.2.1 h13
                have hgab : gb ≠ ga := fun h => h2 h13 (by rw [e, e', h])
                clear h2 h3 hI hls h12 h13 h14
                simp only [putsL, List.foldl_cons, List.foldl_nil, Act.put, e, e', List.setIfInBounds_toArray, List.set_cons_succ, List.set_cons_zero, List.set_nil]
                clear e e'
                have hvn := x.below
                generalize x.w = vn at *
                have nb0 := hbb.cell 0
                have nb1 := hbb.cell 1
                have nb2 := hbb.cell 2
                have nb3 := hbb.cell 3
                have fb0 := hbb.frozen 0
                have fb1 := hbb.frozen 1
                have fb2 := hbb.frozen 2
                have fb3 := hbb.frozen 3
                simp only [List.getElem?_toArray, List.getElem?_cons_zero, List.getElem?_cons_succ] at nb0 nb1 nb2 nb3
                have lb := hbb.lt
                have pa_41 := far_four hba (Ne.symm hgab) (.int .i64 q1x) (.int .i64 q1y) (.int .i64 ax) (.int .i64 ay)
                have pb_41 := blk_four hbb (.int .i64 q1x) (.int .i64 q1y) (.int .i64 ax) (.int .i64 ay)
                have x0_l41 := x0_40.lt
                have x0_41 := far_four (x0_40.below hvn) (g := gb) (by simp <;> omega) (.int .i64 q1x) (.int .i64 q1y) (.int .i64 ax) (.int .i64 ay)
                have r_l41 := r_40.lt
                have r_41 := far_four (r_40.below hvn) (g := gb) (by simp <;> omega) (.int .i64 q1x) (.int .i64 q1y) (.int .i64 ax) (.int .i64 ay)
                have o_l41 := o_40.lt
                have o_41 := far_four (o_40.below hvn) (g := gb) (by simp <;> omega) (.int .i64 q1x) (.int .i64 q1y) (.int .i64 ax) (.int .i64 ay)
                have kn_l41 := kn_40.lt
                have kn_41 := far_four (kn_40.below hvn) (g := gb) (by simp <;> omega) (.int .i64 q1x) (.int .i64 q1y) (.int .i64 ax) (.int .i64 ay)
                have hbv41 := below_four hvn hgb (.int .i64 q1x) (.int .i64 q1y) (.int .i64 ax) (.int .i64 ay)
                have B41 := (Bi).trans (hbv41.mono (Bi).size)
                go_wp2_with fail
                generalize hve41 : (((vn.setCell ⟨gb, 0, none⟩ (.int .i64 q1x)).setCell ⟨gb, 1, none⟩ (.int .i64 q1y)).setCell ⟨gb, 2, none⟩ (.int .i64 ax)).setCell ⟨gb, 3, none⟩ (.int .i64 ay) = V41 at *
                clear hve41 nb0 nb1 nb2 nb3 fb0 fb1 fb2 fb3 lb hba hbb hvn
                have x0_41c0 := x0_41.cell 0
                have x0_41c1 := x0_41.cell 1
                simp only [List.getElem?_toArray, List.getElem?_cons_zero, List.getElem?_cons_succ] at x0_41c0 x0_41c1
                have x0_41l := x0_41.lt
                have r_41c0 := r_41.cell 0
                have r_41c1 := r_41.cell 1
                simp only [List.getElem?_toArray, List.getElem?_cons_zero, List.getElem?_cons_succ] at r_41c0 r_41c1
                have r_41l := r_41.lt
                have o_41c0 := o_41.cell 0
                have o_41c1 := o_41.cell 1
                simp only [List.getElem?_toArray, List.getElem?_cons_zero, List.getElem?_cons_succ] at o_41c0 o_41c1
                have o_41l := o_41.lt
                have kn_41c0 := kn_41.cell 0
                have kn_41c1 := kn_41.cell 1
                simp only [List.getElem?_toArray, List.getElem?_cons_zero, List.getElem?_cons_succ] at kn_41c0 kn_41c1
                have kn_41l := kn_41.lt
                have pa_41c0 := pa_41.cell 0
                have pa_41c1 := pa_41.cell 1
                have pa_41c2 := pa_41.cell 2
                have pa_41c3 := pa_41.cell 3
                simp only [List.getElem?_toArray, List.getElem?_cons_zero, List.getElem?_cons_succ] at pa_41c0 pa_41c1 pa_41c2 pa_41c3
                have pa_41l := pa_41.lt
                have pb_41c0 := pb_41.cell 0
                have pb_41c1 := pb_41.cell 1
                have pb_41c2 := pb_41.cell 2
                have pb_41c3 := pb_41.cell 3
                simp only [List.getElem?_toArray, List.getElem?_cons_zero, List.getElem?_cons_succ] at pb_41c0 pb_41c1 pb_41c2 pb_41c3
                have pb_41l := pb_41.lt
                have OW8 := Lib.hid (owns_below OW.out hbv41)
                have HSh8 := Lib.hid (owns_below HSh.out hbv41)
                have hsz8 := hbv41.size
                clear OW HSh
                have mb1 := mul_bd (x := q1y - p1y) (y := ax - q1x) (A := 131072) (B := 4000) (by omega) (by omega) (by omega) (by omega)
                have mb2 := mul_bd (x := ay - q1y) (y := q1x - p1x) (A := 131072) (B := 4000) (by omega) (by omega) (by omega) (by omega)
                have HWa := Lib.hid (show IntKind.i64.wrap ((q1y - p1y) * (ax - q1x)) = (q1y - p1y) * (ax - q1x) from IntWalk.i64_in _ (by omega))
                have HWb := Lib.hid (show IntKind.i64.wrap ((ay - q1y) * (q1x - p1x)) = (ay - q1y) * (q1x - p1x) from IntWalk.i64_in _ (by omega))
                have Hr1 := Lib.hid (fun W => rise_any p1x p1y q1x q1y W (by omega) (by omega) (by omega) (by omega))
                have Hr2 := Lib.hid (fun W => rise_any q1x q1y ax ay W (by omega) (by omega) (by omega) (by omega))
                have Hu1 := Lib.hid (fun W => run_any p1x p1y q1x q1y W (by omega) (by omega) (by omega) (by omega))
                have Hu2 := Lib.hid (fun W => run_any q1x q1y ax ay W (by omega) (by omega) (by omega) (by omega))
                clear mb1 mb2
                have HCz : ((q1y - p1y) * (ax - q1x) = (ay - q1y) * (q1x - p1x)) ∨ ¬ ((q1y - p1y) * (ax - q1x) = (ay - q1y) * (q1x - p1x)) := Decidable.em _
                rcases HCz with hzz | hzz
                · have hln : lineB (p1x, p1y) (q1x, q1y) (ax, ay) = true := HLi.out.2 hzz
                  have HG2 := Lib.hid (HGo.out hln)
                  have hq1 : ((q1y - p1y) * (ax - q1x) != (ay - q1y) * (q1x - p1x)) = false := by simpa using hzz
                  have hq2 : ((q1y - p1y) * (ax - q1x) == (ay - q1y) * (q1x - p1x)) = true := by simpa using hzz
                  clear hln HGo HSt hzz by1 by2 bx1 bx2 by3 by4 bx3 bx4 y1 y2 y3 y4
                  have hwa := HWa.out
                  have hwb := HWb.out
                  obtain ⟨xc, xf⟩ := xcell (W := V41)
                  refine wp_region_quiet_tail 11 (by kernel_rfl) (by kernel_rfl) ?_
                  simp only [List.take_succ_cons, List.take_zero, List.drop_succ_cons, List.drop_zero]
                  repeat (first | go_big_quiet_step (first | (go_at_call 107; with_reducible refine calls_ext (Hr1.out _)) | (go_at_call 107; with_reducible refine calls_ext (Hr2.out _)) | (go_at_call 108; with_reducible refine calls_ext (Hu1.out _)) | (go_at_call 108; with_reducible refine calls_ext (Hu2.out _))) | quiet_step (first | (go_at_call 107; with_reducible refine calls_ext (Hr1.out _)) | (go_at_call 107; with_reducible refine calls_ext (Hr2.out _)) | (go_at_call 108; with_reducible refine calls_ext (Hu1.out _)) | (go_at_call 108; with_reducible refine calls_ext (Hu2.out _))))
                  refine wpQuiet_nil ?_
                  intro w50 hb50
                  clear xc xf hwa hwb
                  have HSh9 := Lib.hid (owns_below HSh8.out hb50)
                  have hsz9 := hb50.size
                  clear x0_41c0 x0_41c1 x0_41l r_41c0 r_41c1 r_41l o_41c0 o_41c1 o_41l kn_41c0 kn_41c1 kn_41l pa_41c0 pa_41c1 pa_41c2 pa_41c3 pa_41l pb_41c0 pb_41c1 pb_41c2 pb_41c3 pb_41l
                  have B50 := B41
                  have x0_50 := x0_41.below hb50
                  have r_50 := r_41.below hb50
                  have o_50 := o_41.below hb50
                  have kn_50 := kn_41.below hb50
                  have pa_50 := pa_41.below hb50
                  have pb_50 := pb_41.below hb50
                  clear x0_41 r_41 o_41 kn_41 pa_41 pb_41
                  have x0_50c0 := x0_50.cell 0
                  have x0_50c1 := x0_50.cell 1
                  simp only [List.getElem?_toArray, List.getElem?_cons_zero, List.getElem?_cons_succ] at x0_50c0 x0_50c1
                  have x0_50l := x0_50.lt
                  have r_50c0 := r_50.cell 0
                  have r_50c1 := r_50.cell 1
                  simp only [List.getElem?_toArray, List.getElem?_cons_zero, List.getElem?_cons_succ] at r_50c0 r_50c1
                  have r_50l := r_50.lt
                  have o_50c0 := o_50.cell 0
                  have o_50c1 := o_50.cell 1
                  simp only [List.getElem?_toArray, List.getElem?_cons_zero, List.getElem?_cons_succ] at o_50c0 o_50c1
                  have o_50l := o_50.lt
                  have kn_50c0 := kn_50.cell 0
                  have kn_50c1 := kn_50.cell 1
                  simp only [List.getElem?_toArray, List.getElem?_cons_zero, List.getElem?_cons_succ] at kn_50c0 kn_50c1
                  have kn_50l := kn_50.lt
                  have pa_50c0 := pa_50.cell 0
                  have pa_50c1 := pa_50.cell 1
                  have pa_50c2 := pa_50.cell 2
                  have pa_50c3 := pa_50.cell 3
                  simp only [List.getElem?_toArray, List.getElem?_cons_zero, List.getElem?_cons_succ] at pa_50c0 pa_50c1 pa_50c2 pa_50c3
                  have pa_50l := pa_50.lt
                  have pb_50c0 := pb_50.cell 0
                  have pb_50c1 := pb_50.cell 1
                  have pb_50c2 := pb_50.cell 2
                  have pb_50c3 := pb_50.cell 3
                  simp only [List.getElem?_toArray, List.getElem?_cons_zero, List.getElem?_cons_succ] at pb_50c0 pb_50c1 pb_50c2 pb_50c3
                  have pb_50l := pb_50.lt
                  have of0 := o_50.frozen 0
                  go_wp2
                  go_roundw
                  case rel =>
                    refine ⟨(p1x, p1y) :: rest, .slice (some ⟨gk1, 0, none⟩) (m + 1) ck1, m + 1, by go_num, by rw [List.length_cons, HM.out], HG2.out, by omega, HTT.out, ?_, fun q hq => ?_, by simp [World.setCell]; omega, ?_⟩
                    · have := owns_grown HSh9.out (grownBy_setCell' w50 g1 (.slice (some ⟨gk1, 0, none⟩) (m + 1) ck1)) (fun q hq e => by have := (own_lt HSh9.out hq).1; have e2 := Option.some.inj e; omega)
                      simpa using this
                    · exact HVq.out q hq
                    · exact ⟨(B50.trans (hb50.mono B50.size)).setCell (p := ⟨g1, 0, none⟩) (by simp <;> omega) _, x0_50.far (p := ⟨g1, 0, none⟩) (by simp <;> omega) _, r_50.far (p := ⟨g1, 0, none⟩) (by simp <;> omega) _, by simpa using o_50.set_ 0 (.slice (some ⟨gk1, 0, none⟩) (m + 1) ck1), kn_50.far (p := ⟨g1, 0, none⟩) (by simp <;> omega) _⟩
                  case measure => simp [intOf]; omega
                · have hln : lineB (p1x, p1y) (q1x, q1y) (ax, ay) = false := Bool.eq_false_iff.2 (fun hk => hzz (HLi.out.1 hk))
                  have hq1 : ((q1y - p1y) * (ax - q1x) != (ay - q1y) * (q1x - p1x)) = true := by simpa using hzz
                  have hq2 : ((q1y - p1y) * (ax - q1x) == (ay - q1y) * (q1x - p1x)) = false := by simpa using hzz
                  have HS2 := Lib.hid (HSt.out hln)
                  clear hln HGo HSt hzz by1 by2 bx1 bx2 by3 by4 bx3 bx4 y1 y2 y3 y4
                  have hwa := HWa.out
                  have hwb := HWb.out
                  obtain ⟨xc, xf⟩ := xcell (W := V41)
                  refine wp_region_quiet_tail 11 (by kernel_rfl) (by kernel_rfl) ?_
                  simp only [List.take_succ_cons, List.take_zero, List.drop_succ_cons, List.drop_zero]
                  repeat (first | go_big_quiet_step (first | (go_at_call 107; with_reducible refine calls_ext (Hr1.out _)) | (go_at_call 107; with_reducible refine calls_ext (Hr2.out _)) | (go_at_call 108; with_reducible refine calls_ext (Hu1.out _)) | (go_at_call 108; with_reducible refine calls_ext (Hu2.out _))) | quiet_step (first | (go_at_call 107; with_reducible refine calls_ext (Hr1.out _)) | (go_at_call 107; with_reducible refine calls_ext (Hr2.out _)) | (go_at_call 108; with_reducible refine calls_ext (Hu1.out _)) | (go_at_call 108; with_reducible refine calls_ext (Hu2.out _))))
                  refine wpQuiet_nil ?_
                  intro w50 hb50
                  clear xc xf hwa hwb
                  have OW9 := Lib.hid (owns_below OW8.out hb50)
                  have hsz9 := hb50.size
                  clear x0_41c0 x0_41c1 x0_41l r_41c0 r_41c1 r_41l o_41c0 o_41c1 o_41l kn_41c0 kn_41c1 kn_41l pa_41c0 pa_41c1 pa_41c2 pa_41c3 pa_41l pb_41c0 pb_41c1 pb_41c2 pb_41c3 pb_41l
                  have B50 := B41
                  have x0_50 := x0_41.below hb50
                  have r_50 := r_41.below hb50
                  have o_50 := o_41.below hb50
                  have kn_50 := kn_41.below hb50
                  have pa_50 := pa_41.below hb50
                  have pb_50 := pb_41.below hb50
                  clear x0_41 r_41 o_41 kn_41 pa_41 pb_41
                  have x0_50c0 := x0_50.cell 0
                  have x0_50c1 := x0_50.cell 1
                  simp only [List.getElem?_toArray, List.getElem?_cons_zero, List.getElem?_cons_succ] at x0_50c0 x0_50c1
                  have x0_50l := x0_50.lt
                  have r_50c0 := r_50.cell 0
                  have r_50c1 := r_50.cell 1
                  simp only [List.getElem?_toArray, List.getElem?_cons_zero, List.getElem?_cons_succ] at r_50c0 r_50c1
                  have r_50l := r_50.lt
                  have o_50c0 := o_50.cell 0
                  have o_50c1 := o_50.cell 1
                  simp only [List.getElem?_toArray, List.getElem?_cons_zero, List.getElem?_cons_succ] at o_50c0 o_50c1
                  have o_50l := o_50.lt
                  have kn_50c0 := kn_50.cell 0
                  have kn_50c1 := kn_50.cell 1
                  simp only [List.getElem?_toArray, List.getElem?_cons_zero, List.getElem?_cons_succ] at kn_50c0 kn_50c1
                  have kn_50l := kn_50.lt
                  have pa_50c0 := pa_50.cell 0
                  have pa_50c1 := pa_50.cell 1
                  have pa_50c2 := pa_50.cell 2
                  have pa_50c3 := pa_50.cell 3
                  simp only [List.getElem?_toArray, List.getElem?_cons_zero, List.getElem?_cons_succ] at pa_50c0 pa_50c1 pa_50c2 pa_50c3
                  have pa_50l := pa_50.lt
                  have pb_50c0 := pb_50.cell 0
                  have pb_50c1 := pb_50.cell 1
                  have pb_50c2 := pb_50.cell 2
                  have pb_50c3 := pb_50.cell 3
                  simp only [List.getElem?_toArray, List.getElem?_cons_zero, List.getElem?_cons_succ] at pb_50c0 pb_50c1 pb_50c2 pb_50c3
                  have pb_50l := pb_50.lt
                  have hlT : ((q1x, q1y) :: (p1x, p1y) :: rest).length = m + 1 + 1 := by rw [List.length_cons, List.length_cons, HM.out]
                  generalize hTT : (q1x, q1y) :: (p1x, p1y) :: rest = T at *
                  clear hTT
                  have HlT := Lib.hid hlT
                  clear hlT
                  have HLT := Lib.hid (fun (q : Nat) hq => (⟨(own_lt (g := q) OW9.out hq).1, HVq.out q hq⟩ : (g1 + 1) ≤ q ∧ q < g21))
                  have HTe := Lib.hid (show T = popR (S k) (ax, ay) from HS2.out)
                  have HLn := Lib.hid (show (T).length = (m + 1 + 1) from HlT.out)
                  have hbq : (g1 + 1) ≤ w50.heap.size := by omega
                  go_wp2_with (at_builtin; go_loud (refine wpList_append_own _ rfl (.tmp 65) (.tmp 67) 22 rfl ((g1 + 1)) 108 i0 (.agg #[.int .i64 0, .int .i64 0]) 2 16 Try.underlying22 HI.out.1 HI.out.2.1 HI.out.2.2.1 HI.out.2.2.2 rfl (by decide) _ ((m + 1 + 1)) (T.reverse.flatMap encF) rfl (OW9.out.alloc _) ⟨w50.heap.size, 0, none⟩ 1 1 [.int .i64 ax, .int .i64 ay] rfl rfl (new_cells2 _ _ _ _) (one_ints2 _ _) (by unfold maxLen; omega) (by omega) (by simp; omega) ?_))
                  intro v' w51 hown51 hgrow51 hnn51
                  clear x0_50c0 x0_50c1 x0_50l r_50c0 r_50c1 r_50l o_50c0 o_50c1 o_50l kn_50c0 kn_50c1 kn_50l pa_50c0 pa_50c1 pa_50c2 pa_50c3 pa_50l pb_50c0 pb_50c1 pb_50c2 pb_50c3 pb_50l
                  have x0_51 := Blk.grown (x0_50.alloc _) hgrow51 (fun h => by have := HLT.out _ h; omega)
                  have r_51 := Blk.grown (r_50.alloc _) hgrow51 (fun h => by have := HLT.out _ h; omega)
                  have o_51 := Blk.grown (o_50.alloc _) hgrow51 (fun h => by have := HLT.out _ h; omega)
                  have kn_51 := Blk.grown (kn_50.alloc _) hgrow51 (fun h => by have := HLT.out _ h; omega)
                  have pa_51 := Blk.grown (pa_50.alloc _) hgrow51 (fun h => by have := HLT.out _ h; omega)
                  have pb_51 := Blk.grown (pb_50.alloc _) hgrow51 (fun h => by have := HLT.out _ h; omega)
                  have B51 := ((B50.trans (hb50.mono B50.size)).alloc (B50.trans (hb50.mono B50.size)).size _).grown hgrow51 (Nat.le_trans (B50.trans (hb50.mono B50.size)).size (by simp)) (fun kk hk => by have := HLT.out _ hk; omega)
                  have hbase51 : (g1 + 1) ≤ w51.heap.size := Nat.le_trans hbq (Nat.le_trans (by simp) hgrow51.size)
                  have HN := Lib.hid hown51
                  clear hown51 hgrow51 hnn51
                  have x0_51c0 := x0_51.cell 0
                  have x0_51c1 := x0_51.cell 1
                  simp only [List.getElem?_toArray, List.getElem?_cons_zero, List.getElem?_cons_succ] at x0_51c0 x0_51c1
                  have x0_51l := x0_51.lt
                  have r_51c0 := r_51.cell 0
                  have r_51c1 := r_51.cell 1
                  simp only [List.getElem?_toArray, List.getElem?_cons_zero, List.getElem?_cons_succ] at r_51c0 r_51c1
                  have r_51l := r_51.lt
                  have o_51c0 := o_51.cell 0
                  have o_51c1 := o_51.cell 1
                  simp only [List.getElem?_toArray, List.getElem?_cons_zero, List.getElem?_cons_succ] at o_51c0 o_51c1
                  have o_51l := o_51.lt
                  have kn_51c0 := kn_51.cell 0
                  have kn_51c1 := kn_51.cell 1
                  simp only [List.getElem?_toArray, List.getElem?_cons_zero, List.getElem?_cons_succ] at kn_51c0 kn_51c1
                  have kn_51l := kn_51.lt
                  have pa_51c0 := pa_51.cell 0
                  have pa_51c1 := pa_51.cell 1
                  have pa_51c2 := pa_51.cell 2
                  have pa_51c3 := pa_51.cell 3
                  simp only [List.getElem?_toArray, List.getElem?_cons_zero, List.getElem?_cons_succ] at pa_51c0 pa_51c1 pa_51c2 pa_51c3
                  have pa_51l := pa_51.lt
                  have pb_51c0 := pb_51.cell 0
                  have pb_51c1 := pb_51.cell 1
                  have pb_51c2 := pb_51.cell 2
                  have pb_51c3 := pb_51.cell 3
                  simp only [List.getElem?_toArray, List.getElem?_cons_zero, List.getElem?_cons_succ] at pb_51c0 pb_51c1 pb_51c2 pb_51c3
                  have pb_51l := pb_51.lt
                  have hrow := HN.out
                  obtain ⟨g2, c2, rfl⟩ := ownsRow_succ hrow
                  have HRw := Lib.hid hrow
                  clear hrow
                  have of0 := o_51.frozen 0
                  go_wp2
                  go_roundw
                  case rel =>
                    refine ⟨k + 1, .slice (some ⟨g2, 0, none⟩) ((m + 1 + 1) + 1) c2, (m + 1 + 1) + 1, by omega, by go_num, by rw [HSk.out, ← HTe.out, List.length_cons, HLn.out], ?_, by simpa [World.setCell] using hbase51, ?_⟩
                    · rw [HSk.out, ← HTe.out, rev_cons]
                      have := owns_grown HRw.out (grownBy_setCell' w51 g1 (.slice (some ⟨g2, 0, none⟩) ((m + 1 + 1) + 1) c2)) (fun q hq e => by have := (own_lt HRw.out hq).1; have e2 := Option.some.inj e; omega)
                      simpa using this
                    · exact ⟨B51.setCell (p := ⟨g1, 0, none⟩) (by simp <;> omega) _, x0_51.far (p := ⟨g1, 0, none⟩) (by simp <;> omega) _, r_51.far (p := ⟨g1, 0, none⟩) (by simp <;> omega) _, by simpa using o_51.set_ 0 (.slice (some ⟨g2, 0, none⟩) ((m + 1 + 1) + 1) c2)⟩
                  case measure => simp [intOf]; omega
    · have hkk : k = n := by omega
      subst hkk
      obtain ⟨m, rfl⟩ : ∃ m, k = m + 1 := ⟨k - 1, by omega⟩
      have hSe : S (m + 1) = thO (fun i => ks.getD i (0, 0)) m := by rw [← HS.out]; rfl
      have hre : (S (m + 1)).reverse = thL ks := by rw [hSe, HTh.out]; rfl
      have hne : S (m + 1) ≠ [] := by rw [hSe]; exact thO_ne _ m
      have hpl : 0 < t := by rw [← HTl2.out]; exact List.length_pos_iff.2 hne
      rw [hre] at ow_20
      have hll : (thL ks).length = t := by rw [← hre, List.length_reverse]; exact HTl2.out
      obtain ⟨g', cap', rfl⟩ := Joins.ownsRow_form ow_20 hpl
      have hgl := own_lt (g := g') ow_20 rfl
      have HKo := Lib.hid (Kn_of_row hll ow_20)
      have HLl := Lib.hid hll
      clear ow_20 hre hne hSe hll
      have x0_20c0 := x0_20.cell 0
      have x0_20c1 := x0_20.cell 1
      simp only [List.getElem?_toArray, List.getElem?_cons_zero, List.getElem?_cons_succ] at x0_20c0 x0_20c1
      have x0_20l := x0_20.lt
      have r_20c0 := r_20.cell 0
      have r_20c1 := r_20.cell 1
      simp only [List.getElem?_toArray, List.getElem?_cons_zero, List.getElem?_cons_succ] at r_20c0 r_20c1
      have r_20l := r_20.lt
      have o_20c0 := o_20.cell 0
      have o_20c1 := o_20.cell 1
      simp only [List.getElem?_toArray, List.getElem?_cons_zero, List.getElem?_cons_succ] at o_20c0 o_20c1
      have o_20l := o_20.lt
      have hr := r_20
      have hf0 := r_20.frozen 0
      have hf1 := r_20.frozen 1
      have hl := r_20.lt
      have BZ := Br
      go_wp2
      have hF := ((hr.set_ 0 ((.slice (some ⟨g', 0, none⟩) t cap'))).set_ 1 ((.int .i64 err)))
      have k0 := hF.cell 0
      have k1 := hF.cell 1
      simp only [List.setIfInBounds_toArray, List.set_cons_zero, List.set_cons_succ, List.getElem?_toArray, List.getElem?_cons_zero, List.getElem?_cons_succ] at k0 k1
      exact bodyPost_ret (v := .agg #[(.slice (some ⟨g', 0, none⟩) t cap'), (.int .i64 err)]) (by simp [results, Try.results123, go_sem, k0, k1]) rfl (⟨some ⟨g', 0, none⟩, t, cap', rfl, CAt.sets ⟨HLl.out, fun _ => ⟨g', 0, rfl, HKo.out⟩⟩ (r := (w.heap.size + 1)) (fun a h => by have := Option.some.inj h; subst this; have := hgl; dsimp only; omega) _ _, by omega, (fun a h => by have := Option.some.inj h; subst this; have := hgl; dsimp only; omega), ((BZ.setCell (p := ⟨(w.heap.size + 1), 0, none⟩) (by simp <;> omega) _).setCell (p := ⟨(w.heap.size + 1), 1, none⟩) (by simp <;> omega) _)⟩)
end Go.Proofs.Ytipablcbkoedbaa

namespace Go.Proofs.Ytipablcbkoedbaa
open Go.RowKit

set_option maxHeartbeats 1600000 in
theorem line_any (p q r : Int × Int) (w : World) (h1 : -65536 ≤ p.2 ∧ p.2 ≤ 65536) (h2 : -65536 ≤ q.2 ∧ q.2 ≤ 65536) (h3 : -65536 ≤ r.2 ∧ r.2 ≤ 65536) (g1 : 0 ≤ p.1 ∧ p.1 ≤ 2000) (g2 : 0 ≤ q.1 ∧ q.1 ≤ 2000) (g3 : 0 ≤ r.1 ∧ r.1 ≤ 2000) :
    Calls Try.prog 139 #[.agg #[.int .i64 p.1, .int .i64 p.2], .agg #[.int .i64 q.1, .int .i64 q.2], .agg #[.int .i64 r.1, .int .i64 r.2]] w fun e w' => e = .returned (.bool (lineB p q r)) ∧ Below w.heap.size w w' := by
  obtain ⟨px, py⟩ := p
  obtain ⟨qx, qy⟩ := q
  obtain ⟨rx, ry⟩ := r
  dsimp only at *
  have mb1 := mul_bd (x := qy - py) (y := rx - qx) (A := 131072) (B := 2000) (by omega) (by omega) (by omega) (by omega)
  have mb2 := mul_bd (x := ry - qy) (y := qx - px) (A := 131072) (B := 2000) (by omega) (by omega) (by omega) (by omega)
  have HL := Lib.hid (show lineB (px, py) (qx, qy) (rx, ry) = decide ((qy - py) * (rx - qx) = (ry - qy) * (qx - px)) from rfl)
  generalize hW : ((w.alloc (.cells #[.int .i64 px, .int .i64 py] 108)).alloc (.cells #[.int .i64 qx, .int .i64 qy] 108)).alloc (.cells #[.int .i64 rx, .int .i64 ry] 108) = W
  have B0 : Below w.heap.size w W := by rw [← hW]; exact ((((Below.refl w.heap.size w).alloc (Nat.le_refl _) _).alloc (by simp) _).alloc (by simp; omega) _)
  have x0_0 : Blk W w.heap.size 108 #[.int .i64 px, .int .i64 py] := by rw [← hW]; exact (((Blk.at_new _ _ rfl).alloc _).alloc _)
  have x1_0 : Blk W (w.heap.size + 1) 108 #[.int .i64 qx, .int .i64 qy] := by rw [← hW]; exact ((Blk.at_new _ _ (by simp)).alloc _)
  have x2_0 : Blk W (w.heap.size + 2) 108 #[.int .i64 rx, .int .i64 ry] := by rw [← hW]; exact (Blk.at_new _ _ (by simp))
  have HWE := Lib.hid hW
  clear hW
  go_enter Try.func139, Try.ntmps139
  go_upto_region 1 with fail
  rw [HWE.out]
  have x0_0c0 := x0_0.cell 0
  have x0_0c1 := x0_0.cell 1
  simp only [List.getElem?_toArray, List.getElem?_cons_zero, List.getElem?_cons_succ] at x0_0c0 x0_0c1
  have x0_0l := x0_0.lt
  have x1_0c0 := x1_0.cell 0
  have x1_0c1 := x1_0.cell 1
  simp only [List.getElem?_toArray, List.getElem?_cons_zero, List.getElem?_cons_succ] at x1_0c0 x1_0c1
  have x1_0l := x1_0.lt
  have x2_0c0 := x2_0.cell 0
  have x2_0c1 := x2_0.cell 1
  simp only [List.getElem?_toArray, List.getElem?_cons_zero, List.getElem?_cons_succ] at x2_0c0 x2_0c1
  have x2_0l := x2_0.lt
  go_wp2
  go_ret
  exact ⟨by rw [HL.out]; rfl, B0⟩

/-- What the reference keeps of the first k knots. -/
def thR (l : Nat → Int × Int) (N : Nat) : Nat → List (Int × Int)
  | 0 => []
  | k + 1 => if k = 0 ∨ k + 1 = N ∨ lineB (l (k - 1)) (l k) (l (k + 1)) = false then thR l N k ++ [l k] else thR l N k
theorem thR_yes {l : Nat → Int × Int} {N k : Nat} (h : k = 0 ∨ k + 1 = N ∨ lineB (l (k - 1)) (l k) (l (k + 1)) = false) : thR l N (k + 1) = thR l N k ++ [l k] := if_pos h
theorem thR_no {l : Nat → Int × Int} {N k : Nat} (h : ¬ (k = 0 ∨ k + 1 = N ∨ lineB (l (k - 1)) (l k) (l (k + 1)) = false)) : thR l N (k + 1) = thR l N k := if_neg h
theorem thR_len (l : Nat → Int × Int) (N : Nat) : ∀ k, (thR l N k).length ≤ k
  | 0 => Nat.le_refl _
  | k + 1 => by
    have := thR_len l N k
    unfold thR
    split
    · simp; omega
    · omega
theorem thR_eq (l : Nat → Int × Int) (N : Nat) : ∀ k, k < N → thR l N k = (thK l k).reverse
  | 0, _ => rfl
  | k + 1, h => by
    have ih := thR_eq l N k (by omega)
    show (if k = 0 ∨ k + 1 = N ∨ lineB (l (k - 1)) (l k) (l (k + 1)) = false then thR l N k ++ [l k] else thR l N k) = (if k = 0 ∨ lineB (l (k - 1)) (l k) (l (k + 1)) = false then l k :: thK l k else thK l k).reverse
    by_cases c : k = 0 ∨ lineB (l (k - 1)) (l k) (l (k + 1)) = false
    · rw [if_pos c, if_pos (c.elim .inl fun x => .inr (.inr x)), ih]; simp
    · rw [if_neg c, if_neg (fun h => by
        rcases h with h | h | h
        · exact c (.inl h)
        · omega
        · exact c (.inr h)), ih]
theorem thR_all {ks : List (Int × Int)} (hv : Valid ks) : thR (fun i => ks.getD i (0, 0)) ks.length ks.length = thL ks := by
  have hp := hv.pos
  rw [thL_eq hv, ← thR_eq (fun i => ks.getD i (0, 0)) ks.length (ks.length - 1) (by omega)]
  have e : ks.length = (ks.length - 1) + 1 := by omega
  have := thR_yes (l := fun i => ks.getD i (0, 0)) (N := ks.length) (k := ks.length - 1) (.inr (.inl (by omega)))
  rw [show ks.length - 1 + 1 = ks.length by omega] at this
  exact this
/-- What the reference's thin returns. -/
def slOut (w : World) (R : List (Int × Int)) (en : Ending) (w' : World) : Prop :=
  ∃ A n cap, en = .returned (.slice A n cap) ∧ CAt w' A n R ∧ n ≤ 1000 ∧ Below w.heap.size w w'

set_option maxRecDepth 100000 in
set_option maxHeartbeats 6400000 in
theorem Rthin_any (b off cap n : Nat) (ks : List (Int × Int)) (w : World) (h : Kn w b off ks) (hn : ks.length = n) (hv : Valid ks) :
    Calls Try.prog 124 #[.slice (some ⟨b, off, none⟩) n cap] w (slOut w (thL ks)) := by
  have HKn := Lib.hid h
  have HV := Lib.hid hv
  have hpos := hv.pos
  have hle := hv.le
  have HTa := Lib.hid (thR_all hv)
  have HN := Lib.hid hn
  have HLn := Lib.hid (thR_len (fun i => ks.getD i (0, 0)) ks.length)
  have HY := Lib.hid (fun (k : Nat) h => thR_yes (l := fun i => ks.getD i (0, 0)) (N := ks.length) (k := k) h)
  have HZ := Lib.hid (fun (k : Nat) h => thR_no (l := fun i => ks.getD i (0, 0)) (N := ks.length) (k := k) h)
  have hn0 : 0 < n := by omega
  have hn40 : n ≤ 40 := by omega
  obtain ⟨i0, hi0, hi1, hi2, hi3⟩ := info_parts info_knot
  have HI := Lib.hid (show Try.prog.info? 108 = some i0 ∧ i0.zero = some (.agg #[.int .i64 0, .int .i64 0]) ∧ i0.size = 2 ∧ i0.bytes = 16 from ⟨hi0, hi1, hi2, hi3⟩)
  clear h hv hn hpos hle hi0 hi1 hi2 hi3
  generalize hS : thR (fun i => ks.getD i (0, 0)) ks.length = S at *
  have HS := Lib.hid hS
  clear hS
  go_enter Try.func124, Try.ntmps124
  go_wp2_with fail
  go_loopw [3, 4] (fun v i wx => ∃ (k t : Nat), k ≤ n ∧ i = .int .i64 k ∧ (S k).length = t ∧ wx.ownsRow w.heap.size 108 2 v t ((S k).flatMap encF) ∧ Below w.heap.size w wx) (fun _ i _ => n - (intOf i).toNat)
  case atStart => exact ⟨0, 0, Nat.zero_le _, rfl, by rw [← HS.out]; rfl, by rw [← HS.out]; exact World.ownsRow_nil _ _ _ _, Below.refl _ _⟩
  case round =>
    obtain ⟨k, t, hk, rfl, htl, ow, Br⟩ := hrel
    have htk : t ≤ k := by have := HLn.out k; omega
    have HTl := Lib.hid htl
    have OW := Lib.hid ow
    have HLT0 := Lib.hid (fun (q : Nat) hq => own_lt (g := q) ow hq)
    clear htl ow
    have hsz := Br.size
    by_cases hkn : k < n
    case neg =>
      have hkk : k = n := by omega
      subst hkk
      have hSe : S k = thL ks := by rw [← HTa.out, HN.out]
      have how := OW.out
      rw [hSe] at how
      have hll : (thL ks).length = t := by rw [← hSe]; exact HTl.out
      have htp : 0 < t := by rw [← hll, ← HTa.out]; exact List.length_pos_iff.2 (fun e => by
        have h2 := congrArg List.length e
        rw [HTa.out] at h2
        have := thL_eq HV.out
        rw [this] at h2
        simp at h2)
      obtain ⟨g', cap', rfl⟩ := Joins.ownsRow_form how htp
      have HKo := Lib.hid (Kn_of_row hll how)
      have HLl := Lib.hid hll
      clear how hll hSe
      go_wp2
      go_ret
      exact ⟨_, _, _, rfl, ⟨HLl.out, fun _ => ⟨g', 0, rfl, HKo.out⟩⟩, by omega, Br⟩
    have hkl : k < ks.length := by rw [HN.out]; exact hkn
    have hK := HKn.out.below Br
    have lt1 := hK.lt
    have xx := hK.x k hkl
    have xy := hK.y k hkl
    have HXk := Lib.hid (show (kx ks k, ky ks k) = ks.getD k (0, 0) from rfl)
    have B21 := Br
    by_cases hk0 : k = 0
    case pos =>
      have hq0 : ((k : Int) == 0) = true := by simp [hk0]
      have HYk := Lib.hid (HY.out k (.inl hk0))
      clear hk0
      go_wp2_with fail
      obtain ⟨xc, xf⟩ := xcell (W := wr)
      refine wp_region_quiet_tail 27 (by kernel_rfl) (by kernel_rfl) ?_
      simp only [List.take_succ_cons, List.take_zero, List.drop_succ_cons, List.drop_zero]
      repeat (first | go_big_quiet_step (fail) | quiet_step (fail))
      refine wpQuiet_nil ?_
      intro w21 hb21
      clear xc xf xx xy lt1
      have HLT := Lib.hid (fun (q : Nat) hq => (⟨(HLT0.out q hq).1, Nat.lt_of_lt_of_le (HLT0.out q hq).2 hb21.size⟩ : w.heap.size ≤ q ∧ q < w21.heap.size))
      have OW1 := Lib.hid (owns_below OW.out hb21)
      have hbq : w.heap.size ≤ w21.heap.size := Nat.le_trans hsz hb21.size
      have xx2 := (HKn.out.below (Br.trans (hb21.mono Br.size))).x k hkl
      have xy2 := (HKn.out.below (Br.trans (hb21.mono Br.size))).y k hkl
      have lt2 := (HKn.out.below (Br.trans (hb21.mono Br.size))).lt
      have HXp := Lib.hid (show S (k + 1) = S k ++ [(kx ks k, ky ks k)] from HYk.out)
      generalize kx ks k = ax at *
      generalize ky ks k = ay at *
      go_wp2_with (at_builtin; go_loud (refine wpList_append_own _ rfl (.tmp 38) (.tmp 43) 22 rfl (w.heap.size) 108 i0 (.agg #[.int .i64 0, .int .i64 0]) 2 16 Try.underlying22 HI.out.1 HI.out.2.1 HI.out.2.2.1 HI.out.2.2.2 rfl (by decide) _ (t) ((S k).flatMap encF) rfl (OW1.out.alloc _) ⟨w21.heap.size, 0, none⟩ 1 1 [.int .i64 ax, .int .i64 ay] rfl rfl (new_cells2 _ _ _ _) (one_ints2 _ _) (by unfold maxLen; omega) (by omega) (by simp; omega) ?_))
      intro v' w21 hown21 hgrow21 hnn21
      clear xx2 xy2 lt2
      have B21 := ((Br.trans (hb21.mono Br.size)).alloc (Br.trans (hb21.mono Br.size)).size _).grown hgrow21 (Nat.le_trans (Br.trans (hb21.mono Br.size)).size (by simp)) (fun kk hk => by have := HLT.out _ hk; omega)
      have hbase21 : w.heap.size ≤ w21.heap.size := Nat.le_trans hbq (Nat.le_trans (by simp) hgrow21.size)
      have HNw := Lib.hid hown21
      clear hown21 hgrow21 hnn21
      go_wp2
      go_roundw
      case rel => exact ⟨k + 1, t + 1, by omega, by go_num, by rw [HXp.out]; simp [HTl.out], by rw [HXp.out, List.flatMap_append]; simpa [encF] using HNw.out, B21⟩
      case measure => simp [intOf]; omega
    have hq0 : ((k : Int) == 0) = false := by simp; omega
    have hm1 : IntKind.i64.wrap ((n : Int) - 1) = ((n - 1 : Nat) : Int) := (IntWalk.i64_in _ (by omega)).trans (by omega)
    have HM1 := Lib.hid hm1
    clear hm1
    by_cases hkl1 : k + 1 = n
    case pos =>
      have hq1 : ((k : Int) == ((n - 1 : Nat) : Int)) = true := by simp; omega
      have hm1 := HM1.out
      have HYk := Lib.hid (HY.out k (.inr (.inl (by have := HN.out; omega))))
      clear hkl1
      go_wp2_with fail
      obtain ⟨xc, xf⟩ := xcell (W := wr)
      refine wp_region_quiet_tail 27 (by kernel_rfl) (by kernel_rfl) ?_
      simp only [List.take_succ_cons, List.take_zero, List.drop_succ_cons, List.drop_zero]
      repeat (first | go_big_quiet_step (fail) | quiet_step (fail))
      refine wpQuiet_nil ?_
      intro w21 hb21
      clear xc xf xx xy lt1 hm1 hq1
      have HLT := Lib.hid (fun (q : Nat) hq => (⟨(HLT0.out q hq).1, Nat.lt_of_lt_of_le (HLT0.out q hq).2 hb21.size⟩ : w.heap.size ≤ q ∧ q < w21.heap.size))
      have OW1 := Lib.hid (owns_below OW.out hb21)
      have hbq : w.heap.size ≤ w21.heap.size := Nat.le_trans hsz hb21.size
      have xx2 := (HKn.out.below (Br.trans (hb21.mono Br.size))).x k hkl
      have xy2 := (HKn.out.below (Br.trans (hb21.mono Br.size))).y k hkl
      have lt2 := (HKn.out.below (Br.trans (hb21.mono Br.size))).lt
      have HXp := Lib.hid (show S (k + 1) = S k ++ [(kx ks k, ky ks k)] from HYk.out)
      generalize kx ks k = ax at *
      generalize ky ks k = ay at *
      go_wp2_with (at_builtin; go_loud (refine wpList_append_own _ rfl (.tmp 38) (.tmp 43) 22 rfl (w.heap.size) 108 i0 (.agg #[.int .i64 0, .int .i64 0]) 2 16 Try.underlying22 HI.out.1 HI.out.2.1 HI.out.2.2.1 HI.out.2.2.2 rfl (by decide) _ (t) ((S k).flatMap encF) rfl (OW1.out.alloc _) ⟨w21.heap.size, 0, none⟩ 1 1 [.int .i64 ax, .int .i64 ay] rfl rfl (new_cells2 _ _ _ _) (one_ints2 _ _) (by unfold maxLen; omega) (by omega) (by simp; omega) ?_))
      intro v' w21 hown21 hgrow21 hnn21
      clear xx2 xy2 lt2
      have B21 := ((Br.trans (hb21.mono Br.size)).alloc (Br.trans (hb21.mono Br.size)).size _).grown hgrow21 (Nat.le_trans (Br.trans (hb21.mono Br.size)).size (by simp)) (fun kk hk => by have := HLT.out _ hk; omega)
      have hbase21 : w.heap.size ≤ w21.heap.size := Nat.le_trans hbq (Nat.le_trans (by simp) hgrow21.size)
      have HNw := Lib.hid hown21
      clear hown21 hgrow21 hnn21
      go_wp2
      go_roundw
      case rel => exact ⟨k + 1, t + 1, by omega, by go_num, by rw [HXp.out]; simp [HTl.out], by rw [HXp.out, List.flatMap_append]; simpa [encF] using HNw.out, B21⟩
      case measure => simp [intOf]; omega
    have hq1 : ((k : Int) == ((n - 1 : Nat) : Int)) = false := by simp; omega
    have xxp := hK.x (k - 1) (by omega)
    have xyp := hK.y (k - 1) (by omega)
    have xxn := hK.x (k + 1) (by have := HN.out; omega)
    have xyn := hK.y (k + 1) (by have := HN.out; omega)
    have HLc := Lib.hid (fun W => line_any (kx ks (k - 1), ky ks (k - 1)) (kx ks k, ky ks k) (kx ks (k + 1), ky ks (k + 1)) W (HV.out.y0 _ (by omega)) (HV.out.y0 _ hkl) (HV.out.y0 _ (by have := HN.out; omega)) (HV.out.x0 _ (by omega)) (HV.out.x0 _ hkl) (HV.out.x0 _ (by have := HN.out; omega)))
    have HB := Lib.hid (show lineB (kx ks (k - 1), ky ks (k - 1)) (kx ks k, ky ks k) (kx ks (k + 1), ky ks (k + 1)) = lineB (ks.getD (k - 1) (0, 0)) (ks.getD k (0, 0)) (ks.getD (k + 1) (0, 0)) from rfl)
    have hm2 : IntKind.i64.wrap ((k : Int) - 1) = ((k - 1 : Nat) : Int) := (IntWalk.i64_in _ (by omega)).trans (by omega)
    have hm3 : IntKind.i64.wrap ((k : Int) + 1) = ((k + 1 : Nat) : Int) := (IntWalk.i64_in _ (by omega)).trans (by omega)
    have hm1 := HM1.out
    have hkp : k - 1 < n := by omega
    have hkn1 : k + 1 < n := by omega
    clear hK
    generalize lineB (kx ks (k - 1), ky ks (k - 1)) (kx ks k, ky ks k) (kx ks (k + 1), ky ks (k + 1)) = bl at *
    dsimp only at HLc
    generalize kx ks (k - 1) = px at *
    generalize ky ks (k - 1) = py at *
    generalize kx ks (k + 1) = rx at *
    generalize ky ks (k + 1) = ry at *
    cases bl with
    | true =>
      go_wp2_with fail
      obtain ⟨xc, xf⟩ := xcell (W := wr)
      refine wp_region_quiet_tail 27 (by kernel_rfl) (by kernel_rfl) ?_
      simp only [List.take_succ_cons, List.take_zero, List.drop_succ_cons, List.drop_zero]
      repeat (first | go_big_quiet_step ((go_at_call 139; with_reducible refine calls_ext (HLc.out _))) | quiet_step ((go_at_call 139; with_reducible refine calls_ext (HLc.out _))))
      refine wpQuiet_nil ?_
      intro w21 hb21
      clear xc xf hm1 hm2 hm3
      have HZk := Lib.hid (HZ.out k (fun c => by have := HN.out; have := HB.out; rcases c with c | c | c; omega; omega; rw [c] at this; cases this))
      have OW1 := Lib.hid (owns_below OW.out hb21)
      go_wp2
      go_roundw
      case rel => exact ⟨k + 1, t, by omega, by go_num, by rw [HZk.out]; exact HTl.out, by rw [HZk.out]; exact OW1.out, Br.trans (hb21.mono Br.size)⟩
      case measure => simp [intOf]; omega
    | false =>
      go_wp2_with fail
      obtain ⟨xc, xf⟩ := xcell (W := wr)
      refine wp_region_quiet_tail 27 (by kernel_rfl) (by kernel_rfl) ?_
      simp only [List.take_succ_cons, List.take_zero, List.drop_succ_cons, List.drop_zero]
      repeat (first | go_big_quiet_step ((go_at_call 139; with_reducible refine calls_ext (HLc.out _))) | quiet_step ((go_at_call 139; with_reducible refine calls_ext (HLc.out _))))
      refine wpQuiet_nil ?_
      intro w21 hb21
      clear xc xf hm1 hm2 hm3 xx xy lt1 xxp xyp xxn xyn
      have HYk := Lib.hid (HY.out k (.inr (.inr HB.out.symm)))
      have HLT := Lib.hid (fun (q : Nat) hq => (⟨(HLT0.out q hq).1, Nat.lt_of_lt_of_le (HLT0.out q hq).2 hb21.size⟩ : w.heap.size ≤ q ∧ q < w21.heap.size))
      have OW1 := Lib.hid (owns_below OW.out hb21)
      have hbq : w.heap.size ≤ w21.heap.size := Nat.le_trans hsz hb21.size
      have xx2 := (HKn.out.below (Br.trans (hb21.mono Br.size))).x k hkl
      have xy2 := (HKn.out.below (Br.trans (hb21.mono Br.size))).y k hkl
      have lt2 := (HKn.out.below (Br.trans (hb21.mono Br.size))).lt
      have HXp := Lib.hid (show S (k + 1) = S k ++ [(kx ks k, ky ks k)] from HYk.out)
      generalize kx ks k = ax at *
      generalize ky ks k = ay at *
      go_wp2_with (at_builtin; go_loud (refine wpList_append_own _ rfl (.tmp 38) (.tmp 43) 22 rfl (w.heap.size) 108 i0 (.agg #[.int .i64 0, .int .i64 0]) 2 16 Try.underlying22 HI.out.1 HI.out.2.1 HI.out.2.2.1 HI.out.2.2.2 rfl (by decide) _ (t) ((S k).flatMap encF) rfl (OW1.out.alloc _) ⟨w21.heap.size, 0, none⟩ 1 1 [.int .i64 ax, .int .i64 ay] rfl rfl (new_cells2 _ _ _ _) (one_ints2 _ _) (by unfold maxLen; omega) (by omega) (by simp; omega) ?_))
      intro v' w21 hown21 hgrow21 hnn21
      clear xx2 xy2 lt2
      have B21 := ((Br.trans (hb21.mono Br.size)).alloc (Br.trans (hb21.mono Br.size)).size _).grown hgrow21 (Nat.le_trans (Br.trans (hb21.mono Br.size)).size (by simp)) (fun kk hk => by have := HLT.out _ hk; omega)
      have hbase21 : w.heap.size ≤ w21.heap.size := Nat.le_trans hbq (Nat.le_trans (by simp) hgrow21.size)
      have HNw := Lib.hid hown21
      clear hown21 hgrow21 hnn21
      go_wp2
      go_roundw
      case rel => exact ⟨k + 1, t + 1, by omega, by go_num, by rw [HXp.out]; simp [HTl.out], by rw [HXp.out, List.flatMap_append]; simpa [encF] using HNw.out, B21⟩
      case measure => simp [intOf]; omega
end Go.Proofs.Ytipablcbkoedbaa

namespace Go.Proofs.Ytipablcbkoedbaa
open Go.RowKit Go
def regG (ops : Array Oper) (n : Nat) (L : List (Nat × Tmp)) : Bool :=
  Region.noSelect ops && ops.all (fun o => match o.op with | .defer _ => false | _ => true) &&
  decide (n ≤ ops.size) && (decide (n = ops.size) || (Region.sinkB .any ops n && Region.chainB .any ops n)) &&
  Region.seqB .any ops (ops.size - n) n (Array.replicate n true ++ Array.replicate (ops.size - n) false) &&
  (List.range n).all (fun i => match ops[i]? with | some o => o.after.all (fun e => !Region.binds .any e || decide (e.on < i)) | none => false) &&
  (List.range n).all (fun i => (List.range n).all (fun j => headOk ops L i j)) &&
  L.all (fun p => decide (p.1 < n) && (match ops[p.1]? with | some o => (o.dst == some p.2 || o.dst == none) | none => false)) &&
  L.all (fun p => L.all fun q => p.2 != q.2 || p.1 == q.1)

structure RegOkG (ops : Array Oper) (n : Nat) (L : List (Nat × Tmp)) : Prop where
  sel : Region.noSelect ops = true
  defer_ : ∀ (i : Nat) (o : Oper), ops[i]? = some o → ∀ c, o.op ≠ .defer c
  le : n ≤ ops.size
  tail : n < ops.size → Region.sinkB .any ops n = true ∧ Region.chainB .any ops n = true
  seq : Region.seqB .any ops (ops.size - n) n (Array.replicate n true ++ Array.replicate (ops.size - n) false) = true
  back : ∀ (i : Nat) (o : Oper), i < n → ops[i]? = some o → ∀ e ∈ o.after, Region.binds .any e = true → e.on < i
  distinct : Distinct ops n
  looks : ∀ (i j : Nat) (oi oj : Oper) (d : Tmp), i < n → j < n → i ≠ j → ops[i]? = some oi → ops[j]? = some oj → oi.dst = some d → d ∈ oj.looksAt ops →
    (i < j ∧ Region.waitsFor .any ops j i = true ∧ (isLoud L j = false → isLoud L i = false)) ∨ (isLoud L j = false ∧ j < i ∧ Region.waitsFor .any ops i j = true)
  own : ∀ (j : Nat) (oj : Oper) (d : Tmp), j < n → ops[j]? = some oj → oj.dst = some d → isLoud L j = true → d ∉ oj.looksAt ops
  loud : ∀ p ∈ L, p.1 < n ∧ ∀ (o : Oper), ops[p.1]? = some o → (o.dst = some p.2 ∨ o.dst = none)
  slots : ∀ p ∈ L, ∀ q ∈ L, p.2 = q.2 → p.1 = q.1

theorem regG_ok {ops : Array Oper} {n : Nat} {L : List (Nat × Tmp)} (h : regG ops n L = true) : RegOkG ops n L := by
  simp only [regG, Bool.and_eq_true, decide_eq_true_eq, Bool.or_eq_true, List.all_eq_true, List.mem_range] at h
  obtain ⟨⟨⟨⟨⟨⟨⟨⟨h1, h2⟩, h3⟩, h4⟩, h5⟩, h6⟩, h7⟩, h8⟩, h9⟩ := h
  have hk : ∀ i j oi oj d, i < n → j < n → ops[i]? = some oi → ops[j]? = some oj → oi.dst = some d →
      (if i == j then !isLoud L j || !(oj.looksAt ops).contains d
      else oj.dst != some d && (!(oj.looksAt ops).contains d || (decide (i < j) && Region.waitsFor .any ops j i && (isLoud L j || !isLoud L i)) || (!isLoud L j && decide (j < i) && Region.waitsFor .any ops i j))) = true := by
    intro i j oi oj d hi hj hoi hoj hd
    have := h7 i hi j hj
    unfold headOk at this
    rw [hoi, hoj] at this
    simpa only [hd] using this
  refine ⟨h1, fun i o ho c hc => ?_, h3, fun hlt => ?_, h5, fun i o hi ho e he hb => ?_, fun i j oi oj d hi hj hoi hoj hdi hdj => ?_, fun i j oi oj d hi hj hij hoi hoj hd hmem => ?_, fun j oj d hj hoj hd hl hmem => ?_, fun p hp => ?_, fun p hp q hq he => ?_⟩
  · have hlt : i < ops.size := (Array.getElem?_eq_some_iff.1 ho).1
    have := Array.all_eq_true.1 h2 i hlt
    have he : ops[i] = o := by simpa [Array.getElem?_eq_getElem hlt] using ho
    rw [he, hc] at this
    exact Bool.noConfusion this
  · rcases h4 with h4 | h4
    · omega
    · exact h4
  · have := h6 i hi
    rw [ho] at this
    have := Array.all_eq_true'.1 this e he
    simpa [hb] using this
  · by_cases hij : i = j
    · exact hij
    · have := hk i j oi oj d hi hj hoi hoj hdi
      rw [if_neg (by simpa using hij)] at this
      simp only [Bool.and_eq_true, bne_iff_ne, ne_eq] at this
      exact absurd hdj this.1
  · have := hk i j oi oj d hi hj hoi hoj hd
    rw [if_neg (by simpa using hij)] at this
    have hc : (oj.looksAt ops).contains d = true := by simpa using hmem
    simp only [Bool.and_eq_true, hc, Bool.not_true, Bool.or_eq_true, Bool.false_eq_true, false_or, decide_eq_true_eq, Bool.not_eq_true'] at this
    rcases this.2 with ⟨⟨h1, h2⟩, h3⟩ | ⟨⟨h1, h2⟩, h3⟩
    · exact .inl ⟨h1, h2, fun hl => h3.resolve_left (by rw [hl]; exact Bool.false_ne_true)⟩
    · exact .inr ⟨h1, h2, h3⟩
  · have := hk j j oj oj d hj hj hoj hoj hd
    rw [if_pos (by simp)] at this
    simp only [hl, Bool.not_true, Bool.false_or, Bool.not_eq_true', List.contains_eq_mem, decide_eq_false_iff_not] at this
    exact this hmem
  · have := h8 p hp
    refine ⟨this.1, fun o ho => ?_⟩
    have h2 := this.2
    rw [ho] at h2
    simpa using h2
  · have := h9 p hp q hq
    simpa [he] using this


theorem any_of_headG {P : Program} {ops : Array Oper} {n : Nat} {L : List (Nat × Tmp)} {step : Nat → (Act → World → Prop) → Act → World → Prop} {Q T : Act → World → Prop}
    (ok : RegOkG ops n L)
    (hstep : ∀ i o a w K, ops[i]? = some o → Region.wanted o (yielded ops a.tmps) = true → loudAt P o a w (fun v w' => K (a.put o.dst v) w') → step i K a w)
    (hskip : ∀ i o a w K, ops[i]? = some o → Region.wanted o (yielded ops a.tmps) = false → K (a.put o.dst undef) w → step i K a w)
    {C : World → Prop} {S : World → World → Prop} {Φ : (Nat → Bool) → (Nat → Value) → World → Prop} (hS : ∀ w, C w → S w w) (hC : ∀ w w', C w → S w w' → C w')
    (hΦ : ∀ ls vs w w', C w → Φ ls vs w → S w w' → Φ ls vs w')
    {u : Nat → Value} {a₀ aQ : Act} (hQ : PW ops L u 0 n a₀ aQ) (hout : ∀ p ∈ L, ∀ o, ops[p.1]? = some o → o.dst = none → a₀.tmps.size ≤ p.2)
    (hy : ∀ j o, j < n → isLoud L j = false → ops[j]? = some o → ∃ A, YlS P ops C S o (u j) A ∧ PW ops L u 0 j a₀ A)
    (hloud : ∀ p ∈ L, ∀ (vs : Nat → Value) (w : World), C w → ∀ ls, Φ ls vs w → ls p.1 = false → (∀ q ∈ L, Region.waitsFor .any ops p.1 q.1 = true → ls q.1 = true) → ∀ o, ops[p.1]? = some o →
      Region.wanted o (yielded ops (putsL aQ L vs).tmps) = true ∧ loudAt P o (putsL aQ L vs) w fun v w' => C w' ∧ Φ (updB ls p.1) (upd vs p.1 v) w')
    (hfin : ∀ (ls : Nat → Bool) (vs : Nat → Value) (w : World), C w → Φ ls vs w → (∀ p ∈ L, ls p.1 = true) → T (putsL aQ L vs) w)
    (hT : ∀ a w, T a w → anyOf step ops Q (ops.size - n) (Array.replicate n true ++ Array.replicate (ops.size - n) false) a w) :
    ∀ (f : Nat) (listed : Array Bool) (a : Act) (w : World) (vs : Nat → Value), unl listed n = f → HeadInv .any ops n listed → StR ops n L u vs a₀ listed a → C w →
      Φ (lsOf L listed) vs w → anyOf step ops Q (f + (ops.size - n)) listed a w := by
  have hLd := ok.slots
  have hdst : ∀ p ∈ L, ∀ o, ops[p.1]? = some o → p.2 < a₀.tmps.size → o.dst = some p.2 := fun p hp o ho hs => by
    rcases (ok.loud p hp).2 o ho with h | h
    · exact h
    · exact absurd hs (Nat.not_lt.2 (hout p hp o ho h))
  have big : ∀ {A B : Act} {t : Nat}, A.tmps.size = B.tmps.size → ¬ t < B.tmps.size → A.tmps[t]? = B.tmps[t]? := fun h1 h2 => by
    rw [Array.getElem?_eq_none (by omega), Array.getElem?_eq_none (by omega)]
  intro f
  induction f with
  | zero =>
    intro listed a w vs hun inv st hc hf
    have hall := unl_zero listed n hun
    have hl : listed = Array.replicate n true ++ Array.replicate (ops.size - n) false := by
      apply Array.ext
      · simp [inv.size]; have := ok.le; omega
      · intro i h1 h2
        rcases Nat.lt_or_ge i n with h | h
        · have := hall i h
          simp [h1] at this
          rw [Array.getElem_append_left (by simpa using h)]
          simp [this]
        · have := inv.tail i h (by rw [← inv.size]; exact h1)
          simp [h1] at this
          rw [Array.getElem_append_right (by simpa using h)]
          simp [this]
    have ha : a = putsL aQ L vs := by
      have htmps : a.tmps = (putsL aQ L vs).tmps := by
        apply Array.ext_getElem?
        intro t
        by_cases hx : ∃ i o, i < n ∧ ops[i]? = some o ∧ o.dst = some t
        · obtain ⟨i, o, h1, h2, h3⟩ := hx
          by_cases hs : t < a₀.tmps.size
          · rw [st.at_ i o t h1 h2 h3 hs (hall i h1)]
            by_cases hl : isLoud L i = true
            · rw [if_pos hl]
              obtain ⟨p, hp, rfl⟩ := isLoud_iff.1 hl
              have : p.2 = t := by
                rcases (ok.loud p hp).2 o h2 with h | h
                · rw [h3] at h; exact (Option.some.inj h).symm
                · rw [h3] at h; cases h
              subst this
              rw [putsL_at L vs aQ hLd p hp (by rw [hQ.size]; exact hs)]
            · rw [if_neg hl, putsL_ne L vs t aQ (fun p hp he => ?_), hQ.at_ i o t (Nat.zero_le _) h1 (by simpa using hl) h2 h3 hs]
              obtain ⟨h4, h5⟩ := ok.loud p hp
              have hop := Array.getElem?_eq_getElem (show p.1 < ops.size by have := ok.le; omega)
              exact hl (isLoud_iff.2 ⟨p, hp, ok.distinct p.1 i _ o t h4 h1 hop h2 (by rw [hdst p hp _ hop (by rw [he]; exact hs), he]) h3⟩)
          · exact big (by rw [st.size, putsL_size, hQ.size]) (by rw [putsL_size, hQ.size]; exact hs)
        · by_cases hs : t < a₀.tmps.size
          case neg => exact big (by rw [st.size, putsL_size, hQ.size]) (by rw [putsL_size, hQ.size]; exact hs)
          rw [st.else_ t (fun i o h1 h2 _ h3 => hx ⟨i, o, h1, h2, h3⟩), putsL_ne L vs t aQ (fun p hp he => ?_), hQ.else_ t (fun i o _ h1 _ h2 h3 => hx ⟨i, o, h1, h2, h3⟩)]
          obtain ⟨h4, h5⟩ := ok.loud p hp
          have hop := Array.getElem?_eq_getElem (show p.1 < ops.size by have := ok.le; omega)
          exact hx ⟨p.1, _, h4, hop, by rw [hdst p hp _ hop (by rw [he]; exact hs), he]⟩
      have hdef : a.defers = (putsL aQ L vs).defers := by rw [st.defers, putsL_defers, hQ.defers]
      cases a
      generalize putsL aQ L vs = b at htmps hdef
      cases b
      simp only at htmps hdef
      rw [htmps, hdef]
    obtain ⟨listed', hl'⟩ : ∃ l', l' = listed := ⟨_, rfl⟩
    rw [← hl'] at hf hall
    rw [Nat.zero_add, hl, ha]
    exact hT _ _ (hfin (lsOf L listed') vs w hc hf fun p hp => (by unfold lsOf; rw [isLoud_iff.2 ⟨p, hp, rfl⟩, hall p.1 (ok.loud p hp).1]; rfl))
  | succ f ih =>
    intro listed a w vs hun inv st hc hf
    have hsz : n ≤ listed.size := by rw [inv.size]; exact ok.le
    rw [show f + 1 + (ops.size - n) = (f + (ops.size - n)) + 1 by omega]
    obtain ⟨m, hm, hm1, hm2⟩ := unl_first listed n (by omega)
    refine ⟨fun h => ?_, fun j hj => ?_⟩
    · have hom := Array.getElem?_eq_getElem (show m < ops.size by have := ok.le; omega)
      have : m ∈ Region.ready .any ops listed := mem_ready.2 ⟨getD_in (by omega) hm1, _, hom, fun e he hb => hm2 _ (ok.back m _ hm hom e he hb)⟩
      rw [h] at this
      cases this
    · obtain ⟨hjun, oj, hoj, hall⟩ := mem_ready.1 hj
      have hjn : j < n := by
        rcases Nat.lt_or_ge j n with h | h
        · exact h
        · have hlt : j < ops.size := (Array.getElem?_eq_some_iff.1 hoj).1
          obtain ⟨hs, hcn⟩ := ok.tail (by omega)
          exact absurd hj (tail_waits hs hcn (by omega) inv _ m rfl hm (getD_in (by omega) hm1) j h)
      have hwait : ∀ i, Region.waitsFor .any ops j i = true → listed.getD i false = true := fun i h => by
        obtain ⟨o', ho', e, he, hb, hon⟩ := Region.waitsFor_spec h
        have : o' = oj := Option.some.inj (ho'.symm.trans hoj)
        subst this
        rw [← hon]; exact hall e he hb
      have hnot : ∀ i, Region.waitsFor .any ops i j = true → listed.getD i false = false := fun i h => by
        obtain ⟨o', ho', e, he, hb, hon⟩ := Region.waitsFor_spec h
        cases hl : listed.getD i false with
        | false => rfl
        | true =>
          have := inv.closed i o' ho' hl e he hb
          rw [hon, getD_both hjun] at this
          cases this
      have hun' : unl (listed.setIfInBounds j true) n = f := by have := unl_set listed j hjun n hjn; omega
      have inv' := inv.set hj hjn
      have hlj : (listed.setIfInBounds j true).getD j false = true := by simp [show j < listed.size by omega]
      have st' : ∀ v vs', (∀ i, i ≠ j → vs' i = vs i) → (if isLoud L j = true then vs' j else u j) = v → StR ops n L u vs' a₀ (listed.setIfInBounds j true) (a.put oj.dst v) := fun v vs' hvs hv =>
        ⟨by rw [put_defers', st.defers], by rw [put_size, st.size], fun i o d h1 h2 h3 h4 h5 => by
          by_cases hij : i = j
          · subst hij
            have : o = oj := Option.some.inj (h2.symm.trans hoj)
            subst this
            rw [h3, put_at _ _ _ (by rw [st.size]; exact h4), hv]
          · rw [put_ne _ _ _ _ (fun he => hij (ok.distinct i j o oj d h1 hjn h2 hoj h3 he)), st.at_ i o d h1 h2 h3 h4 (by rwa [getD_set_ne false (Ne.symm hij)] at h5), hvs i hij],
         fun t ht => by
          rw [put_ne _ _ _ _ (ht j oj hjn hoj hlj), st.else_ t (fun i o h1 h2 h3 => ht i o h1 h2 (getD_set_true h3))]⟩
      have hsel : ∀ cs b, oj.op ≠ .select cs b := fun cs b => Region.noSelect_spec ok.sel j oj cs b hoj
      by_cases hlo : isLoud L j = true
      · -- a loud one
        obtain ⟨p, hp, rfl⟩ := isLoud_iff.1 hlo
        have hag : ∀ t ∈ oj.looksAt ops, a.tmps[t]? = (putsL aQ L vs).tmps[t]? := fun t ht => by
          by_cases hs : t < a₀.tmps.size
          case neg => exact big (by rw [st.size, putsL_size, hQ.size]) (by rw [putsL_size, hQ.size]; exact hs)
          by_cases hx : ∃ i o, i < n ∧ ops[i]? = some o ∧ o.dst = some t
          · obtain ⟨i, o, h1, h2, h3⟩ := hx
            have hij : i ≠ p.1 := fun he => by
              subst he
              have : o = oj := Option.some.inj (h2.symm.trans hoj)
              subst this
              exact ok.own _ _ t hjn hoj h3 hlo ht
            rcases ok.looks i p.1 o oj t h1 hjn hij h2 hoj h3 ht with ⟨h4, h5, _⟩ | ⟨h4, _⟩
            · rw [st.at_ i o t h1 h2 h3 hs (hwait i h5)]
              by_cases hl : isLoud L i = true
              · rw [if_pos hl]
                obtain ⟨q, hq, rfl⟩ := isLoud_iff.1 hl
                have : q.2 = t := by
                  rcases (ok.loud q hq).2 o h2 with h | h
                  · rw [h3] at h; exact (Option.some.inj h).symm
                  · rw [h3] at h; cases h
                subst this
                rw [putsL_at L vs aQ hLd q hq (by rw [hQ.size]; exact hs)]
              · rw [if_neg hl, putsL_ne L vs t aQ (fun q hq he => ?_), hQ.at_ i o t (Nat.zero_le _) h1 (by simpa using hl) h2 h3 hs]
                obtain ⟨h4, h5⟩ := ok.loud q hq
                have hop := Array.getElem?_eq_getElem (show q.1 < ops.size by have := ok.le; omega)
                exact hl (isLoud_iff.2 ⟨q, hq, ok.distinct q.1 i _ o t h4 h1 hop h2 (by rw [hdst q hq _ hop (by rw [he]; exact hs), he]) h3⟩)
            · rw [hlo] at h4; cases h4
          · rw [st.else_ t (fun i o h1 h2 _ h3 => hx ⟨i, o, h1, h2, h3⟩), putsL_ne L vs t aQ (fun q hq he => ?_), hQ.else_ t (fun i o _ h1 _ h2 h3 => hx ⟨i, o, h1, h2, h3⟩)]
            obtain ⟨h4, h5⟩ := ok.loud q hq
            have hop := Array.getElem?_eq_getElem (show q.1 < ops.size by have := ok.le; omega)
            exact hx ⟨q.1, _, h4, hop, by rw [hdst q hq _ hop (by rw [he]; exact hs), he]⟩
        obtain ⟨hex, hwa⟩ := exec_agree hsel hag
        obtain ⟨hgw, hld⟩ := hloud p hp vs w hc _ hf (by unfold lsOf; rw [getD_both hjun]; simp) (fun q hq hw => (by unfold lsOf; rw [isLoud_iff.2 ⟨q, hq, rfl⟩, hwait _ hw]; rfl)) oj hoj
        refine hstep p.1 oj a w _ hoj (by rw [hwa]; exact hgw) (loudAt_agree hex (loudAt_mono hld ?_))
        rintro v w' ⟨hc', hv⟩
        refine ih _ _ w' (upd vs p.1 v) hun' inv' (st' v _ (fun i hi => by simp [upd, hi]) (by simp [upd, hlo])) hc' ?_
        have e : lsOf L (listed.setIfInBounds p.1 true) = updB (lsOf L listed) p.1 := by
          funext i
          unfold lsOf updB
          by_cases hi : i = p.1
          · subst hi; rw [if_pos rfl, hlo, hlj]; rfl
          · rw [if_neg hi, getD_set_ne false (Ne.symm hi)]
        rw [e]; exact hv
      · -- a quiet one
        have hlo' : isLoud L j = false := by simpa using hlo
        have hls : lsOf L (listed.setIfInBounds j true) = lsOf L listed := by
          funext i
          unfold lsOf
          by_cases hi : i = j
          · subst hi; rw [hlo']; rfl
          · rw [getD_set_ne false (Ne.symm hi)]
        obtain ⟨A, hA, hPA⟩ := hy j oj hjn hlo' hoj
        have hag : ∀ t ∈ oj.looksAt ops, a.tmps[t]? = A.tmps[t]? := fun t ht => by
          by_cases hs : t < a₀.tmps.size
          case neg => exact big (by rw [st.size, hPA.size]) (by rw [hPA.size]; exact hs)
          by_cases hx : ∃ i o, i < n ∧ ops[i]? = some o ∧ o.dst = some t ∧ i ≠ j
          · obtain ⟨i, o, h1, h2, h3, hij⟩ := hx
            rcases ok.looks i j o oj t h1 hjn hij h2 hoj h3 ht with ⟨h4, h5, h6⟩ | ⟨_, h4, h5⟩
            · rw [st.at_ i o t h1 h2 h3 hs (hwait i h5), hPA.at_ i o t (Nat.zero_le _) h4 (h6 hlo') h2 h3 hs, if_neg (by rw [h6 hlo']; exact Bool.false_ne_true)]
            · rw [st.else_ t (fun i' o' h6 h7 h8 h9 => ?_), hPA.else_ t (fun i' o' _ h6 _ h7 h8 => ?_)]
              · have := ok.distinct i' i o' o t (by omega) h1 h7 h2 h8 h3
                omega
              · have := ok.distinct i' i o' o t h6 h1 h7 h2 h9 h3
                subst this
                rw [hnot _ h5] at h8
                cases h8
          · rw [st.else_ t (fun i o h1 h2 h3 h4 => ?_), hPA.else_ t (fun i o _ h1 _ h2 h3 => hx ⟨i, o, by omega, h2, h3, by omega⟩)]
            by_cases hij : i = j
            · subst hij; rw [getD_both hjun] at h3; cases h3
            · exact hx ⟨i, o, h1, h2, h4, hij⟩
        obtain ⟨hex, hwa⟩ := exec_agree hsel hag
        have hst := st' (u j) vs (fun _ _ => rfl) (by rw [if_neg hlo])
        rcases hA with ⟨h1, h2⟩ | ⟨h1, h2⟩
        · refine hstep j oj a w _ hoj (by rw [hwa]; exact h1) (loudAt_agree hex (loudAt_mono (loudAt_of_quiet (hS w hc) (h2 w hc)) ?_))
          rintro v w' ⟨rfl, hb⟩
          refine ih _ _ w' vs hun' inv' hst (hC w w' hc hb) ?_
          rw [hls]; exact hΦ _ _ _ _ hc hf hb
        · refine hskip j oj a w _ hoj (by rw [hwa]; exact h1) ?_
          rw [h2] at hst
          refine ih _ _ w vs hun' inv' hst hc ?_
          rw [hls]; exact hf


/-- What the walk of the head must end in. -/
def HeadEndG (P : Program) (l : List Oper) (L : List (Nat × Tmp)) (C : World → Prop) (Φ : (Nat → Bool) → (Nat → Value) → World → Prop) (T : Act → World → Prop) (aQ : Act) : Prop :=
  (∀ p ∈ L, ∀ (vs : Nat → Value) (w : World), C w → ∀ ls, Φ ls vs w → ls p.1 = false → (∀ q ∈ L, Region.waitsFor .any l.toArray p.1 q.1 = true → ls q.1 = true) → ∀ o, l[p.1]? = some o →
      Region.wanted o (yielded l.toArray (putsL aQ L vs).tmps) = true ∧ loudAt P o (putsL aQ L vs) w fun v w' => C w' ∧ Φ (updB ls p.1) (upd vs p.1 v) w') ∧
  (∀ (ls : Nat → Bool) (vs : Nat → Value) (w : World), C w → Φ ls vs w → (∀ p ∈ L, ls p.1 = true) → T (putsL aQ L vs) w)

theorem any_headG {P : Program} {l : List Oper} {n : Nat} {L : List (Nat × Tmp)} {step : Nat → (Act → World → Prop) → Act → World → Prop} {Q T : Act → World → Prop}
    (hB : regG l.toArray n L = true)
    (hstep : ∀ i o a w K, l.toArray[i]? = some o → (∀ c, o.op ≠ .defer c) → Region.wanted o (yielded l.toArray a.tmps) = true → loudAt P o a w (fun v w' => K (a.put o.dst v) w') → step i K a w)
    (hskip : ∀ i o a w K, l.toArray[i]? = some o → Region.wanted o (yielded l.toArray a.tmps) = false → K (a.put o.dst undef) w → step i K a w)
    (hmono : ∀ i a w K K', (∀ a w, K a w → K' a w) → step i K a w → step i K' a w)
    {C : World → Prop} {S : World → World → Prop} {Φ : (Nat → Bool) → (Nat → Value) → World → Prop} (hS : ∀ w, C w → S w w) (hC : ∀ w w', C w → S w w' → C w')
    (hΦ : ∀ ls vs w w', C w → Φ ls vs w → S w w' → Φ ls vs w') {a : Act} {w : World} (hw : C w) (h0 : Φ (fun _ => false) (fun _ => undef) w) (hout : ∀ p ∈ L, ∀ o, l[p.1]? = some o → o.dst = none → a.tmps.size ≤ p.2)
    (hT : ∀ a w, T a w → seqOf step Q (l.toArray.size - n) n a w)
    (h : wpQS P l.toArray C S L (HeadEndG P l L C Φ T) 0 (l.take n) a) : anyOf step l.toArray Q l.toArray.size (Array.replicate l.toArray.size false) a w := by
  have ok := regG_ok hB
  have hn : n ≤ l.length := by simpa using ok.le
  have htl : (l.take n).length = n := by simp; omega
  obtain ⟨u, aQ, hQ, hp, hy⟩ := qs_extract (l.take n) 0 a (fun j hj => by
    have : j < n := by omega
    simp [this]) (by rw [htl, Nat.zero_add]; exact ok.distinct) h
  rw [htl, Nat.zero_add] at hp hy
  have hun : ∀ m, unl (Array.replicate l.toArray.size false) m = m := fun m => by
    induction m with
    | zero => rfl
    | succ m ih => unfold unl; rw [ih, getD_replicate_false]; rfl
  have H := any_of_headG (T := T) (Q := Q) ok (fun i o a w K h1 => hstep i o a w K h1 (ok.defer_ i o h1)) hskip hS hC hΦ hp (fun p hp o ho => hout p hp o (by simpa using ho)) (fun j o h1 h2 h3 => hy j o (Nat.zero_le _) h1 h2 h3)
    (fun p hp vs w hc ls hf h0 hq o ho => hQ.1 p hp vs w hc ls hf h0 hq o (by simpa using ho)) hQ.2 (fun a w h => anyOf_of_seq hmono _ n _ a w ok.seq (hT a w h))
    n (Array.replicate l.toArray.size false) a w (fun _ => undef) (hun n)
    ⟨by simp, fun j oj _ hl => (by rw [getD_replicate_false] at hl; cases hl), fun t _ ht => getD_in (by simpa using ht) (getD_replicate_false _ _)⟩
    ⟨rfl, rfl, fun i o d _ _ _ _ h => (by rw [getD_replicate_false] at h; cases h), fun _ _ => rfl⟩ hw (by
      have e : lsOf L (Array.replicate l.toArray.size false) = fun _ => false := by funext i; unfold lsOf; rw [getD_replicate_false]; simp
      rw [e]; exact h0)
  rwa [show n + (l.toArray.size - n) = l.toArray.size by have := ok.le; omega] at H


theorem wp_region_headG {P : Program} {id : Nat} {Q : Exit → Act → World → Prop} {a : Act} {w : World} {l : List Oper} (n : Nat) (L : List (Nat × Tmp)) (C : World → Prop) (S : World → World → Prop) (Φ : (Nat → Bool) → (Nat → Value) → World → Prop)
    (hm : P.follows .mixedOrders = true) (hB : regG l.toArray n L = true) (hw : C { w with drawn := w.drawn + 1 }) (h0 : Φ (fun _ => false) (fun _ => undef) { w with drawn := w.drawn + 1 }) (hout : ∀ p ∈ L, ∀ o, l[p.1]? = some o → o.dst = none → a.tmps.size ≤ p.2) (hS : ∀ w, C w → S w w) (hC : ∀ w w', C w → S w w' → C w')
    (hΦ : ∀ ls vs w w', C w → Φ ls vs w → S w w' → Φ ls vs w')
    (h : wpQS P l.toArray C S L (HeadEndG P l L C Φ (fun a w => wpList P l.toArray Q (l.drop n) a w)) 0 (l.take n) a) : (Code.region id l.toArray true).wp P Q a w := by
  have ok := regG_ok hB
  refine wp_region_any hm (anyOf_wpAny _ _ _ _ (any_headG (Q := Q .normal) (step := fun i K a w => wpOp P l.toArray Q i K a w) hB ?_ ?_ ?_ hS hC hΦ hw h0 hout ?_ h))
  · intro i o a w K h1 _ h2 h3
    show wpOp P l.toArray Q i K a w
    unfold wpOp
    simp only [h1, h2, if_true]
    refine .inl ?_
    unfold loudAt at h3
    unfold Oper.wp
    generalize (execOp a.eval o).run P w = r at *
    cases r with
    | ok x w' =>
      cases x <;> simp only [loudUpon] at h3 <;> simp only [Oper.upon]
      case value v => exact h3
      case skip => exact h3
      case enter f args => exact h3.mono fun e w'' ⟨v, he, hv⟩ => by subst he; exact hv
    | halt x w' => simp only [loudUpon] at h3
  · intro i o a w K h1 h2 h3
    show wpOp P l.toArray Q i K a w
    unfold wpOp
    simp only [h1, h2, Bool.false_eq_true, if_false]
    exact h3
  · exact fun i a w K K' hk h => wpOp_mono hk h
  · intro a w h
    have hlen : l.toArray.size - n = (l.drop n).length := by simp
    rw [hlen]
    exact seqOf_of_wpList (l.drop n) n (fun j _ => by simp [List.getElem?_drop]) a w h


theorem wp_region_preG {P : Program} {id : Nat} {Q : Exit → Act → World → Prop} {a : Act} {w : World} {l : List Oper} (n : Nat) (L : List (Nat × Tmp)) (Φ : (Nat → Bool) → (Nat → Value) → World → Prop) 
    (hm : P.follows .mixedOrders = true) (hB : (regG l.toArray n L && dstsB a.tmps.size (qOf L 0 (l.take n)) && L.all fun p => match l[p.1]? with | some o => o.dst.isSome || decide (a.tmps.size ≤ p.2) | none => true) = true)
    (h0 : ∀ v, Below w.heap.size w v → Φ (fun _ => false) (fun _ => undef) v)
    (hΦ : ∀ ls vs v v', Below w.heap.size w v → Φ ls vs v → Below v.heap.size v v' → Φ ls vs v')
    (h : ∃ aQ, (∀ W, Below w.heap.size w W → wpQuiet P l.toArray (fun v' => ∃ x : Ext W, v' = x.w) (fun a' => a' = aQ) (qOf L 0 (l.take n)) a) ∧
      HeadEndG P l L (fun v => ∃ x : Ext w, v = x.w) Φ (fun a w => wpList P l.toArray Q (l.drop n) a w) aQ) : (Code.region id l.toArray true).wp P Q a w := by
  simp only [Bool.and_eq_true, List.all_eq_true] at hB
  obtain ⟨⟨hB, hd⟩, ho⟩ := hB
  obtain ⟨aQ, h, he⟩ := h
  refine wp_region_headG n L (fun v => ∃ x : Ext w, v = x.w) (fun W v' => ∃ x : Ext W, v' = x.w) Φ hm hB ⟨⟨_, (Below.refl _ w).drew⟩, rfl⟩ (h0 _ (Below.refl _ w).drew) (fun p hp o hpo hn => ?_) (fun v _ => Over.refl v) (fun _ _ h k => Over.trans h k)
    (fun ls vs v v' hc h k => hΦ ls vs v v' (Over.below hc) h (Over.below k)) (qs_of_q (fun v _ => Over.refl v) w (Over.refl w) he _ 0 a hd fun W hW => h W (Over.below hW))
  have := ho p hp
  rw [hpo] at this
  simpa [hn] using this


theorem wp_region_preCG {P : Program} {id : Nat} {Q : Exit → Act → World → Prop} {a : Act} {w : World} {l : List Oper} (n : Nat) (L : List (Nat × Tmp)) (C : World → Prop) (Φ : (Nat → Bool) → (Nat → Value) → World → Prop)
    (hm : P.follows .mixedOrders = true) (hB : (regG l.toArray n L && dstsB a.tmps.size (qOf L 0 (l.take n)) && L.all fun p => match l[p.1]? with | some o => o.dst.isSome || decide (a.tmps.size ≤ p.2) | none => true) = true)
    (hw : C w) (hC : ∀ v v', C v → Below v.heap.size v v' → C v') (h0 : ∀ v, Below w.heap.size w v → Φ (fun _ => false) (fun _ => undef) v)
    (hΦ : ∀ ls vs v v', C v → Φ ls vs v → Below v.heap.size v v' → Φ ls vs v')
    (h : ∃ aQ, (∀ W, C W → wpQuiet P l.toArray (fun v' => ∃ x : Ext W, v' = x.w) (fun a' => a' = aQ) (qOf L 0 (l.take n)) a) ∧
      HeadEndG P l L C Φ (fun a w => wpList P l.toArray Q (l.drop n) a w) aQ) : (Code.region id l.toArray true).wp P Q a w := by
  simp only [Bool.and_eq_true, List.all_eq_true] at hB
  obtain ⟨⟨hB, hd⟩, ho⟩ := hB
  obtain ⟨aQ, h, he⟩ := h
  refine wp_region_headG n L C (fun W v' => ∃ x : Ext W, v' = x.w) Φ hm hB (hC _ _ hw (Below.refl _ w).drew) (h0 _ (Below.refl _ w).drew) (fun p hp o hpo hn => ?_) (fun v _ => Over.refl v) (fun _ _ h k => hC _ _ h (Over.below k))
    (fun ls vs v v' hc h k => hΦ ls vs v v' hc h (Over.below k)) (qs_of_q (fun v _ => Over.refl v) w hw he _ 0 a hd h)
  have := ho p hp
  rw [hpo] at this
  simpa [hn] using this

end Go.Proofs.Ytipablcbkoedbaa

namespace Go.Proofs.Ytipablcbkoedbaa
open Go.RowKit

def smV (ks ks' : List (Int × Int)) (err err' : Int) : Bool := if twErr ks ks' err err' = 0 then (if err = err' then decide (thL ks = thL ks') else false) else false
/-- What is known of one thinned curve while a region draws its order: the call's slot i, the field's slot j. -/
def thH (R : List (Int × Int)) (err : Int) (i j : Nat) (ls : Nat → Bool) (vs : Nat → Value) (v : World) : Prop :=
  (ls i = true → ∃ A n cap, vs i = vCv A n cap err ∧ CAt v A n R ∧ n ≤ 1000 ∧ (ls j = true → vs j = .slice A n cap)) ∧ (ls j = true → ls i = true)
theorem thH.below {R : List (Int × Int)} {err : Int} {i j : Nat} {ls : Nat → Bool} {vs : Nat → Value} {v v' : World} (h : thH R err i j ls vs v) (k : Below v.heap.size v v') : thH R err i j ls vs v' :=
  ⟨fun h1 => by obtain ⟨A, n, cap, e, hc, hn, hf⟩ := h.1 h1; exact ⟨A, n, cap, e, hc.below k, hn, hf⟩, h.2⟩
theorem thH.other {R : List (Int × Int)} {err : Int} {i j m : Nat} {ls : Nat → Bool} {vs : Nat → Value} {v : World} {u : Value} (h : thH R err i j ls vs v) (h1 : m ≠ i) (h2 : m ≠ j) : thH R err i j (updB ls m) (upd vs m u) v := by
  unfold thH at *
  simpa [upd, updB, Ne.symm h1, Ne.symm h2] using h
theorem thH.call {R : List (Int × Int)} {err : Int} {i j : Nat} {ls : Nat → Bool} {vs : Nat → Value} {v v' : World} {A : Option Addr} {n cap : Nat} (h : thH R err i j ls vs v) (hi : ls i = false) (hij : j ≠ i) (hc : CAt v' A n R) (hn : n ≤ 1000) : thH R err i j (updB ls i) (upd vs i (vCv A n cap err)) v' := by
  refine ⟨fun _ => ⟨A, n, cap, by simp [upd], hc, hn, fun hj => ?_⟩, fun _ => by simp [updB]⟩
  have hj : ls j = true := by simpa [updB, hij] using hj
  rw [h.2 hj] at hi; cases hi
theorem thH.field {R : List (Int × Int)} {err : Int} {i j : Nat} {ls : Nat → Bool} {vs : Nat → Value} {v : World} {A : Option Addr} {n cap : Nat} (h : thH R err i j ls vs v) (hi : ls i = true) (hij : i ≠ j) (e : vs i = vCv A n cap err) : thH R err i j (updB ls j) (upd vs j (.slice A n cap)) v := by
  refine ⟨fun _ => ?_, fun _ => by simpa [updB, hij] using hi⟩
  obtain ⟨A1, n1, cap1, e1, hc, hn, _⟩ := h.1 hi
  rw [e] at e1
  have h3 : A = A1 ∧ n = n1 ∧ cap = cap1 := by simpa [vCv] using e1
  obtain ⟨rfl, rfl, rfl⟩ := h3
  exact ⟨A, n, cap, by simpa [upd, hij] using e, hc, hn, fun _ => by simp [upd]⟩
def slH (R : List (Int × Int)) (i : Nat) (ls : Nat → Bool) (vs : Nat → Value) (v : World) : Prop :=
  ls i = true → ∃ A n cap, vs i = .slice A n cap ∧ CAt v A n R ∧ n ≤ 1000
theorem slH.below {R : List (Int × Int)} {i : Nat} {ls : Nat → Bool} {vs : Nat → Value} {v v' : World} (h : slH R i ls vs v) (k : Below v.heap.size v v') : slH R i ls vs v' :=
  fun h1 => by obtain ⟨A, n, cap, e, hc, hn⟩ := h h1; exact ⟨A, n, cap, e, hc.below k, hn⟩
theorem slH.other {R : List (Int × Int)} {i m : Nat} {ls : Nat → Bool} {vs : Nat → Value} {v : World} {u : Value} (h : slH R i ls vs v) (h1 : m ≠ i) : slH R i (updB ls m) (upd vs m u) v := by
  unfold slH at *
  simpa [upd, updB, Ne.symm h1] using h
theorem slH.call {R : List (Int × Int)} {i : Nat} {ls : Nat → Bool} {vs : Nat → Value} {v' : World} {A : Option Addr} {n cap : Nat} (hc : CAt v' A n R) (hn : n ≤ 1000) : slH R i (updB ls i) (upd vs i (.slice A n cap)) v' :=
  fun _ => ⟨A, n, cap, by simp [upd], hc, hn⟩


set_option maxRecDepth 100000 in
set_option maxHeartbeats 6400000 in
theorem Same_any (A A' : Option Addr) (n cap n' cap' : Nat) (err err' : Int) (ks ks' : List (Int × Int)) (w : World) (h : CAt w A n ks) (hm : n ≤ 9223372036854775807) (h' : CAt w A' n' ks') (hm' : n' ≤ 9223372036854775807) :
    Calls Try.prog 61 #[vCv A n cap err, vCv A' n' cap' err'] w fun e w' => e = .returned (.tuple #[.bool (smV ks ks' err err'), .int .i64 (twErr ks ks' err err')]) ∧ Below w.heap.size w w' := by
  have hS := fun W (q : Nat) (hW : LAt W (some ⟨q, 0, none⟩) 2 [⟨A, n, cap, err, ks⟩, ⟨A', n', cap', err', ks'⟩]) => checked_any (some ⟨q, 0, none⟩) 2 2 [⟨A, n, cap, err, ks⟩, ⟨A', n', cap', err', ks'⟩] W hW (by omega)
  rw [tw_all] at hS
  have HS := Lib.hid hS
  have HA := Lib.hid h
  have HA' := Lib.hid h'
  have hsm : smV ks ks' err err' = if twErr ks ks' err err' = 0 then (if err = err' then decide (thL ks = thL ks') else false) else false := rfl
  rw [hsm]
  clear hsm
  by_cases hz : twErr ks ks' err err' = 0
  case neg =>
    rw [if_neg hz]
    have hz1 : (twErr ks ks' err err' != 0) = true := by simpa using hz
    clear h h' hz hS
    generalize twErr ks ks' err err' = te at *
    generalize hW : (w.alloc (.cells #[.slice A n cap, .int .i64 err] 24)).alloc (.cells #[.slice A' n' cap', .int .i64 err'] 24) = W
    have B0 : Below w.heap.size w W := by rw [← hW]; exact (((Below.refl w.heap.size w).alloc (Nat.le_refl _) _).alloc (by simp) _)
    have x0_0 : Blk W w.heap.size 24 #[.slice A n cap, .int .i64 err] := by rw [← hW]; exact ((Blk.at_new _ _ rfl).alloc _)
    have x1_0 : Blk W (w.heap.size + 1) 24 #[.slice A' n' cap', .int .i64 err'] := by rw [← hW]; exact (Blk.at_new _ _ (by simp))
    have HWE := Lib.hid hW
    clear hW
    have HLb := Lib.hid (fun q V (hV : Blk V q 24 #[.slice A n cap, .int .i64 err, .slice A' n' cap', .int .i64 err']) (hb : Below w.heap.size w V) => lat_two hV (HA.out.below hb) hm (HA'.out.below hb) hm')
    go_enter Try.func61, Try.ntmps61
    have B1 := B0
    have B1a := B1.alloc B1.size (.cells #[.slice A n cap, .int .i64 err, .slice A' n' cap', .int .i64 err'] 24)
    go_wp2_with fail
    rw [HWE.out]
    refine (HS.out _ _ (HLb.out _ _ (Blk.at_new (g := w.heap.size + 1 + 1) _ _ (by rw [← HWE.out]; simp)) B1a)).mono ?_; rintro e w1 ⟨rfl, hb1⟩
    have x0_1 := (x0_0.alloc (.cells #[.slice A n cap, .int .i64 err, .slice A' n' cap', .int .i64 err'] 24)).below hb1
    have x1_1 := (x1_0.alloc (.cells #[.slice A n cap, .int .i64 err, .slice A' n' cap', .int .i64 err'] 24)).below hb1
    clear x0_0 x1_0
    have x0_1c0 := x0_1.cell 0
    have x0_1c1 := x0_1.cell 1
    simp only [List.getElem?_toArray, List.getElem?_cons_zero, List.getElem?_cons_succ] at x0_1c0 x0_1c1
    have x0_1l := x0_1.lt
    have x1_1c0 := x1_1.cell 0
    have x1_1c1 := x1_1.cell 1
    simp only [List.getElem?_toArray, List.getElem?_cons_zero, List.getElem?_cons_succ] at x1_1c0 x1_1c1
    have x1_1l := x1_1.lt
    go_wp2
    exact bodyPost_ret (v := .tuple #[.bool false, .int .i64 te]) (by simp [results, Try.results61, go_sem]) rfl ⟨rfl, B1a.trans (hb1.mono B1a.size)⟩
  rw [if_pos hz, hz]
  rw [hz] at hS
  have HS := Lib.hid hS
  clear hS
  obtain ⟨hv, hv', he, he'⟩ := tw_valid hz
  have hkn := h.len
  have hkn' := h'.len
  have hv0 := hv.pos
  have hv0' := hv'.pos
  obtain ⟨b, off, rfl, hkb⟩ := h.at_ (by omega)
  obtain ⟨b', off', rfl, hkb'⟩ := h'.at_ (by omega)
  have HK := Lib.hid hkb
  have HK' := Lib.hid hkb'
  have HV := Lib.hid hv
  have HV' := Lib.hid hv'
  have HNn := Lib.hid hkn
  have HNn' := Lib.hid hkn'
  clear h h' hkb hkb' hv hv' hz hkn hkn' hv0 hv0'
  by_cases hee : err = err'
  case neg =>
    rw [if_neg hee]
    have hq1 : (err == err') = false := by simpa using hee
    clear hee
    generalize hW : (w.alloc (.cells #[.slice (some ⟨b, off, none⟩) n cap, .int .i64 err] 24)).alloc (.cells #[.slice (some ⟨b', off', none⟩) n' cap', .int .i64 err'] 24) = W
    have B0 : Below w.heap.size w W := by rw [← hW]; exact (((Below.refl w.heap.size w).alloc (Nat.le_refl _) _).alloc (by simp) _)
    have x0_0 : Blk W w.heap.size 24 #[.slice (some ⟨b, off, none⟩) n cap, .int .i64 err] := by rw [← hW]; exact ((Blk.at_new _ _ rfl).alloc _)
    have x1_0 : Blk W (w.heap.size + 1) 24 #[.slice (some ⟨b', off', none⟩) n' cap', .int .i64 err'] := by rw [← hW]; exact (Blk.at_new _ _ (by simp))
    have HWE := Lib.hid hW
    clear hW
    have HLb := Lib.hid (fun q V (hV : Blk V q 24 #[.slice (some ⟨b, off, none⟩) n cap, .int .i64 err, .slice (some ⟨b', off', none⟩) n' cap', .int .i64 err']) (hb : Below w.heap.size w V) => lat_two hV (HA.out.below hb) hm (HA'.out.below hb) hm')
    go_enter Try.func61, Try.ntmps61
    have B1 := B0
    have B1a := B1.alloc B1.size (.cells #[.slice (some ⟨b, off, none⟩) n cap, .int .i64 err, .slice (some ⟨b', off', none⟩) n' cap', .int .i64 err'] 24)
    go_wp2_with fail
    rw [HWE.out]
    refine (HS.out _ _ (HLb.out _ _ (Blk.at_new (g := w.heap.size + 1 + 1) _ _ (by rw [← HWE.out]; simp)) B1a)).mono ?_; rintro e w1 ⟨rfl, hb1⟩
    have x0_1 := (x0_0.alloc (.cells #[.slice (some ⟨b, off, none⟩) n cap, .int .i64 err, .slice (some ⟨b', off', none⟩) n' cap', .int .i64 err'] 24)).below hb1
    have x1_1 := (x1_0.alloc (.cells #[.slice (some ⟨b, off, none⟩) n cap, .int .i64 err, .slice (some ⟨b', off', none⟩) n' cap', .int .i64 err'] 24)).below hb1
    clear x0_0 x1_0
    have x0_1c0 := x0_1.cell 0
    have x0_1c1 := x0_1.cell 1
    simp only [List.getElem?_toArray, List.getElem?_cons_zero, List.getElem?_cons_succ] at x0_1c0 x0_1c1
    have x0_1l := x0_1.lt
    have x1_1c0 := x1_1.cell 0
    have x1_1c1 := x1_1.cell 1
    simp only [List.getElem?_toArray, List.getElem?_cons_zero, List.getElem?_cons_succ] at x1_1c0 x1_1c1
    have x1_1l := x1_1.lt
    go_upto_region 4 with fail
    obtain ⟨xc, xf⟩ := xcell (W := w1)
    refine wp_region_quiet_tail 14 (by kernel_rfl) (by kernel_rfl) ?_
    simp only [List.take_succ_cons, List.take_zero, List.drop_succ_cons, List.drop_zero]
    repeat (first | go_big_quiet_step (fail) | quiet_step (fail))
    refine wpQuiet_nil ?_
    intro w50 hb50
    have B50 := B1a.trans (hb1.mono B1a.size)
    clear xc xf
    go_wp2
    exact bodyPost_ret (v := .tuple #[.bool false, .int .i64 0]) (by simp [results, Try.results61, go_sem]) rfl ⟨rfl, B50.trans (hb50.mono B50.size)⟩
  rw [if_pos hee]
  have hq1 : (err == err') = true := by simpa using hee
  have HE2 := Lib.hid hee
  clear hee
  have HEq := Lib.hid (fun A1 n1 cap1 A2 n2 cap2 W (hW : CAt W A1 n1 (thL ks)) (h1 : n1 ≤ 1000) (hW' : CAt W A2 n2 (thL ks')) (h2 : n2 ≤ 1000) => EqualKnots_any A1 A2 n1 cap1 n2 cap2 (thL ks) (thL ks') W hW (by omega) hW' (by omega))
  have HT := Lib.hid (fun W (hW : Kn W b off ks) => thin_any b off cap err ks W hW HV.out)
  have HT' := Lib.hid (fun W (hW : Kn W b' off' ks') => thin_any b' off' cap' err' ks' W hW HV'.out)
  rw [HNn.out] at HT
  rw [HNn'.out] at HT'
  generalize thL ks = R at *
  generalize thL ks' = R' at *
  generalize hW : (w.alloc (.cells #[.slice (some ⟨b, off, none⟩) n cap, .int .i64 err] 24)).alloc (.cells #[.slice (some ⟨b', off', none⟩) n' cap', .int .i64 err'] 24) = W
  have B0 : Below w.heap.size w W := by rw [← hW]; exact (((Below.refl w.heap.size w).alloc (Nat.le_refl _) _).alloc (by simp) _)
  have x0_0 : Blk W w.heap.size 24 #[.slice (some ⟨b, off, none⟩) n cap, .int .i64 err] := by rw [← hW]; exact ((Blk.at_new _ _ rfl).alloc _)
  have x1_0 : Blk W (w.heap.size + 1) 24 #[.slice (some ⟨b', off', none⟩) n' cap', .int .i64 err'] := by rw [← hW]; exact (Blk.at_new _ _ (by simp))
  have HWE := Lib.hid hW
  clear hW
  have HLb := Lib.hid (fun q V (hV : Blk V q 24 #[.slice (some ⟨b, off, none⟩) n cap, .int .i64 err, .slice (some ⟨b', off', none⟩) n' cap', .int .i64 err']) (hb : Below w.heap.size w V) => lat_two hV (HA.out.below hb) hm (HA'.out.below hb) hm')
  go_enter Try.func61, Try.ntmps61
  have B1 := B0
  have B1a := B1.alloc B1.size (.cells #[.slice (some ⟨b, off, none⟩) n cap, .int .i64 err, .slice (some ⟨b', off', none⟩) n' cap', .int .i64 err'] 24)
  go_wp2_with fail
  rw [HWE.out]
  refine (HS.out _ _ (HLb.out _ _ (Blk.at_new (g := w.heap.size + 1 + 1) _ _ (by rw [← HWE.out]; simp)) B1a)).mono ?_; rintro e w1 ⟨rfl, hb1⟩
  have x0_1 := (x0_0.alloc (.cells #[.slice (some ⟨b, off, none⟩) n cap, .int .i64 err, .slice (some ⟨b', off', none⟩) n' cap', .int .i64 err'] 24)).below hb1
  have x1_1 := (x1_0.alloc (.cells #[.slice (some ⟨b, off, none⟩) n cap, .int .i64 err, .slice (some ⟨b', off', none⟩) n' cap', .int .i64 err'] 24)).below hb1
  clear x0_0 x1_0
  have x0_1c0 := x0_1.cell 0
  have x0_1c1 := x0_1.cell 1
  simp only [List.getElem?_toArray, List.getElem?_cons_zero, List.getElem?_cons_succ] at x0_1c0 x0_1c1
  have x0_1l := x0_1.lt
  have x1_1c0 := x1_1.cell 0
  have x1_1c1 := x1_1.cell 1
  simp only [List.getElem?_toArray, List.getElem?_cons_zero, List.getElem?_cons_succ] at x1_1c0 x1_1c1
  have x1_1l := x1_1.lt
  go_upto_region 4 with fail
  have HB0 := Lib.hid (B1a.trans (hb1.mono B1a.size))
  refine wp_region_preG 12 [(7, 21), (8, 22), (10, 24), (11, 25)] (fun ls vs v => thH R err 7 8 ls vs v ∧ thH R' err' 10 11 ls vs v) (by kernel_rfl) (by kernel_rfl) ?h0 ?hP ?ex
  case h0 => intro v _; simp [thH]
  case hP => exact fun ls vs v v' _ h k => ⟨h.1.below k, h.2.below k⟩
  case ex =>
    apply Exists.intro
    refine ⟨?walk, ?loud⟩
    case walk =>
      intro V hV
      have x0_v := x0_1.below hV
      have x0_vc0 := x0_v.cell 0
      have x0_vc1 := x0_v.cell 1
      simp only [List.getElem?_toArray, List.getElem?_cons_zero, List.getElem?_cons_succ] at x0_vc0 x0_vc1
      have x0_vl := x0_v.lt
      have x1_v := x1_1.below hV
      have x1_vc0 := x1_v.cell 0
      have x1_vc1 := x1_v.cell 1
      simp only [List.getElem?_toArray, List.getElem?_cons_zero, List.getElem?_cons_succ] at x1_vc0 x1_vc1
      have x1_vl := x1_v.lt
      obtain ⟨xc, xf⟩ := xcell (W := V)
      simp only [List.take_succ_cons, List.take_zero, qOf, isLoud, List.any_cons, List.any_nil, Nat.reduceBEq, Bool.or_false, Bool.or_true, Nat.reduceAdd, Bool.false_eq_true, if_true, if_false, beq_self_eq_true, Nat.zero_add]
      repeat (first | go_big_quiet_step (fail) | quiet_step (fail))
      exact wpQuiet_nil rfl
    case loud =>
      simp only [List.drop_succ_cons, List.drop_zero]
      refine ⟨?_, ?_⟩
      · rintro p hp vs v ⟨x, rfl⟩ ls ⟨hI, hI'⟩ hls hw o ho
        simp only [List.mem_cons, List.not_mem_nil, or_false] at hp
        rcases hp with rfl | rfl | rfl | rfl
        · simp only [List.getElem?_cons_succ, List.getElem?_cons_zero, Option.some.injEq] at ho
          subst ho
          refine ⟨by simp [Region.wanted, yielded, putsL, Act.put], ?_⟩
          simp [loudAt, loudUpon, go_sem, putsL, Act.put]
          refine (HT.out x.w ((HK.out.below HB0.out).below x.below)).mono ?_
          rintro e w5 ⟨A5, n5, cap5, rfl, hc5, hn5, _, hb5⟩
          exact ⟨_, rfl, Over.of (x.below.trans (hb5.mono x.below.size)), ⟨hI.call hls (by decide) hc5 hn5, (hI'.other (by decide) (by decide)).below hb5⟩⟩
        · have h12 := hw (7, 21) (by simp) (by kernel_rfl)
          simp only [List.getElem?_cons_succ, List.getElem?_cons_zero, Option.some.injEq] at ho
          subst ho
          obtain ⟨A5, n5, cap5, e5, hc5, hn5, hf5⟩ := hI.1 h12
          refine ⟨by simp [Region.wanted, yielded, putsL, Act.put], ?_⟩
          simp [loudAt, loudUpon, go_sem, execOp, putsL, Act.put, e5]
          exact ⟨Over.of x.below, ⟨hI.field h12 (by decide) e5, hI'.other (by decide) (by decide)⟩⟩
        · simp only [List.getElem?_cons_succ, List.getElem?_cons_zero, Option.some.injEq] at ho
          subst ho
          refine ⟨by simp [Region.wanted, yielded, putsL, Act.put], ?_⟩
          simp [loudAt, loudUpon, go_sem, putsL, Act.put]
          refine (HT'.out x.w ((HK'.out.below HB0.out).below x.below)).mono ?_
          rintro e w5 ⟨A5, n5, cap5, rfl, hc5, hn5, _, hb5⟩
          exact ⟨_, rfl, Over.of (x.below.trans (hb5.mono x.below.size)), ⟨(hI.other (by decide) (by decide)).below hb5, hI'.call hls (by decide) hc5 hn5⟩⟩
        · have h12 := hw (10, 24) (by simp) (by kernel_rfl)
          simp only [List.getElem?_cons_succ, List.getElem?_cons_zero, Option.some.injEq] at ho
          subst ho
          obtain ⟨A5, n5, cap5, e5, hc5, hn5, hf5⟩ := hI'.1 h12
          refine ⟨by simp [Region.wanted, yielded, putsL, Act.put], ?_⟩
          simp [loudAt, loudUpon, go_sem, execOp, putsL, Act.put, e5]
          exact ⟨Over.of x.below, ⟨hI.other (by decide) (by decide), hI'.field h12 (by decide) e5⟩⟩
      · rintro ls vs _ ⟨x, rfl⟩ ⟨hI, hI'⟩ hls
        have h21 := hls (7, 21) (by simp)
        have h22 := hls (8, 22) (by simp)
        have h24 := hls (10, 24) (by simp)
        have h25 := hls (11, 25) (by simp)
        obtain ⟨A5, n5, cap5, e5, hc5, hn5, hf5⟩ := hI.1 h21
        obtain ⟨A6, n6, cap6, e6, hc6, hn6, hf6⟩ := hI'.1 h24
        have f5 := hf5 h22
        have f6 := hf6 h25
        clear hI hI' hls h21 h22 h24 h25 hf5 hf6
        simp only [putsL, List.foldl_cons, List.foldl_nil, Act.put, e5, e6, f5, f6, List.setIfInBounds_toArray, List.set_cons_succ, List.set_cons_zero]
        clear e5 e6 f5 f6
        have hxb := x.below
        generalize x.w = vn at *
        have HXB := Lib.hid (HB0.out.trans (hxb.mono HB0.out.size))
        have HC5 := Lib.hid hc5
        have HC6 := Lib.hid hc6
        clear hc5 hc6 hxb
        go_wp2_with fail
        refine (HEq.out _ _ _ _ _ _ _ HC5.out hn5 HC6.out hn6).mono ?_; rintro e w8 ⟨rfl, hb8⟩
        obtain ⟨bq, hbq⟩ : ∃ bq, decide (R = R') = bq := ⟨_, rfl⟩
        rw [hbq]
        have HBQ := Lib.hid hbq
        clear hbq
        go_wp2
        exact bodyPost_ret (v := .tuple #[.bool bq, .int .i64 0]) (by simp [results, Try.results61, go_sem]) rfl ⟨by rw [HBQ.out], (HXB.out.trans (hb8.mono HXB.out.size))⟩

set_option maxRecDepth 100000 in
set_option maxHeartbeats 6400000 in
theorem RSame_any (A A' : Option Addr) (n cap n' cap' : Nat) (err err' : Int) (ks ks' : List (Int × Int)) (w : World) (h : CAt w A n ks) (hm : n ≤ 9223372036854775807) (h' : CAt w A' n' ks') (hm' : n' ≤ 9223372036854775807) :
    Calls Try.prog 62 #[vCv A n cap err, vCv A' n' cap' err'] w fun e w' => e = .returned (.tuple #[.bool (smV ks ks' err err'), .int .i64 (twErr ks ks' err err')]) ∧ Below w.heap.size w w' := by
  have hS := fun W (hW : CAt W A n ks) (hW' : CAt W A' n' ks') => two_any A A' n cap n' cap' err err' ks ks' W hW hm hW' hm'
  have HS := Lib.hid hS
  have HA := Lib.hid h
  have HA' := Lib.hid h'
  have hsm : smV ks ks' err err' = if twErr ks ks' err err' = 0 then (if err = err' then decide (thL ks = thL ks') else false) else false := rfl
  rw [hsm]
  clear hsm
  by_cases hz : twErr ks ks' err err' = 0
  case neg =>
    rw [if_neg hz]
    have hz1 : (twErr ks ks' err err' != 0) = true := by simpa using hz
    clear h h' hz hS
    generalize twErr ks ks' err err' = te at *
    generalize hW : (w.alloc (.cells #[.slice A n cap, .int .i64 err] 24)).alloc (.cells #[.slice A' n' cap', .int .i64 err'] 24) = W
    have B0 : Below w.heap.size w W := by rw [← hW]; exact (((Below.refl w.heap.size w).alloc (Nat.le_refl _) _).alloc (by simp) _)
    have x0_0 : Blk W w.heap.size 24 #[.slice A n cap, .int .i64 err] := by rw [← hW]; exact ((Blk.at_new _ _ rfl).alloc _)
    have x1_0 : Blk W (w.heap.size + 1) 24 #[.slice A' n' cap', .int .i64 err'] := by rw [← hW]; exact (Blk.at_new _ _ (by simp))
    have HWE := Lib.hid hW
    clear hW
    go_enter Try.func62, Try.ntmps62
    have B1 := B0
    go_wp2_with fail
    rw [HWE.out]
    refine (HS.out _ (HA.out.below B1) (HA'.out.below B1)).mono ?_; rintro e w1 ⟨rfl, hb1⟩
    have x0_1 := x0_0.below hb1
    have x1_1 := x1_0.below hb1
    clear x0_0 x1_0
    have x0_1c0 := x0_1.cell 0
    have x0_1c1 := x0_1.cell 1
    simp only [List.getElem?_toArray, List.getElem?_cons_zero, List.getElem?_cons_succ] at x0_1c0 x0_1c1
    have x0_1l := x0_1.lt
    have x1_1c0 := x1_1.cell 0
    have x1_1c1 := x1_1.cell 1
    simp only [List.getElem?_toArray, List.getElem?_cons_zero, List.getElem?_cons_succ] at x1_1c0 x1_1c1
    have x1_1l := x1_1.lt
    go_wp2
    exact bodyPost_ret (v := .tuple #[.bool false, .int .i64 te]) (by simp [results, Try.results62, go_sem]) rfl ⟨rfl, B1.trans (hb1.mono B1.size)⟩
  rw [if_pos hz, hz]
  rw [hz] at hS
  have HS := Lib.hid hS
  clear hS
  obtain ⟨hv, hv', he, he'⟩ := tw_valid hz
  have hkn := h.len
  have hkn' := h'.len
  have hv0 := hv.pos
  have hv0' := hv'.pos
  obtain ⟨b, off, rfl, hkb⟩ := h.at_ (by omega)
  obtain ⟨b', off', rfl, hkb'⟩ := h'.at_ (by omega)
  have HK := Lib.hid hkb
  have HK' := Lib.hid hkb'
  have HV := Lib.hid hv
  have HV' := Lib.hid hv'
  have HNn := Lib.hid hkn
  have HNn' := Lib.hid hkn'
  clear h h' hkb hkb' hv hv' hz hkn hkn' hv0 hv0'
  by_cases hee : err = err'
  case neg =>
    rw [if_neg hee]
    have hq1 : (err == err') = false := by simpa using hee
    clear hee
    generalize hW : (w.alloc (.cells #[.slice (some ⟨b, off, none⟩) n cap, .int .i64 err] 24)).alloc (.cells #[.slice (some ⟨b', off', none⟩) n' cap', .int .i64 err'] 24) = W
    have B0 : Below w.heap.size w W := by rw [← hW]; exact (((Below.refl w.heap.size w).alloc (Nat.le_refl _) _).alloc (by simp) _)
    have x0_0 : Blk W w.heap.size 24 #[.slice (some ⟨b, off, none⟩) n cap, .int .i64 err] := by rw [← hW]; exact ((Blk.at_new _ _ rfl).alloc _)
    have x1_0 : Blk W (w.heap.size + 1) 24 #[.slice (some ⟨b', off', none⟩) n' cap', .int .i64 err'] := by rw [← hW]; exact (Blk.at_new _ _ (by simp))
    have HWE := Lib.hid hW
    clear hW
    go_enter Try.func62, Try.ntmps62
    have B1 := B0
    go_wp2_with fail
    rw [HWE.out]
    refine (HS.out _ (HA.out.below B1) (HA'.out.below B1)).mono ?_; rintro e w1 ⟨rfl, hb1⟩
    have x0_1 := x0_0.below hb1
    have x1_1 := x1_0.below hb1
    clear x0_0 x1_0
    have x0_1c0 := x0_1.cell 0
    have x0_1c1 := x0_1.cell 1
    simp only [List.getElem?_toArray, List.getElem?_cons_zero, List.getElem?_cons_succ] at x0_1c0 x0_1c1
    have x0_1l := x0_1.lt
    have x1_1c0 := x1_1.cell 0
    have x1_1c1 := x1_1.cell 1
    simp only [List.getElem?_toArray, List.getElem?_cons_zero, List.getElem?_cons_succ] at x1_1c0 x1_1c1
    have x1_1l := x1_1.lt
    go_upto_region 4 with fail
    obtain ⟨xc, xf⟩ := xcell (W := w1)
    refine wp_region_quiet_tail 14 (by kernel_rfl) (by kernel_rfl) ?_
    simp only [List.take_succ_cons, List.take_zero, List.drop_succ_cons, List.drop_zero]
    repeat (first | go_big_quiet_step (fail) | quiet_step (fail))
    refine wpQuiet_nil ?_
    intro w50 hb50
    have B50 := B1.trans (hb1.mono B1.size)
    clear xc xf
    go_wp2
    exact bodyPost_ret (v := .tuple #[.bool false, .int .i64 0]) (by simp [results, Try.results62, go_sem]) rfl ⟨rfl, B50.trans (hb50.mono B50.size)⟩
  rw [if_pos hee]
  have hq1 : (err == err') = true := by simpa using hee
  have HE2 := Lib.hid hee
  clear hee
  have HEq := Lib.hid (fun A1 n1 cap1 A2 n2 cap2 W (hW : CAt W A1 n1 (thL ks)) (h1 : n1 ≤ 1000) (hW' : CAt W A2 n2 (thL ks')) (h2 : n2 ≤ 1000) => SameKnots_any A1 A2 n1 cap1 n2 cap2 (thL ks) (thL ks') W hW (by omega) hW' (by omega))
  have HT := Lib.hid (fun W (hW : Kn W b off ks) => Rthin_any b off cap n ks W hW HNn.out HV.out)
  have HT' := Lib.hid (fun W (hW : Kn W b' off' ks') => Rthin_any b' off' cap' n' ks' W hW HNn'.out HV'.out)
  generalize thL ks = R at *
  generalize thL ks' = R' at *
  generalize hW : (w.alloc (.cells #[.slice (some ⟨b, off, none⟩) n cap, .int .i64 err] 24)).alloc (.cells #[.slice (some ⟨b', off', none⟩) n' cap', .int .i64 err'] 24) = W
  have B0 : Below w.heap.size w W := by rw [← hW]; exact (((Below.refl w.heap.size w).alloc (Nat.le_refl _) _).alloc (by simp) _)
  have x0_0 : Blk W w.heap.size 24 #[.slice (some ⟨b, off, none⟩) n cap, .int .i64 err] := by rw [← hW]; exact ((Blk.at_new _ _ rfl).alloc _)
  have x1_0 : Blk W (w.heap.size + 1) 24 #[.slice (some ⟨b', off', none⟩) n' cap', .int .i64 err'] := by rw [← hW]; exact (Blk.at_new _ _ (by simp))
  have HWE := Lib.hid hW
  clear hW
  go_enter Try.func62, Try.ntmps62
  have B1 := B0
  go_wp2_with fail
  rw [HWE.out]
  refine (HS.out _ (HA.out.below B1) (HA'.out.below B1)).mono ?_; rintro e w1 ⟨rfl, hb1⟩
  have x0_1 := x0_0.below hb1
  have x1_1 := x1_0.below hb1
  clear x0_0 x1_0
  have x0_1c0 := x0_1.cell 0
  have x0_1c1 := x0_1.cell 1
  simp only [List.getElem?_toArray, List.getElem?_cons_zero, List.getElem?_cons_succ] at x0_1c0 x0_1c1
  have x0_1l := x0_1.lt
  have x1_1c0 := x1_1.cell 0
  have x1_1c1 := x1_1.cell 1
  simp only [List.getElem?_toArray, List.getElem?_cons_zero, List.getElem?_cons_succ] at x1_1c0 x1_1c1
  have x1_1l := x1_1.lt
  go_upto_region 4 with fail
  have HB0 := Lib.hid (B1.trans (hb1.mono B1.size))
  refine wp_region_preG 12 [(8, 21), (11, 24)] (fun ls vs v => slH R 8 ls vs v ∧ slH R' 11 ls vs v) (by kernel_rfl) (by kernel_rfl) ?h0 ?hP ?ex
  case h0 => intro v _; simp [slH]
  case hP => exact fun ls vs v v' _ h k => ⟨h.1.below k, h.2.below k⟩
  case ex =>
    apply Exists.intro
    refine ⟨?walk, ?loud⟩
    case walk =>
      intro V hV
      have x0_v := x0_1.below hV
      have x0_vc0 := x0_v.cell 0
      have x0_vc1 := x0_v.cell 1
      simp only [List.getElem?_toArray, List.getElem?_cons_zero, List.getElem?_cons_succ] at x0_vc0 x0_vc1
      have x0_vl := x0_v.lt
      have x1_v := x1_1.below hV
      have x1_vc0 := x1_v.cell 0
      have x1_vc1 := x1_v.cell 1
      simp only [List.getElem?_toArray, List.getElem?_cons_zero, List.getElem?_cons_succ] at x1_vc0 x1_vc1
      have x1_vl := x1_v.lt
      obtain ⟨xc, xf⟩ := xcell (W := V)
      simp only [List.take_succ_cons, List.take_zero, qOf, isLoud, List.any_cons, List.any_nil, Nat.reduceBEq, Bool.or_false, Bool.or_true, Nat.reduceAdd, Bool.false_eq_true, if_true, if_false, beq_self_eq_true, Nat.zero_add]
      repeat (first | go_big_quiet_step (fail) | quiet_step (fail))
      exact wpQuiet_nil rfl
    case loud =>
      simp only [List.drop_succ_cons, List.drop_zero]
      refine ⟨?_, ?_⟩
      · rintro p hp vs v ⟨x, rfl⟩ ls ⟨hI, hI'⟩ hls hw o ho
        simp only [List.mem_cons, List.not_mem_nil, or_false] at hp
        rcases hp with rfl | rfl
        · simp only [List.getElem?_cons_succ, List.getElem?_cons_zero, Option.some.injEq] at ho
          subst ho
          refine ⟨by simp [Region.wanted, yielded, putsL, Act.put], ?_⟩
          simp [loudAt, loudUpon, go_sem, putsL, Act.put]
          refine (HT.out x.w ((HK.out.below HB0.out).below x.below)).mono ?_
          rintro e w5 ⟨A5, n5, cap5, rfl, hc5, hn5, hb5⟩
          exact ⟨_, rfl, Over.of (x.below.trans (hb5.mono x.below.size)), ⟨slH.call hc5 hn5, (hI'.other (by decide)).below hb5⟩⟩
        · simp only [List.getElem?_cons_succ, List.getElem?_cons_zero, Option.some.injEq] at ho
          subst ho
          refine ⟨by simp [Region.wanted, yielded, putsL, Act.put], ?_⟩
          simp [loudAt, loudUpon, go_sem, putsL, Act.put]
          refine (HT'.out x.w ((HK'.out.below HB0.out).below x.below)).mono ?_
          rintro e w5 ⟨A5, n5, cap5, rfl, hc5, hn5, hb5⟩
          exact ⟨_, rfl, Over.of (x.below.trans (hb5.mono x.below.size)), ⟨(hI.other (by decide)).below hb5, slH.call hc5 hn5⟩⟩
      · rintro ls vs _ ⟨x, rfl⟩ ⟨hI, hI'⟩ hls
        have h21 := hls (8, 21) (by simp)
        have h24 := hls (11, 24) (by simp)
        obtain ⟨A5, n5, cap5, e5, hc5, hn5⟩ := hI h21
        obtain ⟨A6, n6, cap6, e6, hc6, hn6⟩ := hI' h24
        clear hI hI' hls h21 h24
        simp only [putsL, List.foldl_cons, List.foldl_nil, Act.put, e5, e6, List.setIfInBounds_toArray, List.set_cons_succ, List.set_cons_zero]
        clear e5 e6
        have hxb := x.below
        generalize x.w = vn at *
        have HXB := Lib.hid (HB0.out.trans (hxb.mono HB0.out.size))
        have HC5 := Lib.hid hc5
        have HC6 := Lib.hid hc6
        clear hc5 hc6 hxb
        go_wp2_with fail
        refine (HEq.out _ _ _ _ _ _ _ HC5.out hn5 HC6.out hn6).mono ?_; rintro e w8 ⟨rfl, hb8⟩
        obtain ⟨bq, hbq⟩ : ∃ bq, decide (R = R') = bq := ⟨_, rfl⟩
        rw [hbq]
        have HBQ := Lib.hid hbq
        clear hbq
        go_wp2
        exact bodyPost_ret (v := .tuple #[.bool bq, .int .i64 0]) (by simp [results, Try.results62, go_sem]) rfl ⟨by rw [HBQ.out], (HXB.out.trans (hb8.mono HXB.out.size))⟩
end Go.Proofs.Ytipablcbkoedbaa

namespace Go.Proofs.Ytipablcbkoedbaa
open Go.RowKit Go.WideShapes Go.ChangeShapes Go.Joins

/-- A row of pairs of numbers, whatever its elements' type. -/
theorem cat_of_row {W : World} {base : Nat} {t : TypeId} {v : Value} {zs : List (Int × Int)} (h : W.ownsRow base t 2 v zs.length (zs.flatMap encF)) :
    ∃ A cap, v = .slice A zs.length cap ∧ CAt W A zs.length zs := by
  by_cases h0 : 0 < zs.length
  · obtain ⟨g, cap, rfl⟩ := Joins.ownsRow_form h h0
    refine ⟨some ⟨g, 0, none⟩, cap, rfl, rfl, fun _ => ⟨g, 0, rfl, ?_⟩⟩
    have hf := flat_at 2 encF (fun _ => rfl) zs
    refine ⟨?_, fun j hj => ?_, fun j hj => ?_⟩
    · have := h.lt g rfl
      omega
    · rw [Nat.zero_add, h.cellAt (j * 2) (by omega)]
      have := hf j 0 (0, 0) hj (by omega)
      simpa [encF, kx] using this
    · rw [Nat.zero_add, h.cellAt (j * 2 + 1) (by omega)]
      have := hf j 1 (0, 0) hj (by omega)
      simpa [encF, ky] using this
  · rcases h.2 with ⟨e, _⟩ | ⟨gg, cp, cur, e, _⟩
    · exact ⟨none, 0, by rw [e]; congr 1; omega, rfl, fun h1 => absurd h1 h0⟩
    · exact ⟨_, _, e, rfl, fun h1 => absurd h1 h0⟩
def prOut (mk : Value → Value) (w : World) (R : List (Int × Int)) (m : Nat) (en : Ending) (w' : World) : Prop :=
  ∃ A cap, en = .returned (mk (.slice A m cap)) ∧ CAt w' A m R ∧ Below w.heap.size w w'
theorem Cross_cat (A A' : Option Addr) (n cap n' cap' : Nat) (err err' : Int) (ks ks' : List (Int × Int)) (w : World) (h : CAt w A n ks) (hm : n ≤ 9223372036854775807) (h' : CAt w A' n' ks') (hm' : n' ≤ 9223372036854775807) :
    Calls Try.prog 44 #[vCv A n cap err, vCv A' n' cap' err'] w (prOut (fun v => .tuple #[v, .int .i64 (twErr ks ks' err err')]) w (crV ks ks' err err') (crV ks ks' err err').length) :=
  (Cross_any A A' n cap n' cap' err err' ks ks' w h hm h' hm').mono fun e w' ⟨v, he, hr, hb⟩ => by
    obtain ⟨A1, c1, rfl, hc⟩ := cat_of_row hr
    exact ⟨A1, c1, he, hc, hb⟩
theorem RCross_cat (A A' : Option Addr) (n cap n' cap' : Nat) (err err' : Int) (ks ks' : List (Int × Int)) (w : World) (h : CAt w A n ks) (hm : n ≤ 9223372036854775807) (h' : CAt w A' n' ks') (hm' : n' ≤ 9223372036854775807) :
    Calls Try.prog 59 #[vCv A n cap err, vCv A' n' cap' err'] w (prOut (fun v => .agg #[v, .int .i64 (twErr ks ks' err err')]) w (crV ks ks' err err') (crV ks ks' err err').length) :=
  (RCross_any A A' n cap n' cap' err err' ks ks' w h hm h' hm').mono fun e w' ⟨v, he, hr, hb⟩ => by
    obtain ⟨A1, c1, rfl, hc⟩ := cat_of_row hr
    exact ⟨A1, c1, he, hc, hb⟩
theorem crV_len (ks ks' : List (Int × Int)) (err err' : Int) : (crV ks ks' err err').length ≤ 4000 := by
  unfold crV
  split
  · have := crL_len (twLo ks ks') (twO ks ks') (twHi ks ks' + 1 - twLo ks ks').toNat
    have h1 : 0 ≤ twLo ks ks' := by unfold twLo; omega
    have h2 : twHi ks ks' ≤ 2000 := by unfold twHi; omega
    omega
  · simp
theorem apart_pk (A A' : Option Addr) (n cap n' cap' : Nat) (err err' : Int) (ks ks' : List (Int × Int)) (lo hi : Int) : ∃ a b c d e f g, ∀ w, CAt w A n ks → n ≤ 9223372036854775807 → CAt w A' n' ks' → n' ≤ 9223372036854775807 →
    (Calls Try.prog 51 #[vCv A n cap err, vCv A' n' cap' err', vSpan lo hi] w fun e' w' => e' = .returned (.tuple #[vPeak a b c d e f, .int .i64 g]) ∧ Below w.heap.size w w') ∧
    (Calls Try.prog 58 #[vCv A n cap err, vCv A' n' cap' err', vSpan lo hi] w fun e' w' => e' = .returned (.tuple #[vPeak a b c d e f, .int .i64 g]) ∧ Below w.heap.size w w') :=
  ⟨_, _, _, _, _, _, _, fun w h hm h' hm' => ⟨Apart_any A A' n cap n' cap' err err' ks ks' lo hi w h hm h' hm', RApart_any A A' n cap n' cap' err err' ks ks' lo hi w h hm h' hm'⟩⟩

set_option maxRecDepth 100000 in
set_option maxHeartbeats 6400000 in
theorem curvePairs_walk (A A' : Option Addr) (n cap n' cap' : Nat) (err err' : Int) (ks ks' : List (Int × Int)) (lo hi : Int) (w : World) (h : CAt w A n ks) (hm : n ≤ 9223372036854775807) (h' : CAt w A' n' ks') (hm' : n' ≤ 9223372036854775807) :
    Calls Try.prog 14 #[vCv A n cap err, vCv A' n' cap' err', vSpan lo hi] w fun e w' => e = .returned (.bool true) ∧ Below w.heap.size w w' := by
  have HH := Lib.hid head_any
  have HA := Lib.hid h
  have HA' := Lib.hid h'
  by_cases hn : n ≤ 60
  case neg =>
    have HF := Lib.hid (fun W => calls_val (few_any A n cap err W hm) (v' := .bool false) (by rw [decide_eq_false hn]))
    clear h h'
    generalize hW : ((w.alloc (.cells #[.slice A n cap, .int .i64 err] 24)).alloc (.cells #[.slice A' n' cap', .int .i64 err'] 24)).alloc (.cells #[.int .i64 lo, .int .i64 hi] 26) = W
    have B0 : Below w.heap.size w W := by rw [← hW]; exact ((((Below.refl w.heap.size w).alloc (Nat.le_refl _) _).alloc (by simp) _).alloc (by simp; omega) _)
    have x0_0 : Blk W w.heap.size 24 #[.slice A n cap, .int .i64 err] := by rw [← hW]; exact (((Blk.at_new _ _ rfl).alloc _).alloc _)
    have x1_0 : Blk W (w.heap.size + 1) 24 #[.slice A' n' cap', .int .i64 err'] := by rw [← hW]; exact ((Blk.at_new _ _ (by simp)).alloc _)
    have x2_0 : Blk W (w.heap.size + 2) 26 #[.int .i64 lo, .int .i64 hi] := by rw [← hW]; exact (Blk.at_new _ _ (by simp))
    have HWE := Lib.hid hW
    clear hW
    go_enter Try.func14, Try.ntmps14
    have B1 := B0
    go_wp2_with fail
    rw [HWE.out]
    refine (HH.out _).mono ?_; rintro e w1 ⟨rfl, hb1⟩
    have x0_1 := x0_0.below hb1
    have x1_1 := x1_0.below hb1
    have x2_1 := x2_0.below hb1
    clear x0_0 x1_0 x2_0
    have x0_1c0 := x0_1.cell 0
    have x0_1c1 := x0_1.cell 1
    simp only [List.getElem?_toArray, List.getElem?_cons_zero, List.getElem?_cons_succ] at x0_1c0 x0_1c1
    have x0_1l := x0_1.lt
    have x1_1c0 := x1_1.cell 0
    have x1_1c1 := x1_1.cell 1
    simp only [List.getElem?_toArray, List.getElem?_cons_zero, List.getElem?_cons_succ] at x1_1c0 x1_1c1
    have x1_1l := x1_1.lt
    have x2_1c0 := x2_1.cell 0
    have x2_1c1 := x2_1.cell 1
    simp only [List.getElem?_toArray, List.getElem?_cons_zero, List.getElem?_cons_succ] at x2_1c0 x2_1c1
    have x2_1l := x2_1.lt
    have B2 := B1.trans (hb1.mono B1.size)
    go_wp2_with fail
    refine (HF.out _).mono ?_; rintro e w2 ⟨rfl, hb2⟩
    clear x0_1c0 x0_1c1 x0_1l x1_1c0 x1_1c1 x1_1l x2_1c0 x2_1c1 x2_1l
    have x0_2 := x0_1.below hb2
    have x1_2 := x1_1.below hb2
    have x2_2 := x2_1.below hb2
    clear x0_1 x1_1 x2_1
    have x0_2c0 := x0_2.cell 0
    have x0_2c1 := x0_2.cell 1
    simp only [List.getElem?_toArray, List.getElem?_cons_zero, List.getElem?_cons_succ] at x0_2c0 x0_2c1
    have x0_2l := x0_2.lt
    have x1_2c0 := x1_2.cell 0
    have x1_2c1 := x1_2.cell 1
    simp only [List.getElem?_toArray, List.getElem?_cons_zero, List.getElem?_cons_succ] at x1_2c0 x1_2c1
    have x1_2l := x1_2.lt
    have x2_2c0 := x2_2.cell 0
    have x2_2c1 := x2_2.cell 1
    simp only [List.getElem?_toArray, List.getElem?_cons_zero, List.getElem?_cons_succ] at x2_2c0 x2_2c1
    have x2_2l := x2_2.lt
    go_wp2
    go_ret
    exact ⟨rfl, B2.trans (hb2.mono B2.size)⟩
  have HF := Lib.hid (fun W => calls_val (few_any A n cap err W hm) (v' := .bool true) (by rw [decide_eq_true hn]))
  by_cases hn' : n' ≤ 60
  case neg =>
    have HF' := Lib.hid (fun W => calls_val (few_any A' n' cap' err' W hm') (v' := .bool false) (by rw [decide_eq_false hn']))
    clear h h'
    generalize hW : ((w.alloc (.cells #[.slice A n cap, .int .i64 err] 24)).alloc (.cells #[.slice A' n' cap', .int .i64 err'] 24)).alloc (.cells #[.int .i64 lo, .int .i64 hi] 26) = W
    have B0 : Below w.heap.size w W := by rw [← hW]; exact ((((Below.refl w.heap.size w).alloc (Nat.le_refl _) _).alloc (by simp) _).alloc (by simp; omega) _)
    have x0_0 : Blk W w.heap.size 24 #[.slice A n cap, .int .i64 err] := by rw [← hW]; exact (((Blk.at_new _ _ rfl).alloc _).alloc _)
    have x1_0 : Blk W (w.heap.size + 1) 24 #[.slice A' n' cap', .int .i64 err'] := by rw [← hW]; exact ((Blk.at_new _ _ (by simp)).alloc _)
    have x2_0 : Blk W (w.heap.size + 2) 26 #[.int .i64 lo, .int .i64 hi] := by rw [← hW]; exact (Blk.at_new _ _ (by simp))
    have HWE := Lib.hid hW
    clear hW
    go_enter Try.func14, Try.ntmps14
    have B1 := B0
    go_wp2_with fail
    rw [HWE.out]
    refine (HH.out _).mono ?_; rintro e w1 ⟨rfl, hb1⟩
    have x0_1 := x0_0.below hb1
    have x1_1 := x1_0.below hb1
    have x2_1 := x2_0.below hb1
    clear x0_0 x1_0 x2_0
    have x0_1c0 := x0_1.cell 0
    have x0_1c1 := x0_1.cell 1
    simp only [List.getElem?_toArray, List.getElem?_cons_zero, List.getElem?_cons_succ] at x0_1c0 x0_1c1
    have x0_1l := x0_1.lt
    have x1_1c0 := x1_1.cell 0
    have x1_1c1 := x1_1.cell 1
    simp only [List.getElem?_toArray, List.getElem?_cons_zero, List.getElem?_cons_succ] at x1_1c0 x1_1c1
    have x1_1l := x1_1.lt
    have x2_1c0 := x2_1.cell 0
    have x2_1c1 := x2_1.cell 1
    simp only [List.getElem?_toArray, List.getElem?_cons_zero, List.getElem?_cons_succ] at x2_1c0 x2_1c1
    have x2_1l := x2_1.lt
    have B2 := B1.trans (hb1.mono B1.size)
    go_wp2_with fail
    refine (HF.out _).mono ?_; rintro e w2 ⟨rfl, hb2⟩
    clear x0_1c0 x0_1c1 x0_1l x1_1c0 x1_1c1 x1_1l x2_1c0 x2_1c1 x2_1l
    have x0_2 := x0_1.below hb2
    have x1_2 := x1_1.below hb2
    have x2_2 := x2_1.below hb2
    clear x0_1 x1_1 x2_1
    have x0_2c0 := x0_2.cell 0
    have x0_2c1 := x0_2.cell 1
    simp only [List.getElem?_toArray, List.getElem?_cons_zero, List.getElem?_cons_succ] at x0_2c0 x0_2c1
    have x0_2l := x0_2.lt
    have x1_2c0 := x1_2.cell 0
    have x1_2c1 := x1_2.cell 1
    simp only [List.getElem?_toArray, List.getElem?_cons_zero, List.getElem?_cons_succ] at x1_2c0 x1_2c1
    have x1_2l := x1_2.lt
    have x2_2c0 := x2_2.cell 0
    have x2_2c1 := x2_2.cell 1
    simp only [List.getElem?_toArray, List.getElem?_cons_zero, List.getElem?_cons_succ] at x2_2c0 x2_2c1
    have x2_2l := x2_2.lt
    have B3 := B2.trans (hb2.mono B2.size)
    go_wp2_with fail
    refine (HF'.out _).mono ?_; rintro e w3 ⟨rfl, hb3⟩
    clear x0_2c0 x0_2c1 x0_2l x1_2c0 x1_2c1 x1_2l x2_2c0 x2_2c1 x2_2l
    have x0_3 := x0_2.below hb3
    have x1_3 := x1_2.below hb3
    have x2_3 := x2_2.below hb3
    clear x0_2 x1_2 x2_2
    have x0_3c0 := x0_3.cell 0
    have x0_3c1 := x0_3.cell 1
    simp only [List.getElem?_toArray, List.getElem?_cons_zero, List.getElem?_cons_succ] at x0_3c0 x0_3c1
    have x0_3l := x0_3.lt
    have x1_3c0 := x1_3.cell 0
    have x1_3c1 := x1_3.cell 1
    simp only [List.getElem?_toArray, List.getElem?_cons_zero, List.getElem?_cons_succ] at x1_3c0 x1_3c1
    have x1_3l := x1_3.lt
    have x2_3c0 := x2_3.cell 0
    have x2_3c1 := x2_3.cell 1
    simp only [List.getElem?_toArray, List.getElem?_cons_zero, List.getElem?_cons_succ] at x2_3c0 x2_3c1
    have x2_3l := x2_3.lt
    go_wp2
    go_ret
    exact ⟨rfl, B3.trans (hb3.mono B3.size)⟩
  have HF' := Lib.hid (fun W => calls_val (few_any A' n' cap' err' W hm') (v' := .bool true) (by rw [decide_eq_true hn']))
  obtain ⟨a1, a2, a3, a4, a5, a6, ae, hap⟩ := apart_pk A A' n cap n' cap' err err' ks ks' lo hi
  have HAp := Lib.hid (fun W (hW : CAt W A n ks) (hW' : CAt W A' n' ks') => (hap W hW hm hW' hm').1)
  have HRAp := Lib.hid (fun W (hW : CAt W A n ks) (hW' : CAt W A' n' ks') => (hap W hW hm hW' hm').2)
  clear hap
  have HCr := Lib.hid (fun W (hW : CAt W A n ks) (hW' : CAt W A' n' ks') => Cross_cat A A' n cap n' cap' err err' ks ks' W hW hm hW' hm')
  have HRCr := Lib.hid (fun W (hW : CAt W A n ks) (hW' : CAt W A' n' ks') => RCross_cat A A' n cap n' cap' err err' ks ks' W hW hm hW' hm')
  have hcl : ∀ W, CAt W A n ks → CAt W A' n' ks' → Calls Try.prog 57 #[vCv A n cap err, vCv A' n' cap' err'] W (fun e w' => e = .returned (.tuple #[.int .i64 ((clX ks ks' err err').getD 0), .bool (clX ks ks' err err').isSome, .int .i64 (twErr ks ks' err err')]) ∧ Below W.heap.size W w') := fun W hW hW' => Clash_any A A' n cap n' cap' err err' ks ks' W hW hm hW' hm'
  have HCl := Lib.hid hcl
  clear hcl
  have HRCl := Lib.hid (fun W (hW : CAt W A n ks) (hW' : CAt W A' n' ks') => RClash_any A A' n cap n' cap' err err' ks ks' W hW hm hW' hm')
  have HSm := Lib.hid (fun W (hW : CAt W A n ks) (hW' : CAt W A' n' ks') => Same_any A A' n cap n' cap' err err' ks ks' W hW hm hW' hm')
  have HRSm := Lib.hid (fun W (hW : CAt W A n ks) (hW' : CAt W A' n' ks') => RSame_any A A' n cap n' cap' err err' ks ks' W hW hm hW' hm')
  have hmr := crV_len ks ks' err err'
  generalize crV ks ks' err err' = R at *
  generalize R.length = m at *
  generalize (clX ks ks' err err').getD 0 = z at *
  generalize (clX ks ks' err err').isSome = zb at *
  generalize smV ks ks' err err' = sm at *
  generalize twErr ks ks' err err' = te at *
  clear h h'
  generalize hW : ((w.alloc (.cells #[.slice A n cap, .int .i64 err] 24)).alloc (.cells #[.slice A' n' cap', .int .i64 err'] 24)).alloc (.cells #[.int .i64 lo, .int .i64 hi] 26) = W
  have B0 : Below w.heap.size w W := by rw [← hW]; exact ((((Below.refl w.heap.size w).alloc (Nat.le_refl _) _).alloc (by simp) _).alloc (by simp; omega) _)
  have x0_0 : Blk W w.heap.size 24 #[.slice A n cap, .int .i64 err] := by rw [← hW]; exact (((Blk.at_new _ _ rfl).alloc _).alloc _)
  have x1_0 : Blk W (w.heap.size + 1) 24 #[.slice A' n' cap', .int .i64 err'] := by rw [← hW]; exact ((Blk.at_new _ _ (by simp)).alloc _)
  have x2_0 : Blk W (w.heap.size + 2) 26 #[.int .i64 lo, .int .i64 hi] := by rw [← hW]; exact (Blk.at_new _ _ (by simp))
  have HWE := Lib.hid hW
  clear hW
  go_enter Try.func14, Try.ntmps14
  have B1 := B0
  go_wp2_with fail
  rw [HWE.out]
  refine (HH.out _).mono ?_; rintro e w1 ⟨rfl, hb1⟩
  have x0_1 := x0_0.below hb1
  have x1_1 := x1_0.below hb1
  have x2_1 := x2_0.below hb1
  clear x0_0 x1_0 x2_0
  have x0_1c0 := x0_1.cell 0
  have x0_1c1 := x0_1.cell 1
  simp only [List.getElem?_toArray, List.getElem?_cons_zero, List.getElem?_cons_succ] at x0_1c0 x0_1c1
  have x0_1l := x0_1.lt
  have x1_1c0 := x1_1.cell 0
  have x1_1c1 := x1_1.cell 1
  simp only [List.getElem?_toArray, List.getElem?_cons_zero, List.getElem?_cons_succ] at x1_1c0 x1_1c1
  have x1_1l := x1_1.lt
  have x2_1c0 := x2_1.cell 0
  have x2_1c1 := x2_1.cell 1
  simp only [List.getElem?_toArray, List.getElem?_cons_zero, List.getElem?_cons_succ] at x2_1c0 x2_1c1
  have x2_1l := x2_1.lt
  have B2 := B1.trans (hb1.mono B1.size)
  go_wp2_with fail
  refine (HF.out _).mono ?_; rintro e w2 ⟨rfl, hb2⟩
  clear x0_1c0 x0_1c1 x0_1l x1_1c0 x1_1c1 x1_1l x2_1c0 x2_1c1 x2_1l
  have x0_2 := x0_1.below hb2
  have x1_2 := x1_1.below hb2
  have x2_2 := x2_1.below hb2
  clear x0_1 x1_1 x2_1
  have x0_2c0 := x0_2.cell 0
  have x0_2c1 := x0_2.cell 1
  simp only [List.getElem?_toArray, List.getElem?_cons_zero, List.getElem?_cons_succ] at x0_2c0 x0_2c1
  have x0_2l := x0_2.lt
  have x1_2c0 := x1_2.cell 0
  have x1_2c1 := x1_2.cell 1
  simp only [List.getElem?_toArray, List.getElem?_cons_zero, List.getElem?_cons_succ] at x1_2c0 x1_2c1
  have x1_2l := x1_2.lt
  have x2_2c0 := x2_2.cell 0
  have x2_2c1 := x2_2.cell 1
  simp only [List.getElem?_toArray, List.getElem?_cons_zero, List.getElem?_cons_succ] at x2_2c0 x2_2c1
  have x2_2l := x2_2.lt
  have B3 := B2.trans (hb2.mono B2.size)
  go_wp2_with fail
  refine (HF'.out _).mono ?_; rintro e w3 ⟨rfl, hb3⟩
  clear x0_2c0 x0_2c1 x0_2l x1_2c0 x1_2c1 x1_2l x2_2c0 x2_2c1 x2_2l
  have x0_3 := x0_2.below hb3
  have x1_3 := x1_2.below hb3
  have x2_3 := x2_2.below hb3
  clear x0_2 x1_2 x2_2
  have x0_3c0 := x0_3.cell 0
  have x0_3c1 := x0_3.cell 1
  simp only [List.getElem?_toArray, List.getElem?_cons_zero, List.getElem?_cons_succ] at x0_3c0 x0_3c1
  have x0_3l := x0_3.lt
  have x1_3c0 := x1_3.cell 0
  have x1_3c1 := x1_3.cell 1
  simp only [List.getElem?_toArray, List.getElem?_cons_zero, List.getElem?_cons_succ] at x1_3c0 x1_3c1
  have x1_3l := x1_3.lt
  have x2_3c0 := x2_3.cell 0
  have x2_3c1 := x2_3.cell 1
  simp only [List.getElem?_toArray, List.getElem?_cons_zero, List.getElem?_cons_succ] at x2_3c0 x2_3c1
  have x2_3l := x2_3.lt
  have B4 := B3.trans (hb3.mono B3.size)
  go_wp2_with fail
  refine (HAp.out _ (HA.out.below B4) (HA'.out.below B4)).mono ?_; rintro e w4 ⟨rfl, hb4⟩
  clear x0_3c0 x0_3c1 x0_3l x1_3c0 x1_3c1 x1_3l x2_3c0 x2_3c1 x2_3l
  have x0_4 := x0_3.below hb4
  have x1_4 := x1_3.below hb4
  have x2_4 := x2_3.below hb4
  clear x0_3 x1_3 x2_3
  have x0_4c0 := x0_4.cell 0
  have x0_4c1 := x0_4.cell 1
  simp only [List.getElem?_toArray, List.getElem?_cons_zero, List.getElem?_cons_succ] at x0_4c0 x0_4c1
  have x0_4l := x0_4.lt
  have x1_4c0 := x1_4.cell 0
  have x1_4c1 := x1_4.cell 1
  simp only [List.getElem?_toArray, List.getElem?_cons_zero, List.getElem?_cons_succ] at x1_4c0 x1_4c1
  have x1_4l := x1_4.lt
  have x2_4c0 := x2_4.cell 0
  have x2_4c1 := x2_4.cell 1
  simp only [List.getElem?_toArray, List.getElem?_cons_zero, List.getElem?_cons_succ] at x2_4c0 x2_4c1
  have x2_4l := x2_4.lt
  have B5 := B4.trans (hb4.mono B4.size)
  have B5a := B5.alloc B5.size (.cells #[.int .i64 a1, .int .i64 a2, .int .i64 a3, .int .i64 a4, .int .i64 a5, .int .i64 a6] 40)
  go_wp2_with fail
  refine (HRAp.out _ (HA.out.below B5a) (HA'.out.below B5a)).mono ?_; rintro e w5 ⟨rfl, hb5⟩
  clear x0_4c0 x0_4c1 x0_4l x1_4c0 x1_4c1 x1_4l x2_4c0 x2_4c1 x2_4l
  have x0_5 := (x0_4.alloc (.cells #[.int .i64 a1, .int .i64 a2, .int .i64 a3, .int .i64 a4, .int .i64 a5, .int .i64 a6] 40)).below hb5
  have x1_5 := (x1_4.alloc (.cells #[.int .i64 a1, .int .i64 a2, .int .i64 a3, .int .i64 a4, .int .i64 a5, .int .i64 a6] 40)).below hb5
  have x2_5 := (x2_4.alloc (.cells #[.int .i64 a1, .int .i64 a2, .int .i64 a3, .int .i64 a4, .int .i64 a5, .int .i64 a6] 40)).below hb5
  clear x0_4 x1_4 x2_4
  have p_5 := (Blk.new w4 40 #[.int .i64 a1, .int .i64 a2, .int .i64 a3, .int .i64 a4, .int .i64 a5, .int .i64 a6]).below hb5
  have x0_5c0 := x0_5.cell 0
  have x0_5c1 := x0_5.cell 1
  simp only [List.getElem?_toArray, List.getElem?_cons_zero, List.getElem?_cons_succ] at x0_5c0 x0_5c1
  have x0_5l := x0_5.lt
  have x1_5c0 := x1_5.cell 0
  have x1_5c1 := x1_5.cell 1
  simp only [List.getElem?_toArray, List.getElem?_cons_zero, List.getElem?_cons_succ] at x1_5c0 x1_5c1
  have x1_5l := x1_5.lt
  have x2_5c0 := x2_5.cell 0
  have x2_5c1 := x2_5.cell 1
  simp only [List.getElem?_toArray, List.getElem?_cons_zero, List.getElem?_cons_succ] at x2_5c0 x2_5c1
  have x2_5l := x2_5.lt
  have p_5c0 := p_5.cell 0
  have p_5c1 := p_5.cell 1
  have p_5c2 := p_5.cell 2
  have p_5c3 := p_5.cell 3
  have p_5c4 := p_5.cell 4
  have p_5c5 := p_5.cell 5
  simp only [List.getElem?_toArray, List.getElem?_cons_zero, List.getElem?_cons_succ] at p_5c0 p_5c1 p_5c2 p_5c3 p_5c4 p_5c5
  have p_5l := p_5.lt
  have B6 := B5a.trans (hb5.mono B5a.size)
  have B6a := B6.alloc B6.size (.cells #[.int .i64 a1, .int .i64 a2, .int .i64 a3, .int .i64 a4, .int .i64 a5, .int .i64 a6] 40)
  go_wp2_with fail
  refine (HCr.out _ (HA.out.below B6a) (HA'.out.below B6a)).mono ?_; rintro e w6 ⟨A0_, cap0_, rfl, hC0, hb6⟩
  clear x0_5c0 x0_5c1 x0_5l x1_5c0 x1_5c1 x1_5l x2_5c0 x2_5c1 x2_5l p_5c0 p_5c1 p_5c2 p_5c3 p_5c4 p_5c5 p_5l
  have x0_6 := (x0_5.alloc (.cells #[.int .i64 a1, .int .i64 a2, .int .i64 a3, .int .i64 a4, .int .i64 a5, .int .i64 a6] 40)).below hb6
  have x1_6 := (x1_5.alloc (.cells #[.int .i64 a1, .int .i64 a2, .int .i64 a3, .int .i64 a4, .int .i64 a5, .int .i64 a6] 40)).below hb6
  have x2_6 := (x2_5.alloc (.cells #[.int .i64 a1, .int .i64 a2, .int .i64 a3, .int .i64 a4, .int .i64 a5, .int .i64 a6] 40)).below hb6
  have p_6 := (p_5.alloc (.cells #[.int .i64 a1, .int .i64 a2, .int .i64 a3, .int .i64 a4, .int .i64 a5, .int .i64 a6] 40)).below hb6
  clear x0_5 x1_5 x2_5 p_5
  have q_6 := (Blk.new w5 40 #[.int .i64 a1, .int .i64 a2, .int .i64 a3, .int .i64 a4, .int .i64 a5, .int .i64 a6]).below hb6
  have x0_6c0 := x0_6.cell 0
  have x0_6c1 := x0_6.cell 1
  simp only [List.getElem?_toArray, List.getElem?_cons_zero, List.getElem?_cons_succ] at x0_6c0 x0_6c1
  have x0_6l := x0_6.lt
  have x1_6c0 := x1_6.cell 0
  have x1_6c1 := x1_6.cell 1
  simp only [List.getElem?_toArray, List.getElem?_cons_zero, List.getElem?_cons_succ] at x1_6c0 x1_6c1
  have x1_6l := x1_6.lt
  have x2_6c0 := x2_6.cell 0
  have x2_6c1 := x2_6.cell 1
  simp only [List.getElem?_toArray, List.getElem?_cons_zero, List.getElem?_cons_succ] at x2_6c0 x2_6c1
  have x2_6l := x2_6.lt
  have p_6c0 := p_6.cell 0
  have p_6c1 := p_6.cell 1
  have p_6c2 := p_6.cell 2
  have p_6c3 := p_6.cell 3
  have p_6c4 := p_6.cell 4
  have p_6c5 := p_6.cell 5
  simp only [List.getElem?_toArray, List.getElem?_cons_zero, List.getElem?_cons_succ] at p_6c0 p_6c1 p_6c2 p_6c3 p_6c4 p_6c5
  have p_6l := p_6.lt
  have q_6c0 := q_6.cell 0
  have q_6c1 := q_6.cell 1
  have q_6c2 := q_6.cell 2
  have q_6c3 := q_6.cell 3
  have q_6c4 := q_6.cell 4
  have q_6c5 := q_6.cell 5
  simp only [List.getElem?_toArray, List.getElem?_cons_zero, List.getElem?_cons_succ] at q_6c0 q_6c1 q_6c2 q_6c3 q_6c4 q_6c5
  have q_6l := q_6.lt
  have HC0 := Lib.hid hC0
  clear hC0
  have B7 := B6a.trans (hb6.mono B6a.size)
  go_wp2_with fail
  refine (HRCr.out _ (HA.out.below B7) (HA'.out.below B7)).mono ?_; rintro e w7 ⟨A1_, cap1_, rfl, hC1, hb7⟩
  clear x0_6c0 x0_6c1 x0_6l x1_6c0 x1_6c1 x1_6l x2_6c0 x2_6c1 x2_6l p_6c0 p_6c1 p_6c2 p_6c3 p_6c4 p_6c5 p_6l q_6c0 q_6c1 q_6c2 q_6c3 q_6c4 q_6c5 q_6l
  have x0_7 := x0_6.below hb7
  have x1_7 := x1_6.below hb7
  have x2_7 := x2_6.below hb7
  have p_7 := p_6.below hb7
  have q_7 := q_6.below hb7
  clear x0_6 x1_6 x2_6 p_6 q_6
  have x0_7c0 := x0_7.cell 0
  have x0_7c1 := x0_7.cell 1
  simp only [List.getElem?_toArray, List.getElem?_cons_zero, List.getElem?_cons_succ] at x0_7c0 x0_7c1
  have x0_7l := x0_7.lt
  have x1_7c0 := x1_7.cell 0
  have x1_7c1 := x1_7.cell 1
  simp only [List.getElem?_toArray, List.getElem?_cons_zero, List.getElem?_cons_succ] at x1_7c0 x1_7c1
  have x1_7l := x1_7.lt
  have x2_7c0 := x2_7.cell 0
  have x2_7c1 := x2_7.cell 1
  simp only [List.getElem?_toArray, List.getElem?_cons_zero, List.getElem?_cons_succ] at x2_7c0 x2_7c1
  have x2_7l := x2_7.lt
  have p_7c0 := p_7.cell 0
  have p_7c1 := p_7.cell 1
  have p_7c2 := p_7.cell 2
  have p_7c3 := p_7.cell 3
  have p_7c4 := p_7.cell 4
  have p_7c5 := p_7.cell 5
  simp only [List.getElem?_toArray, List.getElem?_cons_zero, List.getElem?_cons_succ] at p_7c0 p_7c1 p_7c2 p_7c3 p_7c4 p_7c5
  have p_7l := p_7.lt
  have q_7c0 := q_7.cell 0
  have q_7c1 := q_7.cell 1
  have q_7c2 := q_7.cell 2
  have q_7c3 := q_7.cell 3
  have q_7c4 := q_7.cell 4
  have q_7c5 := q_7.cell 5
  simp only [List.getElem?_toArray, List.getElem?_cons_zero, List.getElem?_cons_succ] at q_7c0 q_7c1 q_7c2 q_7c3 q_7c4 q_7c5
  have q_7l := q_7.lt
  have HC1 := Lib.hid hC1
  clear hC1
  have B8 := B7.trans (hb7.mono B7.size)
  have B8a := B8.alloc B8.size (.cells #[.slice A1_ m cap1_, .int .i64 te] 84)
  go_wp2_with fail
  refine (HCl.out _ (HA.out.below B8a) (HA'.out.below B8a)).mono ?_; rintro e w8 ⟨rfl, hb8⟩
  clear x0_7c0 x0_7c1 x0_7l x1_7c0 x1_7c1 x1_7l x2_7c0 x2_7c1 x2_7l p_7c0 p_7c1 p_7c2 p_7c3 p_7c4 p_7c5 p_7l q_7c0 q_7c1 q_7c2 q_7c3 q_7c4 q_7c5 q_7l
  have x0_8 := (x0_7.alloc (.cells #[.slice A1_ m cap1_, .int .i64 te] 84)).below hb8
  have x1_8 := (x1_7.alloc (.cells #[.slice A1_ m cap1_, .int .i64 te] 84)).below hb8
  have x2_8 := (x2_7.alloc (.cells #[.slice A1_ m cap1_, .int .i64 te] 84)).below hb8
  have p_8 := (p_7.alloc (.cells #[.slice A1_ m cap1_, .int .i64 te] 84)).below hb8
  have q_8 := (q_7.alloc (.cells #[.slice A1_ m cap1_, .int .i64 te] 84)).below hb8
  clear x0_7 x1_7 x2_7 p_7 q_7
  have sp_8 := (Blk.new w7 84 #[.slice A1_ m cap1_, .int .i64 te]).below hb8
  have x0_8c0 := x0_8.cell 0
  have x0_8c1 := x0_8.cell 1
  simp only [List.getElem?_toArray, List.getElem?_cons_zero, List.getElem?_cons_succ] at x0_8c0 x0_8c1
  have x0_8l := x0_8.lt
  have x1_8c0 := x1_8.cell 0
  have x1_8c1 := x1_8.cell 1
  simp only [List.getElem?_toArray, List.getElem?_cons_zero, List.getElem?_cons_succ] at x1_8c0 x1_8c1
  have x1_8l := x1_8.lt
  have x2_8c0 := x2_8.cell 0
  have x2_8c1 := x2_8.cell 1
  simp only [List.getElem?_toArray, List.getElem?_cons_zero, List.getElem?_cons_succ] at x2_8c0 x2_8c1
  have x2_8l := x2_8.lt
  have p_8c0 := p_8.cell 0
  have p_8c1 := p_8.cell 1
  have p_8c2 := p_8.cell 2
  have p_8c3 := p_8.cell 3
  have p_8c4 := p_8.cell 4
  have p_8c5 := p_8.cell 5
  simp only [List.getElem?_toArray, List.getElem?_cons_zero, List.getElem?_cons_succ] at p_8c0 p_8c1 p_8c2 p_8c3 p_8c4 p_8c5
  have p_8l := p_8.lt
  have q_8c0 := q_8.cell 0
  have q_8c1 := q_8.cell 1
  have q_8c2 := q_8.cell 2
  have q_8c3 := q_8.cell 3
  have q_8c4 := q_8.cell 4
  have q_8c5 := q_8.cell 5
  simp only [List.getElem?_toArray, List.getElem?_cons_zero, List.getElem?_cons_succ] at q_8c0 q_8c1 q_8c2 q_8c3 q_8c4 q_8c5
  have q_8l := q_8.lt
  have sp_8c0 := sp_8.cell 0
  have sp_8c1 := sp_8.cell 1
  simp only [List.getElem?_toArray, List.getElem?_cons_zero, List.getElem?_cons_succ] at sp_8c0 sp_8c1
  have sp_8l := sp_8.lt
  have B9 := B8a.trans (hb8.mono B8a.size)
  go_wp2_with fail
  refine (HRCl.out _ (HA.out.below B9) (HA'.out.below B9)).mono ?_; rintro e w9 ⟨rfl, hb9⟩
  clear x0_8c0 x0_8c1 x0_8l x1_8c0 x1_8c1 x1_8l x2_8c0 x2_8c1 x2_8l p_8c0 p_8c1 p_8c2 p_8c3 p_8c4 p_8c5 p_8l q_8c0 q_8c1 q_8c2 q_8c3 q_8c4 q_8c5 q_8l sp_8c0 sp_8c1 sp_8l
  have x0_9 := x0_8.below hb9
  have x1_9 := x1_8.below hb9
  have x2_9 := x2_8.below hb9
  have p_9 := p_8.below hb9
  have q_9 := q_8.below hb9
  have sp_9 := sp_8.below hb9
  clear x0_8 x1_8 x2_8 p_8 q_8 sp_8
  have x0_9c0 := x0_9.cell 0
  have x0_9c1 := x0_9.cell 1
  simp only [List.getElem?_toArray, List.getElem?_cons_zero, List.getElem?_cons_succ] at x0_9c0 x0_9c1
  have x0_9l := x0_9.lt
  have x1_9c0 := x1_9.cell 0
  have x1_9c1 := x1_9.cell 1
  simp only [List.getElem?_toArray, List.getElem?_cons_zero, List.getElem?_cons_succ] at x1_9c0 x1_9c1
  have x1_9l := x1_9.lt
  have x2_9c0 := x2_9.cell 0
  have x2_9c1 := x2_9.cell 1
  simp only [List.getElem?_toArray, List.getElem?_cons_zero, List.getElem?_cons_succ] at x2_9c0 x2_9c1
  have x2_9l := x2_9.lt
  have p_9c0 := p_9.cell 0
  have p_9c1 := p_9.cell 1
  have p_9c2 := p_9.cell 2
  have p_9c3 := p_9.cell 3
  have p_9c4 := p_9.cell 4
  have p_9c5 := p_9.cell 5
  simp only [List.getElem?_toArray, List.getElem?_cons_zero, List.getElem?_cons_succ] at p_9c0 p_9c1 p_9c2 p_9c3 p_9c4 p_9c5
  have p_9l := p_9.lt
  have q_9c0 := q_9.cell 0
  have q_9c1 := q_9.cell 1
  have q_9c2 := q_9.cell 2
  have q_9c3 := q_9.cell 3
  have q_9c4 := q_9.cell 4
  have q_9c5 := q_9.cell 5
  simp only [List.getElem?_toArray, List.getElem?_cons_zero, List.getElem?_cons_succ] at q_9c0 q_9c1 q_9c2 q_9c3 q_9c4 q_9c5
  have q_9l := q_9.lt
  have sp_9c0 := sp_9.cell 0
  have sp_9c1 := sp_9.cell 1
  simp only [List.getElem?_toArray, List.getElem?_cons_zero, List.getElem?_cons_succ] at sp_9c0 sp_9c1
  have sp_9l := sp_9.lt
  have B10 := B9.trans (hb9.mono B9.size)
  have B10a := B10.alloc B10.size (.cells #[.int .i64 z, .bool zb, .int .i64 te] 87)
  go_wp2_with fail
  refine (HSm.out _ (HA.out.below B10a) (HA'.out.below B10a)).mono ?_; rintro e w10 ⟨rfl, hb10⟩
  clear x0_9c0 x0_9c1 x0_9l x1_9c0 x1_9c1 x1_9l x2_9c0 x2_9c1 x2_9l p_9c0 p_9c1 p_9c2 p_9c3 p_9c4 p_9c5 p_9l q_9c0 q_9c1 q_9c2 q_9c3 q_9c4 q_9c5 q_9l sp_9c0 sp_9c1 sp_9l
  have x0_10 := (x0_9.alloc (.cells #[.int .i64 z, .bool zb, .int .i64 te] 87)).below hb10
  have x1_10 := (x1_9.alloc (.cells #[.int .i64 z, .bool zb, .int .i64 te] 87)).below hb10
  have x2_10 := (x2_9.alloc (.cells #[.int .i64 z, .bool zb, .int .i64 te] 87)).below hb10
  have p_10 := (p_9.alloc (.cells #[.int .i64 z, .bool zb, .int .i64 te] 87)).below hb10
  have q_10 := (q_9.alloc (.cells #[.int .i64 z, .bool zb, .int .i64 te] 87)).below hb10
  have sp_10 := (sp_9.alloc (.cells #[.int .i64 z, .bool zb, .int .i64 te] 87)).below hb10
  clear x0_9 x1_9 x2_9 p_9 q_9 sp_9
  have cl_10 := (Blk.new w9 87 #[.int .i64 z, .bool zb, .int .i64 te]).below hb10
  have x0_10c0 := x0_10.cell 0
  have x0_10c1 := x0_10.cell 1
  simp only [List.getElem?_toArray, List.getElem?_cons_zero, List.getElem?_cons_succ] at x0_10c0 x0_10c1
  have x0_10l := x0_10.lt
  have x1_10c0 := x1_10.cell 0
  have x1_10c1 := x1_10.cell 1
  simp only [List.getElem?_toArray, List.getElem?_cons_zero, List.getElem?_cons_succ] at x1_10c0 x1_10c1
  have x1_10l := x1_10.lt
  have x2_10c0 := x2_10.cell 0
  have x2_10c1 := x2_10.cell 1
  simp only [List.getElem?_toArray, List.getElem?_cons_zero, List.getElem?_cons_succ] at x2_10c0 x2_10c1
  have x2_10l := x2_10.lt
  have p_10c0 := p_10.cell 0
  have p_10c1 := p_10.cell 1
  have p_10c2 := p_10.cell 2
  have p_10c3 := p_10.cell 3
  have p_10c4 := p_10.cell 4
  have p_10c5 := p_10.cell 5
  simp only [List.getElem?_toArray, List.getElem?_cons_zero, List.getElem?_cons_succ] at p_10c0 p_10c1 p_10c2 p_10c3 p_10c4 p_10c5
  have p_10l := p_10.lt
  have q_10c0 := q_10.cell 0
  have q_10c1 := q_10.cell 1
  have q_10c2 := q_10.cell 2
  have q_10c3 := q_10.cell 3
  have q_10c4 := q_10.cell 4
  have q_10c5 := q_10.cell 5
  simp only [List.getElem?_toArray, List.getElem?_cons_zero, List.getElem?_cons_succ] at q_10c0 q_10c1 q_10c2 q_10c3 q_10c4 q_10c5
  have q_10l := q_10.lt
  have sp_10c0 := sp_10.cell 0
  have sp_10c1 := sp_10.cell 1
  simp only [List.getElem?_toArray, List.getElem?_cons_zero, List.getElem?_cons_succ] at sp_10c0 sp_10c1
  have sp_10l := sp_10.lt
  have cl_10c0 := cl_10.cell 0
  have cl_10c1 := cl_10.cell 1
  have cl_10c2 := cl_10.cell 2
  simp only [List.getElem?_toArray, List.getElem?_cons_zero, List.getElem?_cons_succ] at cl_10c0 cl_10c1 cl_10c2
  have cl_10l := cl_10.lt
  have B11 := B10a.trans (hb10.mono B10a.size)
  go_wp2_with fail
  refine (HRSm.out _ (HA.out.below B11) (HA'.out.below B11)).mono ?_; rintro e w11 ⟨rfl, hb11⟩
  clear x0_10c0 x0_10c1 x0_10l x1_10c0 x1_10c1 x1_10l x2_10c0 x2_10c1 x2_10l p_10c0 p_10c1 p_10c2 p_10c3 p_10c4 p_10c5 p_10l q_10c0 q_10c1 q_10c2 q_10c3 q_10c4 q_10c5 q_10l sp_10c0 sp_10c1 sp_10l cl_10c0 cl_10c1 cl_10c2 cl_10l
  have x0_11 := x0_10.below hb11
  have x1_11 := x1_10.below hb11
  have x2_11 := x2_10.below hb11
  have p_11 := p_10.below hb11
  have q_11 := q_10.below hb11
  have sp_11 := sp_10.below hb11
  have cl_11 := cl_10.below hb11
  clear x0_10 x1_10 x2_10 p_10 q_10 sp_10 cl_10
  have x0_11c0 := x0_11.cell 0
  have x0_11c1 := x0_11.cell 1
  simp only [List.getElem?_toArray, List.getElem?_cons_zero, List.getElem?_cons_succ] at x0_11c0 x0_11c1
  have x0_11l := x0_11.lt
  have x1_11c0 := x1_11.cell 0
  have x1_11c1 := x1_11.cell 1
  simp only [List.getElem?_toArray, List.getElem?_cons_zero, List.getElem?_cons_succ] at x1_11c0 x1_11c1
  have x1_11l := x1_11.lt
  have x2_11c0 := x2_11.cell 0
  have x2_11c1 := x2_11.cell 1
  simp only [List.getElem?_toArray, List.getElem?_cons_zero, List.getElem?_cons_succ] at x2_11c0 x2_11c1
  have x2_11l := x2_11.lt
  have p_11c0 := p_11.cell 0
  have p_11c1 := p_11.cell 1
  have p_11c2 := p_11.cell 2
  have p_11c3 := p_11.cell 3
  have p_11c4 := p_11.cell 4
  have p_11c5 := p_11.cell 5
  simp only [List.getElem?_toArray, List.getElem?_cons_zero, List.getElem?_cons_succ] at p_11c0 p_11c1 p_11c2 p_11c3 p_11c4 p_11c5
  have p_11l := p_11.lt
  have q_11c0 := q_11.cell 0
  have q_11c1 := q_11.cell 1
  have q_11c2 := q_11.cell 2
  have q_11c3 := q_11.cell 3
  have q_11c4 := q_11.cell 4
  have q_11c5 := q_11.cell 5
  simp only [List.getElem?_toArray, List.getElem?_cons_zero, List.getElem?_cons_succ] at q_11c0 q_11c1 q_11c2 q_11c3 q_11c4 q_11c5
  have q_11l := q_11.lt
  have sp_11c0 := sp_11.cell 0
  have sp_11c1 := sp_11.cell 1
  simp only [List.getElem?_toArray, List.getElem?_cons_zero, List.getElem?_cons_succ] at sp_11c0 sp_11c1
  have sp_11l := sp_11.lt
  have cl_11c0 := cl_11.cell 0
  have cl_11c1 := cl_11.cell 1
  have cl_11c2 := cl_11.cell 2
  simp only [List.getElem?_toArray, List.getElem?_cons_zero, List.getElem?_cons_succ] at cl_11c0 cl_11c1 cl_11c2
  have cl_11l := cl_11.lt
  have HQ0 := Lib.hid ((((((((HC0.out).below hb7).below ((Below.refl _ _).alloc (Nat.le_refl _) _)).below hb8).below hb9).below ((Below.refl _ _).alloc (Nat.le_refl _) _)).below hb10).below hb11)
  have HQ1 := Lib.hid (((((((HC1.out).below ((Below.refl _ _).alloc (Nat.le_refl _) _)).below hb8).below hb9).below ((Below.refl _ _).alloc (Nat.le_refl _) _)).below hb10).below hb11)
  have HS := Lib.hid (calls_val2 (SameSpans_any A0_ A1_ m cap0_ m cap1_ R R w11 HQ0.out (by omega) HQ1.out (by omega)) (v' := .bool true) (by simp))
  have B12 := B11.trans (hb11.mono B11.size)
  go_wp2_with fail
  refine (HS.out).mono ?_; rintro e w12 ⟨rfl, hb12⟩
  clear x0_11c0 x0_11c1 x0_11l x1_11c0 x1_11c1 x1_11l x2_11c0 x2_11c1 x2_11l p_11c0 p_11c1 p_11c2 p_11c3 p_11c4 p_11c5 p_11l q_11c0 q_11c1 q_11c2 q_11c3 q_11c4 q_11c5 q_11l sp_11c0 sp_11c1 sp_11l cl_11c0 cl_11c1 cl_11c2 cl_11l
  have x0_12 := x0_11.below hb12
  have x1_12 := x1_11.below hb12
  have x2_12 := x2_11.below hb12
  have p_12 := p_11.below hb12
  have q_12 := q_11.below hb12
  have sp_12 := sp_11.below hb12
  have cl_12 := cl_11.below hb12
  clear x0_11 x1_11 x2_11 p_11 q_11 sp_11 cl_11
  have x0_12c0 := x0_12.cell 0
  have x0_12c1 := x0_12.cell 1
  simp only [List.getElem?_toArray, List.getElem?_cons_zero, List.getElem?_cons_succ] at x0_12c0 x0_12c1
  have x0_12l := x0_12.lt
  have x1_12c0 := x1_12.cell 0
  have x1_12c1 := x1_12.cell 1
  simp only [List.getElem?_toArray, List.getElem?_cons_zero, List.getElem?_cons_succ] at x1_12c0 x1_12c1
  have x1_12l := x1_12.lt
  have x2_12c0 := x2_12.cell 0
  have x2_12c1 := x2_12.cell 1
  simp only [List.getElem?_toArray, List.getElem?_cons_zero, List.getElem?_cons_succ] at x2_12c0 x2_12c1
  have x2_12l := x2_12.lt
  have p_12c0 := p_12.cell 0
  have p_12c1 := p_12.cell 1
  have p_12c2 := p_12.cell 2
  have p_12c3 := p_12.cell 3
  have p_12c4 := p_12.cell 4
  have p_12c5 := p_12.cell 5
  simp only [List.getElem?_toArray, List.getElem?_cons_zero, List.getElem?_cons_succ] at p_12c0 p_12c1 p_12c2 p_12c3 p_12c4 p_12c5
  have p_12l := p_12.lt
  have q_12c0 := q_12.cell 0
  have q_12c1 := q_12.cell 1
  have q_12c2 := q_12.cell 2
  have q_12c3 := q_12.cell 3
  have q_12c4 := q_12.cell 4
  have q_12c5 := q_12.cell 5
  simp only [List.getElem?_toArray, List.getElem?_cons_zero, List.getElem?_cons_succ] at q_12c0 q_12c1 q_12c2 q_12c3 q_12c4 q_12c5
  have q_12l := q_12.lt
  have sp_12c0 := sp_12.cell 0
  have sp_12c1 := sp_12.cell 1
  simp only [List.getElem?_toArray, List.getElem?_cons_zero, List.getElem?_cons_succ] at sp_12c0 sp_12c1
  have sp_12l := sp_12.lt
  have cl_12c0 := cl_12.cell 0
  have cl_12c1 := cl_12.cell 1
  have cl_12c2 := cl_12.cell 2
  simp only [List.getElem?_toArray, List.getElem?_cons_zero, List.getElem?_cons_succ] at cl_12c0 cl_12c1 cl_12c2
  have cl_12l := cl_12.lt
  go_wp2
  go_ret
  exact ⟨by simp, B12.trans (hb12.mono B12.size)⟩

set_option maxRecDepth 100000 in
theorem curvePairs_lifted (os : Os) (started : os.Started) (H : Type) (enc : TypeId × Value → H) :
    ReturnsInHanded Rows.curvePairsRow.assume Try.checked os 14 .any (Rows.curvePairsSpec.pre6 enc Try.prog Try.f14 Rows.curvePairsRow.domain false) (Rows.curvePairsSpec.post enc Try.prog Try.f14 false Rows.curvePairsRow.fresh Rows.curvePairsRow.handsOn Rows.curvePairsRow.again) := by
  refine returnsInHanded_of_change (C := Try.checked) (by kernel_rfl) started (by kernel_rfl) Try.func14
    (ChangeSpec.witness6 (enc := enc) (C := Try.checked) false ⟨#[], #[vCv none 0 0 0, vCv none 0 0 0, vSpan 0 0], []⟩ 8 (by kernel_rfl) (by kernel_rfl) (by kernel_rfl) (by kernel_rfl)) ?_
  intro W base args ds gs before hval0 hW hcnd _
  have hval : ∀ (j : Nat) t v, Try.f14.params[j]? = some t → args[j]? = some v → Value.okWide Try.prog W .any base t v := hval0
  have hW' := hW
  obtain ⟨p, q, hA0, hV, rfl, hfz, hnd⟩ := hW
  obtain ⟨rfl, rfl⟩ := trodVars_none hV
  have hA : DataW.TrodAll enc Try.prog W 0 (fun _ => true) true [24, 24, 26] args.toList ds p := hA0
  obtain ⟨v0, v1, v2, d0, d1, d2, p0, p1, p2, rfl, rfl, rfl, h0, h1, h2⟩ := trodAll_three hA
  obtain ⟨A, n, cap, err, ks, rfl, hC, hm, _, _, rfl⟩ := open_cv (hval 0 24 v0 rfl rfl) h0
  obtain ⟨A', n', cap', err', ks', rfl, hC', hm', _, _, rfl⟩ := open_cv (hval 1 24 v1 rfl rfl) h1
  obtain ⟨lo, hi, rfl, hlo, hhi, _, rfl⟩ := open_sp (hval 2 26 v2 rfl rfl) h2
  refine (curvePairs_walk A A' n cap n' cap' err err' ks ks' lo hi W hC hm hC' hm').mono fun e W' ⟨he, hb⟩ => ⟨_, he, law_post laid_out (by kernel_rfl) rfl Try.underlying4 rfl hW' rfl rfl rfl hb⟩

theorem curvePairs : Rows.CurvePairsSaid :=
  OpenClaim.holds_of_wide 14 Try.f14 rfl rfl rfl rfl rfl rfl rfl ⟨rfl, rfl, rfl, rfl, rfl⟩ rfl rfl rfl rfl rfl (by kernel_rfl) Try.func14 (by kernel_rfl)
    (of_decide_eq_true (by kernel_rfl)) (by unfold Func.isWrapper; first | (rw [if_pos (by decide +kernel)]; kernel_rfl) | (rw [if_neg (by decide +kernel)]; exact ⟨rfl, rfl⟩))
    (fun os started H enc _ => curvePairs_lifted os started H enc)
#print axioms curvePairs

end Go.Proofs.Ytipablcbkoedbaa
