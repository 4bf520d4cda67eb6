/- The last step of a row: the call returned true and left the old memory as it was. The arguments of TopMassesAreTrue, opened: a ship, hydrometers, loadings, sights. -/
import Derived.Below
import Derived.ChangeSame
import Derived.Carry
import Derived.OpenShut
import Derived.Handed
import Derived.Lib.RowBridge
import Derived.Lib.SmallJoins
import Derived.Deep.Slices
import Derived.Deep.Fields
import Derived.ChangeSlices
import Derived.Test.YtgojpgggbflgoaaGreatChecked
import Derived.Test.YtgojpgggbflgoaaGreatRows
import Derived.Test.YtgojpgggbflgoaaGreatTop14
namespace Go.Proofs.YtgojpgggbflgoaaGreat
open Go.RowKit Go.WideShapes Go.ChangeShapes

section
variable {H : Type} {enc : TypeId × Value → H} {P : Program}
theorem trodAll_keep (hl : laidOutB P = true) {W W' : World} (hb : Below W.heap.size W W') (sp : Nat → Bool) : ∀ {ts : List TypeId} {vs : List Value} {ds : List (DataW H)} {ps : List MemPlace},
    (∀ t ∈ ts, P.readableRec t = true ∧ t < P.types.size) → (∀ x ∈ ps, x.block < W.heap.size) → (∀ x ∈ ps, sp x.block = true) → DataW.TrodAll enc P W 0 (fun _ => true) true ts vs ds ps → DataW.TrodAll enc P W' 0 sp true ts vs ds ps
  | [], _, _, _, _, _, _, h => by
    obtain ⟨rfl, rfl, rfl⟩ := trodAll_nil h
    exact trodAll_mk0
  | t :: ts, _, _, _, hr, hlt, hsp, h => by
    obtain ⟨v, vs', d, ds', p, q, rfl, rfl, rfl, h1, h2⟩ := trodAll_cons h
    have hp : ∀ x ∈ p, x.block < W.heap.size := fun x hx => hlt x (List.mem_append_left _ hx)
    exact trodAll_cons_mk (WideElems.Trod_stays hl (hr t List.mem_cons_self).1 (hr t List.mem_cons_self).2 h1 (fun x hx => hb.same (hp x hx)) (fun x hx => hsp x (List.mem_append_left _ hx)))
      (trodAll_keep hl hb sp (fun t' ht => hr t' (List.mem_cons_of_mem _ ht)) (fun x hx => hlt x (List.mem_append_right _ hx)) (fun x hx => hsp x (List.mem_append_right _ hx)) h2)

/-- **A law's row, at its end.** -/
theorem law_post {f : Func} {s : ChangeSpec} {fresh handsOn again : Bool} {W W' : World} {args : Array Value} {ds gs : List (DataW H)} {before : List MemPlace} {tb : TypeId}
    (hl : laidOutB P = true) (hr : f.params.toList.all (fun t => P.readableRec t && decide (t < P.types.size)) = true) (hres : f.resultTypes = #[tb]) (htb : P.underlying tb = some .bool)
    (hvars : s.vars = []) (hW : DataW.Whole enc P f.params.toList s.vars false W args.toList ds gs before)
    (hs1 : (s.fn H (ds ++ gs)).results = [.lit (.bool true)]) (hs2 : (s.fn H (ds ++ gs)).args = ds) (hs3 : (s.fn H (ds ++ gs)).vars = []) (hb : Below W.heap.size W W') :
    s.post enc P f false fresh handsOn again W args (.bool true) W' := by
  have hlt : ∀ p ∈ before, p.block < W.heap.size := fun p hp => hW.lt p hp
  have hold : ∀ p ∈ before, (fun b => decide (b < W.heap.size)) p.block = true := fun p hp => by simpa using hlt p hp
  have hW0 := hW
  obtain ⟨p, q, hA, hV, rfl, hz, hn⟩ := hW
  rw [hvars] at hV
  obtain ⟨rfl, rfl⟩ := trodVars_none hV
  simp only [List.append_nil] at hlt hold hz
  have hread : ∀ t ∈ f.params.toList, P.readableRec t = true ∧ t < P.types.size := fun t ht => by
    have := List.all_eq_true.1 hr t ht
    simpa using this
  have hargs : ∀ sp : Nat → Bool, (∀ x ∈ p, sp x.block = true) → DataW.TrodAll enc P W' 0 sp true f.params.toList args.toList (s.fn H (ds ++ [])).args p := fun sp hsp => by
    rw [hs2]; exact trodAll_keep hl hb sp hread hlt hsp hA
  have hrs : ∀ (b : Nat) (sp : Nat → Bool) (hd : Bool), DataW.TrodAll enc P W' b sp hd f.resultTypes.toList ((Value.bool true).resultList f.resultTypes.size) (s.fn H (ds ++ [])).results [] := fun b sp hd => by
    rw [hs1, hres]; exact trodAll_mk1 (shut_bool htb true)
  have hvs : ∀ sp : Nat → Bool, DataW.TrodVars enc P W' sp s.vars (s.fn H (ds ++ [])).vars [] := fun sp => by
    rw [hvars, hs3]; rfl
  refine ⟨ds, [], p ++ [], [], p, [], hW0, hrs _ _ _, hargs _ (by simpa using hold), hvs _, World.keptBut_mono (fun x hx => ⟨hx, ?_⟩) (hb.frame (· ∈ p ++ [])), fun _ => ?_⟩
  · simpa using hx
  · refine ⟨?_, _, _, ([] ++ p) ++ [], ⟨[] ++ p, [], trodAll_append (hargs _ (fun _ _ => rfl)) (hrs _ _ _), hvs _, rfl, ?_, ?_⟩, ?_⟩
    · exact ok_one hres rfl (okWide_bool_mk htb true)
    · intro b off hp
      have hin : MemPlace.cell b off ∈ p := by simpa using hp
      rw [hb.frozen (hlt _ hin)]
      exact hz b off hin
    · intro ha
      cases ha
    · intro x hx _
      simpa using hx
end
end Go.Proofs.YtgojpgggbflgoaaGreat

namespace Go.Proofs.YtgojpgggbflgoaaGreat
open Go.RowKit Go.WideShapes Go.ChangeShapes Go.Joins Go.Deep

theorem laid_out : laidOutB Tryz.prog = true := by kernel_rfl
theorem wf_i64 {n : Int} (h : (Lit.int .i64 n).wf = true) : -9223372036854775808 ≤ n ∧ n ≤ 9223372036854775807 := by
  simp [Lit.wf, IntKind.min, IntKind.max, IntKind.signed, IntKind.bits] at h
  omega
theorem cell_lt {w : World} {a : Addr} {v : Value} (h : w.cell? a = some v) : a.block < w.heap.size ∧ a.spot = none := by
  unfold World.cell? at h
  split at h
  · rename_i c t f hb
    split at h
    · cases h
    · rename_i hs
      exact ⟨(Array.getElem?_eq_some_iff.1 hb).1, by cases he : a.spot <;> simp_all⟩
  · cases h
theorem addr_none {a : Addr} (h : a.spot = none) : a = ⟨a.block, a.off, none⟩ := by cases a; simp_all
theorem add_at {b off n : Nat} : (⟨b, off, none⟩ : Addr).add n = ⟨b, off + n, none⟩ := by
  unfold Addr.add; split
  · rename_i h; subst h; rfl
  · rfl
section
variable {H : Type} {enc : TypeId × Value → H} {w : World} {base : Nat} {spare : Nat → Bool} {held : Bool}
set_option maxRecDepth 100000 in
theorem span_parts {n : Nat} {cs : List Value} {z : DataW H × List MemPlace} (hl : cs.length = 2) (ht : DataW.trod enc Tryz.prog w base spare held n 43 cs = some z) : ∃ x y : Int, cs = [.int .i64 x, .int .i64 y] := by
  obtain ⟨y0, y1, m, _, _, h0, h1⟩ := trod_struct2 Tryz.underlying43 ht
  match cs, hl with
  | [u, v], _ =>
    have hone : Tryz.prog.cellsOf 3 = 1 := by kernel_rfl
    obtain ⟨x, ex, _⟩ := DataW.trod_int (cs := [u]) Tryz.underlying3 (by simpa [hone] using h0)
    obtain ⟨y, ey, _⟩ := DataW.trod_int (cs := [v]) Tryz.underlying3 (by simpa [hone] using h1)
    simp only [List.cons.injEq, and_true] at ex ey
    subst ex ey
    exact ⟨x, y, rfl⟩
theorem list_of {α : Type} (d : α) (p : Nat → α → Prop) : ∀ n, (∀ i, i < n → ∃ c, p i c) → ∃ l : List α, l.length = n ∧ ∀ i, i < n → p i (l.getD i d)
  | 0, _ => ⟨[], rfl, fun i h => absurd h (by omega)⟩
  | n + 1, h => by
    obtain ⟨l, hl, hp⟩ := list_of d p n fun i hi => h i (by omega)
    obtain ⟨c, hc⟩ := h n (by omega)
    refine ⟨l ++ [c], by simp [hl], fun i hi => ?_⟩
    by_cases e : i = n
    · subst e
      have : (l ++ [c]).getD i d = c := by simp [List.getD_eq_getElem?_getD, ← hl]
      rw [this]; exact hc
    · have : (l ++ [c]).getD i d = l.getD i d := by
        simp only [List.getD_eq_getElem?_getD]
        rw [List.getElem?_append_left (by omega)]
      rw [this]; exact hp i (by omega)
set_option maxRecDepth 100000 in
/-- A slice of things reads as a list. -/
theorem open_rows {α : Type} (e : α → List Value) (he : ∀ x, 0 < (e x).length) (d : α) {k : Nat} {ts te : TypeId} (hts : Tryz.prog.underlying ts = some (.slice te)) (hte : Tryz.prog.cellsOf te = k)
    (hcell : ∀ {a : Addr} {n : Nat} {cs' : List Value} {z : DataW H × List MemPlace}, w.cells? base a k = some cs' → DataW.trod enc Tryz.prog w base spare held n te cs' = some z → ∃ x : α, ∀ j v, (e x)[j]? = some v → w.cell? (a.add j) = some v)
    {fuel : Nat} {cs : List Value} {x : DataW H × List MemPlace} (h : DataW.trod enc Tryz.prog w base spare held fuel ts cs = some x) :
    ∃ (A : Option Addr) (n cap : Nat) (l : List α), cs = [.slice A n cap] ∧ SAt e k w A n l ∧ n ≤ 9223372036854775807 ∧ n ≤ cap := by
  rcases open_slice hts h with ⟨e0, _⟩ | ⟨a, len, cap, m, n, D, Pl, e0, hb, hl, hc, hm, _, hf⟩
  · exact ⟨none, 0, 0, [], e0, ⟨rfl, fun h => absurd h (by omega)⟩, by omega, Nat.le_refl _⟩
  · have hlm : len ≤ m := by rw [hm]; split <;> omega
    have hcl : len ≤ 9223372036854775807 := by unfold maxLen at hc; omega
    rw [hte] at hf
    obtain ⟨l, hlen, hall⟩ := list_of d (fun i x => ∀ j v, (e x)[j]? = some v → w.cell? ((a.add (i * k)).add j) = some v) len fun i hi => by
      obtain ⟨cs', hc', ht'⟩ := hf i (by omega)
      exact hcell hc' ht'
    refine ⟨some a, len, cap, l, e0, ⟨hlen, fun h0 => ?_⟩, hcl, by omega⟩
    have h00 := hall 0 h0 0 _ (List.getElem?_eq_getElem (he _))
    simp only [Nat.zero_mul] at h00
    rw [show (a.add 0).add 0 = a from rfl] at h00
    obtain ⟨hlt, hsp⟩ := cell_lt h00
    have ha := addr_none hsp
    generalize a.block = b at *
    generalize a.off = off at *
    subst ha
    refine ⟨b, off, rfl, hlt, fun i x hi j v hv => ?_⟩
    have hil : i < l.length := (List.getElem?_eq_some_iff.1 hi).1
    have hx : l.getD i d = x := by rw [List.getD_eq_getElem?_getD, hi]; rfl
    have := hall i (by omega) j v (by rw [hx]; exact hv)
    rw [add_at, add_at] at this
    exact this
set_option maxRecDepth 100000 in
theorem int_cells {a : Addr} {n : Nat} {cs' : List Value} {z : DataW H × List MemPlace} (hc : w.cells? base a 1 = some cs') (ht : DataW.trod enc Tryz.prog w base spare held n 3 cs' = some z) :
    ∃ x : Int, ∀ j v, (encI x)[j]? = some v → w.cell? (a.add j) = some v := by
  obtain ⟨_, hl, hat⟩ := World.cells?_some hc
  match cs', hl with
  | [c0], _ =>
    obtain ⟨i, e0, _⟩ := DataW.trod_int (cs := [c0]) Tryz.underlying3 ht
    simp only [List.cons.injEq, and_true] at e0
    subst e0
    refine ⟨i, fun j v hj => ?_⟩
    have hj1 : j < 1 := (List.getElem?_eq_some_iff.1 hj).1
    have := hat j (by omega)
    rw [this]
    simpa [encI] using hj
set_option maxRecDepth 100000 in
theorem open_ns {fuel : Nat} {cs : List Value} {x : DataW H × List MemPlace} (h : DataW.trod enc Tryz.prog w base spare held fuel 32 cs = some x) :
    ∃ (A : Option Addr) (n cap : Nat) (l : List Int), cs = [.slice A n cap] ∧ SAt encI 1 w A n l ∧ n ≤ 9223372036854775807 ∧ n ≤ cap :=
  open_rows encI (fun x => by rw [encI_len]; decide) default Tryz.underlying32 (by kernel_rfl) int_cells h
set_option maxRecDepth 100000 in
/-- A slice of numbers, by value. -/
theorem open_is {r : Reach} {b0 : Nat} {v : Value} {d : DataW H} {p : List MemPlace} (hv : Value.okWide Tryz.prog w r b0 32 v) (h : DataW.Trod enc Tryz.prog w base spare held 32 v d p) :
    ∃ (A : Option Addr) (n cap : Nat) (l : List Int), v = .slice A n cap ∧ SAt encI 1 w A n l ∧ n ≤ 9223372036854775807 ∧ n ≤ cap := by
  obtain ⟨A, n, cap, rfl⟩ := okWide_slice Tryz.underlying32 hv
  obtain ⟨fuel, hf⟩ := h
  obtain ⟨A', n', c', l, e, h1, h2, h3⟩ := open_ns hf
  have hcs : (Value.slice A n cap).cells.toList = [.slice A n cap] := rfl
  rw [hcs] at e
  simp only [List.cons.injEq, and_true] at e
  exact ⟨A', n', c', l, e, h1, h2, h3⟩
set_option maxRecDepth 100000 in
/-- A knot in memory. -/
theorem knot_cells {a : Addr} {n : Nat} {cs' : List Value} {z : DataW H × List MemPlace} (hc : w.cells? base a 2 = some cs') (ht : DataW.trod enc Tryz.prog w base spare held n 97 cs' = some z) :
    ∃ x y : Int, w.cell? a = some (.int .i64 x) ∧ w.cell? (a.add 1) = some (.int .i64 y) := by
  obtain ⟨_, hl, hat⟩ := World.cells?_some hc
  obtain ⟨y0, y1, m, _, _, h0, h1⟩ := trod_struct2 Tryz.underlying97 ht
  match cs', hl with
  | [u, v], _ =>
    have c0 := hat 0 (by omega)
    have c1 := hat 1 (by omega)
    have hone : Tryz.prog.cellsOf 3 = 1 := by kernel_rfl
    obtain ⟨x, ex, _⟩ := DataW.trod_int (cs := [u]) Tryz.underlying3 (by simpa [hone] using h0)
    obtain ⟨y, ey, _⟩ := DataW.trod_int (cs := [v]) Tryz.underlying3 (by simpa [hone] using h1)
    simp only [List.cons.injEq, and_true] at ex ey
    subst ex ey
    exact ⟨x, y, by simpa [Addr.add] using c0, by simpa using c1⟩

def rdInt (w : World) (a : Addr) : Int := match w.cell? a with | some (.int _ n) => n | _ => 0
theorem rdInt_of {w : World} {a : Addr} {n : Int} (h : w.cell? a = some (.int .i64 n)) : rdInt w a = n := by unfold rdInt; rw [h]
/-- The knots that lie from an address on. -/
def rdKs (w : World) (a : Addr) (len : Nat) : List (Int × Int) := (List.range len).map fun i => (rdInt w (a.add (i * 2)), rdInt w (a.add (i * 2 + 1)))
theorem rdKs_at (w : World) (a : Addr) (len i : Nat) (h : i < len) : (rdKs w a len).getD i (0, 0) = (rdInt w (a.add (i * 2)), rdInt w (a.add (i * 2 + 1))) := by
  unfold rdKs
  simp [List.getD_eq_getElem?_getD, h]

set_option maxRecDepth 100000 in
/-- A slice of knots reads as a list. -/
theorem open_knots {fuel : Nat} {cs : List Value} {x : DataW H × List MemPlace} (h : DataW.trod enc Tryz.prog w base spare held fuel 23 cs = some x) :
    ∃ (A : Option Addr) (n cap : Nat) (ks : List (Int × Int)), cs = [.slice A n cap] ∧ CAt w A n ks ∧ n ≤ 9223372036854775807 := by
  rcases open_slice Tryz.underlying23 h with ⟨e0, _⟩ | ⟨a, len, cap, m, n, D, Pl, e0, hb, hl, hc, hm, _, hf⟩
  · exact ⟨none, 0, 0, [], e0, ⟨rfl, fun h => absurd h (by omega)⟩, by omega⟩
  · have hlm : len ≤ m := by rw [hm]; split <;> omega
    have hcl : len ≤ 9223372036854775807 := by unfold maxLen at hc; omega
    rw [show Tryz.prog.cellsOf 97 = 2 by kernel_rfl] at hf
    refine ⟨some a, len, cap, rdKs w a len, e0, ⟨by simp [rdKs], fun h0 => ?_⟩, hcl⟩
    have hall : ∀ i, i < len → w.cell? (a.add (i * 2)) = some (.int .i64 (rdInt w (a.add (i * 2)))) ∧ w.cell? (a.add (i * 2 + 1)) = some (.int .i64 (rdInt w (a.add (i * 2 + 1)))) := fun i hi => by
      obtain ⟨cs', hc', ht'⟩ := hf i (by omega)
      obtain ⟨p, q, h1, h2⟩ := knot_cells hc' ht'
      rw [add_add] at h2
      exact ⟨by rw [rdInt_of h1]; exact h1, by rw [rdInt_of h2]; exact h2⟩
    have h00 := (hall 0 h0).1
    simp only [Nat.zero_mul] at h00
    rw [show a.add 0 = a from rfl] at h00
    obtain ⟨hlt, hsp⟩ := cell_lt h00
    have ha := addr_none hsp
    generalize a.block = b at *
    generalize a.off = off at *
    subst ha
    refine ⟨b, off, rfl, hlt, fun i hi => ?_, fun i hi => ?_⟩
    · have hi' : i < len := by simpa [rdKs] using hi
      unfold kx
      rw [rdKs_at _ _ _ _ hi', ← (hall i hi').1, add_at]
    · have hi' : i < len := by simpa [rdKs] using hi
      unfold ky
      rw [rdKs_at _ _ _ _ hi', ← (hall i hi').2, add_at, Nat.add_assoc]
theorem cons_of {α : Type} {l : List α} (n : Nat) (h : l.length = n + 1) : ∃ a r, l = a :: r ∧ r.length = n :=
  match l, h with
  | a :: r, h => ⟨a, r, rfl, by simpa using h⟩
theorem nil_of {α : Type} {l : List α} (h : l.length = 0) : l = [] := List.eq_nil_of_length_eq_zero h
/-- The fields of a struct, each with its reading. -/
theorem trod_fields {t : TypeId} {fs : Array Field} {fuel : Nat} {cs : List Value} {x : DataW H × List MemPlace} (ht : Tryz.prog.underlying t = some (.struct fs)) (h : DataW.trod enc Tryz.prog w base spare held fuel t cs = some x) :
    ∃ n e, x.1 = .agg e ∧ cs.length = Tryz.prog.cellsOf t ∧ ∀ (i : Nat) (f : Field), fs[i]? = some f → ∃ z, DataW.trod enc Tryz.prog w base spare held n f.type ((cs.drop f.offset).take (Tryz.prog.cellsOf f.type)) = some z := by
  obtain ⟨xs, n, _, rfl, hl, hlen, hf⟩ := DataW.trod_struct ht h
  refine ⟨n, _, rfl, hl, fun i f hi => ?_⟩
  have hlt : i < xs.length := by rw [hlen]; exact (Array.getElem?_eq_some_iff.1 hi).1
  exact ⟨xs[i], by rw [hf i f hi]; exact List.getElem?_eq_getElem hlt⟩
theorem trod_elems {t e : TypeId} {k fuel : Nat} {cs : List Value} {x : DataW H × List MemPlace} (ht : Tryz.prog.underlying t = some (.array k e)) (h : DataW.trod enc Tryz.prog w base spare held fuel t cs = some x) :
    ∃ n, ∀ i, i < k → ∃ z, DataW.trod enc Tryz.prog w base spare held n e ((cs.drop (i * Tryz.prog.cellsOf e)).take (Tryz.prog.cellsOf e)) = some z := by
  obtain ⟨xs, n, _, rfl, hl, hlen, hf⟩ := DataW.trod_array ht h
  exact ⟨n, fun i hi => ⟨xs[i]'(by omega), by rw [hf i hi]; exact List.getElem?_eq_getElem (by omega)⟩⟩
theorem one_int : Tryz.prog.cellsOf 3 = 1 := by kernel_rfl
theorem one_bool : Tryz.prog.cellsOf 4 = 1 := by kernel_rfl
theorem two_span : Tryz.prog.cellsOf 43 = 2 := by kernel_rfl
theorem two_curve : Tryz.prog.cellsOf 25 = 2 := by kernel_rfl
theorem one_holds : Tryz.prog.cellsOf 22 = 1 := by kernel_rfl
theorem c_survey : Tryz.prog.cellsOf 62 = 18 := by kernel_rfl
theorem c_m6 : Tryz.prog.cellsOf 72 = 6 := by kernel_rfl
theorem c_s6 : Tryz.prog.cellsOf 60 = 12 := by kernel_rfl
theorem int_one {n : Nat} {c : Value} {z : DataW H × List MemPlace} (h : DataW.trod enc Tryz.prog w base spare held n 3 [c] = some z) : ∃ i : Int, c = .int .i64 i ∧ -9223372036854775808 ≤ i ∧ i ≤ 9223372036854775807 := by
  obtain ⟨i, e, _, ww⟩ := DataW.trod_int Tryz.underlying3 h
  simp only [List.cons.injEq, and_true] at e
  exact ⟨i, e, wf_i64 ww⟩
theorem bool_one {n : Nat} {c : Value} {z : DataW H × List MemPlace} (h : DataW.trod enc Tryz.prog w base spare held n 4 [c] = some z) : ∃ b : Bool, c = .bool b := by
  obtain ⟨b, e, _⟩ := DataW.trod_bool Tryz.underlying4 h
  simp only [List.cons.injEq, and_true] at e
  exact ⟨b, e⟩
theorem span_two {n : Nat} {c c' : Value} {z : DataW H × List MemPlace} (h : DataW.trod enc Tryz.prog w base spare held n 43 [c, c'] = some z) : ∃ x y : Int, c = .int .i64 x ∧ c' = .int .i64 y := by
  obtain ⟨x, y, e⟩ := span_parts rfl h
  simp only [List.cons.injEq, and_true] at e
  exact ⟨x, y, e.1, e.2⟩
set_option maxRecDepth 100000 in
theorem curve_two {n : Nat} {c c' : Value} {z : DataW H × List MemPlace} (h : DataW.trod enc Tryz.prog w base spare held n 25 [c, c'] = some z) : ∃ (B : Option Addr) (m d : Nat) (err : Int) (ks : List (Int × Int)), c = .slice B m d ∧ c' = .int .i64 err ∧ CAt w B m ks ∧ m ≤ 9223372036854775807 := by
  obtain ⟨y0, y1, k, _, _, h0, h1⟩ := trod_struct2 Tryz.underlying25 h
  have h0 : DataW.trod enc Tryz.prog w base spare held k 23 [c] = some y0 := h0
  have h1 : DataW.trod enc Tryz.prog w base spare held k 3 [c'] = some y1 := h1
  obtain ⟨B, m, d, ks, e0, hc, hm⟩ := open_knots h0
  obtain ⟨err, e1, _⟩ := int_one h1
  simp only [List.cons.injEq, and_true] at e0
  exact ⟨B, m, d, err, ks, e0, e1, hc, hm⟩
set_option maxRecDepth 100000 in
/-- A hold in memory. -/
theorem hold_cells {a : Addr} {n : Nat} {cs' : List Value} {z : DataW H × List MemPlace} (hc : w.cells? base a 4 = some cs') (ht : DataW.trod enc Tryz.prog w base spare held n 82 cs' = some z) :
    ∃ x : Hl, ∀ j v, (encL x)[j]? = some v → w.cell? (a.add j) = some v := by
  obtain ⟨_, hl, hat⟩ := World.cells?_some hc
  obtain ⟨m, _, _, _, hf⟩ := trod_fields Tryz.underlying82 ht
  clear ht hc
  obtain ⟨c0, l0, e0, k0⟩ := cons_of 3 hl
  obtain ⟨c1, l1, e1, k1⟩ := cons_of 2 k0
  obtain ⟨c2, l2, e2, k2⟩ := cons_of 1 k1
  obtain ⟨c3, l3, e3, k3⟩ := cons_of 0 k2
  have en := nil_of k3
  subst en
  subst e3
  subst e2
  subst e1
  subst e0
  obtain ⟨z0, h0⟩ := hf 0 _ rfl
  obtain ⟨v0, rfl, _⟩ := int_one (n := m) (c := c0) (z := z0) h0
  obtain ⟨z1, h1⟩ := hf 1 _ rfl
  obtain ⟨v1, rfl, _⟩ := int_one (n := m) (c := c1) (z := z1) h1
  obtain ⟨z2, h2⟩ := hf 2 _ rfl
  obtain ⟨v2, rfl, _⟩ := int_one (n := m) (c := c2) (z := z2) h2
  obtain ⟨z3, h3⟩ := hf 3 _ rfl
  obtain ⟨v3, rfl, _⟩ := int_one (n := m) (c := c3) (z := z3) h3
  refine ⟨⟨v0, v1, v2, v3⟩, fun j v hj => ?_⟩
  have hjn : j < 4 := (List.getElem?_eq_some_iff.1 hj).1
  rw [hat j (by omega)]
  exact hj
set_option maxRecDepth 100000 in
/-- A hydrometer in memory. -/
theorem hydro_cells {a : Addr} {n : Nat} {cs' : List Value} {z : DataW H × List MemPlace} (hc : w.cells? base a 3 = some cs') (ht : DataW.trod enc Tryz.prog w base spare held n 68 cs' = some z) :
    ∃ x : Hy, ∀ j v, (encY x)[j]? = some v → w.cell? (a.add j) = some v := by
  obtain ⟨_, hl, hat⟩ := World.cells?_some hc
  obtain ⟨m, _, _, _, hf⟩ := trod_fields Tryz.underlying68 ht
  clear ht hc
  obtain ⟨c0, l0, e0, k0⟩ := cons_of 2 hl
  obtain ⟨c1, l1, e1, k1⟩ := cons_of 1 k0
  obtain ⟨c2, l2, e2, k2⟩ := cons_of 0 k1
  have en := nil_of k2
  subst en
  subst e2
  subst e1
  subst e0
  obtain ⟨z0, h0⟩ := hf 0 _ rfl
  obtain ⟨v0, rfl, _⟩ := int_one (n := m) (c := c0) (z := z0) h0
  obtain ⟨z1, h1⟩ := hf 1 _ rfl
  obtain ⟨a1, b1, rfl, rfl⟩ := span_two (n := m) (c := c1) (c' := c2) (z := z1) h1
  refine ⟨⟨v0, a1, b1⟩, fun j v hj => ?_⟩
  have hjn : j < 3 := (List.getElem?_eq_some_iff.1 hj).1
  rw [hat j (by omega)]
  exact hj
set_option maxRecDepth 100000 in
/-- A glass in memory. -/
theorem glass_cells {a : Addr} {n : Nat} {cs' : List Value} {z : DataW H × List MemPlace} (hc : w.cells? base a 5 = some cs') (ht : DataW.trod enc Tryz.prog w base spare held n 70 cs' = some z) :
    ∃ x : Gs, ∀ j v, (encG x)[j]? = some v → w.cell? (a.add j) = some v := by
  obtain ⟨_, hl, hat⟩ := World.cells?_some hc
  obtain ⟨m, _, _, _, hf⟩ := trod_fields Tryz.underlying70 ht
  clear ht hc
  obtain ⟨c0, l0, e0, k0⟩ := cons_of 4 hl
  obtain ⟨c1, l1, e1, k1⟩ := cons_of 3 k0
  obtain ⟨c2, l2, e2, k2⟩ := cons_of 2 k1
  obtain ⟨c3, l3, e3, k3⟩ := cons_of 1 k2
  obtain ⟨c4, l4, e4, k4⟩ := cons_of 0 k3
  have en := nil_of k4
  subst en
  subst e4
  subst e3
  subst e2
  subst e1
  subst e0
  obtain ⟨z0, h0⟩ := hf 0 _ rfl
  obtain ⟨v0, rfl, _⟩ := int_one (n := m) (c := c0) (z := z0) h0
  obtain ⟨z1, h1⟩ := hf 1 _ rfl
  obtain ⟨v1, rfl, _⟩ := int_one (n := m) (c := c1) (z := z1) h1
  obtain ⟨z2, h2⟩ := hf 2 _ rfl
  obtain ⟨v2, rfl, _⟩ := int_one (n := m) (c := c2) (z := z2) h2
  obtain ⟨z3, h3⟩ := hf 3 _ rfl
  obtain ⟨a3, b3, rfl, rfl⟩ := span_two (n := m) (c := c3) (c' := c4) (z := z3) h3
  refine ⟨⟨v0, v1, v2, a3, b3⟩, fun j v hj => ?_⟩
  have hjn : j < 5 := (List.getElem?_eq_some_iff.1 hj).1
  rw [hat j (by omega)]
  exact hj
set_option maxRecDepth 100000 in
/-- The cells of a survey. -/
theorem survey_list {n : Nat} {cs : List Value} {z : DataW H × List MemPlace} (hl : cs.length = 18) (ht : DataW.trod enc Tryz.prog w base spare held n 62 cs = some z) :
    ∃ x : Sv, cs = encV x ∧ -9223372036854775808 ≤ x.id ∧ x.id ≤ 9223372036854775807 := by
  obtain ⟨m, _, _, _, hf⟩ := trod_fields Tryz.underlying62 ht
  clear ht
  obtain ⟨c0, l0, e0, k0⟩ := cons_of 17 hl
  obtain ⟨c1, l1, e1, k1⟩ := cons_of 16 k0
  obtain ⟨c2, l2, e2, k2⟩ := cons_of 15 k1
  obtain ⟨c3, l3, e3, k3⟩ := cons_of 14 k2
  obtain ⟨c4, l4, e4, k4⟩ := cons_of 13 k3
  obtain ⟨c5, l5, e5, k5⟩ := cons_of 12 k4
  obtain ⟨c6, l6, e6, k6⟩ := cons_of 11 k5
  obtain ⟨c7, l7, e7, k7⟩ := cons_of 10 k6
  obtain ⟨c8, l8, e8, k8⟩ := cons_of 9 k7
  obtain ⟨c9, l9, e9, k9⟩ := cons_of 8 k8
  obtain ⟨c10, l10, e10, k10⟩ := cons_of 7 k9
  obtain ⟨c11, l11, e11, k11⟩ := cons_of 6 k10
  obtain ⟨c12, l12, e12, k12⟩ := cons_of 5 k11
  obtain ⟨c13, l13, e13, k13⟩ := cons_of 4 k12
  obtain ⟨c14, l14, e14, k14⟩ := cons_of 3 k13
  obtain ⟨c15, l15, e15, k15⟩ := cons_of 2 k14
  obtain ⟨c16, l16, e16, k16⟩ := cons_of 1 k15
  obtain ⟨c17, l17, e17, k17⟩ := cons_of 0 k16
  have en := nil_of k17
  subst en
  subst e17
  subst e16
  subst e15
  subst e14
  subst e13
  subst e12
  subst e11
  subst e10
  subst e9
  subst e8
  subst e7
  subst e6
  subst e5
  subst e4
  subst e3
  subst e2
  subst e1
  subst e0
  obtain ⟨z0, h0⟩ := hf 0 _ rfl
  obtain ⟨x0, rfl, hid⟩ := int_one (n := m) (c := c0) (z := z0) h0
  obtain ⟨z1, h1⟩ := hf 1 _ rfl
  obtain ⟨x1, rfl, _⟩ := int_one (n := m) (c := c1) (z := z1) h1
  obtain ⟨z2, h2⟩ := hf 2 _ rfl
  obtain ⟨m2, hs⟩ := trod_elems (cs := [c2, c3, c4, c5, c6, c7, c8, c9, c10, c11, c12, c13]) Tryz.underlying60 h2
  obtain ⟨y0, q0⟩ := hs 0 (by decide)
  obtain ⟨x2, x3, rfl, rfl⟩ := span_two (n := m2) (c := c2) (c' := c3) (z := y0) q0
  obtain ⟨y1, q1⟩ := hs 1 (by decide)
  obtain ⟨x4, x5, rfl, rfl⟩ := span_two (n := m2) (c := c4) (c' := c5) (z := y1) q1
  obtain ⟨y2, q2⟩ := hs 2 (by decide)
  obtain ⟨x6, x7, rfl, rfl⟩ := span_two (n := m2) (c := c6) (c' := c7) (z := y2) q2
  obtain ⟨y3, q3⟩ := hs 3 (by decide)
  obtain ⟨x8, x9, rfl, rfl⟩ := span_two (n := m2) (c := c8) (c' := c9) (z := y3) q3
  obtain ⟨y4, q4⟩ := hs 4 (by decide)
  obtain ⟨x10, x11, rfl, rfl⟩ := span_two (n := m2) (c := c10) (c' := c11) (z := y4) q4
  obtain ⟨y5, q5⟩ := hs 5 (by decide)
  obtain ⟨x12, x13, rfl, rfl⟩ := span_two (n := m2) (c := c12) (c' := c13) (z := y5) q5
  obtain ⟨z3, h3⟩ := hf 3 _ rfl
  obtain ⟨x14, rfl, _⟩ := int_one (n := m) (c := c14) (z := z3) h3
  obtain ⟨z4, h4⟩ := hf 4 _ rfl
  obtain ⟨x15, rfl, _⟩ := int_one (n := m) (c := c15) (z := z4) h4
  obtain ⟨z5, h5⟩ := hf 5 _ rfl
  obtain ⟨x16, x17, rfl, rfl⟩ := span_two (n := m) (c := c16) (c' := c17) (z := z5) h5
  exact ⟨⟨x0, x1, x2, x3, x4, x5, x6, x7, x8, x9, x10, x11, x12, x13, x14, x15, x16, x17⟩, rfl, hid⟩
/-- A sight whose survey's ID is a number of the machine. -/
abbrev SgR := { s : Sg // -9223372036854775808 ≤ s.sv.id ∧ s.sv.id ≤ 9223372036854775807 }
def encSR (s : SgR) : List Value := encSg s.1
theorem SAt.plain {k : Nat} {w : World} {A : Option Addr} {n : Nat} {l : List SgR} (h : SAt encSR k w A n l) : SAt encSg k w A n (l.map Subtype.val) := by
  refine ⟨by rw [List.length_map]; exact h.len, fun hn => ?_⟩
  obtain ⟨b, off, e, hl⟩ := h.at_ hn
  refine ⟨b, off, e, hl.lt, fun i x hi j v hv => ?_⟩
  rw [List.getElem?_map] at hi
  cases hq : l[i]? with
  | none => rw [hq] at hi; cases hi
  | some y =>
    rw [hq] at hi
    have e : y.1 = x := by simpa using hi
    subst e
    exact hl.c i y hq j v hv
set_option maxRecDepth 100000 in
theorem sight_cells {a : Addr} {n : Nat} {cs' : List Value} {z : DataW H × List MemPlace} (hc : w.cells? base a 26 = some cs') (ht : DataW.trod enc Tryz.prog w base spare held n 74 cs' = some z) :
    ∃ x : SgR, ∀ j v, (encSR x)[j]? = some v → w.cell? (a.add j) = some v := by
  obtain ⟨_, hl, hat⟩ := World.cells?_some hc
  obtain ⟨m, _, _, _, hf⟩ := trod_fields Tryz.underlying74 ht
  clear ht hc
  obtain ⟨z0, h0⟩ := hf 0 _ rfl
  obtain ⟨x, e, hid⟩ := survey_list (n := m) (cs := (cs'.drop 0).take 18) (z := z0) (by rw [List.length_take, List.length_drop]; omega) h0
  obtain ⟨z1, h1⟩ := hf 1 _ rfl
  obtain ⟨z2, h2⟩ := hf 2 _ rfl
  obtain ⟨z3, h3⟩ := hf 3 _ rfl
  have hs : cs' = encV x ++ cs'.drop 18 := by
    rw [← e, List.drop_zero]
    exact (List.take_append_drop 18 cs').symm
  have h1 : DataW.trod enc Tryz.prog w base spare held m 72 ((cs'.drop 18).take 6) = some z1 := h1
  have h2 : DataW.trod enc Tryz.prog w base spare held m 3 ((cs'.drop 24).take 1) = some z2 := h2
  have h3 : DataW.trod enc Tryz.prog w base spare held m 4 ((cs'.drop 25).take 1) = some z3 := h3
  rw [show (24 : Nat) = 18 + 6 from rfl, ← List.drop_drop] at h2
  rw [show (25 : Nat) = 18 + 7 from rfl, ← List.drop_drop] at h3
  have hr : (cs'.drop 18).length = 8 := by rw [List.length_drop]; omega
  generalize cs'.drop 18 = r at *
  obtain ⟨c0, l0, e0, k0⟩ := cons_of 7 hr
  obtain ⟨c1, l1, e1, k1⟩ := cons_of 6 k0
  obtain ⟨c2, l2, e2, k2⟩ := cons_of 5 k1
  obtain ⟨c3, l3, e3, k3⟩ := cons_of 4 k2
  obtain ⟨c4, l4, e4, k4⟩ := cons_of 3 k3
  obtain ⟨c5, l5, e5, k5⟩ := cons_of 2 k4
  obtain ⟨c6, l6, e6, k6⟩ := cons_of 1 k5
  obtain ⟨c7, l7, e7, k7⟩ := cons_of 0 k6
  have en := nil_of k7
  subst en
  subst e7
  subst e6
  subst e5
  subst e4
  subst e3
  subst e2
  subst e1
  subst e0
  obtain ⟨m2, hq⟩ := trod_elems (cs := [c0, c1, c2, c3, c4, c5]) Tryz.underlying72 h1
  obtain ⟨y0, q0⟩ := hq 0 (by decide)
  obtain ⟨p0, rfl, _⟩ := int_one (n := m2) (c := c0) (z := y0) q0
  obtain ⟨y1, q1⟩ := hq 1 (by decide)
  obtain ⟨p1, rfl, _⟩ := int_one (n := m2) (c := c1) (z := y1) q1
  obtain ⟨y2, q2⟩ := hq 2 (by decide)
  obtain ⟨p2, rfl, _⟩ := int_one (n := m2) (c := c2) (z := y2) q2
  obtain ⟨y3, q3⟩ := hq 3 (by decide)
  obtain ⟨p3, rfl, _⟩ := int_one (n := m2) (c := c3) (z := y3) q3
  obtain ⟨y4, q4⟩ := hq 4 (by decide)
  obtain ⟨p4, rfl, _⟩ := int_one (n := m2) (c := c4) (z := y4) q4
  obtain ⟨y5, q5⟩ := hq 5 (by decide)
  obtain ⟨p5, rfl, _⟩ := int_one (n := m2) (c := c5) (z := y5) q5
  obtain ⟨dd, rfl, _⟩ := int_one (n := m) (c := c6) (z := z2) h2
  obtain ⟨af, rfl⟩ := bool_one (n := m) (c := c7) (z := z3) h3
  refine ⟨⟨⟨x, p0, p1, p2, p3, p4, p5, dd, af⟩, hid⟩, fun j v hj => ?_⟩
  have hjn : j < 26 := (List.getElem?_eq_some_iff.1 hj).1
  rw [hat j (by omega), hs]
  exact hj
set_option maxRecDepth 100000 in
/-- Sights, by value. -/
theorem open_sg {r : Reach} {b0 : Nat} {v : Value} {d : DataW H} {p : List MemPlace} (hv : Value.okWide Tryz.prog w r b0 33 v) (h : DataW.Trod enc Tryz.prog w base spare held 33 v d p) :
    ∃ (A : Option Addr) (n cap : Nat) (l : List Sg), v = .slice A n cap ∧ SAt encSg 26 w A n l ∧ n ≤ 9223372036854775807 ∧ ∀ s ∈ l, -9223372036854775808 ≤ s.sv.id ∧ s.sv.id ≤ 9223372036854775807 := by
  obtain ⟨A, n, cap, rfl⟩ := okWide_slice Tryz.underlying33 hv
  obtain ⟨fuel, hf⟩ := h
  obtain ⟨A', n', c', l, e, h1, h2, _⟩ := open_rows encSR (fun _ => by show 0 < 26; decide) ⟨⟨⟨0, 0, 0, 0, 0, 0, 0, 0, 0, 0, 0, 0, 0, 0, 0, 0, 0, 0⟩, 0, 0, 0, 0, 0, 0, 0, false⟩, by dsimp only; omega⟩ Tryz.underlying33 (by kernel_rfl) sight_cells hf
  have hcs : (Value.slice A n cap).cells.toList = [.slice A n cap] := rfl
  rw [hcs] at e
  simp only [List.cons.injEq, and_true] at e
  refine ⟨A', n', c', _, e, h1.plain, h2, fun d hd => ?_⟩
  obtain ⟨y, _, rfl⟩ := List.mem_map.1 hd
  exact y.2
set_option maxRecDepth 100000 in
/-- Hydrometers, by value. -/
theorem open_bu {r : Reach} {b0 : Nat} {v : Value} {d : DataW H} {p : List MemPlace} (hv : Value.okWide Tryz.prog w r b0 31 v) (h : DataW.Trod enc Tryz.prog w base spare held 31 v d p) :
    ∃ (Y : Option Addr) (ny cy : Nat) (G : Option Addr) (ng cg : Nat) (ys : List Hy) (gs : List Gs), v = .agg #[.slice Y ny cy, .slice G ng cg] ∧ SAt encY 3 w Y ny ys ∧ SAt encG 5 w G ng gs ∧ ny ≤ 9223372036854775807 ∧ ng ≤ 9223372036854775807 ∧ ∃ e, d = .agg e := by
  obtain ⟨c0, c1, y0, y1, m, rfl, rfl, rfl, hy0, hy1⟩ := open_agg2 Tryz.underlying31 (by kernel_rfl) (by kernel_rfl) hv h
  obtain ⟨Y, ny, cy, ys, e0, h1, h2, _⟩ := open_rows encY (fun x => by rw [encY_len]; decide) default Tryz.underlying28 (by kernel_rfl) hydro_cells hy0
  obtain ⟨G, ng, cg, gs, e1, g1, g2, _⟩ := open_rows encG (fun x => by rw [encG_len]; decide) default Tryz.underlying29 (by kernel_rfl) glass_cells hy1
  simp only [List.cons.injEq, and_true] at e0 e1
  subst e0 e1
  exact ⟨Y, ny, cy, G, ng, cg, ys, gs, rfl, h1, g1, h2, g2, _, rfl⟩
set_option maxRecDepth 100000 in
/-- A ship, by value. -/
theorem open_sh {rc : Reach} {b0 : Nat} {v : Value} {dd : DataW H} {p : List MemPlace} (hv : Value.okWide Tryz.prog w rc b0 27 v) (h : DataW.Trod enc Tryz.prog w base spare held 27 v dd p) :
    ∃ (id light lever height : Int) (A : Option Addr) (n c : Nat) (B : Option Addr) (m d : Nat) (merr : Int) (C : Option Addr) (q r : Nat) (terr turn least : Int) (hs : List Hl) (mn mt : List (Int × Int)), v = .agg (cSp id light lever height A n c B m d merr C q r terr turn least) ∧
      SAt encL 4 w A n hs ∧ CAt w B m mn ∧ CAt w C q mt ∧ n ≤ 9223372036854775807 ∧ m ≤ 9223372036854775807 ∧ q ≤ 9223372036854775807 ∧ n ≤ c ∧ ∃ e, dd = .agg e := by
  obtain ⟨cs, rfl, hsz⟩ := okWide_struct Tryz.underlying27 hv
  obtain ⟨fuel, hf0⟩ := h
  have hl : cs.toList.length = 11 := by rw [Array.length_toList]; exact hsz.trans (by kernel_rfl)
  obtain ⟨k, e, he, _, hf⟩ := trod_fields Tryz.underlying27 hf0
  have hf : ∀ (i : Nat) (f : Field), _ → ∃ z, DataW.trod enc Tryz.prog w base spare held k f.type ((cs.toList.drop f.offset).take (Tryz.prog.cellsOf f.type)) = some z := hf
  clear hf0 hsz hv
  obtain ⟨l⟩ := cs
  have hl : l.length = 11 := hl
  obtain ⟨c0, r0, e0, k0⟩ := cons_of 10 hl
  obtain ⟨c1, r1, e1, k1⟩ := cons_of 9 k0
  obtain ⟨c2, r2, e2, k2⟩ := cons_of 8 k1
  obtain ⟨c3, r3, e3, k3⟩ := cons_of 7 k2
  obtain ⟨c4, r4, e4, k4⟩ := cons_of 6 k3
  obtain ⟨c5, r5, e5, k5⟩ := cons_of 5 k4
  obtain ⟨c6, r6, e6, k6⟩ := cons_of 4 k5
  obtain ⟨c7, r7, e7, k7⟩ := cons_of 3 k6
  obtain ⟨c8, r8, e8, k8⟩ := cons_of 2 k7
  obtain ⟨c9, r9, e9, k9⟩ := cons_of 1 k8
  obtain ⟨c10, r10, e10, k10⟩ := cons_of 0 k9
  have en := nil_of k10
  subst en
  subst e10
  subst e9
  subst e8
  subst e7
  subst e6
  subst e5
  subst e4
  subst e3
  subst e2
  subst e1
  subst e0
  obtain ⟨z0, h0⟩ := hf 0 _ rfl
  obtain ⟨x0, rfl, _⟩ := int_one (n := k) (c := c0) (z := z0) h0
  obtain ⟨z1, h1⟩ := hf 1 _ rfl
  obtain ⟨x1, rfl, _⟩ := int_one (n := k) (c := c1) (z := z1) h1
  obtain ⟨z2, h2⟩ := hf 2 _ rfl
  obtain ⟨x2, rfl, _⟩ := int_one (n := k) (c := c2) (z := z2) h2
  obtain ⟨z3, h3⟩ := hf 3 _ rfl
  obtain ⟨x3, rfl, _⟩ := int_one (n := k) (c := c3) (z := z3) h3
  obtain ⟨z4, h4⟩ := hf 4 _ rfl
  have h4 : DataW.trod enc Tryz.prog w base spare held k 22 [c4] = some z4 := h4
  obtain ⟨A, n, c, hs, e4, g1, g2, g3⟩ := open_rows encL (fun x => by rw [encL_len]; decide) default Tryz.underlying22 (by kernel_rfl) hold_cells h4
  obtain ⟨z5, h5⟩ := hf 5 _ rfl
  obtain ⟨B, m, d, merr, mn, e5, e6, g4, g5⟩ := curve_two (n := k) (c := c5) (c' := c6) (z := z5) h5
  obtain ⟨z6, h6⟩ := hf 6 _ rfl
  obtain ⟨C, q, r, terr, mt, e7, e8, g6, g7⟩ := curve_two (n := k) (c := c7) (c' := c8) (z := z6) h6
  obtain ⟨z7, h7⟩ := hf 7 _ rfl
  obtain ⟨x9, rfl, _⟩ := int_one (n := k) (c := c9) (z := z7) h7
  obtain ⟨z8, h8⟩ := hf 8 _ rfl
  obtain ⟨x10, rfl, _⟩ := int_one (n := k) (c := c10) (z := z8) h8
  simp only [List.cons.injEq, and_true] at e4
  subst e4 e5 e6 e7 e8
  exact ⟨x0, x1, x2, x3, A, n, c, B, m, d, merr, C, q, r, terr, x9, x10, hs, mn, mt, rfl, g1, g4, g6, g2, g5, g7, g3, _, he⟩
end
end Go.Proofs.YtgojpgggbflgoaaGreat
