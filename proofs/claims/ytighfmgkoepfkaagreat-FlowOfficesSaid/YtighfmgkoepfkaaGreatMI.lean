/- What the laws need of the program's functions: courses and limits, case by case. -/
import Derived.Below
import Derived.ChangeSame
import Derived.Carry
import Derived.OpenShut
import Derived.Handed
import Derived.Lib.RowBridge
import Derived.Lib.SmallJoins
import Derived.Deep.Slices
import Derived.Deep.Fields
import Derived.ChangeSlices
import Derived.Test.YtighfmgkoepfkaaGreatMH
import Derived.Test.YtighfmgkoepfkaaGreatChecked
import Derived.Test.YtighfmgkoepfkaaGreatRows
namespace Go.Proofs.YtighfmgkoepfkaaGreat
open Go.RowKit

def fewB (n m : Nat) : Bool := (decide (n ≤ 5) || (decide (9 < n) && decide (n ≤ 20))) && (decide (m ≤ 9) || (decide (24 < m) && decide (m ≤ 40)))
set_option maxRecDepth 100000 in
set_option maxHeartbeats 3200000 in
theorem few_any (A : Option Addr) (n c : Nat) (B : Option Addr) (m d : Nat) (w : World) (hn : n ≤ 9223372036854775807) (hm : m ≤ 9223372036854775807) :
    Calls Tryz.prog 12 #[vT A n c B m d] w fun e w' => e = .returned (.bool (fewB n m)) ∧ Below w.heap.size w w' := by
  have hb0 := (Below.refl w.heap.size w).alloc (Nat.le_refl _) (.cells #[.slice A n c, .slice B m d] 25)
  have HB := Lib.hid hb0
  have HF := Lib.hid (show fewB n m = ((decide ((n : Int) ≤ 5) || (decide ((9 : Int) < (n : Int)) && decide ((n : Int) ≤ 20))) && (decide ((m : Int) ≤ 9) || (decide ((24 : Int) < (m : Int)) && decide ((m : Int) ≤ 40)))) by
    unfold fewB
    congr 1
    · congr 1
      · exact decide_eq_decide.2 (by omega)
      · congr 1 <;> exact decide_eq_decide.2 (by omega)
    · congr 1
      · exact decide_eq_decide.2 (by omega)
      · congr 1 <;> exact decide_eq_decide.2 (by omega))
  generalize fewB n m = res at *
  clear hb0
  obtain ⟨a1, h1⟩ : ∃ b, decide ((n : Int) ≤ 5) = b := ⟨_, rfl⟩
  obtain ⟨a2, h2⟩ : ∃ b, decide ((9 : Int) < (n : Int)) = b := ⟨_, rfl⟩
  obtain ⟨a3, h3⟩ : ∃ b, decide ((n : Int) ≤ 20) = b := ⟨_, rfl⟩
  obtain ⟨a4, h4⟩ : ∃ b, decide ((m : Int) ≤ 9) = b := ⟨_, rfl⟩
  obtain ⟨a5, h5⟩ : ∃ b, decide ((24 : Int) < (m : Int)) = b := ⟨_, rfl⟩
  obtain ⟨a6, h6⟩ : ∃ b, decide ((m : Int) ≤ 40) = b := ⟨_, rfl⟩
  rw [h1, h2, h3, h4, h5, h6] at HF
  rcases a1 with _ | _ <;> rcases a2 with _ | _ <;> rcases a3 with _ | _ <;> rcases a4 with _ | _ <;> rcases a5 with _ | _ <;> rcases a6 with _ | _
  all_goals
    go_enter Tryz.func12, Tryz.ntmps12
    go_wp2
    refine bodyPost_ret (v := .bool res) ?_ rfl ⟨rfl, HB.out⟩
    rw [HF.out]
    simp [results, Tryz.results12, go_sem]
end Go.Proofs.YtighfmgkoepfkaaGreat

namespace Go.Proofs.YtighfmgkoepfkaaGreat
/-- The error of a course. -/
def ckCo (hs : List Hd) (ms : List Mv) (st en ma : List Int) : Int := if tcheck hs ms ≠ 0 then tcheck hs ms else if fitsL hs ms st en ma = true then 0 else 8
end Go.Proofs.YtighfmgkoepfkaaGreat

namespace Go.Proofs.YtighfmgkoepfkaaGreat
open Go.RowKit

def courseB (a b c : Nat) : Bool := decide (a ≤ 60) && (decide (b ≤ 60) && decide (c ≤ 60))
set_option maxRecDepth 100000 in
set_option maxHeartbeats 3200000 in
theorem course_law (A1 : Option Addr) (n1 c1 : Nat) (A2 : Option Addr) (n2 c2 : Nat) (A3 : Option Addr) (n3 c3 : Nat) (w : World) (h1 : n1 ≤ 9223372036854775807) (h2 : n2 ≤ 9223372036854775807) (h3 : n3 ≤ 9223372036854775807) :
    Calls Tryz.prog 50 #[vCo A1 n1 c1 A2 n2 c2 A3 n3 c3] w fun e w' => e = .returned (.bool (courseB n1 n2 n3)) ∧ Below w.heap.size w w' := by
  have HB := Lib.hid ((Below.refl w.heap.size w).alloc (Nat.le_refl _) (.cells #[.slice A1 n1 c1, .slice A2 n2 c2, .slice A3 n3 c3] 68))
  have HF := Lib.hid (show courseB n1 n2 n3 = (decide ((n1 : Int) ≤ 60) && (decide ((n2 : Int) ≤ 60) && decide ((n3 : Int) ≤ 60))) by
    unfold courseB
    congr 1
    · exact decide_eq_decide.2 (by omega)
    · congr 1 <;> exact decide_eq_decide.2 (by omega))
  generalize courseB n1 n2 n3 = res at *
  obtain ⟨a1, e1⟩ : ∃ b, decide ((n1 : Int) ≤ 60) = b := ⟨_, rfl⟩
  obtain ⟨a2, e2⟩ : ∃ b, decide ((n2 : Int) ≤ 60) = b := ⟨_, rfl⟩
  obtain ⟨a3, e3⟩ : ∃ b, decide ((n3 : Int) ≤ 60) = b := ⟨_, rfl⟩
  rw [e1, e2, e3] at HF
  rcases a1 with _ | _ <;> rcases a2 with _ | _ <;> rcases a3 with _ | _
  all_goals
    go_enter Tryz.func50, Tryz.ntmps50
    go_wp2
    refine bodyPost_ret (v := .bool res) ?_ rfl ⟨rfl, HB.out⟩
    rw [HF.out]
    simp [results, Tryz.results50, go_sem]
end Go.Proofs.YtighfmgkoepfkaaGreat

namespace Go.Proofs.YtighfmgkoepfkaaGreat
open Go.RowKit Go.WideShapes Go.ChangeShapes

section
variable {H : Type} {enc : TypeId × Value → H} {P : Program}
theorem trodAll_keep (hl : laidOutB P = true) {W W' : World} (hb : Below W.heap.size W W') (sp : Nat → Bool) : ∀ {ts : List TypeId} {vs : List Value} {ds : List (DataW H)} {ps : List MemPlace},
    (∀ t ∈ ts, P.readableRec t = true ∧ t < P.types.size) → (∀ x ∈ ps, x.block < W.heap.size) → (∀ x ∈ ps, sp x.block = true) → DataW.TrodAll enc P W 0 (fun _ => true) true ts vs ds ps → DataW.TrodAll enc P W' 0 sp true ts vs ds ps
  | [], _, _, _, _, _, _, h => by
    obtain ⟨rfl, rfl, rfl⟩ := trodAll_nil h
    exact trodAll_mk0
  | t :: ts, _, _, _, hr, hlt, hsp, h => by
    obtain ⟨v, vs', d, ds', p, q, rfl, rfl, rfl, h1, h2⟩ := trodAll_cons h
    have hp : ∀ x ∈ p, x.block < W.heap.size := fun x hx => hlt x (List.mem_append_left _ hx)
    exact trodAll_cons_mk (WideElems.Trod_stays hl (hr t List.mem_cons_self).1 (hr t List.mem_cons_self).2 h1 (fun x hx => hb.same (hp x hx)) (fun x hx => hsp x (List.mem_append_left _ hx)))
      (trodAll_keep hl hb sp (fun t' ht => hr t' (List.mem_cons_of_mem _ ht)) (fun x hx => hlt x (List.mem_append_right _ hx)) (fun x hx => hsp x (List.mem_append_right _ hx)) h2)

/-- **A law's row, at its end.** -/
theorem law_post {f : Func} {s : ChangeSpec} {fresh handsOn again : Bool} {W W' : World} {args : Array Value} {ds gs : List (DataW H)} {before : List MemPlace} {tb : TypeId}
    (hl : laidOutB P = true) (hr : f.params.toList.all (fun t => P.readableRec t && decide (t < P.types.size)) = true) (hres : f.resultTypes = #[tb]) (htb : P.underlying tb = some .bool)
    (hvars : s.vars = []) (hW : DataW.Whole enc P f.params.toList s.vars false W args.toList ds gs before)
    (hs1 : (s.fn H (ds ++ gs)).results = [.lit (.bool true)]) (hs2 : (s.fn H (ds ++ gs)).args = ds) (hs3 : (s.fn H (ds ++ gs)).vars = []) (hb : Below W.heap.size W W') :
    s.post enc P f false fresh handsOn again W args (.bool true) W' := by
  have hlt : ∀ p ∈ before, p.block < W.heap.size := fun p hp => hW.lt p hp
  have hold : ∀ p ∈ before, (fun b => decide (b < W.heap.size)) p.block = true := fun p hp => by simpa using hlt p hp
  have hW0 := hW
  obtain ⟨p, q, hA, hV, rfl, hz, hn⟩ := hW
  rw [hvars] at hV
  obtain ⟨rfl, rfl⟩ := trodVars_none hV
  simp only [List.append_nil] at hlt hold hz
  have hread : ∀ t ∈ f.params.toList, P.readableRec t = true ∧ t < P.types.size := fun t ht => by
    have := List.all_eq_true.1 hr t ht
    simpa using this
  have hargs : ∀ sp : Nat → Bool, (∀ x ∈ p, sp x.block = true) → DataW.TrodAll enc P W' 0 sp true f.params.toList args.toList (s.fn H (ds ++ [])).args p := fun sp hsp => by
    rw [hs2]; exact trodAll_keep hl hb sp hread hlt hsp hA
  have hrs : ∀ (b : Nat) (sp : Nat → Bool) (hd : Bool), DataW.TrodAll enc P W' b sp hd f.resultTypes.toList ((Value.bool true).resultList f.resultTypes.size) (s.fn H (ds ++ [])).results [] := fun b sp hd => by
    rw [hs1, hres]; exact trodAll_mk1 (shut_bool htb true)
  have hvs : ∀ sp : Nat → Bool, DataW.TrodVars enc P W' sp s.vars (s.fn H (ds ++ [])).vars [] := fun sp => by
    rw [hvars, hs3]; rfl
  refine ⟨ds, [], p ++ [], [], p, [], hW0, hrs _ _ _, hargs _ (by simpa using hold), hvs _, World.keptBut_mono (fun x hx => ⟨hx, ?_⟩) (hb.frame (· ∈ p ++ [])), fun _ => ?_⟩
  · simpa using hx
  · refine ⟨?_, _, _, ([] ++ p) ++ [], ⟨[] ++ p, [], trodAll_append (hargs _ (fun _ _ => rfl)) (hrs _ _ _), hvs _, rfl, ?_, ?_⟩, ?_⟩
    · exact ok_one hres rfl (okWide_bool_mk htb true)
    · intro b off hp
      have hin : MemPlace.cell b off ∈ p := by simpa using hp
      rw [hb.frozen (hlt _ hin)]
      exact hz b off hin
    · intro ha
      cases ha
    · intro x hx _
      simpa using hx
end
end Go.Proofs.YtighfmgkoepfkaaGreat

namespace Go.Proofs.YtighfmgkoepfkaaGreat
open Go.RowKit Go.WideShapes Go.ChangeShapes Go.Joins Go.Deep

theorem laid_out : laidOutB Tryz.prog = true := by kernel_rfl
theorem wf_i64 {n : Int} (h : (Lit.int .i64 n).wf = true) : -9223372036854775808 ≤ n ∧ n ≤ 9223372036854775807 := by
  simp [Lit.wf, IntKind.min, IntKind.max, IntKind.signed, IntKind.bits] at h
  omega
theorem cell_lt {w : World} {a : Addr} {v : Value} (h : w.cell? a = some v) : a.block < w.heap.size ∧ a.spot = none := by
  unfold World.cell? at h
  split at h
  · rename_i c t f hb
    split at h
    · cases h
    · rename_i hs
      exact ⟨(Array.getElem?_eq_some_iff.1 hb).1, by cases he : a.spot <;> simp_all⟩
  · cases h
theorem addr_none {a : Addr} (h : a.spot = none) : a = ⟨a.block, a.off, none⟩ := by cases a; simp_all
theorem add_at {b off n : Nat} : (⟨b, off, none⟩ : Addr).add n = ⟨b, off + n, none⟩ := by
  unfold Addr.add; split
  · rename_i h; subst h; rfl
  · rfl
section
variable {H : Type} {enc : TypeId × Value → H} {w : World} {base : Nat} {spare : Nat → Bool} {held : Bool}
set_option maxRecDepth 100000 in
theorem span_parts {n : Nat} {cs : List Value} {z : DataW H × List MemPlace} (hl : cs.length = 2) (ht : DataW.trod enc Tryz.prog w base spare held n 57 cs = some z) : ∃ x y : Int, cs = [.int .i64 x, .int .i64 y] := by
  obtain ⟨y0, y1, m, _, _, h0, h1⟩ := trod_struct2 Tryz.underlying57 ht
  match cs, hl with
  | [u, v], _ =>
    have hone : Tryz.prog.cellsOf 3 = 1 := by kernel_rfl
    obtain ⟨x, ex, _⟩ := DataW.trod_int (cs := [u]) Tryz.underlying3 (by simpa [hone] using h0)
    obtain ⟨y, ey, _⟩ := DataW.trod_int (cs := [v]) Tryz.underlying3 (by simpa [hone] using h1)
    simp only [List.cons.injEq, and_true] at ex ey
    subst ex ey
    exact ⟨x, y, rfl⟩
set_option maxRecDepth 100000 in
/-- A holder in memory. -/
theorem holder_cells {a : Addr} {n : Nat} {cs' : List Value} {z : DataW H × List MemPlace} (hc : w.cells? base a 6 = some cs') (ht : DataW.trod enc Tryz.prog w base spare held n 118 cs' = some z) :
    ∃ x : Hd, ∀ j v, (encH x)[j]? = some v → w.cell? (a.add j) = some v := by
  obtain ⟨_, hl, hat⟩ := World.cells?_some hc
  obtain ⟨y0, y1, y2, y3, m, _, _, h0, h1, h2, h3⟩ := trod_struct4 Tryz.underlying118 ht
  match cs', hl with
  | [c0, c1, c2, c3, c4, c5], _ =>
    have hone : Tryz.prog.cellsOf 3 = 1 := by kernel_rfl
    have htwo : Tryz.prog.cellsOf 57 = 2 := by kernel_rfl
    obtain ⟨i, e0, _⟩ := DataW.trod_int (cs := [c0]) Tryz.underlying3 (by simpa [hone] using h0)
    obtain ⟨sl, sh, e1⟩ := span_parts (cs := [c1, c2]) rfl (by simpa [hone, htwo] using h1)
    obtain ⟨el, eh, e2⟩ := span_parts (cs := [c3, c4]) rfl (by simpa [hone, htwo] using h2)
    obtain ⟨b, e3, _⟩ := DataW.trod_int (cs := [c5]) Tryz.underlying3 (by simpa [hone, htwo] using h3)
    simp only [List.cons.injEq, and_true] at e0 e1 e2 e3
    obtain ⟨rfl, rfl⟩ := e1
    obtain ⟨rfl, rfl⟩ := e2
    subst e0 e3
    refine ⟨⟨i, sl, sh, el, eh, b⟩, fun j v hj => ?_⟩
    have hj6 : j < 6 := (List.getElem?_eq_some_iff.1 hj).1
    have := hat j (by omega)
    rw [this]
    simpa [encH] using hj
set_option maxRecDepth 100000 in
/-- A movement in memory. -/
theorem move_cells {a : Addr} {n : Nat} {cs' : List Value} {z : DataW H × List MemPlace} (hc : w.cells? base a 5 = some cs') (ht : DataW.trod enc Tryz.prog w base spare held n 59 cs' = some z) :
    ∃ x : Mv, ∀ j v, (encM x)[j]? = some v → w.cell? (a.add j) = some v := by
  obtain ⟨_, hl, hat⟩ := World.cells?_some hc
  obtain ⟨y0, y1, y2, y3, m, _, _, h0, h1, h2, h3⟩ := trod_struct4 Tryz.underlying59 ht
  match cs', hl with
  | [c0, c1, c2, c3, c4], _ =>
    have hone : Tryz.prog.cellsOf 3 = 1 := by kernel_rfl
    obtain ⟨i, e0, _⟩ := DataW.trod_int (cs := [c0]) Tryz.underlying3 (by simpa [hone] using h0)
    obtain ⟨f, e1, _⟩ := DataW.trod_int (cs := [c1]) Tryz.underlying3 (by simpa [hone] using h1)
    obtain ⟨g, e2, _⟩ := DataW.trod_int (cs := [c2]) Tryz.underlying3 (by simpa [hone] using h2)
    obtain ⟨lo, hi, e3⟩ := span_parts (cs := [c3, c4]) rfl (by simpa [hone, show Tryz.prog.cellsOf 57 = 2 by kernel_rfl] using h3)
    simp only [List.cons.injEq, and_true] at e0 e1 e2 e3
    obtain ⟨rfl, rfl⟩ := e3
    subst e0 e1 e2
    refine ⟨⟨i, f, g, lo, hi⟩, fun j v hj => ?_⟩
    have hj5 : j < 5 := (List.getElem?_eq_some_iff.1 hj).1
    have := hat j (by omega)
    rw [this]
    simpa [encM] using hj
theorem list_of {α : Type} (d : α) (p : Nat → α → Prop) : ∀ n, (∀ i, i < n → ∃ c, p i c) → ∃ l : List α, l.length = n ∧ ∀ i, i < n → p i (l.getD i d)
  | 0, _ => ⟨[], rfl, fun i h => absurd h (by omega)⟩
  | n + 1, h => by
    obtain ⟨l, hl, hp⟩ := list_of d p n fun i hi => h i (by omega)
    obtain ⟨c, hc⟩ := h n (by omega)
    refine ⟨l ++ [c], by simp [hl], fun i hi => ?_⟩
    by_cases e : i = n
    · subst e
      have : (l ++ [c]).getD i d = c := by simp [List.getD_eq_getElem?_getD, ← hl]
      rw [this]; exact hc
    · have : (l ++ [c]).getD i d = l.getD i d := by
        simp only [List.getD_eq_getElem?_getD]
        rw [List.getElem?_append_left (by omega)]
      rw [this]; exact hp i (by omega)
set_option maxRecDepth 100000 in
/-- A slice of things reads as a list. -/
theorem open_rows {α : Type} (e : α → List Value) (he : ∀ x, 0 < (e x).length) (d : α) {k : Nat} {ts te : TypeId} (hts : Tryz.prog.underlying ts = some (.slice te)) (hte : Tryz.prog.cellsOf te = k)
    (hcell : ∀ {a : Addr} {n : Nat} {cs' : List Value} {z : DataW H × List MemPlace}, w.cells? base a k = some cs' → DataW.trod enc Tryz.prog w base spare held n te cs' = some z → ∃ x : α, ∀ j v, (e x)[j]? = some v → w.cell? (a.add j) = some v)
    {fuel : Nat} {cs : List Value} {x : DataW H × List MemPlace} (h : DataW.trod enc Tryz.prog w base spare held fuel ts cs = some x) :
    ∃ (A : Option Addr) (n cap : Nat) (l : List α), cs = [.slice A n cap] ∧ SAt e k w A n l ∧ n ≤ 9223372036854775807 ∧ n ≤ cap := by
  rcases open_slice hts h with ⟨e0, _⟩ | ⟨a, len, cap, m, n, D, Pl, e0, hb, hl, hc, hm, _, hf⟩
  · exact ⟨none, 0, 0, [], e0, ⟨rfl, fun h => absurd h (by omega)⟩, by omega, Nat.le_refl _⟩
  · have hlm : len ≤ m := by rw [hm]; split <;> omega
    have hcl : len ≤ 9223372036854775807 := by unfold maxLen at hc; omega
    rw [hte] at hf
    obtain ⟨l, hlen, hall⟩ := list_of d (fun i x => ∀ j v, (e x)[j]? = some v → w.cell? ((a.add (i * k)).add j) = some v) len fun i hi => by
      obtain ⟨cs', hc', ht'⟩ := hf i (by omega)
      exact hcell hc' ht'
    refine ⟨some a, len, cap, l, e0, ⟨hlen, fun h0 => ?_⟩, hcl, by omega⟩
    have h00 := hall 0 h0 0 _ (List.getElem?_eq_getElem (he _))
    simp only [Nat.zero_mul] at h00
    rw [show (a.add 0).add 0 = a from rfl] at h00
    obtain ⟨hlt, hsp⟩ := cell_lt h00
    have ha := addr_none hsp
    generalize a.block = b at *
    generalize a.off = off at *
    subst ha
    refine ⟨b, off, rfl, hlt, fun i x hi j v hv => ?_⟩
    have hil : i < l.length := (List.getElem?_eq_some_iff.1 hi).1
    have hx : l.getD i d = x := by rw [List.getD_eq_getElem?_getD, hi]; rfl
    have := hall i (by omega) j v (by rw [hx]; exact hv)
    rw [add_at, add_at] at this
    exact this
set_option maxRecDepth 100000 in
/-- A trade, by value. -/
theorem open_tr {r : Reach} {b0 : Nat} {v : Value} {d : DataW H} {p : List MemPlace} (hv : Value.okWide Tryz.prog w r b0 25 v) (h : DataW.Trod enc Tryz.prog w base spare held 25 v d p) :
    ∃ t : TR, v = t.v ∧ t.Ok w ∧ ∃ e, d = .agg e := by
  obtain ⟨c0, c1, y0, y1, m, rfl, rfl, rfl, hy0, hy1⟩ := open_agg2 Tryz.underlying25 (by kernel_rfl) (by kernel_rfl) hv h
  obtain ⟨A, n, c, hs, e0, h1, h2, h3⟩ := open_rows encH (fun x => by rw [encH_len']; decide) default Tryz.underlying22 (by kernel_rfl) holder_cells hy0
  obtain ⟨B, k, q, ms, e1, g1, g2, g3⟩ := open_rows encM (fun x => by rw [encM_len']; decide) default Tryz.underlying23 (by kernel_rfl) move_cells hy1
  simp only [List.cons.injEq, and_true] at e0 e1
  subst e0 e1
  exact ⟨⟨A, n, c, B, k, q, hs, ms⟩, rfl, ⟨h1, g1, h2, g2, h3, g3⟩, _, rfl⟩
end
end Go.Proofs.YtighfmgkoepfkaaGreat

namespace Go.Proofs.YtighfmgkoepfkaaGreat
open Go.RowKit

theorem fi_err {t : TR} {w : World} (h : t.Ok w) (hc : tcheck t.hs t.ms ≠ 0) : Calls Tryz.prog 35 #[t.v] w fun e w' => e = .returned (.tuple #[vCo0, .int .i64 (tcheck t.hs t.ms)]) ∧ Below w.heap.size w w' := by
  refine (Find_any t w h).mono ?_
  rintro e w' ⟨hb, ⟨_, rfl⟩ | ⟨h2, _⟩ | ⟨h2, _⟩⟩
  · exact ⟨rfl, hb⟩
  · exact absurd h2 hc
  · exact absurd h2 hc
theorem co_err {t : TR} {w : World} (h : t.Ok w) (hc : tcheck t.hs t.ms ≠ 0) : Calls Tryz.prog 57 #[t.v] w fun e w' => e = .returned (.tuple #[vCu0, .bool false, .int .i64 (tcheck t.hs t.ms)]) ∧ Below w.heap.size w w' := by
  refine (Contradiction_any t w h).mono ?_
  rintro e w' ⟨hb, ⟨_, rfl⟩ | ⟨h2, _⟩ | ⟨h2, _⟩⟩
  · exact ⟨rfl, hb⟩
  · exact absurd h2 hc
  · exact absurd h2 hc
theorem fi_no {t : TR} {w : World} (h : t.Ok w) (hc : tcheck t.hs t.ms = 0) (ha : agrL t.hs t.ms = false) : Calls Tryz.prog 35 #[t.v] w fun e w' => e = .returned (.tuple #[vCo0, .int .i64 9]) ∧ Below w.heap.size w w' := by
  refine (Find_any t w h).mono ?_
  rintro e w' ⟨hb, ⟨h2, _⟩ | ⟨_, _, rfl⟩ | ⟨_, h2, _⟩⟩
  · exact absurd hc h2
  · exact ⟨rfl, hb⟩
  · rw [ha] at h2; cases h2
theorem co_no {t : TR} {w : World} (h : t.Ok w) (hc : tcheck t.hs t.ms = 0) (ha : agrL t.hs t.ms = false) : Calls Tryz.prog 57 #[t.v] w fun e w' => ∃ way A n c s, e = .returned (.tuple #[vCt way A n c, .bool true, .int .i64 0]) ∧ SAt encI 1 w' A n s ∧ n ≤ 9 ∧ showsL t.hs t.ms way s = true ∧ Below w.heap.size w w' := by
  refine (Contradiction_any t w h).mono ?_
  rintro e w' ⟨hb, ⟨h2, _⟩ | ⟨_, h2, _⟩ | ⟨_, _, v, way, s, rfl, ⟨A, n, c, rfl, hs, _⟩, hsh, hl⟩⟩
  · exact absurd hc h2
  · rw [ha] at h2; cases h2
  · exact ⟨way, A, n, c, s, rfl, hs, by rw [← hs.len]; exact hl, hsh, hb⟩
theorem fi_yes {t : TR} {w : World} (h : t.Ok w) (hc : tcheck t.hs t.ms = 0) (ha : agrL t.hs t.ms = true) : Calls Tryz.prog 35 #[t.v] w fun e w' => ∃ A1 n1 c1 A2 n2 c2 A3 n3 c3 st en ma, e = .returned (.tuple #[vCo A1 n1 c1 A2 n2 c2 A3 n3 c3, .int .i64 0]) ∧ SAt encI 1 w' A1 n1 st ∧ SAt encI 1 w' A2 n2 en ∧ SAt encI 1 w' A3 n3 ma ∧ fitsL t.hs t.ms st en ma = true ∧ Below w.heap.size w w' := by
  refine (Find_any t w h).mono ?_
  rintro e w' ⟨hb, ⟨h1, _⟩ | ⟨_, h2, _⟩ | ⟨_, _, v, st, en, ma, rfl, ⟨A1, n1, c1, A2, n2, c2, A3, n3, c3, rfl, k1, k2, k3, _⟩, hf⟩⟩
  · exact absurd hc h1
  · rw [ha] at h2; cases h2
  · exact ⟨A1, n1, c1, A2, n2, c2, A3, n3, c3, st, en, ma, rfl, k1, k2, k3, hf, hb⟩
theorem co_yes {t : TR} {w : World} (h : t.Ok w) (hc : tcheck t.hs t.ms = 0) (ha : agrL t.hs t.ms = true) : Calls Tryz.prog 57 #[t.v] w fun e w' => e = .returned (.tuple #[vCu0, .bool false, .int .i64 0]) ∧ Below w.heap.size w w' := by
  refine (Contradiction_any t w h).mono ?_
  rintro e w' ⟨hb, ⟨h1, _⟩ | ⟨_, _, rfl⟩ | ⟨_, h2, _⟩⟩
  · exact absurd hc h1
  · exact ⟨rfl, hb⟩
  · rw [ha] at h2; cases h2
end Go.Proofs.YtighfmgkoepfkaaGreat

namespace Go.Proofs.YtighfmgkoepfkaaGreat
open Go.RowKit Go.WideShapes Go.ChangeShapes Go.Joins Go.Deep

section
variable {H : Type} {enc : TypeId × Value → H} {w : World} {base : Nat} {spare : Nat → Bool} {held : Bool}
set_option maxRecDepth 100000 in
theorem int_cells {a : Addr} {n : Nat} {cs' : List Value} {z : DataW H × List MemPlace} (hc : w.cells? base a 1 = some cs') (ht : DataW.trod enc Tryz.prog w base spare held n 3 cs' = some z) :
    ∃ x : Int, ∀ j v, (encI x)[j]? = some v → w.cell? (a.add j) = some v := by
  obtain ⟨_, hl, hat⟩ := World.cells?_some hc
  match cs', hl with
  | [c0], _ =>
    obtain ⟨i, e0, _⟩ := DataW.trod_int (cs := [c0]) Tryz.underlying3 ht
    simp only [List.cons.injEq, and_true] at e0
    subst e0
    refine ⟨i, fun j v hj => ?_⟩
    have hj1 : j < 1 := (List.getElem?_eq_some_iff.1 hj).1
    have := hat j (by omega)
    rw [this]
    simpa [encI] using hj
set_option maxRecDepth 100000 in
theorem open_ns {fuel : Nat} {cs : List Value} {x : DataW H × List MemPlace} (h : DataW.trod enc Tryz.prog w base spare held fuel 42 cs = some x) :
    ∃ (A : Option Addr) (n cap : Nat) (l : List Int), cs = [.slice A n cap] ∧ SAt encI 1 w A n l ∧ n ≤ 9223372036854775807 ∧ n ≤ cap :=
  open_rows encI (fun x => by rw [encI_len]; decide) default Tryz.underlying42 (by kernel_rfl) int_cells h
set_option maxRecDepth 100000 in
/-- A slice of numbers, by value. -/
theorem open_is {r : Reach} {b0 : Nat} {v : Value} {d : DataW H} {p : List MemPlace} (hv : Value.okWide Tryz.prog w r b0 42 v) (h : DataW.Trod enc Tryz.prog w base spare held 42 v d p) :
    ∃ (A : Option Addr) (n cap : Nat) (l : List Int), v = .slice A n cap ∧ SAt encI 1 w A n l ∧ n ≤ 9223372036854775807 ∧ n ≤ cap := by
  obtain ⟨A, n, cap, rfl⟩ := okWide_slice Tryz.underlying42 hv
  obtain ⟨fuel, hf⟩ := h
  obtain ⟨A', n', c', l, e, h1, h2, h3⟩ := open_ns hf
  have hcs : (Value.slice A n cap).cells.toList = [.slice A n cap] := rfl
  rw [hcs] at e
  simp only [List.cons.injEq, and_true] at e
  exact ⟨A', n', c', l, e, h1, h2, h3⟩
set_option maxRecDepth 100000 in
/-- A course, by value. -/
theorem open_co {r : Reach} {b0 : Nat} {v : Value} {d : DataW H} {p : List MemPlace} (hv : Value.okWide Tryz.prog w r b0 68 v) (h : DataW.Trod enc Tryz.prog w base spare held 68 v d p) :
    ∃ (A1 : Option Addr) (n1 c1 : Nat) (A2 : Option Addr) (n2 c2 : Nat) (A3 : Option Addr) (n3 c3 : Nat) (st en ma : List Int), v = vCo A1 n1 c1 A2 n2 c2 A3 n3 c3 ∧ SAt encI 1 w A1 n1 st ∧ SAt encI 1 w A2 n2 en ∧ SAt encI 1 w A3 n3 ma ∧
      n1 ≤ 9223372036854775807 ∧ n2 ≤ 9223372036854775807 ∧ n3 ≤ 9223372036854775807 ∧ ∃ e, d = .agg e := by
  obtain ⟨v0, v1, v2, y0, y1, y2, m, rfl, rfl, rfl, h0, h1, h2⟩ := open_agg3 Tryz.underlying68 (by kernel_rfl) (by kernel_rfl) hv h
  obtain ⟨A1, n1, c1, st, e1, k1, l1, _⟩ := open_ns h0
  obtain ⟨A2, n2, c2, en, e2, k2, l2, _⟩ := open_ns h1
  obtain ⟨A3, n3, c3, ma, e3, k3, l3, _⟩ := open_ns h2
  simp only [List.cons.injEq, and_true] at e1 e2 e3
  subst e1 e2 e3
  exact ⟨A1, n1, c1, A2, n2, c2, A3, n3, c3, st, en, ma, rfl, k1, k2, k3, l1, l2, l3, _, rfl⟩
set_option maxRecDepth 100000 in
/-- A cut, by value. -/
theorem open_cu {r : Reach} {b0 : Nat} {v : Value} {d : DataW H} {p : List MemPlace} (hv : Value.okWide Tryz.prog w r b0 93 v) (h : DataW.Trod enc Tryz.prog w base spare held 93 v d p) :
    ∃ (way : Int) (A : Option Addr) (n c : Nat) (s : List Int), v = vCt way A n c ∧ SAt encI 1 w A n s ∧ n ≤ 9223372036854775807 ∧ (-9223372036854775808 ≤ way ∧ way ≤ 9223372036854775807) ∧ ∃ e, d = .agg e := by
  obtain ⟨v0, v1, y0, y1, m, rfl, rfl, rfl, h0, h1⟩ := open_agg2 Tryz.underlying93 (by kernel_rfl) (by kernel_rfl) hv h
  obtain ⟨way, e0, _, ww⟩ := DataW.trod_int Tryz.underlying3 h0
  obtain ⟨A, n, c, s, e1, k1, l1, _⟩ := open_ns h1
  simp only [List.cons.injEq, and_true] at e0 e1
  subst e0 e1
  exact ⟨way, A, n, c, s, rfl, k1, l1, wf_i64 ww, _, rfl⟩
set_option maxRecDepth 100000 in
/-- Something of a trade, by value. -/
theorem open_at {r : Reach} {b0 : Nat} {v : Value} {d : DataW H} {p : List MemPlace} (hv : Value.okWide Tryz.prog w r b0 83 v) (h : DataW.Trod enc Tryz.prog w base spare held 83 v d p) :
    ∃ kind id : Int, v = vAt kind id ∧ ∃ e, d = .agg e := by
  obtain ⟨v0, v1, y0, y1, m, rfl, rfl, rfl, h0, h1⟩ := open_agg2 Tryz.underlying83 (by kernel_rfl) (by kernel_rfl) hv h
  obtain ⟨kind, e0, _⟩ := DataW.trod_int Tryz.underlying3 h0
  obtain ⟨id, e1, _⟩ := DataW.trod_int Tryz.underlying3 h1
  simp only [List.cons.injEq, and_true] at e0 e1
  subst e0 e1
  exact ⟨kind, id, rfl, _, rfl⟩
end
end Go.Proofs.YtighfmgkoepfkaaGreat

namespace Go.Proofs.YtighfmgkoepfkaaGreat

theorem fits_no_cut {hs : List Hd} {ms : List Mv} (hv : TV hs ms) {st en ma : List Int} (hf : fitsL hs ms st en ma = true) (way : Int) (s : List Int) : showsL hs ms way s = false := by
  have := thrL_le hv hf way s
  unfold showsL
  rw [decide_eq_false (show ¬ (0 < thrL hs ms way s) by omega), Bool.and_false]
theorem fits_agr {hs : List Hd} {ms : List Mv} (hv : TV hs ms) {st en ma : List Int} (hf : fitsL hs ms st en ma = true) : agrL hs ms = true := (agrL_course hv).2 ⟨st, en, ma, hf⟩
theorem shows_no_agr {hs : List Hd} {ms : List Mv} (hv : TV hs ms) {way : Int} {s : List Int} (hs' : showsL hs ms way s = true) : agrL hs ms = false := by
  rw [Bool.eq_false_iff]
  intro h
  obtain ⟨st, en, ma, hf⟩ := (agrL_course hv).1 h
  rw [fits_no_cut hv hf] at hs'
  cases hs'

def sumN (f : Nat → Int) : Nat → Int
  | 0 => 0
  | k + 1 => sumN f k + f k
theorem sumN_congr {f g : Nat → Int} : ∀ n, (∀ i, i < n → f i = g i) → sumN f n = sumN g n
  | 0, _ => rfl
  | n + 1, h => by
    show sumN f n + f n = sumN g n + g n
    rw [sumN_congr n fun i hi => h i (by omega), h n (by omega)]
theorem sumN_add (f g : Nat → Int) : ∀ n, sumN (fun i => f i + g i) n = sumN f n + sumN g n
  | 0 => rfl
  | n + 1 => by
    show sumN (fun i => f i + g i) n + (f n + g n) = (sumN f n + f n) + (sumN g n + g n)
    rw [sumN_add f g n]; omega
theorem sumN_zero : ∀ n, sumN (fun _ => 0) n = 0
  | 0 => rfl
  | n + 1 => by show sumN (fun _ => 0) n + 0 = 0; rw [sumN_zero n]; rfl
theorem sumN_one (j : Nat) (x : Int) : ∀ n, sumN (fun i => if i = j then x else 0) n = if j < n then x else 0
  | 0 => rfl
  | n + 1 => by
    show sumN (fun i => if i = j then x else 0) n + (if n = j then x else 0) = _
    rw [sumN_one j x n]
    by_cases h1 : n = j
    · subst h1; simp
    · by_cases h2 : j < n
      · rw [if_pos h2, if_neg h1, if_pos (by omega)]; omega
      · rw [if_neg h2, if_neg h1, if_neg (by omega)]; rfl
/-- What some holders hold less at the end, as it is summed. -/
def hcons (hs : List Hd) (P : Int → Bool) (st en : List Int) : Nat → Int
  | 0 => 0
  | k + 1 => if P (hat hs k).id = true then hcons hs P st en k + iget st k - iget en k else hcons hs P st en k
/-- .. and what came and went. -/
def mcons (ms : List Mv) (P : Int → Bool) (ma : List Int) (x : Int) : Nat → Int
  | 0 => x
  | k + 1 => (mcons ms P ma x k + (if P (mat ms k).to = true then iget ma k else 0)) - (if P (mat ms k).fr = true then iget ma k else 0)
theorem hcons_sum (hs : List Hd) (P : Int → Bool) (st en : List Int) : ∀ k, hcons hs P st en k = sumN (fun i => if P (hat hs i).id = true then iget st i - iget en i else 0) k
  | 0 => rfl
  | k + 1 => by
    show (if P (hat hs k).id = true then hcons hs P st en k + iget st k - iget en k else hcons hs P st en k) = sumN _ k + (if P (hat hs k).id = true then iget st k - iget en k else 0)
    rw [hcons_sum hs P st en k]
    split <;> omega
theorem held_step (ms : List Mv) (ma : List Int) (id st : Int) (k : Nat) : heldL ms ma id st (k + 1) = heldL ms ma id st k + (if (mat ms k).to = id then iget ma k else 0) - (if (mat ms k).fr = id then iget ma k else 0) := rfl
theorem pos_iff {hs : List Hd} {ms : List Mv} (hv : TV hs ms) {id : Int} (hp : posN hs id < hs.length) {i : Nat} (hi : i < hs.length) : id = (hat hs i).id ↔ i = posN hs id := by
  rw [hat_eq hi]
  constructor
  · intro e
    have := (nodup_ids (hs := hs)).1 hv.ids i hi
    rw [← e] at this
    exact this.symm
  · intro e
    subst e
    exact (posN_at hs id hp).symm
theorem sum_step {hs : List Hd} {ms : List Mv} (hv : TV hs ms) (P : Int → Bool) (st ma : List Int) {k : Nat} (hk : k < ms.length) :
    sumN (fun i => if P (hat hs i).id = true then iget st i - heldL ms ma (hat hs i).id (iget st i) (k + 1) else 0) hs.length =
    sumN (fun i => if P (hat hs i).id = true then iget st i - heldL ms ma (hat hs i).id (iget st i) k else 0) hs.length - (if P (mat ms k).to = true then iget ma k else 0) + (if P (mat ms k).fr = true then iget ma k else 0) := by
  have hm : mat ms k ∈ ms := by rw [mat_eq hk]; exact List.getElem_mem hk
  obtain ⟨hf, ht⟩ := hv.pos hm
  have e1 := sumN_one (posN hs (mat ms k).to) (-(if P (mat ms k).to = true then iget ma k else 0)) hs.length
  have e2 := sumN_one (posN hs (mat ms k).fr) (if P (mat ms k).fr = true then iget ma k else 0) hs.length
  rw [if_pos ht] at e1
  rw [if_pos hf] at e2
  have e3 : sumN (fun i => if P (hat hs i).id = true then iget st i - heldL ms ma (hat hs i).id (iget st i) (k + 1) else 0) hs.length =
      sumN (fun i => ((if P (hat hs i).id = true then iget st i - heldL ms ma (hat hs i).id (iget st i) k else 0) + (if i = posN hs (mat ms k).to then -(if P (mat ms k).to = true then iget ma k else 0) else 0)) + (if i = posN hs (mat ms k).fr then (if P (mat ms k).fr = true then iget ma k else 0) else 0)) hs.length := by
    refine sumN_congr _ fun i hi => ?_
    have q1 := pos_iff hv ht hi
    have q2 := pos_iff hv hf hi
    rw [held_step]
    by_cases c1 : (mat ms k).to = (hat hs i).id
    · have d1 := q1.1 c1
      rw [if_pos c1, if_pos d1, c1]
      by_cases c2 : (mat ms k).fr = (hat hs i).id
      · rw [if_pos c2, if_pos (q2.1 c2), c2]
        split <;> omega
      · rw [if_neg c2, if_neg (fun h => c2 (q2.2 h))]
        split <;> omega
    · rw [if_neg c1, if_neg (fun h => c1 (q1.2 h))]
      by_cases c2 : (mat ms k).fr = (hat hs i).id
      · rw [if_pos c2, if_pos (q2.1 c2), c2]
        split <;> omega
      · rw [if_neg c2, if_neg (fun h => c2 (q2.2 h))]
        split <;> omega
  rw [e3, sumN_add, sumN_add, e1, e2]
  omega
theorem mcons_sum {hs : List Hd} {ms : List Mv} (hv : TV hs ms) (P : Int → Bool) (st ma : List Int) (x : Int) : ∀ k, k ≤ ms.length → mcons ms P ma x k = x - sumN (fun i => if P (hat hs i).id = true then iget st i - heldL ms ma (hat hs i).id (iget st i) k else 0) hs.length
  | 0, _ => by
    have : sumN (fun i => if P (hat hs i).id = true then iget st i - heldL ms ma (hat hs i).id (iget st i) 0 else 0) hs.length = 0 := by
      refine Eq.trans (sumN_congr (g := fun _ => 0) _ fun i _ => ?_) (sumN_zero hs.length)
      show (if P (hat hs i).id = true then iget st i - iget st i else 0) = 0
      split <;> omega
    rw [this]
    show x = x - 0
    omega
  | k + 1, h => by
    have ih := mcons_sum hv P st ma x k (by omega)
    rw [sum_step hv P st ma (by omega)]
    show (mcons ms P ma x k + (if P (mat ms k).to = true then iget ma k else 0)) - (if P (mat ms k).fr = true then iget ma k else 0) = _
    omega
/-- What some holders hold less at the end is what went out, less what came in. -/
theorem conserve {hs : List Hd} {ms : List Mv} (hv : TV hs ms) {st en ma : List Int} (hf : fitsL hs ms st en ma = true) (P : Int → Bool) : mcons ms P ma (hcons hs P st en hs.length) ms.length = 0 := by
  rw [mcons_sum hv P st ma _ _ (Nat.le_refl _), hcons_sum]
  have e := (fitsL_prop.1 hf).2.2.2
  have : sumN (fun i => if P (hat hs i).id = true then iget st i - iget en i else 0) hs.length = sumN (fun i => if P (hat hs i).id = true then iget st i - heldL ms ma (hat hs i).id (iget st i) ms.length else 0) hs.length := by
    refine sumN_congr _ fun i hi => ?_
    rw [e i hi]
  rw [this]
  omega
theorem mcons_none (ms : List Mv) (ma : List Int) (x : Int) : ∀ k, mcons ms (fun _ => true) ma x k = x
  | 0 => rfl
  | k + 1 => by
    show (mcons ms (fun _ => true) ma x k + (if true = true then iget ma k else 0)) - (if true = true then iget ma k else 0) = x
    rw [mcons_none ms ma x k]; omega
theorem conserve_all {hs : List Hd} {ms : List Mv} (hv : TV hs ms) {st en ma : List Int} (hf : fitsL hs ms st en ma = true) : hcons hs (fun _ => true) st en hs.length = 0 := by
  have := conserve hv hf (fun _ => true)
  rwa [mcons_none] at this
end Go.Proofs.YtighfmgkoepfkaaGreat

namespace Go.Proofs.YtighfmgkoepfkaaGreat

theorem leastP_le {P : Int → Bool} {v : Int} (hv : P v = true) : ∀ (n : Nat) (lo : Int), lo ≤ v → v ≤ lo + n → lo ≤ leastP P lo n ∧ leastP P lo n ≤ v ∧ P (leastP P lo n) = true
  | 0, lo, h1, h2 => by
    have : lo = v := by omega
    subst this
    exact ⟨Int.le_refl _, Int.le_refl _, hv⟩
  | n + 1, lo, h1, h2 => by
    unfold leastP
    by_cases c : P lo = true
    · rw [if_pos c]; exact ⟨Int.le_refl _, h1, c⟩
    · rw [if_neg c]
      have hne : lo ≠ v := fun e => c (by rw [e]; exact hv)
      obtain ⟨a, b, d⟩ := leastP_le hv n (lo + 1) (by omega) (by omega)
      exact ⟨by omega, b, d⟩
theorem mostP_le {P : Int → Bool} {v : Int} (hv : P v = true) : ∀ (n : Nat) (hi : Int), v ≤ hi → hi ≤ v + n → mostP P hi n ≤ hi ∧ v ≤ mostP P hi n ∧ P (mostP P hi n) = true
  | 0, hi, h1, h2 => by
    have : hi = v := by omega
    subst this
    exact ⟨Int.le_refl _, Int.le_refl _, hv⟩
  | n + 1, hi, h1, h2 => by
    unfold mostP
    by_cases c : P hi = true
    · rw [if_pos c]; exact ⟨Int.le_refl _, h1, c⟩
    · rw [if_neg c]
      have hne : hi ≠ v := fun e => c (by rw [e]; exact hv)
      obtain ⟨a, b, d⟩ := mostP_le hv n (hi - 1) (by omega) (by omega)
      exact ⟨by omega, b, d⟩
section
variable {hs : List Hd} {ms : List Mv}
/-- Each course lies within the narrowed spans. -/
theorem nar_course (h : TV hs ms) {at_ : Nat} (hat' : at_ < 2 * hs.length + ms.length) {st en ma : List Int} (hf : fitsL hs ms st en ma = true) : narLo hs ms at_ ≤ valAt st en ma at_ ∧ valAt st en ma at_ ≤ narHi hs ms at_ := by
  have hv := fits_val hf hat'
  exact ⟨(leastP_le (P := fun u => agrL (putH hs at_ (spanLo hs ms at_) u) (putM hs ms at_ (spanLo hs ms at_) u)) ((agr_put h hat' (Int.le_refl _) hv.1 hv.2).2 ⟨st, en, ma, hf, hv.1, Int.le_refl _⟩) _ _ hv.1 (by omega)).2.1,
    (mostP_le (P := fun u => agrL (putH hs at_ u (spanHi hs ms at_)) (putM hs ms at_ u (spanHi hs ms at_))) ((agr_put h hat' hv.1 hv.2 (Int.le_refl _)).2 ⟨st, en, ma, hf, Int.le_refl _, hv.2⟩) _ _ hv.2 (by omega)).2.1⟩
/-- .. whose ends are those of courses. -/
theorem nar_least (h : TV hs ms) {at_ : Nat} (hat' : at_ < 2 * hs.length + ms.length) (ha : agrL hs ms = true) : spanLo hs ms at_ ≤ narLo hs ms at_ ∧ ∃ st en ma, fitsL hs ms st en ma = true ∧ valAt st en ma at_ = narLo hs ms at_ := by
  obtain ⟨st, en, ma, hf⟩ := (agrL_course h).1 ha
  have hv := fits_val hf hat'
  obtain ⟨q1, q2, q3⟩ := leastP_le (P := fun u => agrL (putH hs at_ (spanLo hs ms at_) u) (putM hs ms at_ (spanLo hs ms at_) u)) ((agr_put h hat' (Int.le_refl _) hv.1 hv.2).2 ⟨st, en, ma, hf, hv.1, Int.le_refl _⟩) (spanHi hs ms at_ - spanLo hs ms at_).toNat _ hv.1 (by omega)
  refine ⟨q1, ?_⟩
  obtain ⟨st', en', ma', hf', r1, r2⟩ := (agr_put h hat' (Int.le_refl _) q1 (by omega)).1 q3
  have := (nar_course h hat' hf').1
  refine ⟨st', en', ma', hf', ?_⟩
  unfold narLo at this ⊢
  omega
theorem nar_most (h : TV hs ms) {at_ : Nat} (hat' : at_ < 2 * hs.length + ms.length) (ha : agrL hs ms = true) : narHi hs ms at_ ≤ spanHi hs ms at_ ∧ ∃ st en ma, fitsL hs ms st en ma = true ∧ valAt st en ma at_ = narHi hs ms at_ := by
  obtain ⟨st, en, ma, hf⟩ := (agrL_course h).1 ha
  have hv := fits_val hf hat'
  obtain ⟨q1, q2, q3⟩ := mostP_le (P := fun u => agrL (putH hs at_ u (spanHi hs ms at_)) (putM hs ms at_ u (spanHi hs ms at_))) ((agr_put h hat' hv.1 hv.2 (Int.le_refl _)).2 ⟨st, en, ma, hf, Int.le_refl _, hv.2⟩) (spanHi hs ms at_ - spanLo hs ms at_).toNat _ hv.2 (by omega)
  refine ⟨q1, ?_⟩
  obtain ⟨st', en', ma', hf', r1, r2⟩ := (agr_put h hat' (by omega) q1 (Int.le_refl _)).1 q3
  have := (nar_course h hat' hf').2
  refine ⟨st', en', ma', hf', ?_⟩
  unfold narHi at this ⊢
  omega
theorem nar_okSp (h : TV hs ms) {at_ : Nat} (hat' : at_ < 2 * hs.length + ms.length) (ha : agrL hs ms = true) : okSp (narLo hs ms at_) (narHi hs ms at_) = true := by
  obtain ⟨q1, st, en, ma, hf, e⟩ := nar_least h hat' ha
  have q2 := (nar_course h hat' hf).2
  have q3 := (nar_most h hat' ha).1
  have q4 := span_ok h hat'
  simp [okSp]
  omega
theorem narT_tv (h : TV hs ms) (ha : agrL hs ms = true) : ∀ k, k ≤ 2 * hs.length + ms.length → TV (narT hs ms k).1 (narT hs ms k).2
  | 0, _ => h
  | k + 1, hk => (narT_tv h ha k (by omega)).put (nar_okSp h (by omega) ha) k
theorem TV.nar (h : TV hs ms) (ha : agrL hs ms = true) : TV (narH hs ms) (narM hs ms) := narT_tv h ha _ (Nat.le_refl _)
theorem span_nar {at_ : Nat} (hat' : at_ < 2 * hs.length + ms.length) : spanLo (narH hs ms) (narM hs ms) at_ = narLo hs ms at_ ∧ spanHi (narH hs ms) (narM hs ms) at_ = narHi hs ms at_ := by
  unfold spanLo spanHi
  rw [narH_len]
  by_cases c1 : at_ < hs.length
  · rw [if_pos c1, if_pos c1, narH_hat hs ms at_ c1]
    exact ⟨rfl, rfl⟩
  · rw [if_neg c1, if_neg c1]
    by_cases c2 : at_ < 2 * hs.length
    · rw [if_pos c2, if_pos c2, narH_hat hs ms (at_ - hs.length) (by omega)]
      have e : hs.length + (at_ - hs.length) = at_ := by omega
      unfold nH
      dsimp only
      rw [e]
      exact ⟨rfl, rfl⟩
    · rw [if_neg c2, if_neg c2, narM_mat hs ms (at_ - 2 * hs.length) (by omega)]
      have e : 2 * hs.length + (at_ - 2 * hs.length) = at_ := by omega
      unfold nM
      dsimp only
      rw [e]
      exact ⟨rfl, rfl⟩
theorem fits_nar (h : TV hs ms) (ha : agrL hs ms = true) (st en ma : List Int) : fitsL (narH hs ms) (narM hs ms) st en ma = fitsL hs ms st en ma := by
  have hc : ∀ k, k < ms.length → (mat (narM hs ms) k).fr = (mat ms k).fr ∧ (mat (narM hs ms) k).to = (mat ms k).to := fun k hk => by rw [narM_mat hs ms k hk]; exact ⟨rfl, rfl⟩
  have hid : ∀ i, i < hs.length → (hat (narH hs ms) i).id = (hat hs i).id := fun i hi => by rw [narH_hat hs ms i hi]; rfl
  rw [Bool.eq_iff_iff]
  constructor
  · intro hf
    have hp := fitsL_prop.1 hf
    rw [narH_len, narM_len] at hp
    obtain ⟨⟨l1, l2, l3⟩, p1, p2, p3⟩ := hp
    have hb : ∀ at_, at_ < 2 * hs.length + ms.length → spanLo hs ms at_ ≤ valAt st en ma at_ ∧ valAt st en ma at_ ≤ spanHi hs ms at_ := fun at_ hat' => by
      have q1 := fits_val hf (at_ := at_) (by rw [narH_len, narM_len]; exact hat')
      rw [(span_nar hat').1, (span_nar hat').2] at q1
      have q2 := (nar_least h hat' ha).1
      have q3 := (nar_most h hat' ha).1
      omega
    refine fitsL_prop.2 ⟨⟨l1, l2, l3⟩, fun i hi => ?_, fun k hk => ?_, fun i hi => ?_⟩
    · have a1 := hb i (by omega)
      have a2 := hb (hs.length + i) (by omega)
      rw [valAt_pos l1 l2] at a1 a2
      unfold spanLo spanHi at a1 a2
      simp only [if_pos hi] at a1
      simp only [if_neg (show ¬ (hs.length + i < hs.length) by omega), if_pos (show hs.length + i < 2 * hs.length by omega), Nat.add_sub_cancel_left] at a2
      exact ⟨a1, a2⟩
    · have a1 := hb (2 * hs.length + k) (by omega)
      rw [valAt_pos l1 l2] at a1
      unfold spanLo spanHi at a1
      simp only [if_neg (show ¬ (2 * hs.length + k < hs.length) by omega), if_neg (show ¬ (2 * hs.length + k < 2 * hs.length) by omega), Nat.add_sub_cancel_left] at a1
      exact a1
    · have := p3 i hi
      rw [hid i hi, heldL_congr hc ma _ _ _ (Nat.le_refl _)] at this
      exact this
  · intro hf
    obtain ⟨⟨l1, l2, l3⟩, p1, p2, p3⟩ := fitsL_prop.1 hf
    have hb : ∀ at_, at_ < 2 * hs.length + ms.length → spanLo (narH hs ms) (narM hs ms) at_ ≤ valAt st en ma at_ ∧ valAt st en ma at_ ≤ spanHi (narH hs ms) (narM hs ms) at_ := fun at_ hat' => by
      rw [(span_nar hat').1, (span_nar hat').2]
      exact nar_course h hat' hf
    refine fitsL_prop.2 ⟨by rw [narH_len, narM_len]; exact ⟨l1, l2, l3⟩, fun i hi => ?_, fun k hk => ?_, fun i hi => ?_⟩
    · rw [narH_len] at hi
      have a1 := hb i (by omega)
      have a2 := hb (hs.length + i) (by omega)
      rw [valAt_pos l1 l2] at a1 a2
      unfold spanLo spanHi at a1 a2
      rw [narH_len] at a1 a2
      simp only [if_pos hi] at a1
      simp only [if_neg (show ¬ (hs.length + i < hs.length) by omega), if_pos (show hs.length + i < 2 * hs.length by omega), Nat.add_sub_cancel_left] at a2
      exact ⟨a1, a2⟩
    · rw [narM_len] at hk
      have a1 := hb (2 * hs.length + k) (by omega)
      rw [valAt_pos l1 l2] at a1
      unfold spanLo spanHi at a1
      rw [narH_len] at a1
      simp only [if_neg (show ¬ (2 * hs.length + k < hs.length) by omega), if_neg (show ¬ (2 * hs.length + k < 2 * hs.length) by omega), Nat.add_sub_cancel_left] at a1
      exact a1
    · rw [narH_len] at hi
      rw [narM_len, hid i hi, heldL_congr hc ma _ _ _ (Nat.le_refl _)]
      exact p3 i hi
theorem agr_nar (h : TV hs ms) (ha : agrL hs ms = true) : agrL (narH hs ms) (narM hs ms) = true := by
  obtain ⟨st, en, ma, hf⟩ := (agrL_course h).1 ha
  exact fits_agr (h.nar ha) (by rw [fits_nar h ha]; exact hf)
theorem nar_nar (h : TV hs ms) (ha : agrL hs ms = true) {at_ : Nat} (hat' : at_ < 2 * hs.length + ms.length) : narLo (narH hs ms) (narM hs ms) at_ = narLo hs ms at_ ∧ narHi (narH hs ms) (narM hs ms) at_ = narHi hs ms at_ := by
  have hat2 : at_ < 2 * (narH hs ms).length + (narM hs ms).length := by rw [narH_len, narM_len]; exact hat'
  obtain ⟨_, st, en, ma, hf, e⟩ := nar_least h hat' ha
  obtain ⟨_, st2, en2, ma2, hf2, e2⟩ := nar_most h hat' ha
  constructor
  · rw [narLo_eq (h.nar ha) hat2 (by rw [fits_nar h ha]; exact hf) (fun st' en' ma' hf' => by rw [fits_nar h ha] at hf'; rw [e]; exact (nar_course h hat' hf').1), e]
  · rw [narHi_eq (h.nar ha) hat2 (by rw [fits_nar h ha]; exact hf2) (fun st' en' ma' hf' => by rw [fits_nar h ha] at hf'; rw [e2]; exact (nar_course h hat' hf').2), e2]
theorem narH_nar (h : TV hs ms) (ha : agrL hs ms = true) : narH (narH hs ms) (narM hs ms) = narH hs ms := by
  rw [narH_eq (narH hs ms) (narM hs ms), narH_len]
  conv => rhs; rw [narH_eq]
  apply List.ext_getElem (by simp)
  intro i h1 h2
  have hi : i < hs.length := by simpa using h1
  simp only [List.getElem_map, List.getElem_range]
  have q1 := nar_nar h ha (at_ := i) (by omega)
  have q2 := nar_nar h ha (at_ := hs.length + i) (by omega)
  have e := narH_hat hs ms i hi
  show ({ hat (narH hs ms) i with sl := narLo (narH hs ms) (narM hs ms) i, sh := narHi (narH hs ms) (narM hs ms) i, el := narLo (narH hs ms) (narM hs ms) ((narH hs ms).length + i), eh := narHi (narH hs ms) (narM hs ms) ((narH hs ms).length + i) } : Hd) = nH hs ms i
  rw [narH_len, q1.1, q1.2, q2.1, q2.2, e]
  rfl
theorem narM_nar (h : TV hs ms) (ha : agrL hs ms = true) : narM (narH hs ms) (narM hs ms) = narM hs ms := by
  rw [narM_eq (narH hs ms) (narM hs ms), narM_len]
  conv => rhs; rw [narM_eq]
  apply List.ext_getElem (by simp)
  intro i h1 h2
  have hi : i < ms.length := by simpa using h1
  simp only [List.getElem_map, List.getElem_range]
  have q1 := nar_nar h ha (at_ := 2 * hs.length + i) (by omega)
  have e := narM_mat hs ms i hi
  show ({ mat (narM hs ms) i with lo := narLo (narH hs ms) (narM hs ms) (2 * (narH hs ms).length + i), hi := narHi (narH hs ms) (narM hs ms) (2 * (narH hs ms).length + i) } : Mv) = nM hs ms i
  rw [narH_len, q1.1, q1.2, e]
  rfl
end
end Go.Proofs.YtighfmgkoepfkaaGreat

namespace Go.Proofs.YtighfmgkoepfkaaGreat
open Go.RowKit

theorem nwE_of {hs : List Hd} {ms : List Mv} (hc : tcheck hs ms = 0) (ha : agrL hs ms = true) : nwE hs ms = 0 ∧ nwH hs ms = narH hs ms ∧ nwM hs ms = narM hs ms := by
  have e : nwE hs ms = 0 := by unfold nwE; rw [if_neg (by simpa using hc), if_neg (by rw [ha]; decide)]
  exact ⟨e, by unfold nwH; rw [if_pos e], by unfold nwM; rw [if_pos e]⟩
theorem nwE_no {hs : List Hd} {ms : List Mv} (h : nwE hs ms ≠ 0) (st en ma : List Int) : ckCo hs ms st en ma ≠ 0 := by
  unfold ckCo
  by_cases hc : tcheck hs ms = 0
  · rw [if_neg (by simpa using hc)]
    by_cases hf : fitsL hs ms st en ma = true
    · exact absurd (nwE_of hc (fits_agr (tcheck_zero.1 hc) hf)).1 h
    · rw [if_neg hf]; decide
  · rw [if_pos hc]; exact hc
theorem fi_bad {t : TR} {w : World} (h : t.Ok w) (hn : nwE t.hs t.ms ≠ 0) : Calls Tryz.prog 35 #[t.v] w fun e w' => e = .returned (.tuple #[vCo0, .int .i64 (nwE t.hs t.ms)]) ∧ Below w.heap.size w w' := by
  by_cases hc : tcheck t.hs t.ms = 0
  · cases ha : agrL t.hs t.ms with
    | true => exact absurd (nwE_of hc ha).1 hn
    | false =>
      refine (fi_no h hc ha).mono ?_
      rintro e w' ⟨rfl, hb⟩
      refine ⟨?_, hb⟩
      unfold nwE
      rw [if_neg (by simpa using hc), if_pos ha]
  · refine (fi_err h hc).mono ?_
    rintro e w' ⟨rfl, hb⟩
    refine ⟨?_, hb⟩
    unfold nwE
    rw [if_pos hc]
theorem ask_err {w w' : World} {hs : List Hd} {ms : List Mv} {kind id : Int} {gr : Bool} {e : Ending} (h : AskOut w hs ms kind id gr e w') (hp : plE hs ms kind id ≠ 0) : e = .returned (.tuple #[vLi0, .int .i64 (plE hs ms kind id)]) ∧ Below w.heap.size w w' := by
  obtain ⟨hb, ⟨_, rfl⟩ | ⟨h1, _⟩ | ⟨h1, _⟩⟩ := h
  · exact ⟨rfl, hb⟩
  · exact absurd h1 hp
  · exact absurd h1 hp
theorem ask_no {w w' : World} {hs : List Hd} {ms : List Mv} {kind id : Int} {gr : Bool} {e : Ending} (h : AskOut w hs ms kind id gr e w') (hp : plE hs ms kind id = 0) (ha : agrL hs ms = false) : e = .returned (.tuple #[vLi0, .int .i64 9]) ∧ Below w.heap.size w w' := by
  obtain ⟨hb, ⟨h1, _⟩ | ⟨_, _, rfl⟩ | ⟨_, h1, _⟩⟩ := h
  · exact absurd hp h1
  · exact ⟨rfl, hb⟩
  · rw [ha] at h1; cases h1
/-- The number of a limit. -/
def limN (hs : List Hd) (ms : List Mv) (kind id : Int) (gr : Bool) : Int := if gr = true then narHi hs ms (placeN hs ms kind id) else narLo hs ms (placeN hs ms kind id)
theorem ask_ok {w w' : World} {hs : List Hd} {ms : List Mv} {kind id : Int} {gr : Bool} {e : Ending} (h : AskOut w hs ms kind id gr e w') (hp : plE hs ms kind id = 0) (ha : agrL hs ms = true) :
    ∃ (A1 : Option Addr) (n1 c1 : Nat) (A2 : Option Addr) (n2 c2 : Nat) (A3 : Option Addr) (n3 c3 : Nat) (way : Int) (A4 : Option Addr) (n4 c4 : Nat) (st ed ma : List Int),
      e = .returned (.tuple #[vLi (limN hs ms kind id gr) A1 n1 c1 A2 n2 c2 A3 n3 c3 way A4 n4 c4, .int .i64 0]) ∧ SAt encI 1 w' A1 n1 st ∧ SAt encI 1 w' A2 n2 ed ∧ SAt encI 1 w' A3 n3 ma ∧ fitsL hs ms st ed ma = true ∧ Below w.heap.size w w' := by
  obtain ⟨hv, hpl, _⟩ := plE_zero hp
  have hat' := placeN_lt hpl
  obtain ⟨hb, ⟨h1, _⟩ | ⟨_, h1, _⟩ | ⟨_, _, v, st, ed, ma, way, s, rfl, ⟨A1, n1, c1, A2, n2, c2, A3, n3, c3, A4, n4, c4, rfl, ⟨_, _, _, _, _, _, _, _, _, e2, k1, k2, k3, _⟩, _⟩, hl⟩⟩ := h
  · exact absurd hp h1
  · rw [ha] at h1; cases h1
  · cases e2
    refine ⟨A1, n1, c1, A2, n2, c2, A3, n3, c3, way, A4, n4, c4, st, ed, ma, ?_, k1, k2, k3, hl.ok.fits, hb⟩
    have e : limN hs ms kind id gr = valAt st ed ma (placeN hs ms kind id) := by
      unfold limN
      cases gr
      · rw [if_neg (by decide)]; exact (lim_lo hv hat' hl.ok).2
      · rw [if_pos rfl]; exact (lim_hi hv hat' hl.ok).2
    rw [e]
end Go.Proofs.YtighfmgkoepfkaaGreat
