/- Two new blocks that are written, in a region that draws its order. The x at which a rising curve has a sixteenth of a number as its value. Numbers that are draughts of a survey. The value of a curve of a ship at a mass. The rise and the moment of a loading; how much greater the rise may be. A fraction in lowest terms; how much greater the rise may be. A fraction in lowest terms; a steady ship. A steady ship; the stiffness. A load: its totals and its error. The error of a load by surveys. A true loading is one of a load by surveys. The stiffness and the draughts of a true loading. The draughts of a loading. -/
import Derived.Test.YtgojpgggbflgoaaGreatTop02
import Derived.Test.YtgojpgggbflgoaaGreatTop05
import Derived.Test.YtgojpgggbflgoaaGreatTop06
import Derived.Test.YtgojpgggbflgoaaGreatTop03
namespace Go.Proofs.YtgojpgggbflgoaaGreat
open Go.RowKit

structure TwA (B : Nat) (t : TypeId) (a1 a2 b1 b2 : Value) (ls : Nat → Bool) (vs : Nat → Value) (v : World) : Prop where
  p1 : ls 11 = true → ∃ g, vs 11 = .pointer (some ⟨g, 0, none⟩) ∧ B ≤ g ∧ Blk v g t (cond (ls 13) #[a1, a2] #[.int .i64 0, .int .i64 0])
  p2 : ls 12 = true → ∃ g, vs 12 = .pointer (some ⟨g, 0, none⟩) ∧ B ≤ g ∧ Blk v g t (cond (ls 14) #[b1, b2] #[.int .i64 0, .int .i64 0])
  ne : ls 11 = true → ls 12 = true → vs 11 ≠ vs 12
  o1 : ls 13 = true → ls 11 = true
  o2 : ls 14 = true → ls 12 = true
section
variable {B : Nat} {t : TypeId} {a1 a2 b1 b2 : Value} {ls : Nat → Bool} {vs : Nat → Value} {v v' : World}
theorem TwA.init : TwA B t a1 a2 b1 b2 (fun _ => false) (fun _ => undef) v := ⟨fun a => (by cases a), fun a => (by cases a), fun a => (by cases a), fun a => (by cases a), fun a => (by cases a)⟩
theorem TwA.below (h : TwA B t a1 a2 b1 b2 ls vs v) (hb : Below v.heap.size v v') : TwA B t a1 a2 b1 b2 ls vs v' :=
  ⟨fun a => let ⟨g, e, q, k⟩ := h.p1 a; ⟨g, e, q, k.below hb⟩, fun a => let ⟨g, e, q, k⟩ := h.p2 a; ⟨g, e, q, k.below hb⟩, h.ne, h.o1, h.o2⟩
theorem TwA.n1 (h : TwA B t a1 a2 b1 b2 ls vs v) (hl : ls 11 = false) : ls 13 = false := by
  cases c : ls 13 with
  | false => rfl
  | true => rw [h.o1 c] at hl; cases hl
theorem TwA.n2 (h : TwA B t a1 a2 b1 b2 ls vs v) (hl : ls 12 = false) : ls 14 = false := by
  cases c : ls 14 with
  | false => rfl
  | true => rw [h.o2 c] at hl; cases hl
theorem TwA.s1 (h : TwA B t a1 a2 b1 b2 ls vs v) (hl : ls 11 = false) (hB : B ≤ v.heap.size) : TwA B t a1 a2 b1 b2 (updB ls 11) (upd vs 11 (.pointer (some ⟨v.heap.size, 0, none⟩))) (v.alloc (.cells #[.int .i64 0, .int .i64 0] t)) := by
  have hj := h.n1 hl
  have h2 := h.below (below_new v (.cells #[.int .i64 0, .int .i64 0] t))
  refine ⟨fun _ => ⟨v.heap.size, by simp [upd], hB, by simpa [updB, hj] using Blk.new v t #[.int .i64 0, .int .i64 0]⟩, fun a => by simpa [updB, upd] using h2.p2 (by simpa [updB] using a), fun _ b => ?_, fun a => by simp [updB, hj] at a, fun a => by simpa [updB] using h.o2 (by simpa [updB] using a)⟩
  obtain ⟨g, e, _, k⟩ := h.p2 (by simpa [updB] using b)
  have := k.lt
  simp only [upd]
  rw [if_pos trivial, if_neg (by decide), e]
  intro q
  simp only [Value.pointer.injEq, Option.some.injEq, Addr.mk.injEq] at q
  omega
theorem TwA.s2 (h : TwA B t a1 a2 b1 b2 ls vs v) (hl : ls 12 = false) (hB : B ≤ v.heap.size) : TwA B t a1 a2 b1 b2 (updB ls 12) (upd vs 12 (.pointer (some ⟨v.heap.size, 0, none⟩))) (v.alloc (.cells #[.int .i64 0, .int .i64 0] t)) := by
  have hj := h.n2 hl
  have h2 := h.below (below_new v (.cells #[.int .i64 0, .int .i64 0] t))
  refine ⟨fun a => by simpa [updB, upd] using h2.p1 (by simpa [updB] using a), fun _ => ⟨v.heap.size, by simp [upd], hB, by simpa [updB, hj] using Blk.new v t #[.int .i64 0, .int .i64 0]⟩, fun a _ => ?_, fun a => by simpa [updB] using h.o1 (by simpa [updB] using a), fun a => by simp [updB, hj] at a⟩
  obtain ⟨g, e, _, k⟩ := h.p1 (by simpa [updB] using a)
  have := k.lt
  simp only [upd]
  rw [if_neg (by decide), if_pos trivial, e]
  intro q
  simp only [Value.pointer.injEq, Option.some.injEq, Addr.mk.injEq] at q
  omega
theorem TwA.w1 (h : TwA B t a1 a2 b1 b2 ls vs v) (h1 : ls 11 = true) (_ : ls 13 = false) {g : Nat} (e : vs 11 = .pointer (some ⟨g, 0, none⟩)) (hk : Blk v g t #[.int .i64 0, .int .i64 0]) (u : Value) : TwA B t a1 a2 b1 b2 (updB ls 13) (upd vs 13 u) ((v.setCell ⟨g, 0, none⟩ a1).setCell ⟨g, 1, none⟩ a2) := by
  obtain ⟨g1, e1, q1, _⟩ := h.p1 h1
  refine ⟨fun _ => ⟨g, by simpa [upd] using e, by rw [e] at e1; cases e1; exact q1, by simpa [updB] using blk_set2 hk a1 a2⟩, fun a => ?_, fun a b => by simpa [upd] using h.ne (by simpa [updB] using a) (by simpa [updB] using b), fun _ => by simpa [updB] using h1, fun a => by simpa [updB] using h.o2 (by simpa [updB] using a)⟩
  have a := (by simpa [updB] using a : ls 12 = true)
  obtain ⟨g2, e2, q2, k2⟩ := h.p2 a
  refine ⟨g2, by simpa [upd] using e2, q2, ?_⟩
  have hne : (some g : Option Nat) ≠ some g2 := fun q => h.ne h1 a (by rw [e, e2]; cases q; rfl)
  have := k2.grown (grown_set2 v g a1 a2) (fun q => hne q)
  simpa [updB] using this
theorem TwA.w2 (h : TwA B t a1 a2 b1 b2 ls vs v) (h1 : ls 12 = true) (_ : ls 14 = false) {g : Nat} (e : vs 12 = .pointer (some ⟨g, 0, none⟩)) (hk : Blk v g t #[.int .i64 0, .int .i64 0]) (u : Value) : TwA B t a1 a2 b1 b2 (updB ls 14) (upd vs 14 u) ((v.setCell ⟨g, 0, none⟩ b1).setCell ⟨g, 1, none⟩ b2) := by
  obtain ⟨g1, e1, q1, _⟩ := h.p2 h1
  refine ⟨fun a => ?_, fun _ => ⟨g, by simpa [upd] using e, by rw [e] at e1; cases e1; exact q1, by simpa [updB] using blk_set2 hk b1 b2⟩, fun a b => by simpa [upd] using h.ne (by simpa [updB] using a) (by simpa [updB] using b), fun a => by simpa [updB] using h.o1 (by simpa [updB] using a), fun _ => by simpa [updB] using h1⟩
  have a := (by simpa [updB] using a : ls 11 = true)
  obtain ⟨g2, e2, q2, k2⟩ := h.p1 a
  refine ⟨g2, by simpa [upd] using e2, q2, ?_⟩
  have hne : (some g : Option Nat) ≠ some g2 := fun q => h.ne a h1 (by rw [e, e2]; cases q; rfl)
  have := k2.grown (grown_set2 v g b1 b2) (fun q => hne q)
  simpa [updB] using this
theorem TwA.done (h : TwA B t a1 a2 b1 b2 ls vs v) (h1 : ls 13 = true) (h2 : ls 14 = true) : ∃ g g', vs 11 = .pointer (some ⟨g, 0, none⟩) ∧ vs 12 = .pointer (some ⟨g', 0, none⟩) ∧ B ≤ g ∧ B ≤ g' ∧ g ≠ g' ∧ Blk v g t #[a1, a2] ∧ Blk v g' t #[b1, b2] := by
  obtain ⟨g, e, q, k⟩ := h.p1 (h.o1 h1)
  obtain ⟨g', e', q', k'⟩ := h.p2 (h.o2 h2)
  rw [h1] at k
  rw [h2] at k'
  exact ⟨g, g', e, e', q, q', fun c => h.ne (h.o1 h1) (h.o2 h2) (by rw [e, e', c]), k, k'⟩
end
structure TwB (B : Nat) (t : TypeId) (a1 a2 b1 b2 : Value) (ls : Nat → Bool) (vs : Nat → Value) (v : World) : Prop where
  p1 : ls 4 = true → ∃ g, vs 4 = .pointer (some ⟨g, 0, none⟩) ∧ B ≤ g ∧ Blk v g t (cond (ls 6) #[a1, a2] #[.int .i64 0, .int .i64 0])
  p2 : ls 5 = true → ∃ g, vs 5 = .pointer (some ⟨g, 0, none⟩) ∧ B ≤ g ∧ Blk v g t (cond (ls 7) #[b1, b2] #[.int .i64 0, .int .i64 0])
  ne : ls 4 = true → ls 5 = true → vs 4 ≠ vs 5
  o1 : ls 6 = true → ls 4 = true
  o2 : ls 7 = true → ls 5 = true
section
variable {B : Nat} {t : TypeId} {a1 a2 b1 b2 : Value} {ls : Nat → Bool} {vs : Nat → Value} {v v' : World}
theorem TwB.init : TwB B t a1 a2 b1 b2 (fun _ => false) (fun _ => undef) v := ⟨fun a => (by cases a), fun a => (by cases a), fun a => (by cases a), fun a => (by cases a), fun a => (by cases a)⟩
theorem TwB.below (h : TwB B t a1 a2 b1 b2 ls vs v) (hb : Below v.heap.size v v') : TwB B t a1 a2 b1 b2 ls vs v' :=
  ⟨fun a => let ⟨g, e, q, k⟩ := h.p1 a; ⟨g, e, q, k.below hb⟩, fun a => let ⟨g, e, q, k⟩ := h.p2 a; ⟨g, e, q, k.below hb⟩, h.ne, h.o1, h.o2⟩
theorem TwB.n1 (h : TwB B t a1 a2 b1 b2 ls vs v) (hl : ls 4 = false) : ls 6 = false := by
  cases c : ls 6 with
  | false => rfl
  | true => rw [h.o1 c] at hl; cases hl
theorem TwB.n2 (h : TwB B t a1 a2 b1 b2 ls vs v) (hl : ls 5 = false) : ls 7 = false := by
  cases c : ls 7 with
  | false => rfl
  | true => rw [h.o2 c] at hl; cases hl
theorem TwB.s1 (h : TwB B t a1 a2 b1 b2 ls vs v) (hl : ls 4 = false) (hB : B ≤ v.heap.size) : TwB B t a1 a2 b1 b2 (updB ls 4) (upd vs 4 (.pointer (some ⟨v.heap.size, 0, none⟩))) (v.alloc (.cells #[.int .i64 0, .int .i64 0] t)) := by
  have hj := h.n1 hl
  have h2 := h.below (below_new v (.cells #[.int .i64 0, .int .i64 0] t))
  refine ⟨fun _ => ⟨v.heap.size, by simp [upd], hB, by simpa [updB, hj] using Blk.new v t #[.int .i64 0, .int .i64 0]⟩, fun a => by simpa [updB, upd] using h2.p2 (by simpa [updB] using a), fun _ b => ?_, fun a => by simp [updB, hj] at a, fun a => by simpa [updB] using h.o2 (by simpa [updB] using a)⟩
  obtain ⟨g, e, _, k⟩ := h.p2 (by simpa [updB] using b)
  have := k.lt
  simp only [upd]
  rw [if_pos trivial, if_neg (by decide), e]
  intro q
  simp only [Value.pointer.injEq, Option.some.injEq, Addr.mk.injEq] at q
  omega
theorem TwB.s2 (h : TwB B t a1 a2 b1 b2 ls vs v) (hl : ls 5 = false) (hB : B ≤ v.heap.size) : TwB B t a1 a2 b1 b2 (updB ls 5) (upd vs 5 (.pointer (some ⟨v.heap.size, 0, none⟩))) (v.alloc (.cells #[.int .i64 0, .int .i64 0] t)) := by
  have hj := h.n2 hl
  have h2 := h.below (below_new v (.cells #[.int .i64 0, .int .i64 0] t))
  refine ⟨fun a => by simpa [updB, upd] using h2.p1 (by simpa [updB] using a), fun _ => ⟨v.heap.size, by simp [upd], hB, by simpa [updB, hj] using Blk.new v t #[.int .i64 0, .int .i64 0]⟩, fun a _ => ?_, fun a => by simpa [updB] using h.o1 (by simpa [updB] using a), fun a => by simp [updB, hj] at a⟩
  obtain ⟨g, e, _, k⟩ := h.p1 (by simpa [updB] using a)
  have := k.lt
  simp only [upd]
  rw [if_neg (by decide), if_pos trivial, e]
  intro q
  simp only [Value.pointer.injEq, Option.some.injEq, Addr.mk.injEq] at q
  omega
theorem TwB.w1 (h : TwB B t a1 a2 b1 b2 ls vs v) (h1 : ls 4 = true) (_ : ls 6 = false) {g : Nat} (e : vs 4 = .pointer (some ⟨g, 0, none⟩)) (hk : Blk v g t #[.int .i64 0, .int .i64 0]) (u : Value) : TwB B t a1 a2 b1 b2 (updB ls 6) (upd vs 6 u) ((v.setCell ⟨g, 0, none⟩ a1).setCell ⟨g, 1, none⟩ a2) := by
  obtain ⟨g1, e1, q1, _⟩ := h.p1 h1
  refine ⟨fun _ => ⟨g, by simpa [upd] using e, by rw [e] at e1; cases e1; exact q1, by simpa [updB] using blk_set2 hk a1 a2⟩, fun a => ?_, fun a b => by simpa [upd] using h.ne (by simpa [updB] using a) (by simpa [updB] using b), fun _ => by simpa [updB] using h1, fun a => by simpa [updB] using h.o2 (by simpa [updB] using a)⟩
  have a := (by simpa [updB] using a : ls 5 = true)
  obtain ⟨g2, e2, q2, k2⟩ := h.p2 a
  refine ⟨g2, by simpa [upd] using e2, q2, ?_⟩
  have hne : (some g : Option Nat) ≠ some g2 := fun q => h.ne h1 a (by rw [e, e2]; cases q; rfl)
  have := k2.grown (grown_set2 v g a1 a2) (fun q => hne q)
  simpa [updB] using this
theorem TwB.w2 (h : TwB B t a1 a2 b1 b2 ls vs v) (h1 : ls 5 = true) (_ : ls 7 = false) {g : Nat} (e : vs 5 = .pointer (some ⟨g, 0, none⟩)) (hk : Blk v g t #[.int .i64 0, .int .i64 0]) (u : Value) : TwB B t a1 a2 b1 b2 (updB ls 7) (upd vs 7 u) ((v.setCell ⟨g, 0, none⟩ b1).setCell ⟨g, 1, none⟩ b2) := by
  obtain ⟨g1, e1, q1, _⟩ := h.p2 h1
  refine ⟨fun a => ?_, fun _ => ⟨g, by simpa [upd] using e, by rw [e] at e1; cases e1; exact q1, by simpa [updB] using blk_set2 hk b1 b2⟩, fun a b => by simpa [upd] using h.ne (by simpa [updB] using a) (by simpa [updB] using b), fun a => by simpa [updB] using h.o1 (by simpa [updB] using a), fun _ => by simpa [updB] using h1⟩
  have a := (by simpa [updB] using a : ls 4 = true)
  obtain ⟨g2, e2, q2, k2⟩ := h.p1 a
  refine ⟨g2, by simpa [upd] using e2, q2, ?_⟩
  have hne : (some g : Option Nat) ≠ some g2 := fun q => h.ne a h1 (by rw [e, e2]; cases q; rfl)
  have := k2.grown (grown_set2 v g b1 b2) (fun q => hne q)
  simpa [updB] using this
theorem TwB.done (h : TwB B t a1 a2 b1 b2 ls vs v) (h1 : ls 6 = true) (h2 : ls 7 = true) : ∃ g g', vs 4 = .pointer (some ⟨g, 0, none⟩) ∧ vs 5 = .pointer (some ⟨g', 0, none⟩) ∧ B ≤ g ∧ B ≤ g' ∧ g ≠ g' ∧ Blk v g t #[a1, a2] ∧ Blk v g' t #[b1, b2] := by
  obtain ⟨g, e, q, k⟩ := h.p1 (h.o1 h1)
  obtain ⟨g', e', q', k'⟩ := h.p2 (h.o2 h2)
  rw [h1] at k
  rw [h2] at k'
  exact ⟨g, g', e, e', q, q', fun c => h.ne (h.o1 h1) (h.o2 h2) (by rw [e, e', c]), k, k'⟩
end
end Go.Proofs.YtgojpgggbflgoaaGreat

namespace Go.Proofs.YtgojpgggbflgoaaGreat
open Go.RowKit

def whP (ks : List (Int × Int)) (y : Int) (i : Nat) : Bool := inB y (16 * ky ks i) (16 * ky ks (i + 1))
def whV (ks : List (Int × Int)) (y : Int) (i : Nat) : Int × Int := (kx ks i * (16 * (ky ks (i + 1) - ky ks i)) + (y - 16 * ky ks i) * (kx ks (i + 1) - kx ks i), 16 * (ky ks (i + 1) - ky ks i))
/-- The x at which a curve has a sixteenth of y as its value. -/
def whR (ks : List (Int × Int)) (y : Int) : Int × Int := match (List.range (ks.length - 1)).find? (whP ks y) with | some i => whV ks y i | none => (kx ks 0, 1)
theorem whR_at {ks : List (Int × Int)} {y : Int} {k : Nat} (h : k + 1 < ks.length) (hk : whP ks y k = true) (hb : ∀ i, i < k → whP ks y i = false) : whR ks y = whV ks y k := by
  have : (List.range (ks.length - 1)).find? (whP ks y) = some k := by
    rw [List.find?_range_eq_some]
    exact ⟨hk, by rw [List.mem_range]; omega, fun i hi => by rw [hb i hi]; rfl⟩
  unfold whR
  rw [this]
theorem whR_none {ks : List (Int × Int)} {y : Int} (hb : ∀ i, i + 1 < ks.length → whP ks y i = false) : whR ks y = (kx ks 0, 1) := by
  have : (List.range (ks.length - 1)).find? (whP ks y) = none := List.find?_eq_none.2 fun i hi => by
    rw [hb i (by have := List.mem_range.1 hi; omega)]
    decide
  unfold whR
  rw [this]
set_option maxRecDepth 100000 in
set_option maxHeartbeats 6400000 in
theorem swhere_any (b off cap : Nat) (err : Int) (ks : List (Int × Int)) (y : Int) (w : World) (h : Kn w b off ks) (hv : Valid ks) (_ : -2000000 ≤ y ∧ y ≤ 2000000) :
    Calls Tryz.prog 99 #[.agg #[.slice (some ⟨b, off, none⟩) ks.length cap, .int .i64 err], .int .i64 y] w fun e w' => e = .returned (.agg #[.int .i64 (whR ks y).1, .int .i64 (whR ks y).2]) ∧ Below w.heap.size w w' := by
  have hb0 := ((Below.refl w.heap.size w).alloc (Nat.le_refl _) (.cells #[.slice (some ⟨b, off, none⟩) ks.length cap, .int .i64 err] 25)).alloc (by simp) (.cells #[.int .i64 0, .int .i64 0] 151)
  have t0 := (Blk.new w 25 #[.slice (some ⟨b, off, none⟩) ks.length cap, .int .i64 err]).alloc (.cells #[.int .i64 0, .int .i64 0] 151)
  have r0 := Blk.at_new (W := w.alloc (.cells #[.slice (some ⟨b, off, none⟩) ks.length cap, .int .i64 err] 25)) (g := w.heap.size + 1) 151 #[.int .i64 0, .int .i64 0] (by simp)
  have HK := Lib.hid (h.below hb0)
  have HV := Lib.hid hv
  have HN := Lib.hid (fun hb => whR_none (ks := ks) (y := y) hb)
  have HA := Lib.hid (fun (k : Nat) (h : k + 1 < ks.length) hk hb => whR_at (ks := ks) (y := y) (k := k) h hk hb)
  obtain ⟨n, hn⟩ : ∃ n, ks.length = n := ⟨_, rfl⟩
  have hp : 0 < n := by rw [← hn]; exact hv.pos
  have hle : n ≤ 40 := by rw [← hn]; exact hv.le
  have HL := Lib.hid hn
  rw [hn] at t0 hb0 r0 HK
  rw [hn]
  obtain ⟨R, hR⟩ : ∃ R, whR ks y = R := ⟨_, rfl⟩
  rw [hR] at HN HA
  rw [hR]
  clear h hv hn hR
  obtain ⟨r1, r2⟩ := R
  go_enter Tryz.func99, Tryz.ntmps99
  go_upto_region 1 with fail
  generalize hW : (w.alloc (.cells #[.slice (some ⟨b, off, none⟩) n cap, .int .i64 err] 25)).alloc (.cells #[.int .i64 0, .int .i64 0] 151) = W at *
  have HWs := Lib.hid (show W.heap.size = w.heap.size + 2 by rw [← hW]; simp)
  clear hW
  have HT := Lib.hid t0
  have HR := Lib.hid r0
  have HB := Lib.hid hb0
  clear t0 r0 hb0
  go_upto_region 2 with fail
  go_loopw [5, 6, 7] (fun i _ _ wx => ∃ k : Nat, k < n ∧ i = .int .i64 ((k : Int) + 1) ∧ (∀ i, i < k → whP ks y i = false) ∧ Below W.heap.size W wx) (fun i _ _ _ => n - (intOf i).toNat)
  case atStart => exact ⟨0, hp, rfl, fun i h => absurd h (by omega), Below.refl _ _⟩
  case round =>
    obtain ⟨k, hk, rfl, hno, hb⟩ := hrel
    have HNo := Lib.hid hno
    have HBk := Lib.hid hb
    clear hno hb
    obtain ⟨y0, y1, yl⟩ := cells2 (HT.out.below HBk.out)
    have hbw : W.heap.size ≤ wr.heap.size := HBk.out.size
    by_cases hkn : k + 1 < n
    case neg =>
      have hlt : ¬ ((k : Int) + 1 < (n : Int)) := by omega
      have c0 := (HK.out.below HBk.out).x 0 (by rw [HL.out]; exact hp)
      rw [Nat.zero_mul, Nat.add_zero] at c0
      have cl := (HK.out.below HBk.out).lt
      have HE := HN.out (fun i hi => HNo.out i (by have := HL.out; omega))
      obtain ⟨rfl, rfl⟩ : r1 = kx ks 0 ∧ r2 = 1 := by
        have := HE
        simp only [Prod.mk.injEq] at this
        exact ⟨this.1.symm ▸ rfl, this.2.symm ▸ rfl⟩
      clear HE HN HA
      obtain ⟨z0, z1, zl⟩ := cells2 (HR.out.below HBk.out)
      have f0 := (HR.out.below HBk.out).frozen 0
      have f1 := (HR.out.below HBk.out).frozen 1
      go_wp2
      obtain ⟨x0, x1, _⟩ := cells2 (blk_set2 (HR.out.below HBk.out) (.int .i64 (kx ks 0)) (.int .i64 1))
      exact bodyPost_ret (v := .agg #[.int .i64 (kx ks 0), .int .i64 1]) (by simp [results, Tryz.results99, go_sem, x0, x1]) rfl ⟨rfl, below_set2 (HB.out.trans (HBk.out.mono HB.out.size)) (by omega) _ _⟩
    case pos =>
      have hkn1 : (k : Int) + 1 < (n : Int) := by omega
      have hx1 := HV.out.x0 k (by rw [HL.out]; omega)
      have hx2 := HV.out.x0 (k + 1) (by rw [HL.out]; omega)
      have hy1 := HV.out.y0 k (by rw [HL.out]; omega)
      have hy2 := HV.out.y0 (k + 1) (by rw [HL.out]; omega)
      have HKx := Lib.hid (fun (u : World) (hu : Below W.heap.size W u) => And.intro ((HK.out.below hu).x k (by rw [HL.out]; omega)) (And.intro ((HK.out.below hu).y k (by rw [HL.out]; omega)) (And.intro ((HK.out.below hu).x (k + 1) (by rw [HL.out]; omega)) (And.intro ((HK.out.below hu).y (k + 1) (by rw [HL.out]; omega)) (HK.out.below hu).lt))))
      have HPk := Lib.hid (show whP ks y k = inB y (16 * ky ks k) (16 * ky ks (k + 1)) from rfl)
      have HVk := Lib.hid (show whV ks y k = (kx ks k * (16 * (ky ks (k + 1) - ky ks k)) + (y - 16 * ky ks k) * (kx ks (k + 1) - kx ks k), 16 * (ky ks (k + 1) - ky ks k)) from rfl)
      have HAk := Lib.hid (fun h1 => HA.out k (by rw [HL.out]; exact hkn) h1 HNo.out)
      generalize kx ks (k + 1) = xq at *
      generalize ky ks (k + 1) = yq at *
      generalize kx ks k = xp at *
      generalize ky ks k = yp at *
      go_upto_region 4 with fail
      refine wp_region_preC 15 [(11, 6), (12, 7), (13, 1000), (14, 1001)] (fun v => Below wr.heap.size wr v) (TwA wr.heap.size 97 (.int .i64 xp) (.int .i64 yp) (.int .i64 xq) (.int .i64 yq)) (by kernel_rfl) (by kernel_rfl) (Below.refl _ _) (fun v1 v2 h kk => h.trans (kk.mono h.size)) (fun v' hv' => TwA.init) (fun ls vs v v' _ h kk => h.below kk) ?ex
      case ex =>
      apply Exists.intro
      refine ⟨?walk, ?loud, ?last⟩
      case walk =>
        intro U hU
        have hUw := HBk.out.trans (hU.mono HBk.out.size)
        obtain ⟨k0, k1, k2, k3, kl⟩ := HKx.out U hUw
        obtain ⟨y0', y1', yl'⟩ := cells2 (HT.out.below hUw)
        obtain ⟨xc, xf'⟩ := xcell (W := U)
        simp only [List.take_succ_cons, List.take_nil, qOf, isLoud, List.any_cons, List.any_nil, Nat.reduceBEq, Bool.or_false, Bool.or_true, Nat.reduceAdd, Bool.false_eq_true, if_true, if_false, beq_self_eq_true, Nat.zero_add]
        repeat (first | go_big_quiet_step (fail) | quiet_step (fail))
        exact wpQuiet_nil rfl
      case loud =>
        rintro pp hpp vs v hC ls hI hls hw o ho
        simp only [List.mem_cons, List.not_mem_nil, or_false] at hpp
        rcases hpp with rfl | rfl | rfl | rfl
        · simp only [List.getElem?_cons_succ, List.getElem?_cons_zero, Option.some.injEq] at ho
          subst ho
          simp [loudAt, loudUpon, go_sem, execOp]
          exact ⟨hC.alloc hC.size _, hI.s1 hls hC.size⟩
        · simp only [List.getElem?_cons_succ, List.getElem?_cons_zero, Option.some.injEq] at ho
          subst ho
          simp [loudAt, loudUpon, go_sem, execOp]
          exact ⟨hC.alloc hC.size _, hI.s2 hls hC.size⟩
        · have h1 := hw (11, 6) (by simp) (by kernel_rfl)
          obtain ⟨g, e1, hg, hbk⟩ := hI.p1 h1
          have hl1 : ls 13 = false := hls
          rw [hl1, cond_false] at hbk
          obtain ⟨b0, b1, bl⟩ := cells2 hbk
          have f0 := hbk.frozen 0
          have f1 := hbk.frozen 1
          simp only [List.getElem?_cons_succ, List.getElem?_cons_zero, Option.some.injEq] at ho
          subst ho
          simp [loudAt, loudUpon, go_sem, execOp, putsL, Act.put, e1, f0, f1, b0, b1]
          exact ⟨below_set2 hC hg _ _, hI.w1 h1 hls e1 hbk _⟩
        · have h1 := hw (12, 7) (by simp) (by kernel_rfl)
          obtain ⟨g, e1, hg, hbk⟩ := hI.p2 h1
          have hl1 : ls 14 = false := hls
          rw [hl1, cond_false] at hbk
          obtain ⟨b0, b1, bl⟩ := cells2 hbk
          have f0 := hbk.frozen 0
          have f1 := hbk.frozen 1
          simp only [List.getElem?_cons_succ, List.getElem?_cons_zero, Option.some.injEq] at ho
          subst ho
          simp [loudAt, loudUpon, go_sem, execOp, putsL, Act.put, e1, f0, f1, b0, b1]
          exact ⟨below_set2 hC hg _ _, hI.w2 h1 hls e1 hbk _⟩
      case last =>
      rintro ls vs v4 hV hI hls
      obtain ⟨g6, g7, e6, e7, h6, h7, hne, hb6, hb7⟩ := hI.done (hls (13, 1000) (by simp)) (hls (14, 1001) (by simp))
      simp only [putsL, List.foldl_cons, List.foldl_nil, List.drop_succ_cons, List.drop_nil, Act.put, e6, e7, List.setIfInBounds_toArray, List.set_cons_succ, List.set_cons_zero, List.set_nil]
      have H6b := Lib.hid hb6
      have H7b := Lib.hid hb7
      have HB3 := Lib.hid (HBk.out.trans (hV.mono HBk.out.size))
      clear hI hls e6 e7 hV hb6 hb7 y0 y1 yl
      generalize vs 13 = x13 at *
      generalize vs 14 = x14 at *
      clear vs ls
      go_upto_region 5 with fail
      obtain ⟨u0, u1, ul⟩ := cells2 H6b.out
      obtain ⟨v0, v1, vl⟩ := cells2 H7b.out
      have HW1 := Lib.hid (fun u => swithin_any y (16 * yp) (16 * yq) u)
      cases hq : inB y (16 * yp) (16 * yq) with
      | true =>
        rw [hq] at HW1 HPk
        have HE := HAk.out HPk.out
        rw [HVk.out] at HE
        simp only [Prod.mk.injEq] at HE
        obtain ⟨rfl, rfl⟩ := HE
        have hin := of_decide_eq_true (show decide (16 * yp ≤ y ∧ y ≤ 16 * yq) = true from hq)
        clear hq HPk HAk HVk HN HA
        have m1 := mul_bd (A := 2000) (B := 2097152) (x := xp) (y := 16 * (yq - yp)) (by omega) (by omega) (by omega) (by omega)
        have m2 := mul_bd (A := 2097152) (B := 2000) (x := y - 16 * yp) (y := xq - xp) (by omega) (by omega) (by omega) (by omega)
        obtain ⟨z0, z1, zl⟩ := cells2 (HR.out.below HB3.out)
        have f0 := (HR.out.below HB3.out).frozen 0
        have f1 := (HR.out.below HB3.out).frozen 1
        go_wp2_with (go_at_call 36; (with_reducible refine (HW1.out _).mono ?_); rintro e u5 ⟨rfl, rfl⟩)
        obtain ⟨x0, x1, _⟩ := cells2 (blk_set2 (HR.out.below HB3.out) (.int .i64 (xp * (16 * (yq - yp)) + (y - 16 * yp) * (xq - xp))) (.int .i64 (16 * (yq - yp))))
        exact bodyPost_ret (v := .agg #[.int .i64 (xp * (16 * (yq - yp)) + (y - 16 * yp) * (xq - xp)), .int .i64 (16 * (yq - yp))]) (by simp [results, Tryz.results99, go_sem, x0, x1]) rfl ⟨rfl, below_set2 (HB.out.trans (HB3.out.mono HB.out.size)) (by omega) _ _⟩
      | false =>
        rw [hq] at HW1 HPk
        have HNx := Lib.hid (show ∀ i, i < k + 1 → whP ks y i = false from fun i hi => by
          by_cases e : i = k
          · rw [e]; exact HPk.out
          · exact HNo.out i (by omega))
        clear hq
        go_wp2_with (go_at_call 36; (with_reducible refine (HW1.out _).mono ?_); rintro e u5 ⟨rfl, rfl⟩)
        go_roundw
        case rel => exact ⟨k + 1, hkn, by go_num, HNx.out, HB3.out⟩
        case measure => simp [intOf]; omega
end Go.Proofs.YtgojpgggbflgoaaGreat

namespace Go.Proofs.YtgojpgggbflgoaaGreat
open Go.RowKit

/-- The first numbers are within their marks. -/
def bdB (x : Sv) (p0 p1 p2 p3 p4 p5 : Int) : Nat → Bool
  | 0 => inB p0 x.a0 x.b0
  | 1 => inB p1 x.a1 x.b1
  | 2 => inB p2 x.a2 x.b2
  | 3 => inB p3 x.a3 x.b3
  | 4 => inB p4 x.a4 x.b4
  | _ => inB p5 x.a5 x.b5
def bendB (x : Sv) (p0 p1 p2 p3 p4 p5 : Int) : Bool := (List.range 6).all (bdB x p0 p1 p2 p3 p4 p5) && inB (2 * (p2 + p3) - p0 - p1 - p4 - p5) (-4 * x.sag) (4 * x.sag)
set_option maxRecDepth 100000 in
set_option maxHeartbeats 12800000 in
theorem Bends_any (x : Sv) (p0 p1 p2 p3 p4 p5 : Int) (w : World) (h : MkOk x) :
    Calls Tryz.prog 44 #[vSv x, .agg #[.int .i64 p0, .int .i64 p1, .int .i64 p2, .int .i64 p3, .int .i64 p4, .int .i64 p5]] w fun e w' => e = .returned (.bool (bendB x p0 p1 p2 p3 p4 p5)) ∧ Below w.heap.size w w' := by
  obtain ⟨E, hE⟩ : ∃ E, bendB x p0 p1 p2 p3 p4 p5 = E := ⟨_, rfl⟩
  have HE := Lib.hid (show E = ((List.range 6).all (bdB x p0 p1 p2 p3 p4 p5) && inB (2 * (p2 + p3) - p0 - p1 - p4 - p5) (-4 * x.sag) (4 * x.sag)) from hE.symm)
  rw [hE]
  have P0 := Lib.hid (show bdB x p0 p1 p2 p3 p4 p5 0 = inB p0 x.a0 x.b0 from rfl)
  have P1 := Lib.hid (show bdB x p0 p1 p2 p3 p4 p5 1 = inB p1 x.a1 x.b1 from rfl)
  have P2 := Lib.hid (show bdB x p0 p1 p2 p3 p4 p5 2 = inB p2 x.a2 x.b2 from rfl)
  have P3 := Lib.hid (show bdB x p0 p1 p2 p3 p4 p5 3 = inB p3 x.a3 x.b3 from rfl)
  have P4 := Lib.hid (show bdB x p0 p1 p2 p3 p4 p5 4 = inB p4 x.a4 x.b4 from rfl)
  have P5 := Lib.hid (show bdB x p0 p1 p2 p3 p4 p5 5 = inB p5 x.a5 x.b5 from rfl)
  generalize bdB x p0 p1 p2 p3 p4 p5 = bd at *
  obtain ⟨hA, hB, hS⟩ := h
  have HA := Lib.hid hA
  have HB' := Lib.hid hB
  clear hE hA hB
  obtain ⟨xi, xt, a0, b0, a1, b1, a2, b2, a3, b3, a4, b4, a5, b5, xs, xh, xl, xu⟩ := x
  dsimp only at HE P0 P1 P2 P3 P4 P5 HA HB' hS
  have hb0 := ((Below.refl w.heap.size w).alloc (Nat.le_refl _) (.cells #[.int .i64 xi, .int .i64 xt, .int .i64 a0, .int .i64 b0, .int .i64 a1, .int .i64 b1, .int .i64 a2, .int .i64 b2, .int .i64 a3, .int .i64 b3, .int .i64 a4, .int .i64 b4, .int .i64 a5, .int .i64 b5, .int .i64 xs, .int .i64 xh, .int .i64 xl, .int .i64 xu] 62)).alloc (by simp) (.cells #[.int .i64 p0, .int .i64 p1, .int .i64 p2, .int .i64 p3, .int .i64 p4, .int .i64 p5] 72)
  have x0 := (Blk.new w 62 #[.int .i64 xi, .int .i64 xt, .int .i64 a0, .int .i64 b0, .int .i64 a1, .int .i64 b1, .int .i64 a2, .int .i64 b2, .int .i64 a3, .int .i64 b3, .int .i64 a4, .int .i64 b4, .int .i64 a5, .int .i64 b5, .int .i64 xs, .int .i64 xh, .int .i64 xl, .int .i64 xu]).alloc (.cells #[.int .i64 p0, .int .i64 p1, .int .i64 p2, .int .i64 p3, .int .i64 p4, .int .i64 p5] 72)
  have t0 := Blk.at_new (W := w.alloc (.cells #[.int .i64 xi, .int .i64 xt, .int .i64 a0, .int .i64 b0, .int .i64 a1, .int .i64 b1, .int .i64 a2, .int .i64 b2, .int .i64 a3, .int .i64 b3, .int .i64 a4, .int .i64 b4, .int .i64 a5, .int .i64 b5, .int .i64 xs, .int .i64 xh, .int .i64 xl, .int .i64 xu] 62)) (g := w.heap.size + 1) 72 #[.int .i64 p0, .int .i64 p1, .int .i64 p2, .int .i64 p3, .int .i64 p4, .int .i64 p5] (by simp)
  go_enter Tryz.func44, Tryz.ntmps44
  go_upto_region 1 with fail
  generalize hW : (w.alloc (.cells #[.int .i64 xi, .int .i64 xt, .int .i64 a0, .int .i64 b0, .int .i64 a1, .int .i64 b1, .int .i64 a2, .int .i64 b2, .int .i64 a3, .int .i64 b3, .int .i64 a4, .int .i64 b4, .int .i64 a5, .int .i64 b5, .int .i64 xs, .int .i64 xh, .int .i64 xl, .int .i64 xu] 62)).alloc (.cells #[.int .i64 p0, .int .i64 p1, .int .i64 p2, .int .i64 p3, .int .i64 p4, .int .i64 p5] 72) = W at *
  clear hW
  have HX := Lib.hid x0
  have HT := Lib.hid t0
  have HB := Lib.hid hb0
  have q0 := t0.cell 0
  have q1 := t0.cell 1
  have q2 := t0.cell 2
  have q3 := t0.cell 3
  have q4 := t0.cell 4
  have q5 := t0.cell 5
  simp only [List.getElem?_toArray, List.getElem?_cons_zero, List.getElem?_cons_succ] at q0 q1 q2 q3 q4 q5
  have ql := t0.lt
  clear t0 x0 hb0
  go_upto_region 2 with fail
  clear q0 q1 q2 q3 q4 q5 ql
  go_loopw [5, 6, 8] (fun _ _ i wx => ∃ j : Nat, j ≤ 6 ∧ i = .int .i64 (j : Int) ∧ (∀ i, i < j → bd i = true) ∧ Below W.heap.size W wx) (fun _ _ i _ => 6 - (intOf i).toNat)
  case atStart => exact ⟨0, by omega, rfl, fun i h => absurd h (by omega), Below.refl _ _⟩
  case round =>
    obtain ⟨j, hj, rfl, hno, hb⟩ := hrel
    have HNo := Lib.hid hno
    have HBk := Lib.hid hb
    clear hno hb
    have HXk := Lib.hid (HX.out.below HBk.out)
    by_cases hj6 : j < 6
    case pos =>
      obtain ⟨a, b, p, hidx, h1, h2, hP⟩ : ∃ a b p : Int, (∀ u : World, (Instr.index 72 (.agg #[.int .i64 p0, .int .i64 p1, .int .i64 p2, .int .i64 p3, .int .i64 p4, .int .i64 p5]) (.int .i64 (j : Int))).run Tryz.prog u = .ok (.int .i64 p) u) ∧ wr.cell? ⟨w.heap.size, 2 + j * 2, none⟩ = some (.int .i64 a) ∧ wr.cell? ⟨w.heap.size, 2 + j * 2 + 1, none⟩ = some (.int .i64 b) ∧ bd j = inB p a b := by
        have hj7 : j = 0 ∨ j = 1 ∨ j = 2 ∨ j = 3 ∨ j = 4 ∨ j = 5 := by omega
        rcases hj7 with rfl | rfl | rfl | rfl | rfl | rfl
        · exact ⟨a0, b0, p0, fun u => by kernel_rfl, HXk.out.cell 2, HXk.out.cell 3, P0.out⟩
        · exact ⟨a1, b1, p1, fun u => by kernel_rfl, HXk.out.cell 4, HXk.out.cell 5, P1.out⟩
        · exact ⟨a2, b2, p2, fun u => by kernel_rfl, HXk.out.cell 6, HXk.out.cell 7, P2.out⟩
        · exact ⟨a3, b3, p3, fun u => by kernel_rfl, HXk.out.cell 8, HXk.out.cell 9, P3.out⟩
        · exact ⟨a4, b4, p4, fun u => by kernel_rfl, HXk.out.cell 10, HXk.out.cell 11, P4.out⟩
        · exact ⟨a5, b5, p5, fun u => by kernel_rfl, HXk.out.cell 12, HXk.out.cell 13, P5.out⟩
      have xl' := HXk.out.lt
      have HW1 := Lib.hid (fun u => swithin_any p a b u)
      have HPj := Lib.hid hP
      clear P0 P1 P2 P3 P4 P5 hP
      generalize inB p a b = bb at *
      go_upto_region 4 with fail
      obtain ⟨xc, xf'⟩ := xcell (W := wr)
      refine wp_region_quiet_tail 13 (by kernel_rfl) (by kernel_rfl) ?_
      simp only [List.take_succ_cons, List.take_zero, List.drop_succ_cons, List.drop_zero]
      repeat (first | go_big_quiet_step ((go_at_call 36; with_reducible refine calls_ext_same (HW1.out _))) | quiet_step ((go_at_call 36; with_reducible refine calls_ext_same (HW1.out _))))
      refine wpQuiet_nil ?_
      intro w2 hb2
      have HB2 := Lib.hid (HBk.out.trans (hb2.mono HBk.out.size))
      clear hb2 xc xf' h1 h2 xl'
      cases bb with
      | false =>
        have hE : E = false := by
          rw [HE.out]
          have : (List.range 6).all bd = false := List.all_eq_false.2 ⟨j, List.mem_range.2 hj6, by rw [HPj.out]; decide⟩
          rw [this]
          rfl
        clear HE
        subst hE
        go_wp2
        exact bodyPost_ret (v := .bool false) (by simp [results, Tryz.results44, go_sem]) rfl ⟨rfl, HB.out.trans (HB2.out.mono HB.out.size)⟩
      | true =>
        have HNx := Lib.hid (show ∀ i, i < j + 1 → bd i = true from fun i hi => by
          by_cases e : i = j
          · rw [e]; exact HPj.out
          · exact HNo.out i (by omega))
        go_wp2
        go_roundw
        case rel => exact ⟨j + 1, by omega, by go_num, HNx.out, HB2.out⟩
        case measure => simp [intOf]; omega
    case neg =>
      obtain rfl : j = 6 := by omega
      have hE : E = inB (2 * (p2 + p3) - p0 - p1 - p4 - p5) (-4 * xs) (4 * xs) := by
        rw [HE.out]
        have : (List.range 6).all bd = true := List.all_eq_true.2 fun i hi => HNo.out i (List.mem_range.1 hi)
        rw [this, Bool.true_and]
      have k0 := of_decide_eq_true (P0.out.symm.trans (HNo.out 0 (by omega)))
      have k1 := of_decide_eq_true (P1.out.symm.trans (HNo.out 1 (by omega)))
      have k2 := of_decide_eq_true (P2.out.symm.trans (HNo.out 2 (by omega)))
      have k3 := of_decide_eq_true (P3.out.symm.trans (HNo.out 3 (by omega)))
      have k4 := of_decide_eq_true (P4.out.symm.trans (HNo.out 4 (by omega)))
      have k5 := of_decide_eq_true (P5.out.symm.trans (HNo.out 5 (by omega)))
      have hA := HA.out
      have hB := HB'.out
      have r0 : 0 ≤ p0 ∧ p0 ≤ 65536 := by omega
      have r1 : 0 ≤ p1 ∧ p1 ≤ 65536 := by omega
      have r2 : 0 ≤ p2 ∧ p2 ≤ 65536 := by omega
      have r3 : 0 ≤ p3 ∧ p3 ≤ 65536 := by omega
      have r4 : 0 ≤ p4 ∧ p4 ≤ 65536 := by omega
      have r5 : 0 ≤ p5 ∧ p5 ≤ 65536 := by omega
      have HW1 := Lib.hid (fun u => swithin_any (2 * (p2 + p3) - p0 - p1 - p4 - p5) (-4 * xs) (4 * xs) u)
      rw [← hE] at HW1
      clear hE HE P0 P1 P2 P3 P4 P5 k0 k1 k2 k3 k4 k5 hA hB HA HB'
      have HTk := Lib.hid (HT.out.below HBk.out)
      have q0 := HTk.out.cell 0
      have q1 := HTk.out.cell 1
      have q2 := HTk.out.cell 2
      have q3 := HTk.out.cell 3
      have q4 := HTk.out.cell 4
      have q5 := HTk.out.cell 5
      simp only [List.getElem?_toArray, List.getElem?_cons_zero, List.getElem?_cons_succ] at q0 q1 q2 q3 q4 q5
      have ql := HTk.out.lt
      have x14 := HXk.out.cell 14
      simp only [List.getElem?_toArray, List.getElem?_cons_zero, List.getElem?_cons_succ] at x14
      have xl' := HXk.out.lt
      go_wp2_with (go_at_call 36; (with_reducible refine (HW1.out _).mono ?_); rintro e u5 ⟨rfl, rfl⟩)
      exact bodyPost_ret (v := .bool E) (by simp [results, Tryz.results44, go_sem]) rfl ⟨rfl, HB.out.trans (HBk.out.mono HB.out.size)⟩
end Go.Proofs.YtgojpgggbflgoaaGreat

namespace Go.Proofs.YtgojpgggbflgoaaGreat
open Go.RowKit

/-- The first knot whose X is not less than a mass. -/
def atI (ks : List (Int × Int)) (mass : Int) : Nat := (idx (fun k : Int × Int => decide (mass ≤ k.1 * 40)) ks).toNat
/-- The value at a mass: a numerator and a denominator. -/
def atR (ks : List (Int × Int)) (mass : Int) : Int × Int :=
  if kx ks (atI ks mass) * 40 = mass then (ky ks (atI ks mass), 1)
  else (ky ks (atI ks mass - 1) * ((kx ks (atI ks mass) - kx ks (atI ks mass - 1)) * 40) + (ky ks (atI ks mass) - ky ks (atI ks mass - 1)) * (mass - kx ks (atI ks mass - 1) * 40), (kx ks (atI ks mass) - kx ks (atI ks mass - 1)) * 40)
theorem atI_ok {ks : List (Int × Int)} {mass : Int} (hv : Valid ks) (h1 : kx ks 0 * 40 ≤ mass) (h2 : mass ≤ kx ks (ks.length - 1) * 40) :
    atI ks mass < ks.length ∧ idx (fun k : Int × Int => decide (mass ≤ k.1 * 40)) ks = (atI ks mass : Int) ∧ mass ≤ kx ks (atI ks mass) * 40 ∧ (kx ks (atI ks mass) * 40 = mass ∨ (0 < atI ks mass ∧ kx ks (atI ks mass - 1) * 40 < mass)) := by
  have hp := hv.pos
  have hn : ¬ idx (fun k : Int × Int => decide (mass ≤ k.1 * 40)) ks < 0 := by
    rw [idx_neg]
    intro h
    have := h _ (List.getElem_mem (show ks.length - 1 < ks.length by omega))
    rw [decide_eq_false_iff_not] at this
    rw [kx_at (show ks.length - 1 < ks.length by omega)] at h2
    omega
  obtain ⟨k, q, e, hk, hb⟩ := idx_lt hn
  have ea : atI ks mass = k := by unfold atI; rw [e]; rfl
  rw [ea]
  have hk := of_decide_eq_true hk
  refine ⟨q, e, by rw [kx_at q]; exact hk, ?_⟩
  by_cases c : kx ks k * 40 = mass
  · exact .inl c
  · refine .inr ?_
    have h0 : 0 < k := by
      refine Nat.pos_of_ne_zero fun c0 => ?_
      subst c0
      rw [← kx_at q] at hk
      omega
    refine ⟨h0, ?_⟩
    have := hb (k - 1) (by omega) (by omega)
    rw [decide_eq_false_iff_not] at this
    rw [kx_at (show k - 1 < ks.length by omega)]
    omega
set_option maxRecDepth 100000 in
set_option maxHeartbeats 6400000 in
theorem at_any (b off cap : Nat) (err : Int) (ks : List (Int × Int)) (mass : Int) (w : World) (h : Kn w b off ks) (hv : Valid ks) (h1 : kx ks 0 * 40 ≤ mass) (h2 : mass ≤ kx ks (ks.length - 1) * 40) :
    Calls Tryz.prog 57 #[.agg #[.slice (some ⟨b, off, none⟩) ks.length cap, .int .i64 err], .int .i64 mass] w fun e w' => e = .returned (.tuple #[.int .i64 (atR ks mass).1, .int .i64 (atR ks mass).2]) ∧ Below w.heap.size w w' := by
  obtain ⟨hi, he, hge, hor⟩ := atI_ok hv h1 h2
  have hx0 := hv.x0 0 hv.pos
  have hxn := hv.x0 (ks.length - 1) (by have := hv.pos; omega)
  have hms : 0 ≤ mass ∧ mass ≤ 80000 := by omega
  have hb0 := ((Below.refl w.heap.size w).alloc (Nat.le_refl _) (.cells #[.slice (some ⟨b, off, none⟩) ks.length cap, .int .i64 err] 129)).alloc (by simp) (.cells #[.int .i64 mass] 3)
  have t0 := (Blk.new w 129 #[.slice (some ⟨b, off, none⟩) ks.length cap, .int .i64 err]).alloc (.cells #[.int .i64 mass] 3)
  have m0 := Blk.at_new (W := w.alloc (.cells #[.slice (some ⟨b, off, none⟩) ks.length cap, .int .i64 err] 129)) (g := w.heap.size + 1) 3 #[.int .i64 mass] (by simp)
  have mc := m0.cell 0
  simp only [List.getElem?_toArray, List.getElem?_cons_zero] at mc
  have hkb := h.below hb0
  have HC := Lib.hid (ixM_any (some ⟨b, off, none⟩) ks.length cap ks mass (w.heap.size + 1) _ ⟨rfl, fun _ => ⟨b, off, rfl, hkb⟩⟩ (by have := hv.le; omega) (fun k hk => by
    obtain ⟨i, hi, rfl⟩ := List.getElem_of_mem hk
    have := hv.x0 i hi
    rw [kx_at hi] at this
    exact this) m0.lt mc)
  rw [he] at HC
  have HK := Lib.hid hkb
  obtain ⟨R, hR⟩ : ∃ R, atR ks mass = R := ⟨_, rfl⟩
  have HR := Lib.hid (show R = if kx ks (atI ks mass) * 40 = mass then (ky ks (atI ks mass), 1)
    else (ky ks (atI ks mass - 1) * ((kx ks (atI ks mass) - kx ks (atI ks mass - 1)) * 40) + (ky ks (atI ks mass) - ky ks (atI ks mass - 1)) * (mass - kx ks (atI ks mass - 1) * 40), (kx ks (atI ks mass) - kx ks (atI ks mass - 1)) * 40) from hR.symm)
  rw [hR]
  clear h hkb hR mc he hx0 hxn h1 h2
  have hx1 := hv.x0 _ hi
  have hy1 := hv.y0 _ hi
  have hx2 := hv.x0 (atI ks mass - 1) (by omega)
  have hy2 := hv.y0 (atI ks mass - 1) (by omega)
  have HKx := Lib.hid (fun (u : World) (hu : Kn u b off ks) => And.intro (hu.x _ hi) (And.intro (hu.y _ hi) (And.intro (hu.x (atI ks mass - 1) (by omega)) (And.intro (hu.y (atI ks mass - 1) (by omega)) hu.lt))))
  have hle := hv.le
  clear hv
  generalize ks.length = n at *
  generalize atI ks mass = k at *
  go_enter Tryz.func57, Tryz.ntmps57
  go_upto_region 1 with fail
  generalize hW : (w.alloc (.cells #[.slice (some ⟨b, off, none⟩) n cap, .int .i64 err] 129)).alloc (.cells #[.int .i64 mass] 3) = W at *
  clear hW
  have HT := Lib.hid t0
  have HM := Lib.hid m0
  have HB := Lib.hid hb0
  obtain ⟨y0, y1, yl⟩ := cells2 t0
  clear t0 m0 hb0
  go_upto_region 2 with (go_at_call 83; (with_reducible refine HC.out.mono ?_); rintro e u1 ⟨rfl, hb1⟩)
  have HT1 := Lib.hid (HT.out.below hb1)
  have HM1 := Lib.hid (HM.out.below hb1)
  have HB1 := Lib.hid (HB.out.trans (hb1.mono HB.out.size))
  have HK1 := Lib.hid (HK.out.below hb1)
  clear hb1 y0 y1 yl HC HT HM HB HK
  obtain ⟨y0, y1, yl⟩ := cells2 HT1.out
  have z0 := HM1.out.cell 0
  simp only [List.getElem?_toArray, List.getElem?_cons_zero] at z0
  have zl := HM1.out.lt
  obtain ⟨k0, k1, k2, k3, kl⟩ := HKx.out u1 HK1.out
  generalize kx ks k = xq at *
  generalize ky ks k = yq at *
  generalize kx ks (k - 1) = xp at *
  generalize ky ks (k - 1) = yp at *
  go_upto_region 3 with fail
  have bq := below_new u1 (.cells #[.int .i64 xq, .int .i64 yq] 97)
  have HT2 := Lib.hid (HT1.out.below bq)
  have HM2 := Lib.hid (HM1.out.below bq)
  have HB2 := Lib.hid (HB1.out.trans (bq.mono HB1.out.size))
  have HN2 := Lib.hid (Blk.new u1 97 #[.int .i64 xq, .int .i64 yq])
  obtain ⟨k0', k1', k2', k3', kl'⟩ := HKx.out _ (HK1.out.below bq)
  generalize hV : u1.alloc (.cells #[.int .i64 xq, .int .i64 yq] 97) = V at *
  generalize hg : u1.heap.size = g at *
  clear hV hg bq y0 y1 yl z0 zl k0 k1 k2 k3 kl k0' k1' HT1 HM1 HB1 HK1 HKx
  obtain ⟨y0, y1, yl⟩ := cells2 HT2.out
  have z0 := HM2.out.cell 0
  simp only [List.getElem?_toArray, List.getElem?_cons_zero] at z0
  have zl := HM2.out.lt
  obtain ⟨q0, q1, ql⟩ := cells2 HN2.out
  by_cases hq : xq * 40 = mass
  case pos =>
    have hqb : (xq * 40 == mass) = true := by simpa using hq
    have hE : R = (yq, 1) := by rw [HR.out, if_pos hq]
    clear HR hq hor hge
    subst hE
    go_wp2
    exact bodyPost_ret (v := .tuple #[.int .i64 yq, .int .i64 1]) (by simp [results, Tryz.results57, go_sem]) rfl ⟨rfl, HB2.out⟩
  case neg =>
    have hqb : (xq * 40 == mass) = false := by simpa using hq
    have hE : R = (yp * ((xq - xp) * 40) + (yq - yp) * (mass - xp * 40), (xq - xp) * 40) := by rw [HR.out, if_neg hq]
    have hk0 : 0 < k := (hor.resolve_left hq).1
    obtain ⟨j, rfl⟩ : ∃ j, k = j + 1 := ⟨k - 1, by omega⟩
    rw [Nat.add_sub_cancel] at *
    have m1 := mul_bd (A := 65536) (B := 160000) (x := yp) (y := (xq - xp) * 40) (by omega) (by omega) (by omega) (by omega)
    have m2 := mul_bd (A := 131072) (B := 80000) (x := yq - yp) (y := mass - xp * 40) (by omega) (by omega) (by omega) (by omega)
    clear HR hq hor hge
    subst hE
    go_wp2
    exact bodyPost_ret (v := .tuple #[.int .i64 (yp * ((xq - xp) * 40) + (yq - yp) * (mass - xp * 40)), .int .i64 ((xq - xp) * 40)]) (by simp [results, Tryz.results57, go_sem]) rfl ⟨rfl, HB2.out.alloc HB2.out.size _⟩
end Go.Proofs.YtgojpgggbflgoaaGreat

namespace Go.Proofs.YtgojpgggbflgoaaGreat
open Go.RowKit

def FoP (n : Nat) (fs : List Int) (V R : Int) (ls : Nat → Bool) (vs : Nat → Value) (v : World) : Prop :=
  (ls 6 = true → ∃ A c, vs 6 = .slice A n c ∧ SAt encI 1 v A n fs) ∧ (ls 8 = true → vs 8 = .int .i64 V) ∧ (ls 9 = true → vs 9 = .int .i64 R) ∧ (ls 10 = true → vs 10 = .int .i64 R)
def riseS (light height : Int) (hs : List Hl) (xs : List Int) : Int := light * height + valF (hs.map Hl.height) xs
def momS (light lever : Int) (hs : List Hl) (xs : List Int) : Int := light * lever + valF (hs.map Hl.lever) xs
set_option maxRecDepth 100000 in
set_option maxHeartbeats 6400000 in
theorem rise_any2 (id light lever height : Int) (A : Option Addr) (n c : Nat) (B : Option Addr) (m d : Nat) (merr : Int) (C : Option Addr) (q r : Nat) (terr turn least : Int) (hs : List Hl) (X : Option Addr) (p pc : Nat) (xs : List Int) (w : World) (h : SAt encL 4 w A n hs) (hn : n ≤ 8) (hf : ∀ x ∈ hs, -20000 ≤ x.height ∧ x.height ≤ 20000) (hX : SAt encI 1 w X p xs) (hp : n ≤ p) (hx : ∀ x ∈ xs, 0 ≤ x ∧ x ≤ 65536) (hl : 1 ≤ light ∧ light ≤ 65536) (hh : -20000 ≤ height ∧ height ≤ 20000) :
    Calls Tryz.prog 59 #[.agg (cSp id light lever height A n c B m d merr C q r terr turn least), .slice X p pc] w fun e w' => e = .returned (.int .i64 (riseS light height hs xs)) ∧ Below w.heap.size w w' := by
  have hb0 := below_new w (.cells (cSp id light lever height A n c B m d merr C q r terr turn least) 27)
  have t0 := Blk.new w 27 (cSp id light lever height A n c B m d merr C q r terr turn least)
  have HF := Lib.hid (fun (u : World) (hu : Below w.heap.size w u) => heights_any id light lever height A n c B m d merr C q r terr turn least hs u (h.below hu) hn)
  have HLm := Lib.hid (show (hs.map Hl.height).length = n by rw [List.length_map]; exact h.len)
  have hfm : ∀ y ∈ hs.map Hl.height, -1048576 ≤ y ∧ y ≤ 1048576 := fun y hy => by
    obtain ⟨z, hz, rfl⟩ := List.mem_map.1 hy
    have := hf z hz
    omega
  have hxm : ∀ y ∈ xs, -1048576 ≤ y ∧ y ≤ 1048576 := fun y hy => by have := hx y hy; omega
  have HVl := Lib.hid (fun (u : World) (hu : Below w.heap.size w u) (F : Option Addr) (fc : Nat) (hF : SAt encI 1 u F n (hs.map Hl.height)) => value_any F n fc (hs.map Hl.height) X p pc xs u hF (hX.below hu) hp (by omega) hfm hxm)
  have hvb := valF_abs hfm hxm
  rw [HLm.out] at hvb
  have HSp := Lib.hid (show riseS light height hs xs = light * height + valF (hs.map Hl.height) xs from rfl)
  have m1 := mul_bd (A := 65536) (B := 20000) (x := light) (y := height) (by omega) (by omega) (by omega) (by omega)
  obtain ⟨ii, hi0, hi1, hi2, hi3⟩ := info_parts info_int
  clear h hX hx hf hfm hxm
  generalize riseS light height hs xs = R at *
  generalize hs.map Hl.height = fs at *
  generalize valF fs xs = V at *
  go_enter Tryz.func59, Tryz.ntmps59
  go_upto_region 1 with fail
  generalize hW : w.alloc (.cells (cSp id light lever height A n c B m d merr C q r terr turn least) 27) = W at *
  clear hW
  have HT := Lib.hid t0
  have HB := Lib.hid hb0
  clear t0 hb0
  have hRv : R = light * height + V := HSp.out
  clear HSp
  refine wp_region_preC 11 [(6, 11), (8, 13), (9, 14), (10, 4)] (fun v => Below W.heap.size W v) (FoP n fs V R) (by kernel_rfl) (by kernel_rfl) (Below.refl _ _) (fun v1 v2 h kk => h.trans (kk.mono h.size)) (fun v' hv' => ⟨fun a => (by cases a), fun a => (by cases a), fun a => (by cases a), fun a => (by cases a)⟩) (fun ls vs v v' _ h kk => ⟨fun a => let ⟨F, fc, e, k⟩ := h.1 a; ⟨F, fc, e, k.below kk⟩, h.2.1, h.2.2.1, h.2.2.2⟩) ?ex
  case ex =>
  apply Exists.intro
  refine ⟨?walk, ?loud, ?last⟩
  case walk =>
    intro U hU
    obtain ⟨tl, s0, s1, s2, s3, s4, s5, s6, s7, s8, s9, s10⟩ := blk11 (HT.out.below hU)
    obtain ⟨xc, xf'⟩ := xcell (W := U)
    simp only [List.take_succ_cons, List.take_nil, qOf, isLoud, List.any_cons, List.any_nil, Nat.reduceBEq, Bool.or_false, Bool.or_true, Nat.reduceAdd, Bool.false_eq_true, if_true, if_false, beq_self_eq_true, Nat.zero_add]
    repeat (first | go_big_quiet_step (fail) | quiet_step (fail))
    exact wpQuiet_nil rfl
  case loud =>
    rintro pp hpp vs v hC ls hI hls hw o ho
    simp only [List.mem_cons, List.not_mem_nil, or_false] at hpp
    obtain ⟨i6, i8, i9, i10⟩ := hI
    rcases hpp with rfl | rfl | rfl | rfl
    · simp only [List.getElem?_cons_succ, List.getElem?_cons_zero, Option.some.injEq] at ho
      subst ho
      have HC := Lib.hid (HF.out v (HB.out.trans (hC.mono HB.out.size)))
      simp [loudAt, loudUpon, go_sem, putsL, Act.put]
      refine HC.out.mono ?_
      rintro e v' ⟨x, rfl, hox, hb⟩
      obtain ⟨F, fc, rfl, hsF, _, _⟩ := SAt_of_row encI_len HLm.out hox
      exact ⟨_, rfl, hC.trans (hb.mono hC.size), fun _ => ⟨F, fc, by simp [upd], hsF⟩, fun a => by simpa [updB, upd] using i8 (by simpa [updB] using a), fun a => by simpa [updB, upd] using i9 (by simpa [updB] using a), fun a => by simpa [updB, upd] using i10 (by simpa [updB] using a)⟩
    · obtain ⟨F, fc, e6, hF⟩ := i6 (hw (6, 11) (by simp) (by kernel_rfl))
      simp only [List.getElem?_cons_succ, List.getElem?_cons_zero, Option.some.injEq] at ho
      subst ho
      have HC := Lib.hid (HVl.out v (HB.out.trans (hC.mono HB.out.size)) F fc hF)
      simp [loudAt, loudUpon, go_sem, putsL, Act.put, e6]
      refine HC.out.mono ?_
      rintro e v' ⟨rfl, hb⟩
      exact ⟨_, rfl, hC.trans (hb.mono hC.size), fun _ => ⟨F, fc, by simpa [upd] using e6, hF.below hb⟩, fun _ => by simp [upd], fun a => by simpa [updB, upd] using i9 (by simpa [updB] using a), fun a => by simpa [updB, upd] using i10 (by simpa [updB] using a)⟩
    · have e8 := i8 (hw (8, 13) (by simp) (by kernel_rfl))
      have hr1 : -9223372036854775808 ≤ light * height + V ∧ light * height + V ≤ 9223372036854775807 := by omega
      simp only [List.getElem?_cons_succ, List.getElem?_cons_zero, Option.some.injEq] at ho
      subst ho
      have HR := Lib.hid hRv
      clear hRv
      generalize light * height = lh at *
      simp [loudAt, loudUpon, go_sem, execOp, putsL, Act.put, e8]
      refine ⟨hC, fun a => by simpa [updB, upd] using i6 (by simpa [updB] using a), fun a => by simpa [updB, upd] using i8 (by simpa [updB] using a), fun _ => ?_, fun a => by simpa [updB, upd] using i10 (by simpa [updB] using a)⟩
      simp only [upd]
      rw [if_pos trivial, HR.out]
      rw [IntWalk.i64_in _ hr1]
    · have e9 := i9 (hw (9, 14) (by simp) (by kernel_rfl))
      simp only [List.getElem?_cons_succ, List.getElem?_cons_zero, Option.some.injEq] at ho
      subst ho
      simp [loudAt, loudUpon, go_sem, execOp, putsL, Act.put, e9]
      exact ⟨hC, fun a => by simpa [updB, upd] using i6 (by simpa [updB] using a), fun a => by simpa [updB, upd] using i8 (by simpa [updB] using a), fun a => by simpa [updB, upd] using i9 (by simpa [updB] using a), fun _ => by simp [upd]⟩
  case last =>
  rintro ls vs V' hV hI hls
  have e10 := hI.2.2.2 (hls (10, 4) (by simp))
  simp only [putsL, List.foldl_cons, List.foldl_nil, List.drop_succ_cons, List.drop_nil, Act.put, e10, List.setIfInBounds_toArray, List.set_cons_succ, List.set_cons_zero]
  generalize vs 6 = x6 at *
  generalize vs 8 = x8 at *
  generalize vs 9 = x9 at *
  clear hI hls e10 vs ls
  go_wp2
  exact bodyPost_ret (v := .int .i64 R) (by simp [results, Tryz.results59, go_sem]) rfl ⟨rfl, HB.out.trans (hV.mono HB.out.size)⟩
set_option maxRecDepth 100000 in
set_option maxHeartbeats 6400000 in
theorem moment_any (id light lever height : Int) (A : Option Addr) (n c : Nat) (B : Option Addr) (m d : Nat) (merr : Int) (C : Option Addr) (q r : Nat) (terr turn least : Int) (hs : List Hl) (X : Option Addr) (p pc : Nat) (xs : List Int) (w : World) (h : SAt encL 4 w A n hs) (hn : n ≤ 8) (hf : ∀ x ∈ hs, -20000 ≤ x.lever ∧ x.lever ≤ 20000) (hX : SAt encI 1 w X p xs) (hp : n ≤ p) (hx : ∀ x ∈ xs, 0 ≤ x ∧ x ≤ 65536) (hl : 1 ≤ light ∧ light ≤ 65536) (hh : -20000 ≤ lever ∧ lever ≤ 20000) :
    Calls Tryz.prog 87 #[.agg (cSp id light lever height A n c B m d merr C q r terr turn least), .slice X p pc] w fun e w' => e = .returned (.int .i64 (momS light lever hs xs)) ∧ Below w.heap.size w w' := by
  have hb0 := below_new w (.cells (cSp id light lever height A n c B m d merr C q r terr turn least) 27)
  have t0 := Blk.new w 27 (cSp id light lever height A n c B m d merr C q r terr turn least)
  have HF := Lib.hid (fun (u : World) (hu : Below w.heap.size w u) => levers_any id light lever height A n c B m d merr C q r terr turn least hs u (h.below hu) hn)
  have HLm := Lib.hid (show (hs.map Hl.lever).length = n by rw [List.length_map]; exact h.len)
  have hfm : ∀ y ∈ hs.map Hl.lever, -1048576 ≤ y ∧ y ≤ 1048576 := fun y hy => by
    obtain ⟨z, hz, rfl⟩ := List.mem_map.1 hy
    have := hf z hz
    omega
  have hxm : ∀ y ∈ xs, -1048576 ≤ y ∧ y ≤ 1048576 := fun y hy => by have := hx y hy; omega
  have HVl := Lib.hid (fun (u : World) (hu : Below w.heap.size w u) (F : Option Addr) (fc : Nat) (hF : SAt encI 1 u F n (hs.map Hl.lever)) => value_any F n fc (hs.map Hl.lever) X p pc xs u hF (hX.below hu) hp (by omega) hfm hxm)
  have hvb := valF_abs hfm hxm
  rw [HLm.out] at hvb
  have HSp := Lib.hid (show momS light lever hs xs = light * lever + valF (hs.map Hl.lever) xs from rfl)
  have m1 := mul_bd (A := 65536) (B := 20000) (x := light) (y := lever) (by omega) (by omega) (by omega) (by omega)
  obtain ⟨ii, hi0, hi1, hi2, hi3⟩ := info_parts info_int
  clear h hX hx hf hfm hxm
  generalize momS light lever hs xs = R at *
  generalize hs.map Hl.lever = fs at *
  generalize valF fs xs = V at *
  go_enter Tryz.func87, Tryz.ntmps87
  go_upto_region 1 with fail
  generalize hW : w.alloc (.cells (cSp id light lever height A n c B m d merr C q r terr turn least) 27) = W at *
  clear hW
  have HT := Lib.hid t0
  have HB := Lib.hid hb0
  clear t0 hb0
  have hRv : R = light * lever + V := HSp.out
  clear HSp
  refine wp_region_preC 11 [(6, 11), (8, 13), (9, 14), (10, 4)] (fun v => Below W.heap.size W v) (FoP n fs V R) (by kernel_rfl) (by kernel_rfl) (Below.refl _ _) (fun v1 v2 h kk => h.trans (kk.mono h.size)) (fun v' hv' => ⟨fun a => (by cases a), fun a => (by cases a), fun a => (by cases a), fun a => (by cases a)⟩) (fun ls vs v v' _ h kk => ⟨fun a => let ⟨F, fc, e, k⟩ := h.1 a; ⟨F, fc, e, k.below kk⟩, h.2.1, h.2.2.1, h.2.2.2⟩) ?ex
  case ex =>
  apply Exists.intro
  refine ⟨?walk, ?loud, ?last⟩
  case walk =>
    intro U hU
    obtain ⟨tl, s0, s1, s2, s3, s4, s5, s6, s7, s8, s9, s10⟩ := blk11 (HT.out.below hU)
    obtain ⟨xc, xf'⟩ := xcell (W := U)
    simp only [List.take_succ_cons, List.take_nil, qOf, isLoud, List.any_cons, List.any_nil, Nat.reduceBEq, Bool.or_false, Bool.or_true, Nat.reduceAdd, Bool.false_eq_true, if_true, if_false, beq_self_eq_true, Nat.zero_add]
    repeat (first | go_big_quiet_step (fail) | quiet_step (fail))
    exact wpQuiet_nil rfl
  case loud =>
    rintro pp hpp vs v hC ls hI hls hw o ho
    simp only [List.mem_cons, List.not_mem_nil, or_false] at hpp
    obtain ⟨i6, i8, i9, i10⟩ := hI
    rcases hpp with rfl | rfl | rfl | rfl
    · simp only [List.getElem?_cons_succ, List.getElem?_cons_zero, Option.some.injEq] at ho
      subst ho
      have HC := Lib.hid (HF.out v (HB.out.trans (hC.mono HB.out.size)))
      simp [loudAt, loudUpon, go_sem, putsL, Act.put]
      refine HC.out.mono ?_
      rintro e v' ⟨x, rfl, hox, hb⟩
      obtain ⟨F, fc, rfl, hsF, _, _⟩ := SAt_of_row encI_len HLm.out hox
      exact ⟨_, rfl, hC.trans (hb.mono hC.size), fun _ => ⟨F, fc, by simp [upd], hsF⟩, fun a => by simpa [updB, upd] using i8 (by simpa [updB] using a), fun a => by simpa [updB, upd] using i9 (by simpa [updB] using a), fun a => by simpa [updB, upd] using i10 (by simpa [updB] using a)⟩
    · obtain ⟨F, fc, e6, hF⟩ := i6 (hw (6, 11) (by simp) (by kernel_rfl))
      simp only [List.getElem?_cons_succ, List.getElem?_cons_zero, Option.some.injEq] at ho
      subst ho
      have HC := Lib.hid (HVl.out v (HB.out.trans (hC.mono HB.out.size)) F fc hF)
      simp [loudAt, loudUpon, go_sem, putsL, Act.put, e6]
      refine HC.out.mono ?_
      rintro e v' ⟨rfl, hb⟩
      exact ⟨_, rfl, hC.trans (hb.mono hC.size), fun _ => ⟨F, fc, by simpa [upd] using e6, hF.below hb⟩, fun _ => by simp [upd], fun a => by simpa [updB, upd] using i9 (by simpa [updB] using a), fun a => by simpa [updB, upd] using i10 (by simpa [updB] using a)⟩
    · have e8 := i8 (hw (8, 13) (by simp) (by kernel_rfl))
      have hr1 : -9223372036854775808 ≤ light * lever + V ∧ light * lever + V ≤ 9223372036854775807 := by omega
      simp only [List.getElem?_cons_succ, List.getElem?_cons_zero, Option.some.injEq] at ho
      subst ho
      have HR := Lib.hid hRv
      clear hRv
      generalize light * lever = lh at *
      simp [loudAt, loudUpon, go_sem, execOp, putsL, Act.put, e8]
      refine ⟨hC, fun a => by simpa [updB, upd] using i6 (by simpa [updB] using a), fun a => by simpa [updB, upd] using i8 (by simpa [updB] using a), fun _ => ?_, fun a => by simpa [updB, upd] using i10 (by simpa [updB] using a)⟩
      simp only [upd]
      rw [if_pos trivial, HR.out]
      rw [IntWalk.i64_in _ hr1]
    · have e9 := i9 (hw (9, 14) (by simp) (by kernel_rfl))
      simp only [List.getElem?_cons_succ, List.getElem?_cons_zero, Option.some.injEq] at ho
      subst ho
      simp [loudAt, loudUpon, go_sem, execOp, putsL, Act.put, e9]
      exact ⟨hC, fun a => by simpa [updB, upd] using i6 (by simpa [updB] using a), fun a => by simpa [updB, upd] using i8 (by simpa [updB] using a), fun a => by simpa [updB, upd] using i9 (by simpa [updB] using a), fun _ => by simp [upd]⟩
  case last =>
  rintro ls vs V' hV hI hls
  have e10 := hI.2.2.2 (hls (10, 4) (by simp))
  simp only [putsL, List.foldl_cons, List.foldl_nil, List.drop_succ_cons, List.drop_nil, Act.put, e10, List.setIfInBounds_toArray, List.set_cons_succ, List.set_cons_zero]
  generalize vs 6 = x6 at *
  generalize vs 8 = x8 at *
  generalize vs 9 = x9 at *
  clear hI hls e10 vs ls
  go_wp2
  exact bodyPost_ret (v := .int .i64 R) (by simp [results, Tryz.results87, go_sem]) rfl ⟨rfl, HB.out.trans (hV.mono HB.out.size)⟩
end Go.Proofs.YtgojpgggbflgoaaGreat

namespace Go.Proofs.YtgojpgggbflgoaaGreat
open Go.RowKit

def spS (light : Int) (mt : List (Int × Int)) (terr least total : Int) : Int × Int :=
  (((atR mt (light + total)).1 - (terr + least) * (atR mt (light + total)).2) * (light + total), (atR mt (light + total)).2)
theorem atR_bd {ks : List (Int × Int)} {mass : Int} (hv : Valid ks) (h1 : kx ks 0 * 40 ≤ mass) (h2 : mass ≤ kx ks (ks.length - 1) * 40) : (1 ≤ (atR ks mass).2 ∧ (atR ks mass).2 ≤ 80000) ∧ (-20000000000 ≤ (atR ks mass).1 ∧ (atR ks mass).1 ≤ 20000000000) := by
  obtain ⟨hi, he, hge, hor⟩ := atI_ok hv h1 h2
  have hx1 := hv.x0 _ hi
  have hy1 := hv.y0 _ hi
  have hx2 := hv.x0 (atI ks mass - 1) (by omega)
  have hy2 := hv.y0 (atI ks mass - 1) (by omega)
  unfold atR
  by_cases c : kx ks (atI ks mass) * 40 = mass
  · rw [if_pos c]
    exact ⟨by dsimp only; omega, by dsimp only; omega⟩
  · rw [if_neg c]
    have hl := (hor.resolve_left c).2
    have m1 := mul_bd (A := 65536) (B := 80000) (x := ky ks (atI ks mass - 1)) (y := (kx ks (atI ks mass) - kx ks (atI ks mass - 1)) * 40) (by omega) (by omega) (by omega) (by omega)
    have m2 := mul_bd (A := 131072) (B := 80000) (x := ky ks (atI ks mass) - ky ks (atI ks mass - 1)) (y := mass - kx ks (atI ks mass - 1) * 40) (by omega) (by omega) (by omega) (by omega)
    exact ⟨by dsimp only; omega, by dsimp only; omega⟩
set_option maxRecDepth 100000 in
set_option maxHeartbeats 6400000 in
theorem spare_any (id light lever height : Int) (A : Option Addr) (n c : Nat) (B : Option Addr) (m d : Nat) (merr : Int) (C : Option Addr) (q r : Nat) (terr turn least : Int) (mt : List (Int × Int)) (total : Int) (w : World) (hC : CAt w C q mt) (hv : Valid mt) (hl : 1 ≤ light ∧ light ≤ 65536) (ht : 0 ≤ total ∧ total ≤ 65536) (hte : 0 ≤ terr ∧ terr ≤ 4000) (hle : 0 ≤ least ∧ least ≤ 5000) (h1 : kx mt 0 * 40 ≤ light + total) (h2 : light + total ≤ kx mt (mt.length - 1) * 40) :
    Calls Tryz.prog 105 #[.agg (cSp id light lever height A n c B m d merr C q r terr turn least), .int .i64 total] w fun e w' => e = .returned (.tuple #[.int .i64 (spS light mt terr least total).1, .int .i64 (spS light mt terr least total).2]) ∧ Below w.heap.size w w' := by
  have hb0 := below_new w (.cells (cSp id light lever height A n c B m d merr C q r terr turn least) 27)
  have t0 := Blk.new w 27 (cSp id light lever height A n c B m d merr C q r terr turn least)
  obtain ⟨b, off, eC, hk⟩ := hC.at_ (by have := hC.len; have := hv.pos; omega)
  have hlq := hC.len
  subst eC
  subst hlq
  have HC := Lib.hid (fun (u : World) (hu : Below w.heap.size w u) => at_any b off r terr mt (light + total) u (hk.below hu) hv h1 h2)
  have hbd := atR_bd hv h1 h2
  have HS := Lib.hid (show spS light mt terr least total = (((atR mt (light + total)).1 - (terr + least) * (atR mt (light + total)).2) * (light + total), (atR mt (light + total)).2) from rfl)
  clear hC hk h1 h2 hv
  generalize spS light mt terr least total = S at *
  generalize atR mt (light + total) = at_ at *
  generalize mt.length = ml at *
  obtain ⟨an, ad⟩ := at_
  dsimp only at HC hbd HS
  have hSe := HS.out
  subst hSe
  clear HS
  have m1 := mul_bd (A := 9000) (B := 80000) (x := terr + least) (y := ad) (by omega) (by omega) (by omega) (by omega)
  have m2 := mul_bd (A := 20720000000) (B := 131072) (x := an - (terr + least) * ad) (y := light + total) (by omega) (by omega) (by omega) (by omega)
  go_enter Tryz.func105, Tryz.ntmps105
  go_upto_region 1 with fail
  generalize hW : w.alloc (.cells (cSp id light lever height A n c B m d merr (some ⟨b, off, none⟩) ml r terr turn least) 27) = W at *
  clear hW
  have HT := Lib.hid t0
  have HB := Lib.hid hb0
  obtain ⟨tl, s0, s1, s2, s3, s4, s5, s6, s7, s8, s9, s10⟩ := blk11 t0
  clear t0 hb0
  have HCc := Lib.hid (HC.out W HB.out)
  go_upto_region 3 with (go_at_call 57; (with_reducible refine HCc.out.mono ?_); rintro e u1 ⟨rfl, hb1⟩)
  have HB1 := Lib.hid (HB.out.trans (hb1.mono HB.out.size))
  have HT1 := Lib.hid (HT.out.below hb1)
  clear hb1 tl s0 s1 s2 s3 s4 s5 s6 s7 s8 s9 s10 HT HB HCc HC
  obtain ⟨tl, s0, s1, s2, s3, s4, s5, s6, s7, s8, s9, s10⟩ := blk11 HT1.out
  go_wp2
  exact bodyPost_ret (v := .tuple #[.int .i64 ((an - (terr + least) * ad) * (light + total)), .int .i64 ad]) (by simp [results, Tryz.results105, go_sem]) rfl ⟨rfl, HB1.out⟩
end Go.Proofs.YtgojpgggbflgoaaGreat

namespace Go.Proofs.YtgojpgggbflgoaaGreat
open Go.RowKit

def lowN (n d : Int) : Int := n / (Nat.gcd n.natAbs d.natAbs : Int)
def lowD (n d : Int) : Int := d / (Nat.gcd n.natAbs d.natAbs : Int)
theorem low_ok {n d : Int} (h : 1 ≤ d) : ∃ g : Int, 1 ≤ g ∧ n = g * lowN n d ∧ d = g * lowD n d ∧ 1 ≤ lowD n d := by
  have hg : 0 < Nat.gcd n.natAbs d.natAbs := Nat.gcd_pos_of_pos_right _ (by omega)
  have e1 : (Nat.gcd n.natAbs d.natAbs : Int) ∣ n := Int.dvd_natAbs.1 (Int.natCast_dvd_natCast.2 (Nat.gcd_dvd_left _ _))
  have e2 : (Nat.gcd n.natAbs d.natAbs : Int) ∣ d := Int.dvd_natAbs.1 (Int.natCast_dvd_natCast.2 (Nat.gcd_dvd_right _ _))
  refine ⟨(Nat.gcd n.natAbs d.natAbs : Int), by omega, (Int.mul_ediv_cancel' e1).symm, (Int.mul_ediv_cancel' e2).symm, ?_⟩
  refine Classical.byContradiction fun c => ?_
  have h3 := Int.mul_ediv_cancel' e2
  have : lowD n d ≤ 0 := by omega
  unfold lowD at this
  have h4 : (Nat.gcd n.natAbs d.natAbs : Int) * (d / (Nat.gcd n.natAbs d.natAbs : Int)) ≤ (Nat.gcd n.natAbs d.natAbs : Int) * 0 := Int.mul_le_mul_of_nonneg_left this (by omega)
  rw [h3] at h4
  omega
set_option maxRecDepth 100000 in
set_option maxHeartbeats 6400000 in
theorem low_any (n d : Int) (w : World) (h1 : -4611686018427387904 ≤ n) (h2 : n ≤ 4611686018427387904) (h3 : 1 ≤ d) (h4 : d ≤ 4611686018427387904) :
    Calls Tryz.prog 58 #[.int .i64 n, .int .i64 d] w fun e w' => e = .returned (.agg #[.int .i64 (lowN n d), .int .i64 (lowD n d)]) ∧ Below w.heap.size w w' := by
  obtain ⟨D, rfl⟩ := Int.eq_ofNat_of_zero_le (show 0 ≤ d by omega)
  obtain ⟨M, hM⟩ : ∃ M : Nat, max n (-n) = (M : Int) := ⟨n.natAbs, by omega⟩
  have hMn : M = n.natAbs := by omega
  have HG := Lib.hid (fun u => greater_any n (-n) u)
  rw [hM] at HG
  have b0 := below_new w (.cells #[.int .i64 0, .int .i64 0] 89)
  have r0 := Blk.new w 89 #[.int .i64 0, .int .i64 0]
  have HN1 := Lib.hid (show lowN n D = n / (Nat.gcd M D : Int) by unfold lowN; rw [Int.natAbs_natCast, hMn])
  have HN2 := Lib.hid (show lowD n D = (D : Int) / (Nat.gcd M D : Int) by unfold lowD; rw [Int.natAbs_natCast, hMn])
  have hdv : (Nat.gcd M D : Int) ∣ n := by rw [hMn]; exact Int.dvd_natAbs.1 (Int.natCast_dvd_natCast.2 (Nat.gcd_dvd_left _ _))
  have hq : n.tdiv (Nat.gcd M D : Int) = n / (Nat.gcd M D : Int) := Int.tdiv_eq_ediv_of_dvd hdv
  have hq2 : (D : Int).tdiv (Nat.gcd M D : Int) = (D : Int) / (Nat.gcd M D : Int) := Int.tdiv_eq_ediv_of_dvd (Int.natCast_dvd_natCast.2 (Nat.gcd_dvd_right _ _))
  have hg : 0 < Nat.gcd M D := Nat.gcd_pos_of_pos_right _ (by omega)
  have hMb : M ≤ 4611686018427387904 := by omega
  have HQ := Lib.hid (And.intro hq hq2)
  have hr1 : -9223372036854775808 ≤ n / (Nat.gcd M D : Int) ∧ n / (Nat.gcd M D : Int) ≤ 9223372036854775807 := by
    have := Int.natAbs_ediv_le_natAbs n (Nat.gcd M D : Int)
    omega
  have hr2 : 0 ≤ (D : Int) / (Nat.gcd M D : Int) ∧ (D : Int) / (Nat.gcd M D : Int) ≤ D := ⟨Int.ediv_nonneg (by omega) (by omega), Int.ediv_le_self _ (by omega)⟩
  obtain ⟨E1, hE1⟩ : ∃ E1, lowN n D = E1 := ⟨_, rfl⟩
  obtain ⟨E2, hE2⟩ : ∃ E2, lowD n D = E2 := ⟨_, rfl⟩
  rw [hE1] at HN1
  rw [hE2] at HN2
  rw [hE1, hE2]
  clear hq hq2 hdv hE1 hE2 hMn hM
  go_enter Tryz.func58, Tryz.ntmps58
  go_upto_region 1 with fail
  generalize hW : w.alloc (.cells #[.int .i64 0, .int .i64 0] 89) = W at *
  clear hW
  have HR := Lib.hid r0
  have HB := Lib.hid b0
  clear r0 b0
  go_upto_region 2 with (go_at_call 77; (with_reducible refine (HG.out _).mono ?_); rintro e u1 ⟨rfl, rfl⟩)
  go_loopw [5, 6] (fun x y wr => ∃ p q : Nat, p ≤ 4611686018427387904 ∧ q ≤ 4611686018427387904 ∧ x = .int .i64 p ∧ y = .int .i64 q ∧ Nat.gcd p q = Nat.gcd M D ∧ Below W.heap.size W wr) (fun _ y _ => (intOf y).toNat)
  case atStart => exact ⟨M, D, hMb, by omega, rfl, rfl, rfl, Below.refl _ _⟩
  case round =>
    obtain ⟨p, q, hp, hq, rfl, rfl, hgc, hb⟩ := hrel
    have H := Lib.hid hgc
    clear hgc
    by_cases h0 : 0 < q
    · have h3 : decide ((0 : Int) < ((q : Nat) : Int)) = true := decide_eq_true (by omega)
      go_wp2
      go_quiet (fail)
      go_wp2
      go_roundw
      case rel => exact ⟨q, p % q, hq, by have := Nat.mod_lt p h0; omega, rfl, rfl, by rw [← H.out, Nat.gcd_comm q (p % q), ← Nat.gcd_rec, Nat.gcd_comm], below_drewN hb _⟩
      case measure => have := Nat.mod_lt p h0; simp [intOf]; omega
    · have h3 : decide ((0 : Int) < ((q : Nat) : Int)) = false := decide_eq_false (by omega)
      have hq0 : q = 0 := by omega
      have hr := H.out
      rw [hq0, Nat.gcd_zero_right] at hr
      subst hr
      have HBk := Lib.hid hb
      clear hq0 H hb
      generalize hG : Nat.gcd M D = G at *
      clear hG
      go_upto_region 4 with fail
      obtain ⟨xc, xf'⟩ := xcell (W := wr)
      have hq1 := HQ.out.1
      have hq2 := HQ.out.2
      refine wp_region_quiet_tail 7 (by kernel_rfl) (by kernel_rfl) ?_
      simp only [List.take_succ_cons, List.take_zero, List.drop_succ_cons, List.drop_zero]
      repeat (first | go_big_quiet_step (fail) | quiet_step (fail))
      refine wpQuiet_nil ?_
      intro w2 hb2
      have HR2 := Lib.hid (HR.out.below (HBk.out.trans (hb2.mono HBk.out.size)))
      have HB2 := Lib.hid (HB.out.trans ((HBk.out.trans (hb2.mono HBk.out.size)).mono HB.out.size))
      clear xc xf' hb2
      obtain ⟨z0, z1, zl⟩ := cells2 HR2.out
      have f0 := HR2.out.frozen 0
      have f1 := HR2.out.frozen 1
      go_wp2
      obtain ⟨x0, x1, _⟩ := cells2 (blk_set2 HR2.out (.int .i64 (n / (G : Int))) (.int .i64 ((D : Int) / (G : Int))))
      exact bodyPost_ret (v := .agg #[.int .i64 (n / (G : Int)), .int .i64 ((D : Int) / (G : Int))]) (by simp [results, Tryz.results58, go_sem, x0, x1]) rfl ⟨by rw [HN1.out, HN2.out], below_set2 HB2.out (Nat.le_refl _) _ _⟩
end Go.Proofs.YtgojpgggbflgoaaGreat

namespace Go.Proofs.YtgojpgggbflgoaaGreat
open Go.RowKit

def stdB (light height : Int) (hs : List Hl) (mt : List (Int × Int)) (terr least : Int) (xs : List Int) : Bool :=
  decide (riseS light height hs xs * (spS light mt terr least (isum xs)).2 ≤ (spS light mt terr least (isum xs)).1)
theorem isum_room {hs : List Hl} {xs : List Int} (h : ldE hs xs = 0) : isum xs ≤ isum (hs.map Hl.room) ∧ 0 ≤ isum xs := by
  obtain ⟨e, hb⟩ := ldE_zero h
  clear h
  induction xs generalizing hs with
  | nil => 
    cases hs with
    | nil => simp [isum]
    | cons y t => simp at e
  | cons x t ih =>
    cases hs with
    | nil => simp at e
    | cons y u =>
      have h0 := hb 0 (by simp) (by simp)
      have hi := ih (hs := u) (by simpa using e) (fun i q p => by have := hb (i + 1) (by simpa using q) (by simpa using p); simpa using this)
      simp only [List.getElem_cons_zero] at h0
      show x + isum t ≤ y.room + isum (u.map Hl.room) ∧ 0 ≤ x + isum t
      omega
/-- A loading of a ship without error: what its numbers are. -/
theorem load_bd {id light lever height turn least : Int} {hs : List Hl} {mn mt : List (Int × Int)} {merr terr : Int} {xs : List Int} (k : ShipOk id light lever height turn least hs mn merr mt terr) (h : ldE hs xs = 0) :
    xs.length = hs.length ∧ (∀ x ∈ xs, 0 ≤ x ∧ x ≤ 65536) ∧ 0 ≤ isum xs ∧ light + isum xs ≤ 65536 ∧ (kx mt 0 * 40 ≤ light + isum xs ∧ light + isum xs ≤ kx mt (mt.length - 1) * 40) ∧ (kx mn 0 * 40 ≤ light + isum xs ∧ light + isum xs ≤ kx mn (mn.length - 1) * 40) := by
  obtain ⟨i1, i2⟩ := isum_room h
  have r := k.rooms
  have t1 := k.tmt
  have t2 := k.tmn
  unfold roomS at r t1 t2
  unfold tabB at t1 t2
  simp only [Bool.or_eq_false_iff, decide_eq_false_iff_not] at t1 t2
  exact ⟨(ldE_zero h).1, ld_bd h fun x hx => (k.hl x hx).1.2, i2, by omega, by omega, by omega⟩
set_option maxRecDepth 100000 in
set_option maxHeartbeats 6400000 in
theorem steady_any (id light lever height : Int) (A : Option Addr) (n c : Nat) (B : Option Addr) (m d : Nat) (merr : Int) (C : Option Addr) (q r : Nat) (terr turn least : Int) (hs : List Hl) (mt : List (Int × Int)) (X : Option Addr) (pc : Nat) (xs : List Int) (w : World) (hA : SAt encL 4 w A n hs) (hn : n ≤ 8) (hf : ∀ x ∈ hs, 0 ≤ x.height ∧ x.height ≤ 5000) (hC : CAt w C q mt) (hv : Valid mt) (hX : SAt encI 1 w X n xs) (hx : ∀ x ∈ xs, 0 ≤ x ∧ x ≤ 65536) (hl : 1 ≤ light ∧ light ≤ 65536) (hh : 0 ≤ height ∧ height ≤ 5000) (ht : 0 ≤ isum xs ∧ isum xs ≤ 65536) (hte : 0 ≤ terr ∧ terr ≤ 4000) (hle : 0 ≤ least ∧ least ≤ 5000) (h1 : kx mt 0 * 40 ≤ light + isum xs) (h2 : light + isum xs ≤ kx mt (mt.length - 1) * 40) :
    Calls Tryz.prog 81 #[.agg (cSp id light lever height A n c B m d merr C q r terr turn least), .slice X n pc] w fun e w' => e = .returned (.bool (stdB light height hs mt terr least xs)) ∧ Below w.heap.size w w' := by
  have hb0 := below_new w (.cells (cSp id light lever height A n c B m d merr C q r terr turn least) 27)
  have t0 := Blk.new w 27 (cSp id light lever height A n c B m d merr C q r terr turn least)
  have HSm := Lib.hid (fun (u : World) (hu : Below w.heap.size w u) => sum_any X n pc xs u (hX.below hu) (fun x h => by have := hx x h; omega) (by omega))
  have HSp := Lib.hid (fun (u : World) (hu : Below w.heap.size w u) => spare_any id light lever height A n c B m d merr C q r terr turn least mt (isum xs) u (hC.below hu) hv hl ht hte hle h1 h2)
  have HRi := Lib.hid (fun (u : World) (hu : Below w.heap.size w u) => rise_any2 id light lever height A n c B m d merr C q r terr turn least hs X n pc xs u (hA.below hu) hn (fun x h => by have := hf x h; omega) (hX.below hu) (by omega) hx hl (by omega))
  have hbd := atR_bd hv h1 h2
  have HS := Lib.hid (show stdB light height hs mt terr least xs = decide (riseS light height hs xs * (spS light mt terr least (isum xs)).2 ≤ (spS light mt terr least (isum xs)).1) from rfl)
  have hden : 1 ≤ (spS light mt terr least (isum xs)).2 ∧ (spS light mt terr least (isum xs)).2 ≤ 80000 := hbd.1
  have hrb : -10000000000000 ≤ riseS light height hs xs ∧ riseS light height hs xs ≤ 10000000000000 := by
    unfold riseS
    have a1 := valF_abs (ws := hs.map Hl.height) (xs := xs) (fun y hy => by
      obtain ⟨z, hz, rfl⟩ := List.mem_map.1 hy
      have := hf z hz
      omega) (fun y hy => by have := hx y hy; omega)
    rw [List.length_map, hA.len] at a1
    have a2 := mul_bd (A := 65536) (B := 5000) (x := light) (y := height) (by omega) (by omega) (by omega) (by omega)
    omega
  clear hA hC hX hv hx hf hbd h1 h2
  generalize stdB light height hs mt terr least xs = S at *
  generalize spS light mt terr least (isum xs) = sp at *
  generalize riseS light height hs xs = ri at *
  generalize isum xs = sx at *
  obtain ⟨sn, sd⟩ := sp
  dsimp only at HSp HS hden
  have m1 := mul_bd (A := 10000000000000) (B := 80000) (x := ri) (y := sd) (by omega) (by omega) (by omega) (by omega)
  have hSe := HS.out
  subst hSe
  clear HS
  go_enter Tryz.func81, Tryz.ntmps81
  go_upto_region 1 with fail
  generalize hW : w.alloc (.cells (cSp id light lever height A n c B m d merr C q r terr turn least) 27) = W at *
  clear hW
  have HT := Lib.hid t0
  have HB := Lib.hid hb0
  obtain ⟨tl, s0, s1, s2, s3, s4, s5, s6, s7, s8, s9, s10⟩ := blk11 t0
  clear t0 hb0
  obtain ⟨xc, xf'⟩ := xcell (W := W)
  refine wp_region_quiet_tail 9 (by kernel_rfl) (by kernel_rfl) ?_
  simp only [List.take_succ_cons, List.take_zero, List.drop_succ_cons, List.drop_zero]
  repeat (first | go_big_quiet_step (first | (go_at_call 20; with_reducible refine calls_ext (HSm.out _ ?_); exact HB.out.trans ((Ext.below _).mono HB.out.size)) | (go_at_call 105; with_reducible refine calls_ext (HSp.out _ ?_); exact HB.out.trans ((Ext.below _).mono HB.out.size))) | quiet_step (first | (go_at_call 20; with_reducible refine calls_ext (HSm.out _ ?_); exact HB.out.trans ((Ext.below _).mono HB.out.size)) | (go_at_call 105; with_reducible refine calls_ext (HSp.out _ ?_); exact HB.out.trans ((Ext.below _).mono HB.out.size))))
  refine wpQuiet_nil ?_
  intro w2 hb2
  have HB2 := Lib.hid (HB.out.trans (hb2.mono HB.out.size))
  have HT2 := Lib.hid (HT.out.below hb2)
  clear xc xf' hb2 tl s0 s1 s2 s3 s4 s5 s6 s7 s8 s9 s10 HT HB HSm HSp
  obtain ⟨tl, s0, s1, s2, s3, s4, s5, s6, s7, s8, s9, s10⟩ := blk11 HT2.out
  have HC := Lib.hid (HRi.out w2 HB2.out)
  go_wp2_with (go_at_call 59; (with_reducible refine HC.out.mono ?_); rintro e u3 ⟨rfl, hb3⟩)
  exact bodyPost_ret (v := .bool (decide (ri * sd ≤ sn))) (by simp [results, Tryz.results81, go_sem]) rfl ⟨rfl, HB2.out.trans (hb3.mono HB2.out.size)⟩
end Go.Proofs.YtgojpgggbflgoaaGreat

namespace Go.Proofs.YtgojpgggbflgoaaGreat
open Go.RowKit

abbrev vLd (Lh : Option Addr) (nh ch : Nat) (a z : Int) : Value := .agg #[.slice Lh nh ch, .int .i64 a, .int .i64 z]
/-- The spans of a load by surveys. -/
def rsL (hs : List Hl) : List (Int × Int) := hs.map fun h => (0, h.room)
theorem loS_rs (hs : List Hl) : loS (rsL hs) = 0 := by
  unfold loS rsL
  induction hs with
  | nil => rfl
  | cons x t ih => simp only [List.map_cons, isum] at ih ⊢; omega
theorem hiS_rs (hs : List Hl) : hiS (rsL hs) = isum (hs.map Hl.room) := by
  unfold hiS rsL
  rw [List.map_map]
  rfl
theorem rs_len (hs : List Hl) : (rsL hs).length = hs.length := by simp [rsL]
/-- What is known of a load by surveys. -/
structure LdOk (hs : List Hl) (a z : Int) : Prop where
  lo : 0 ≤ a
  le : a ≤ z
  hi : z ≤ isum (hs.map Hl.room)
  rm : ∀ x ∈ hs, 0 ≤ x.room ∧ x.room ≤ 65536
  len : hs.length ≤ 8
theorem LdOk.bd {hs : List Hl} {a z : Int} (k : LdOk hs a z) : isum (hs.map Hl.room) ≤ 524288 ∧ a ≤ 524288 ∧ z ≤ 524288 := by
  have h := (room_bd k.rm k.len hs.length).2
  rw [List.take_length] at h
  have := k.le
  have := k.hi
  omega
set_option maxRecDepth 100000 in
set_option maxHeartbeats 6400000 in
theorem totals_any (Lh : Option Addr) (nh ch : Nat) (a z : Int) (hs : List Hl) (w : World) (h : SAt encS 2 w Lh nh (rsL hs)) (k : LdOk hs a z) :
    Calls Tryz.prog 54 #[vLd Lh nh ch a z] w fun e w' => e = .returned (vSp a z) ∧ Below w.heap.size w w' := by
  have bd := k.bd
  have hb0 := ((Below.refl w.heap.size w).alloc (Nat.le_refl _) (.cells #[.slice Lh nh ch, .int .i64 a, .int .i64 z] 49)).alloc (by simp) (.cells #[.int .i64 0, .int .i64 0] 43)
  have l0 := (Blk.new w 49 #[.slice Lh nh ch, .int .i64 a, .int .i64 z]).alloc (.cells #[.int .i64 0, .int .i64 0] 43)
  have r0 := Blk.at_new (W := w.alloc (.cells #[.slice Lh nh ch, .int .i64 a, .int .i64 z] 49)) (g := w.heap.size + 1) 43 #[.int .i64 0, .int .i64 0] (by simp)
  have HSm := Lib.hid (fun (u : World) (hu : Below w.heap.size w u) => sums_any Lh nh ch (rsL hs) u (h.below hu) (fun x hx => by
    obtain ⟨y, hy, rfl⟩ := List.mem_map.1 hx
    have := k.rm y hy
    dsimp only
    omega) (by have := h.len; have := rs_len hs; have := k.len; omega))
  rw [loS_rs, hiS_rs] at HSm
  have hk1 := k.lo
  have hk2 := k.le
  have hk3 := k.hi
  clear h k
  generalize isum (hs.map Hl.room) = R at *
  have HG := Lib.hid (fun u => greater_any 0 a u)
  rw [show max 0 a = a by omega] at HG
  go_enter Tryz.func54, Tryz.ntmps54
  go_upto_region 1 with fail
  generalize hW : (w.alloc (.cells #[.slice Lh nh ch, .int .i64 a, .int .i64 z] 49)).alloc (.cells #[.int .i64 0, .int .i64 0] 43) = W at *
  clear hW
  have HL := Lib.hid l0
  have HR := Lib.hid r0
  have HB := Lib.hid hb0
  obtain ⟨y0, y1, y2, yl⟩ := cells3 l0
  clear l0 r0 hb0
  have HC := Lib.hid (HSm.out W HB.out)
  go_upto_region 2 with (go_at_call 76; (with_reducible refine HC.out.mono ?_); rintro e u1 ⟨rfl, hb1⟩)
  have hb2 := hb1.trans ((below_new u1 (.cells #[.int .i64 0, .int .i64 R] 43)).mono hb1.size)
  have HS := Lib.hid (Blk.new u1 43 #[.int .i64 0, .int .i64 R])
  generalize hV : u1.alloc (.cells #[.int .i64 0, .int .i64 R] 43) = V at *
  generalize hg : u1.heap.size = g at *
  clear hV hg hb1 y0 y1 y2 yl HC HSm
  have HL2 := Lib.hid (HL.out.below hb2)
  have HR2 := Lib.hid (HR.out.below hb2)
  have HB2 := Lib.hid (HB.out.trans (hb2.mono HB.out.size))
  clear hb2 HL HR HB
  obtain ⟨y0, y1, y2, yl⟩ := cells3 HL2.out
  obtain ⟨s0, s1, sl⟩ := cells2 HS.out
  obtain ⟨xc, xf'⟩ := xcell (W := V)
  by_cases hz : z < R
  · skip
    refine wp_region_quiet_tail 13 (by kernel_rfl) (by kernel_rfl) ?_
    simp only [List.take_succ_cons, List.take_zero, List.drop_succ_cons, List.drop_zero]
    repeat (first | go_big_quiet_step ((go_at_call 77; with_reducible refine calls_ext_same (HG.out _))) | quiet_step ((go_at_call 77; with_reducible refine calls_ext_same (HG.out _))))
    refine wpQuiet_nil ?_
    intro w2 hb2
    have HR3 := Lib.hid (HR2.out.below hb2)
    have HB3 := Lib.hid (HB2.out.trans (hb2.mono HB2.out.size))
    clear xc xf' hb2
    obtain ⟨z0, z1, zl⟩ := cells2 HR3.out
    have f0 := HR3.out.frozen 0
    have f1 := HR3.out.frozen 1
    go_wp2
    obtain ⟨x0, x1, _⟩ := cells2 (blk_set2 HR3.out (.int .i64 a) (.int .i64 z))
    exact bodyPost_ret (v := vSp a z) (by simp [results, Tryz.results54, go_sem, x0, x1]) rfl ⟨rfl, below_set2 HB3.out (by omega) _ _⟩
  · obtain rfl : R = z := by omega
    refine wp_region_quiet_tail 13 (by kernel_rfl) (by kernel_rfl) ?_
    simp only [List.take_succ_cons, List.take_zero, List.drop_succ_cons, List.drop_zero]
    repeat (first | go_big_quiet_step ((go_at_call 77; with_reducible refine calls_ext_same (HG.out _))) | quiet_step ((go_at_call 77; with_reducible refine calls_ext_same (HG.out _))))
    refine wpQuiet_nil ?_
    intro w2 hb2
    have HR3 := Lib.hid (HR2.out.below hb2)
    have HB3 := Lib.hid (HB2.out.trans (hb2.mono HB2.out.size))
    clear xc xf' hb2
    obtain ⟨z0, z1, zl⟩ := cells2 HR3.out
    have f0 := HR3.out.frozen 0
    have f1 := HR3.out.frozen 1
    go_wp2
    obtain ⟨x0, x1, _⟩ := cells2 (blk_set2 HR3.out (.int .i64 a) (.int .i64 R))
    exact bodyPost_ret (v := vSp a R) (by simp [results, Tryz.results54, go_sem, x0, x1]) rfl ⟨rfl, below_set2 HB3.out (by omega) _ _⟩
end Go.Proofs.YtgojpgggbflgoaaGreat

namespace Go.Proofs.YtgojpgggbflgoaaGreat
open Go.RowKit

set_option maxRecDepth 100000 in
set_option maxHeartbeats 6400000 in
theorem CheckLoad_any (id light lever height : Int) (A : Option Addr) (n c : Nat) (B : Option Addr) (m d : Nat) (merr : Int) (C : Option Addr) (q r : Nat) (terr turn least : Int) (hs : List Hl) (mn mt : List (Int × Int)) (Lh : Option Addr) (ch : Nat) (a z : Int) (w : World) (hA : SAt encL 4 w A n hs) (hB : CAt w B m mn) (hC : CAt w C q mt) (hn : n ≤ 9223372036854775807) (hm : m ≤ 9223372036854775807) (hq : q ≤ 9223372036854775807) (hc : n ≤ c) (hE : shipE id light lever height turn least hs mn merr mt terr = 0) (hL : SAt encS 2 w Lh n (rsL hs)) (k : LdOk hs a z) :
    Calls Tryz.prog 28 #[.agg (cSp id light lever height A n c B m d merr C q r terr turn least), vLd Lh n ch a z] w fun e w' => e = .returned (.int .i64 (if 4000 ≤ z - a then 2 else 0)) ∧ Below w.heap.size w w' := by
  have hb0 := ((Below.refl w.heap.size w).alloc (Nat.le_refl _) (.cells (cSp id light lever height A n c B m d merr C q r terr turn least) 27)).alloc (by simp) (.cells #[.slice Lh n ch, .int .i64 a, .int .i64 z] 49)
  have t0 := (Blk.new w 27 (cSp id light lever height A n c B m d merr C q r terr turn least)).alloc (.cells #[.slice Lh n ch, .int .i64 a, .int .i64 z] 49)
  have l0 := Blk.at_new (W := w.alloc (.cells (cSp id light lever height A n c B m d merr C q r terr turn least) 27)) (g := w.heap.size + 1) 49 #[.slice Lh n ch, .int .i64 a, .int .i64 z] (by simp)
  have HA := Lib.hid (hA.below hb0)
  have HLs := Lib.hid (hL.below hb0)
  have HLn := Lib.hid hA.len
  have HCk := Lib.hid (HCheck_any id light lever height A n c B m d merr C q r terr turn least hs mn mt _ (hA.below hb0) (hB.below hb0) (hC.below hb0) hn hm hq hc)
  rw [hE] at HCk
  have HTo := Lib.hid (fun (u : World) (hu : Below w.heap.size w u) => totals_any Lh n ch a z hs u (hL.below hu) k)
  have HRm := Lib.hid k.rm
  have h16 : z ≤ 65536 := by
    have q := shipE_zero hE
    have h1 := q.rooms
    have h2 := q.lightB
    have h3 := k.hi
    unfold roomS at h1
    omega
  have hn8 : n ≤ 8 := by have := k.len; have := hA.len; omega
  obtain ⟨k1, k2⟩ := And.intro k.lo k.le
  obtain ⟨R, hR⟩ : ∃ R : Int, (if 4000 ≤ z - a then 2 else 0) = R := ⟨_, rfl⟩
  have HE := Lib.hid (show R = if 4000 ≤ z - a then 2 else 0 from hR.symm)
  rw [hR]
  clear hA hB hC hL hE hR k
  go_enter Tryz.func28, Tryz.ntmps28
  go_upto_region 1 with fail
  generalize hW : (w.alloc (.cells (cSp id light lever height A n c B m d merr C q r terr turn least) 27)).alloc (.cells #[.slice Lh n ch, .int .i64 a, .int .i64 z] 49) = W at *
  clear hW
  have HT := Lib.hid t0
  have HL := Lib.hid l0
  have HB0 := Lib.hid hb0
  obtain ⟨tl, s0, s1, s2, s3, s4, s5, s6, s7, s8, s9, s10⟩ := blk11 t0
  clear t0 l0 hb0
  go_upto_region 4 with (go_at_call 34; (with_reducible refine HCk.out.mono ?_); rintro e u1 ⟨rfl, hb1⟩)
  have HB1 := Lib.hid (HB0.out.trans (hb1.mono HB0.out.size))
  have HT1 := Lib.hid (HT.out.below hb1)
  have HL1 := Lib.hid (HL.out.below hb1)
  have HA1 := Lib.hid (HA.out.below hb1)
  have HLs1 := Lib.hid (HLs.out.below hb1)
  clear hb1 HCk tl s0 s1 s2 s3 s4 s5 s6 s7 s8 s9 s10 HT HL HA HLs HB0
  obtain ⟨tl, s0, s1, s2, s3, s4, s5, s6, s7, s8, s9, s10⟩ := blk11 HT1.out
  obtain ⟨y0, y1, y2, yl⟩ := cells3 HL1.out
  have hd : ((n : Int) != (n : Int)) = false := by simp
  go_upto_region 6 with fail
  go_upto_region 7 with fail
  clear tl s0 s1 s2 s3 s4 s5 s6 s7 s8 s9 s10 y0 y1 y2 yl
  go_loopw [6, 7, 24] (fun _ _ i wx => ∃ k : Nat, k ≤ n ∧ i = .int .i64 (k : Int) ∧ Below u1.heap.size u1 wx) (fun _ _ i _ => n - (intOf i).toNat)
  case atStart => exact ⟨0, Nat.zero_le _, rfl, Below.refl _ _⟩
  case round =>
    obtain ⟨k, hk, rfl, hb⟩ := hrel
    have HB := Lib.hid hb
    obtain ⟨tl, s0, s1, s2, s3, s4, s5, s6, s7, s8, s9, s10⟩ := blk11 (HT1.out.below hb)
    obtain ⟨y0, y1, y2, yl⟩ := cells3 (HL1.out.below hb)
    clear hb
    by_cases hkn : k < n
    case pos =>
      have hkl : k < hs.length := by rw [HLn.out]; exact hkn
      have hks : k < (rsL hs).length := by rw [rs_len]; exact hkl
      obtain ⟨b, off, rfl, hl⟩ := HA1.out.at_ (by omega)
      obtain ⟨bL, oL, rfl, hll⟩ := HLs1.out.at_ (by omega)
      obtain ⟨c0, c1, c2, c3⟩ := Hls.at_ (hl.below HB.out) (List.getElem?_eq_getElem hkl)
      have cl := (hl.below HB.out).lt
      have hgs : (rsL hs)[k]? = some ((0 : Int), (hs[k]).room) := by
        rw [List.getElem?_eq_getElem hks]
        simp [rsL]
      obtain ⟨d0, d1⟩ := Sps.at_ (hll.below HB.out) hgs
      have dl := (hll.below HB.out).lt
      have hrm := HRm.out _ (List.getElem_mem hkl)
      clear hl hll hgs
      generalize hs[k] = h at *
      obtain ⟨xi, xr, xl, xh⟩ := h
      dsimp only at *
      have e1 : decide (xr < 0) = false := decide_eq_false (by omega)
      have e2 : decide (xr < xr) = false := decide_eq_false (by omega)
      go_wp2
      go_quiet (fail)
      go_wp2
      go_roundw
      case rel => exact ⟨k + 1, by omega, by go_num, below_drewN (HB.out.alloc HB.out.size _) _⟩
      case measure => simp [intOf]; omega
    case neg =>
      obtain rfl : k = n := by omega
      have HT2 := Lib.hid (HT1.out.below HB.out)
      have HL2 := Lib.hid (HL1.out.below HB.out)
      have HB2 := Lib.hid (HB1.out.trans (HB.out.mono HB1.out.size))
      have HC := Lib.hid (HTo.out wr HB2.out)
      go_upto_region 13 with (go_at_call 54; (with_reducible refine HC.out.mono ?_); rintro e u2 ⟨rfl, hb2⟩)
      have hb3 := hb2.trans ((below_new u2 (.cells #[.int .i64 a, .int .i64 z] 43)).mono hb2.size)
      have HS := Lib.hid (Blk.new u2 43 #[.int .i64 a, .int .i64 z])
      generalize hV : u2.alloc (.cells #[.int .i64 a, .int .i64 z] 43) = V at *
      generalize hg : u2.heap.size = g at *
      have HB3 := Lib.hid (HB2.out.trans (hb3.mono HB2.out.size))
      have HL3 := Lib.hid (HL2.out.below hb3)
      clear hV hg hb2 hb3 tl s0 s1 s2 s3 s4 s5 s6 s7 s8 s9 s10 y0 y1 y2 yl HC HTo HB2 HL2 HT2 HB HT1 HL1 HA1 HLs1 HB1
      obtain ⟨y0, y1, y2, yl⟩ := cells3 HL3.out
      obtain ⟨z0, z1, zl⟩ := cells2 HS.out
      have e1 : decide (a < 0) = false := decide_eq_false (by omega)
      have e2 : decide (z < a) = false := decide_eq_false (by omega)
      have e3 : decide (65536 < z) = false := decide_eq_false (by omega)
      by_cases h4 : 4000 ≤ z - a
      · have hE : R = 2 := by rw [HE.out, if_pos h4]
        have e4 : decide (4000 ≤ z - a) = true := decide_eq_true h4
        subst hE
        go_wp2
        exact bodyPost_ret (v := .int .i64 2) (by simp [results, Tryz.results28, go_sem]) rfl ⟨rfl, HB3.out⟩
      · have hE : R = 0 := by rw [HE.out, if_neg h4]
        have e4 : decide (4000 ≤ z - a) = false := decide_eq_false h4
        subst hE
        go_wp2
        exact bodyPost_ret (v := .int .i64 0) (by simp [results, Tryz.results28, go_sem]) rfl ⟨rfl, HB3.out⟩
end Go.Proofs.YtgojpgggbflgoaaGreat

namespace Go.Proofs.YtgojpgggbflgoaaGreat
open Go.RowKit

set_option maxRecDepth 100000 in
set_option maxHeartbeats 6400000 in
theorem fits_any (Lh : Option Addr) (n ch : Nat) (a z : Int) (hs : List Hl) (X : Option Addr) (pc : Nat) (xs : List Int) (w : World) (hL : SAt encS 2 w Lh n (rsL hs)) (hX : SAt encI 1 w X n xs) (k : LdOk hs a z) (hl : ldE hs xs = 0) (h1 : a ≤ isum xs) (h2 : isum xs ≤ z) :
    Calls Tryz.prog 29 #[vLd Lh n ch a z, .slice X n pc] w fun e w' => e = .returned (.bool true) ∧ Below w.heap.size w w' := by
  have hb0 := below_new w (.cells #[.slice Lh n ch, .int .i64 a, .int .i64 z] 49)
  have l0 := Blk.new w 49 #[.slice Lh n ch, .int .i64 a, .int .i64 z]
  have HLs := Lib.hid (hL.below hb0)
  have HX := Lib.hid (hX.below hb0)
  have HLn := Lib.hid (show hs.length = n by rw [← rs_len]; exact hL.len)
  have HLx := Lib.hid hX.len
  have HIn := Lib.hid (ldE_zero hl).2
  have hxb := ld_bd hl fun x hx => (k.rm x hx).2
  have hbd := k.bd
  have HSm := Lib.hid (fun (u : World) (hu : Below w.heap.size w u) => sum_any X n pc xs u (hX.below hu) (fun x h => by have := hxb x h; omega) (by have := k.len; have := HLn.out; omega))
  have hn8 : n ≤ 8 := by have := k.len; have := HLn.out; omega
  have hlo := k.lo
  clear hL hX hl k hxb
  generalize isum xs = sx at *
  have HIb := Lib.hid (show inB sx a z = true from decide_eq_true ⟨h1, h2⟩)
  go_enter Tryz.func29, Tryz.ntmps29
  go_upto_region 1 with fail
  generalize hW : w.alloc (.cells #[.slice Lh n ch, .int .i64 a, .int .i64 z] 49) = W at *
  clear hW
  have HL := Lib.hid l0
  have HB0 := Lib.hid hb0
  obtain ⟨y0, y1, y2, yl⟩ := cells3 l0
  clear l0 hb0
  have hd : ((n : Int) != (n : Int)) = false := by simp
  go_upto_region 3 with fail
  go_upto_region 4 with fail
  clear y0 y1 y2 yl
  go_loopw [5, 6, 15] (fun _ _ i wx => ∃ k : Nat, k ≤ n ∧ i = .int .i64 (k : Int) ∧ Below W.heap.size W wx) (fun _ _ i _ => n - (intOf i).toNat)
  case atStart => exact ⟨0, Nat.zero_le _, rfl, Below.refl _ _⟩
  case round =>
    obtain ⟨k, hk, rfl, hb⟩ := hrel
    have HB := Lib.hid hb
    obtain ⟨y0, y1, y2, yl⟩ := cells3 (HL.out.below hb)
    clear hb
    by_cases hkn : k < n
    case pos =>
      have hkl : k < hs.length := by rw [HLn.out]; exact hkn
      have hks : k < (rsL hs).length := by rw [rs_len]; exact hkl
      have hkx : k < xs.length := by rw [HLx.out]; exact hkn
      obtain ⟨bL, oL, rfl, hll⟩ := HLs.out.at_ (by omega)
      obtain ⟨bX, oX, rfl, hlx⟩ := HX.out.at_ (by omega)
      have hgs : (rsL hs)[k]? = some ((0 : Int), (hs[k]).room) := by
        rw [List.getElem?_eq_getElem hks]
        simp [rsL]
      obtain ⟨d0, d1⟩ := Sps.at_ (hll.below HB.out) hgs
      have dl := (hll.below HB.out).lt
      have c0 := (hlx.below HB.out).c k _ (List.getElem?_eq_getElem hkx) 0 _ rfl
      rw [Nat.mul_one, Nat.add_zero] at c0
      have cl := (hlx.below HB.out).lt
      have hin := HIn.out k hkx hkl
      clear hll hlx hgs
      generalize (hs[k]).room = xr at *
      generalize xs[k] = x at *
      have H1 := Lib.hid (fun u => hwithin_any x 0 xr u)
      have hbt : inB x 0 xr = true := decide_eq_true hin
      rw [hbt] at H1
      go_upto_region 6 with fail
      obtain ⟨xc, xf'⟩ := xcell (W := wr)
      refine wp_region_quiet_tail 15 (by kernel_rfl) (by kernel_rfl) ?_
      simp only [List.take_succ_cons, List.take_zero, List.drop_succ_cons, List.drop_zero]
      repeat (first | go_big_quiet_step ((go_at_call 35; with_reducible refine calls_ext_same (H1.out _))) | quiet_step ((go_at_call 35; with_reducible refine calls_ext_same (H1.out _))))
      refine wpQuiet_nil ?_
      intro w2 hb2
      have HB2 := Lib.hid (HB.out.trans (hb2.mono HB.out.size))
      clear xc xf' hb2 y0 y1 y2 yl d0 d1 dl c0 cl
      go_wp2
      go_roundw
      case rel => exact ⟨k + 1, by omega, by go_num, HB2.out⟩
      case measure => simp [intOf]; omega
    case neg =>
      obtain rfl : k = n := by omega
      have HS1 := Lib.hid (fun (u : World) (hu : Below wr.heap.size wr u) => HSm.out u (HB0.out.trans ((HB.out.trans (hu.mono HB.out.size)).mono HB0.out.size)))
      have H1 := Lib.hid (fun u => hwithin_any sx a z u)
      rw [HIb.out] at H1
      go_upto_region 9 with fail
      obtain ⟨xc, xf'⟩ := xcell (W := wr)
      refine wp_region_quiet_tail 10 (by kernel_rfl) (by kernel_rfl) ?_
      simp only [List.take_succ_cons, List.take_zero, List.drop_succ_cons, List.drop_zero]
      repeat (first | go_big_quiet_step (first | (go_at_call 20; with_reducible refine calls_ext (HS1.out _ ?_); exact Ext.below _) | (go_at_call 35; with_reducible refine calls_ext_same (H1.out _))) | quiet_step (first | (go_at_call 20; with_reducible refine calls_ext (HS1.out _ ?_); exact Ext.below _) | (go_at_call 35; with_reducible refine calls_ext_same (H1.out _))))
      refine wpQuiet_nil ?_
      intro w2 hb2
      have HB2 := Lib.hid (HB.out.trans (hb2.mono HB.out.size))
      go_wp2
      exact bodyPost_ret (v := .bool true) (by simp [results, Tryz.results29, go_sem]) rfl ⟨rfl, HB0.out.trans (HB2.out.mono HB0.out.size)⟩
set_option maxRecDepth 100000 in
set_option maxHeartbeats 6400000 in
theorem HFits_any (id light lever height : Int) (A : Option Addr) (n c : Nat) (B : Option Addr) (m d : Nat) (merr : Int) (C : Option Addr) (q r : Nat) (terr turn least : Int) (hs : List Hl) (mn mt : List (Int × Int)) (Lh : Option Addr) (ch : Nat) (a z : Int) (X : Option Addr) (pc : Nat) (xs : List Int) (w : World) (hA : SAt encL 4 w A n hs) (hB : CAt w B m mn) (hC : CAt w C q mt) (hn : n ≤ 9223372036854775807) (hm : m ≤ 9223372036854775807) (hq : q ≤ 9223372036854775807) (hc : n ≤ c) (hE : shipE id light lever height turn least hs mn merr mt terr = 0) (hL : SAt encS 2 w Lh n (rsL hs)) (k : LdOk hs a z) (hX : SAt encI 1 w X n xs) (hl : ldE hs xs = 0) (h1 : a ≤ isum xs) (h2 : isum xs ≤ z) (h3 : z - a < 4000) :
    Calls Tryz.prog 12 #[.agg (cSp id light lever height A n c B m d merr C q r terr turn least), vLd Lh n ch a z, .slice X n pc] w fun e w' => e = .returned (.bool true) ∧ Below w.heap.size w w' := by
  have hb0 := ((Below.refl w.heap.size w).alloc (Nat.le_refl _) (.cells (cSp id light lever height A n c B m d merr C q r terr turn least) 27)).alloc (by simp) (.cells #[.slice Lh n ch, .int .i64 a, .int .i64 z] 49)
  have t0 := (Blk.new w 27 (cSp id light lever height A n c B m d merr C q r terr turn least)).alloc (.cells #[.slice Lh n ch, .int .i64 a, .int .i64 z] 49)
  have l0 := Blk.at_new (W := w.alloc (.cells (cSp id light lever height A n c B m d merr C q r terr turn least) 27)) (g := w.heap.size + 1) 49 #[.slice Lh n ch, .int .i64 a, .int .i64 z] (by simp)
  have HCk := Lib.hid (fun (u : World) (hu : Below w.heap.size w u) => CheckLoad_any id light lever height A n c B m d merr C q r terr turn least hs mn mt Lh ch a z u (hA.below hu) (hB.below hu) (hC.below hu) hn hm hq hc hE (hL.below hu) k)
  rw [if_neg (by omega)] at HCk
  have HFi := Lib.hid (fun (u : World) (hu : Below w.heap.size w u) => fits_any Lh n ch a z hs X pc xs u (hL.below hu) (hX.below hu) k hl h1 h2)
  clear hA hB hC hL hE k hX hl h1 h2
  go_enter Tryz.func12, Tryz.ntmps12
  go_upto_region 1 with fail
  generalize hW : (w.alloc (.cells (cSp id light lever height A n c B m d merr C q r terr turn least) 27)).alloc (.cells #[.slice Lh n ch, .int .i64 a, .int .i64 z] 49) = W at *
  clear hW
  have HL := Lib.hid l0
  have HB0 := Lib.hid hb0
  obtain ⟨tl, s0, s1, s2, s3, s4, s5, s6, s7, s8, s9, s10⟩ := blk11 t0
  obtain ⟨y0, y1, y2, yl⟩ := cells3 l0
  clear t0 l0 hb0
  have HC1 := Lib.hid (HCk.out W HB0.out)
  go_wp2_with (first | (go_at_call 28; (with_reducible refine HC1.out.mono ?_); rintro e u1 ⟨rfl, hb1⟩; obtain ⟨y0, y1, y2, yl⟩ := cells3 (HL.out.below hb1)) | (go_at_call 29; (with_reducible refine (HFi.out _ (HB0.out.trans (Below.mono (by assumption) HB0.out.size))).mono ?_); rintro e u2 ⟨rfl, hb2⟩))
  exact bodyPost_ret (v := .bool true) (by simp [results, Tryz.results12, go_sem]) rfl ⟨rfl, HB0.out.trans ((hb1.trans (hb2.mono hb1.size)).mono HB0.out.size)⟩
end Go.Proofs.YtgojpgggbflgoaaGreat

namespace Go.Proofs.YtgojpgggbflgoaaGreat
open Go.RowKit

theorem valF_sum : ∀ {ws xs : List Int} {B : Int} (_ : ∀ w ∈ ws, -B ≤ w ∧ w ≤ B) (_ : ∀ x ∈ xs, 0 ≤ x) (_ : 0 ≤ B), -(B * isum xs) ≤ valF ws xs ∧ valF ws xs ≤ B * isum xs
  | [], xs, B, _, hx, hB => by
    have h : 0 ≤ isum xs := by
      clear hB
      induction xs with
      | nil => exact Int.le_refl _
      | cons x t ih => have := hx x List.mem_cons_self; have := ih (fun y hy => hx y (List.mem_cons_of_mem _ hy)); simp only [isum]; omega
    have := Int.mul_nonneg hB h
    simp only [valF]
    omega
  | w :: ws, [], B, _, _, _ => by simp [valF, isum]
  | w :: ws, x :: xs, B, hw, hx, hB => by
    obtain ⟨h1, h2⟩ := valF_sum (ws := ws) (xs := xs) (B := B) (fun y hy => hw y (List.mem_cons_of_mem _ hy)) (fun y hy => hx y (List.mem_cons_of_mem _ hy)) hB
    have a := hw w List.mem_cons_self
    have b := hx x List.mem_cons_self
    have p1 := Int.mul_le_mul_of_nonneg_right a.2 b
    have p2 := Int.mul_le_mul_of_nonneg_right a.1 b
    rw [Int.neg_mul] at p2
    simp only [valF, isum]
    rw [Int.mul_add]
    omega
/-- The moments and the rises of a loading without error. -/
theorem mom_bd {light lever height total : Int} {hs : List Hl} {xs : List Int} (hl : 1 ≤ light) (hb : (-20000 ≤ lever ∧ lever ≤ 20000) ∧ (0 ≤ height ∧ height ≤ 5000)) (hh : ∀ x ∈ hs, (0 ≤ x.room ∧ x.room ≤ 65536) ∧ (-20000 ≤ x.lever ∧ x.lever ≤ 20000) ∧ (0 ≤ x.height ∧ x.height ≤ 5000)) (hx : ∀ x ∈ xs, 0 ≤ x ∧ x ≤ 65536) (ht : total = light + isum xs) (h6 : total ≤ 65536) :
    (-2000000000 ≤ momS light lever hs xs ∧ momS light lever hs xs ≤ 2000000000) ∧ (-2000000000 ≤ riseS light height hs xs ∧ riseS light height hs xs ≤ 2000000000) := by
  have a1 := valF_sum (ws := hs.map Hl.lever) (xs := xs) (B := 20000) (fun y hy => by obtain ⟨z, hz, rfl⟩ := List.mem_map.1 hy; have := hh z hz; omega) (fun y hy => (hx y hy).1) (by omega)
  have a2 := valF_sum (ws := hs.map Hl.height) (xs := xs) (B := 20000) (fun y hy => by obtain ⟨z, hz, rfl⟩ := List.mem_map.1 hy; have := hh z hz; omega) (fun y hy => (hx y hy).1) (by omega)
  have m1 := Int.mul_le_mul_of_nonneg_left hb.1.1 (show 0 ≤ light by omega)
  have m2 := Int.mul_le_mul_of_nonneg_left hb.1.2 (show 0 ≤ light by omega)
  have m3 := Int.mul_le_mul_of_nonneg_left hb.2.1 (show 0 ≤ light by omega)
  have m4 := Int.mul_le_mul_of_nonneg_left hb.2.2 (show 0 ≤ light by omega)
  unfold momS riseS
  omega
/-- The stiffness: a numerator and a denominator. -/
def stfN (light height : Int) (hs : List Hl) (mt : List (Int × Int)) (terr : Int) (xs : List Int) : Int :=
  ((atR mt (light + isum xs)).1 - terr * (atR mt (light + isum xs)).2) * (light + isum xs) - riseS light height hs xs * (atR mt (light + isum xs)).2
def stfD (light : Int) (mt : List (Int × Int)) (xs : List Int) : Int := (atR mt (light + isum xs)).2 * (light + isum xs)
set_option maxRecDepth 100000 in
set_option maxHeartbeats 6400000 in
theorem Stiff_any (id light lever height : Int) (A : Option Addr) (n c : Nat) (B : Option Addr) (m d : Nat) (merr : Int) (C : Option Addr) (q r : Nat) (terr turn least : Int) (hs : List Hl) (mn mt : List (Int × Int)) (X : Option Addr) (p pc : Nat) (xs : List Int) (w : World) (hA : SAt encL 4 w A n hs) (hB : CAt w B m mn) (hC : CAt w C q mt) (hn : n ≤ 9223372036854775807) (hm : m ≤ 9223372036854775807) (hq : q ≤ 9223372036854775807) (hc : n ≤ c) (hX : SAt encI 1 w X p xs) (hE : loadE (shipE id light lever height turn least hs mn merr mt terr) hs xs = 0) :
    Calls Tryz.prog 32 #[.agg (cSp id light lever height A n c B m d merr C q r terr turn least), .slice X p pc] w fun e w' => e = .returned (.tuple #[.agg #[.int .i64 (lowN (stfN light height hs mt terr xs) (stfD light mt xs)), .int .i64 (lowD (stfN light height hs mt terr xs) (stfD light mt xs))], .int .i64 0]) ∧ Below w.heap.size w w' := by
  have hSE := (loadE_zero hE).1
  have hld := (loadE_zero hE).2
  have hok := shipE_zero hSE
  have hlb := load_bd hok hld
  have hp : p = n := by have := hX.len; have := hA.len; have := hlb.1; omega
  subst hp
  have hn8 : p ≤ 8 := by have := hA.len; have := hok.len; omega
  have hb0 := ((Below.refl w.heap.size w).alloc (Nat.le_refl _) (.cells (cSp id light lever height A p c B m d merr C q r terr turn least) 27)).alloc (by simp) (.cells #[.int .i64 0, .int .i64 0] 89)
  have t0 := (Blk.new w 27 (cSp id light lever height A p c B m d merr C q r terr turn least)).alloc (.cells #[.int .i64 0, .int .i64 0] 89)
  have r0 := Blk.at_new (W := w.alloc (.cells (cSp id light lever height A p c B m d merr C q r terr turn least) 27)) (g := w.heap.size + 1) 89 #[.int .i64 0, .int .i64 0] (by simp)
  have hbx := hb0.trans ((below_new ((w.alloc (.cells (cSp id light lever height A p c B m d merr C q r terr turn least) 27)).alloc (.cells #[.int .i64 0, .int .i64 0] 89)) (.cells #[.slice X p pc] 32)).mono hb0.size)
  have hbn := below_new ((w.alloc (.cells (cSp id light lever height A p c B m d merr C q r terr turn least) 27)).alloc (.cells #[.int .i64 0, .int .i64 0] 89)) (.cells #[.slice X p pc] 32)
  have HLd := Lib.hid (loaded_any id light lever height A p c B m d merr C q r terr turn least hs mn mt (w.heap.size + 2) X p pc xs (((w.alloc (.cells (cSp id light lever height A p c B m d merr C q r terr turn least) 27)).alloc (.cells #[.int .i64 0, .int .i64 0] 89)).alloc (.cells #[.slice X p pc] 32)) (hA.below hbx) (hB.below hbx) (hC.below hbx) hn hm hq hc (Blk.at_new _ _ (by simp)) (hX.below hbx) hn)
  rw [hE] at HLd
  have HSm := Lib.hid (fun (u : World) (hu : Below w.heap.size w u) => sum_any X p pc xs u (hX.below hu) (fun x h => by have := hlb.2.1 x h; omega) (by omega))
  have HRi := Lib.hid (fun (u : World) (hu : Below w.heap.size w u) => rise_any2 id light lever height A p c B m d merr C q r terr turn least hs X p pc xs u (hA.below hu) hn8 (fun x h => by have := hok.hl x h; omega) (hX.below hu) (Nat.le_refl _) (fun x hx => hlb.2.1 x hx) hok.lightB (by have := hok.heightB; omega))
  obtain ⟨bb, off, eC, hk⟩ := hC.at_ (by have := hC.len; have := hok.mtv.pos; omega)
  have hlq := hC.len
  subst eC
  subst hlq
  have HC := Lib.hid (fun (u : World) (hu : Below w.heap.size w u) => at_any bb off r terr mt (light + isum xs) u (hk.below hu) hok.mtv hlb.2.2.2.2.1.1 hlb.2.2.2.2.1.2)
  have hbd := atR_bd hok.mtv hlb.2.2.2.2.1.1 hlb.2.2.2.2.1.2
  have hmb := (mom_bd hok.lightB.1 ⟨hok.leverB, hok.heightB⟩ hok.hl hlb.2.1 rfl hlb.2.2.2.1).2
  obtain ⟨hl1, hl2⟩ := hok.lightB
  have hte := hok.terrB
  have hs0 := hlb.2.2.1
  have hs6 := hlb.2.2.2.1
  have HN := Lib.hid (show stfN light height hs mt terr xs = ((atR mt (light + isum xs)).1 - terr * (atR mt (light + isum xs)).2) * (light + isum xs) - riseS light height hs xs * (atR mt (light + isum xs)).2 from rfl)
  have HD := Lib.hid (show stfD light mt xs = (atR mt (light + isum xs)).2 * (light + isum xs) from rfl)
  clear hA hB hC hX hSE hld hok hlb hE hk
  generalize stfN light height hs mt terr xs = N at *
  generalize stfD light mt xs = D at *
  generalize riseS light height hs xs = ri at *
  generalize atR mt (light + isum xs) = at_ at *
  generalize isum xs = sx at *
  generalize mt.length = ml at *
  obtain ⟨an, ad⟩ := at_
  dsimp only at HC hbd HN HD
  have hNe := HN.out
  have hDe := HD.out
  subst hNe hDe
  have m1 := mul_bd (A := 4000) (B := 80000) (x := terr) (y := ad) (by omega) (by omega) (by omega) (by omega)
  have m2 := mul_bd (A := 20320000000) (B := 65536) (x := an - terr * ad) (y := light + sx) (by omega) (by omega) (by omega) (by omega)
  have m3 := mul_bd (A := 2000000000) (B := 80000) (x := ri) (y := ad) (by omega) (by omega) (by omega) (by omega)
  have m4 : 1 ≤ ad * (light + sx) ∧ ad * (light + sx) ≤ 5242880000 := by
    have g1 := Int.mul_le_mul hbd.1.1 (show 1 ≤ light + sx by omega) (by omega) (by omega)
    have g2 := Int.mul_le_mul hbd.1.2 hs6 (by omega) (by omega)
    omega
  have HLw := Lib.hid (fun u => low_any ((an - terr * ad) * (light + sx) - ri * ad) (ad * (light + sx)) u (by omega) (by omega) m4.1 (by omega))
  obtain ⟨F, hF⟩ : ∃ F, Value.agg #[.int .i64 (lowN ((an - terr * ad) * (light + sx) - ri * ad) (ad * (light + sx))), .int .i64 (lowD ((an - terr * ad) * (light + sx) - ri * ad) (ad * (light + sx)))] = F := ⟨_, rfl⟩
  generalize lowN ((an - terr * ad) * (light + sx) - ri * ad) (ad * (light + sx)) = f1 at *
  generalize lowD ((an - terr * ad) * (light + sx) - ri * ad) (ad * (light + sx)) = f2 at *
  clear hF F HN HD
  go_enter Tryz.func32, Tryz.ntmps32
  go_upto_region 1 with fail
  generalize hW : (w.alloc (.cells (cSp id light lever height A p c B m d merr (some ⟨bb, off, none⟩) ml r terr turn least) 27)).alloc (.cells #[.int .i64 0, .int .i64 0] 89) = W at *
  have HWs := Lib.hid (show W.heap.size = w.heap.size + 2 by rw [← hW]; simp)
  have HT := Lib.hid t0
  have HRr := Lib.hid r0
  have HB := Lib.hid hb0
  have HBn := Lib.hid hbn
  have HBx := Lib.hid hbx
  obtain ⟨tl, s0, s1, s2, s3, s4, s5, s6, s7, s8, s9, s10⟩ := blk11 t0
  clear t0 hb0 r0 hbn hbx hW
  rw [← HWs.out] at HLd
  go_upto_region 4 with (go_at_call 19; (with_reducible refine HLd.out.mono ?_); rintro e u1 ⟨rfl, hb1⟩)
  have hbu := HBn.out.trans (hb1.mono HBn.out.size)
  have HB1 := Lib.hid (HB.out.trans (hbu.mono HB.out.size))
  have HT1 := Lib.hid (HT.out.below hbu)
  have HR1 := Lib.hid (HRr.out.below hbu)
  clear hb1 hbu tl s0 s1 s2 s3 s4 s5 s6 s7 s8 s9 s10 HT HB HRr HLd HBn HBx
  obtain ⟨tl, s0, s1, s2, s3, s4, s5, s6, s7, s8, s9, s10⟩ := blk11 HT1.out
  have HS1 := Lib.hid (fun (u : World) (hu : Below u1.heap.size u1 u) => HSm.out u (HB1.out.trans (hu.mono HB1.out.size)))
  obtain ⟨xc, xf'⟩ := xcell (W := u1)
  refine wp_region_quiet_tail 6 (by kernel_rfl) (by kernel_rfl) ?_
  simp only [List.take_succ_cons, List.take_zero, List.drop_succ_cons, List.drop_zero]
  repeat (first | go_big_quiet_step ((go_at_call 20; with_reducible refine calls_ext (HS1.out _ ?_); exact Ext.below _)) | quiet_step ((go_at_call 20; with_reducible refine calls_ext (HS1.out _ ?_); exact Ext.below _)))
  refine wpQuiet_nil ?_
  intro w2 hb2
  have HB2 := Lib.hid (HB1.out.trans (hb2.mono HB1.out.size))
  have HT2 := Lib.hid (HT1.out.below hb2)
  have HR2 := Lib.hid (HR1.out.below hb2)
  clear xc xf' hb2 tl s0 s1 s2 s3 s4 s5 s6 s7 s8 s9 s10 HT1 HB1 HR1 HS1
  obtain ⟨tl, s0, s1, s2, s3, s4, s5, s6, s7, s8, s9, s10⟩ := blk11 HT2.out
  have HC2 := Lib.hid (HC.out w2 HB2.out)
  go_upto_region 6 with (go_at_call 57; (with_reducible refine HC2.out.mono ?_); rintro e u3 ⟨rfl, hb3⟩)
  have HB3 := Lib.hid (HB2.out.trans (hb3.mono HB2.out.size))
  have HT3 := Lib.hid (HT2.out.below hb3)
  have HR3 := Lib.hid (HR2.out.below hb3)
  clear hb3 tl s0 s1 s2 s3 s4 s5 s6 s7 s8 s9 s10 HT2 HB2 HR2 HC2 HC
  obtain ⟨tl, s0, s1, s2, s3, s4, s5, s6, s7, s8, s9, s10⟩ := blk11 HT3.out
  have HRi3 := Lib.hid (fun (u : World) (hu : Below u3.heap.size u3 u) => HRi.out u (HB3.out.trans (hu.mono HB3.out.size)))
  obtain ⟨xc, xf'⟩ := xcell (W := u3)
  refine wp_region_quiet_tail 19 (by kernel_rfl) (by kernel_rfl) ?_
  simp only [List.take_succ_cons, List.take_zero, List.drop_succ_cons, List.drop_zero]
  repeat (first | go_big_quiet_step (first | (go_at_call 59; with_reducible refine calls_ext (HRi3.out _ ?_); exact Ext.below _) | (go_at_call 58; with_reducible refine calls_ext (HLw.out _))) | quiet_step (first | (go_at_call 59; with_reducible refine calls_ext (HRi3.out _ ?_); exact Ext.below _) | (go_at_call 58; with_reducible refine calls_ext (HLw.out _))))
  refine wpQuiet_nil ?_
  intro w4 hb4
  have HB4 := Lib.hid (HB3.out.trans (hb4.mono HB3.out.size))
  have HR4 := Lib.hid (HR3.out.below hb4)
  clear xc xf' hb4 tl s0 s1 s2 s3 s4 s5 s6 s7 s8 s9 s10 HT3 HB3 HR3 HRi HRi3 HLw HSm
  obtain ⟨z0, z1, zl⟩ := cells2 HR4.out
  have g0 := HR4.out.frozen 0
  have g1 := HR4.out.frozen 1
  go_wp2
  obtain ⟨x0, x1, _⟩ := cells2 (blk_set2 HR4.out (.int .i64 f1) (.int .i64 f2))
  exact bodyPost_ret (v := .tuple #[.agg #[.int .i64 f1, .int .i64 f2], .int .i64 0]) (by simp [results, Tryz.results32, go_sem, x0, x1]) rfl ⟨rfl, below_set2 HB4.out (by omega) _ _⟩
end Go.Proofs.YtgojpgggbflgoaaGreat

namespace Go.Proofs.YtgojpgggbflgoaaGreat
open Go.RowKit

/-- The draughts at an end: a quotient, rounded down and up, with the error of the table. -/
def endS (num den turn merr mom : Int) : Int × Int :=
  ((num * 2 * turn + mom * den) / (den * 2 * turn) - merr, -((-(num * 2 * turn + mom * den)) / (den * 2 * turn)) + merr)
def fltS (light lever : Int) (hs : List Hl) (mn : List (Int × Int)) (merr turn : Int) (xs : List Int) (s : Int) : Int × Int :=
  endS (atR mn (light + isum xs)).1 (atR mn (light + isum xs)).2 turn merr (s * momS light lever hs xs)
set_option maxRecDepth 100000 in
set_option maxHeartbeats 6400000 in
theorem afloat1_any (id light lever height : Int) (A : Option Addr) (n c : Nat) (B : Option Addr) (m d : Nat) (merr : Int) (C : Option Addr) (q r : Nat) (terr turn least : Int) (_ : List Hl) (X : Option Addr) (pc : Nat) (_ : List Int) (s num den mom : Int) (gs g1 g2 gx : Nat) (w : World) (hs1 : s = 1 ∨ s = -1) (ht : Blk w gs 27 (cSp id light lever height A n c B m d merr C q r terr turn least)) (h1 : Blk w g1 3 #[.int .i64 num]) (h2 : Blk w g2 3 #[.int .i64 den]) (hx : Blk w gx 32 #[.slice X n pc])
    (HMo : Hid (∀ u, Below w.heap.size w u → Calls Tryz.prog 87 #[.agg (cSp id light lever height A n c B m d merr C q r terr turn least), .slice X n pc] u fun e w' => e = .returned (.int .i64 mom) ∧ Below u.heap.size u w'))
    (hnum : -20000000000 ≤ num ∧ num ≤ 20000000000) (hden : 1 ≤ den ∧ den ≤ 80000) (hmom : -2000000000 ≤ mom ∧ mom ≤ 2000000000) (htu : 1 ≤ turn ∧ turn ≤ 1048576) (hme : 0 ≤ merr ∧ merr ≤ 4000) :
    Calls Tryz.prog 86 #[.int .i64 s, .pointer (some ⟨g1, 0, none⟩), .pointer (some ⟨gs, 0, none⟩), .pointer (some ⟨gx, 0, none⟩), .pointer (some ⟨g2, 0, none⟩)] w fun e w' => e = .returned (vSp (endS num den turn merr (s * mom)).1 (endS num den turn merr (s * mom)).2) ∧ Below w.heap.size w w' := by
  have hb0 := below_new w (.cells #[.int .i64 0, .int .i64 0] 43)
  have r0 := Blk.new w 43 #[.int .i64 0, .int .i64 0]
  have HT := Lib.hid (ht.below hb0)
  have HN1 := Lib.hid (h1.below hb0)
  have HN2 := Lib.hid (h2.below hb0)
  have HX := Lib.hid (hx.below hb0)
  obtain ⟨E1, hE1⟩ : ∃ E1, (endS num den turn merr (s * mom)).1 = E1 := ⟨_, rfl⟩
  obtain ⟨E2, hE2⟩ : ∃ E2, (endS num den turn merr (s * mom)).2 = E2 := ⟨_, rfl⟩
  have HE1 := Lib.hid (show E1 = (num * 2 * turn + s * mom * den) / (den * 2 * turn) - merr from hE1.symm)
  have HE2 := Lib.hid (show E2 = -((-(num * 2 * turn + s * mom * den)) / (den * 2 * turn)) + merr from hE2.symm)
  rw [hE1, hE2]
  clear ht h1 h2 hx hE1 hE2
  have m1 : -2000000000 ≤ s * mom ∧ s * mom ≤ 2000000000 := by rcases hs1 with rfl | rfl <;> omega
  have m2 := mul_bd (A := 2000000000) (B := 80000) (x := s * mom) (y := den) (by omega) (by omega) (by omega) (by omega)
  have m3 := mul_bd (A := 40000000000) (B := 1048576) (x := num * 2) (y := turn) (by omega) (by omega) (by omega) (by omega)
  have m4 : 2 ≤ den * 2 * turn ∧ den * 2 * turn ≤ 167772160000 := by
    have g1 := Int.mul_le_mul (show 2 ≤ den * 2 by omega) htu.1 (by omega) (by omega)
    have g2 := Int.mul_le_mul (show den * 2 ≤ 160000 by omega) htu.2 (by omega) (by omega)
    omega
  go_enter Tryz.func86, Tryz.ntmps86
  go_upto_region 1 with fail
  generalize hW : w.alloc (.cells #[.int .i64 0, .int .i64 0] 43) = W at *
  clear hW
  have HR := Lib.hid r0
  have HB := Lib.hid hb0
  clear r0 hb0
  obtain ⟨tl, s0, s1, s2, s3, s4, s5, s6, s7, s8, s9, s10⟩ := blk11 HT.out
  have y1 := HN1.out.cell 0
  have y2 := HN2.out.cell 0
  have y3 := HX.out.cell 0
  simp only [List.getElem?_toArray, List.getElem?_cons_zero] at y1 y2 y3
  have l1 := HN1.out.lt
  have l2 := HN2.out.lt
  have l3 := HX.out.lt
  have HMo1 := Lib.hid (fun (u : World) (hu : Below W.heap.size W u) => HMo.out u (HB.out.trans (hu.mono HB.out.size)))
  obtain ⟨xc, xf'⟩ := xcell (W := W)
  refine wp_region_quiet_tail 20 (by kernel_rfl) (by kernel_rfl) ?_
  simp only [List.take_succ_cons, List.take_zero, List.drop_succ_cons, List.drop_zero]
  repeat (first | go_big_quiet_step ((go_at_call 87; with_reducible refine calls_ext (HMo1.out _ ?_); exact Ext.below _)) | quiet_step ((go_at_call 87; with_reducible refine calls_ext (HMo1.out _ ?_); exact Ext.below _)))
  refine wpQuiet_nil ?_
  intro w2 hb2
  have HB2 := Lib.hid (HB.out.trans (hb2.mono HB.out.size))
  have HT2 := Lib.hid (HT.out.below hb2)
  have HR2 := Lib.hid (HR.out.below hb2)
  clear xc xf' hb2 tl s0 s1 s2 s3 s4 s5 s6 s7 s8 s9 s10 y1 y2 y3 l1 l2 l3 HB HT HR HMo HMo1 HN1 HN2 HX
  obtain ⟨tl, s0, s1, s2, s3, s4, s5, s6, s7, s8, s9, s10⟩ := blk11 HT2.out
  have HQ1 := Lib.hid (fun u => hbelow_any (num * 2 * turn + s * mom * den) (den * 2 * turn) u (by omega) (by omega))
  have HQ2 := Lib.hid (fun u => hbelow_any (-(num * 2 * turn + s * mom * den)) (den * 2 * turn) u (by omega) (by omega))
  have d1 := ediv_bd (num * 2 * turn + s * mom * den) (den * 2 * turn) (by omega) (by omega)
  have d2 := ediv_bd (-(num * 2 * turn + s * mom * den)) (den * 2 * turn) (by omega) (by omega)
  have hnb : -100000000000000000 ≤ num * 2 * turn + s * mom * den ∧ num * 2 * turn + s * mom * den ≤ 100000000000000000 := by omega
  generalize num * 2 * turn + s * mom * den = N at *
  generalize den * 2 * turn = D at *
  generalize N / D = q1 at *
  generalize (-N) / D = q2 at *
  go_upto_region 2 with fail
  obtain ⟨xc, xf'⟩ := xcell (W := w2)
  refine wp_region_quiet_tail 17 (by kernel_rfl) (by kernel_rfl) ?_
  simp only [List.take_succ_cons, List.take_zero, List.drop_succ_cons, List.drop_zero]
  repeat (first | go_big_quiet_step (first | (go_at_call 88; with_reducible refine calls_ext_same (HQ1.out _)) | (go_at_call 88; with_reducible refine calls_ext_same (HQ2.out _))) | quiet_step (first | (go_at_call 88; with_reducible refine calls_ext_same (HQ1.out _)) | (go_at_call 88; with_reducible refine calls_ext_same (HQ2.out _))))
  refine wpQuiet_nil ?_
  intro w3 hb3
  have HB3 := Lib.hid (HB2.out.trans (hb3.mono HB2.out.size))
  have HR3 := Lib.hid (HR2.out.below hb3)
  clear xc xf' hb3 tl s0 s1 s2 s3 s4 s5 s6 s7 s8 s9 s10
  obtain ⟨z0, z1, zl⟩ := cells2 HR3.out
  have f0 := HR3.out.frozen 0
  have f1 := HR3.out.frozen 1
  go_wp2
  obtain ⟨x0, x1, _⟩ := cells2 (blk_set2 HR3.out (.int .i64 (q1 - merr)) (.int .i64 (-q2 + merr)))
  exact bodyPost_ret (v := vSp (q1 - merr) (-q2 + merr)) (by simp [results, Tryz.results86, go_sem, x0, x1]) rfl ⟨by rw [HE1.out, HE2.out], below_set2 HB3.out (Nat.le_refl _) _ _⟩
end Go.Proofs.YtgojpgggbflgoaaGreat
