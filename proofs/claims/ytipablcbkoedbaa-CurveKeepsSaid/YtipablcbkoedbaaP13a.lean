/- What is known while a region draws its order that gives a call of at to a curve and a truth value. -/
import Derived.WalkKit
import Derived.WalkLawsBesides
import Derived.Deep.QuietTactic
import Derived.BigQuiet
import Derived.RegionTactic
import Derived.OwnWalk
import Derived.RangeFuncBox
import Derived.Lib.Hide
import Derived.Outline
import Derived.WalkSmall
import Derived.IntWalk
import Derived.Deep.DeepCutAuto
import Derived.Test.YtipablcbkoedbaaO2
import Derived.Test.YtipablcbkoedbaaF2
import Derived.Test.YtipablcbkoedbaaReg6
import Derived.Test.YtipablcbkoedbaaReg5
import Derived.Test.YtipablcbkoedbaaProg
import Derived.Test.YtipablcbkoedbaaS2
import Derived.Test.YtipablcbkoedbaaReg4
import Derived.Test.YtipablcbkoedbaaR2
import Derived.Test.YtipablcbkoedbaaS1
import Derived.Test.YtipablcbkoedbaaJ1
import Derived.Test.YtipablcbkoedbaaReg2
import Derived.Test.YtipablcbkoedbaaH2
import Derived.Test.YtipablcbkoedbaaS3
import Derived.Test.YtipablcbkoedbaaC5
namespace Go.Proofs.Ytipablcbkoedbaa
open Go.RowKit

/-- Whether three knots lie on a straight line. -/
def lineB (p q r : Int × Int) : Bool := decide ((q.2 - p.2) * (r.1 - q.1) = (r.2 - q.2) * (q.1 - p.1))
theorem lineB_iff (p q r : Int × Int) : lineB p q r = true ↔ (q.2 - p.2) * (r.1 - q.1) = (r.2 - q.2) * (q.1 - p.1) := by unfold lineB; simp
/-- What is left of a row (the last knot first) ahead of a knot. -/
def popR : List (Int × Int) → Int × Int → List (Int × Int)
  | q :: p :: rest, k => if lineB p q k = true then popR (p :: rest) k else q :: p :: rest
  | [q], _ => [q]
  | [], _ => []
/-- What stands behind knot m, the last one first. -/
def thO (l : Nat → Int × Int) : Nat → List (Int × Int)
  | 0 => [l 0]
  | m + 1 => l (m + 1) :: popR (thO l m) (l (m + 1))
/-- The knots ahead of knot m that matter, the last one first. -/
def thK (l : Nat → Int × Int) : Nat → List (Int × Int)
  | 0 => []
  | m + 1 => if m = 0 ∨ lineB (l (m - 1)) (l m) (l (m + 1)) = false then l m :: thK l m else thK l m
theorem popR_stop {q p : Int × Int} {rest : List (Int × Int)} {k : Int × Int} (h : lineB p q k = false) : popR (q :: p :: rest) k = q :: p :: rest := by
  show (if lineB p q k = true then _ else _) = _
  rw [h]; rfl
theorem popR_go {q p : Int × Int} {rest : List (Int × Int)} {k : Int × Int} (h : lineB p q k = true) : popR (q :: p :: rest) k = popR (p :: rest) k := by
  show (if lineB p q k = true then _ else _) = _
  rw [if_pos h]
theorem popR_len : ∀ (l : List (Int × Int)) (k : Int × Int), (popR l k).length ≤ l.length
  | q :: p :: rest, k => by
    show (if lineB p q k = true then popR (p :: rest) k else q :: p :: rest).length ≤ _
    split
    · have := popR_len (p :: rest) k
      simp at this ⊢; omega
    · exact Nat.le_refl _
  | [q], _ => Nat.le_refl _
  | [], _ => Nat.le_refl _
theorem thO_len (l : Nat → Int × Int) : ∀ m, (thO l m).length ≤ m + 1
  | 0 => Nat.le_refl _
  | m + 1 => by
    have a := popR_len (thO l m) (l (m + 1))
    have b := thO_len l m
    show (l (m + 1) :: popR (thO l m) (l (m + 1))).length ≤ _
    simp; omega
theorem thO_ne (l : Nat → Int × Int) : ∀ m, thO l m ≠ []
  | 0 => by simp [thO]
  | m + 1 => by simp [thO]

/-- Whether a row of kept knots goes with knot q, which stands behind o. -/
structure ThI (o q : Int × Int) (T : List (Int × Int)) : Prop where
  one : ∀ p r, T = p :: r → p.1 < q.1 ∧ (q.2 - p.2) * (q.1 - o.1) = (q.2 - o.2) * (q.1 - p.1)
  two : ∀ p s r, T = p :: s :: r → s.1 < p.1 ∧ lineB s p q = false

theorem slope_tr {a b c d e f : Int} (hd : 0 < d) (h1 : a * d = c * b) (h2 : c * f = e * d) : a * f = e * b := by
  have : d * (a * f) = d * (e * b) := by grind
  exact Int.eq_of_mul_eq_mul_left (by omega) this
/-- With one knot more. -/
theorem thI_step {o q k : Int × Int} {T : List (Int × Int)} (hoq : o.1 < q.1) (hqk : q.1 < k.1) (hT : T ≠ []) (h : ThI o q T) :
    (lineB o q k = true → popR (q :: T) k = T ∧ ThI q k T) ∧ (lineB o q k = false → popR (q :: T) k = q :: T ∧ ThI q k (q :: T)) := by
  cases T with
  | nil => exact absurd rfl hT
  | cons p rest =>
    obtain ⟨h1, h2⟩ := h.one p rest rfl
    have hle : lineB p q k = lineB o q k := by
      rw [Bool.eq_iff_iff, lineB_iff, lineB_iff]
      constructor
      · intro e; exact slope_tr (d := q.1 - p.1) (b := q.1 - o.1) (c := q.2 - p.2) (by omega) (by grind) (by grind)
      · intro e; exact slope_tr (d := q.1 - o.1) (b := q.1 - p.1) (c := q.2 - o.2) (by omega) (by grind) (by grind)
    constructor
    · intro hl
      have hpq : (q.2 - p.2) * (k.1 - q.1) = (k.2 - q.2) * (q.1 - p.1) := (lineB_iff _ _ _).1 (hle.trans hl)
      refine ⟨?_, fun p' r' e => ?_, fun p' s r' e => ?_⟩
      · rw [popR_go (hle.trans hl)]
        cases rest with
        | nil => rfl
        | cons s r =>
          obtain ⟨c1, c2⟩ := h.two p s r rfl
          refine popR_stop ?_
          cases hk : lineB s p k with
          | false => rfl
          | true =>
            rw [lineB_iff] at hk
            have : lineB s p q = true := (lineB_iff _ _ _).2 (slope_tr (d := k.1 - p.1) (c := k.2 - p.2) (by omega) hk (by grind))
            rw [c2] at this; cases this
      · obtain ⟨rfl, rfl⟩ := List.cons.inj e
        exact ⟨by omega, by grind⟩
      · obtain ⟨rfl, e2⟩ := List.cons.inj e
        obtain ⟨c1, c2⟩ := h.two p s r' (by rw [e2])
        refine ⟨c1, ?_⟩
        cases hk : lineB s p k with
        | false => rfl
        | true =>
          rw [lineB_iff] at hk
          have : lineB s p q = true := (lineB_iff _ _ _).2 (slope_tr (d := k.1 - p.1) (c := k.2 - p.2) (by omega) hk (by grind))
          rw [c2] at this; cases this
    · intro hl
      refine ⟨popR_stop (hle.trans hl), fun p' r' e => ?_, fun p' s r' e => ?_⟩
      · obtain ⟨rfl, rfl⟩ := List.cons.inj e
        exact ⟨hqk, rfl⟩
      · obtain ⟨rfl, e2⟩ := List.cons.inj e
        obtain ⟨rfl, rfl⟩ := List.cons.inj e2
        exact ⟨h1, hle.trans hl⟩

theorem thO_eq {l : Nat → Int × Int} {N : Nat} (hx : ∀ i, i + 1 < N → (l i).1 < (l (i + 1)).1) : ∀ m, m < N → thO l m = l m :: thK l m ∧ (0 < m → thK l m ≠ [] ∧ ThI (l (m - 1)) (l m) (thK l m))
  | 0, _ => ⟨rfl, fun h => absurd h (by omega)⟩
  | m + 1, hm => by
    obtain ⟨h1, h2⟩ := thO_eq hx m (by omega)
    have hxm := hx m hm
    show l (m + 1) :: popR (thO l m) (l (m + 1)) = _ ∧ _
    rw [h1]
    have e : thK l (m + 1) = if m = 0 ∨ lineB (l (m - 1)) (l m) (l (m + 1)) = false then l m :: thK l m else thK l m := rfl
    rw [e]
    by_cases h0 : m = 0
    · subst h0
      rw [if_pos (.inl rfl)]
      refine ⟨rfl, fun _ => ⟨by simp, fun p r e => ?_, fun p s r e => ?_⟩⟩
      · obtain ⟨rfl, rfl⟩ := List.cons.inj e
        exact ⟨hxm, rfl⟩
      · obtain ⟨_, e2⟩ := List.cons.inj e
        cases e2
    · obtain ⟨h3, h4⟩ := h2 (by omega)
      have hxp := hx (m - 1) (by omega)
      rw [show m - 1 + 1 = m by omega] at hxp
      obtain ⟨a, b⟩ := thI_step hxp hxm h3 h4
      cases hl : lineB (l (m - 1)) (l m) (l (m + 1)) with
      | true =>
        obtain ⟨c, d⟩ := a hl
        rw [if_neg (by simp [h0]), c]
        exact ⟨rfl, fun _ => ⟨h3, d⟩⟩
      | false =>
        obtain ⟨c, d⟩ := b hl
        rw [if_pos (.inr rfl), c]
        exact ⟨rfl, fun _ => ⟨by simp, d⟩⟩
/-- The knots that matter. -/
def thL (ks : List (Int × Int)) : List (Int × Int) := (thO (fun i => ks.getD i (0, 0)) (ks.length - 1)).reverse
theorem thL_eq {ks : List (Int × Int)} (hv : Valid ks) : thL ks = (thK (fun i => ks.getD i (0, 0)) (ks.length - 1)).reverse ++ [ks.getD (ks.length - 1) (0, 0)] := by
  unfold thL
  have hp := hv.pos
  rw [(thO_eq (l := fun i => ks.getD i (0, 0)) (N := ks.length) (fun i hi => by have := hv.up i hi; unfold kx at this; show (ks.getD i (0, 0)).1 < (ks.getD (i + 1) (0, 0)).1; omega) (ks.length - 1) (by omega)).1]
  simp
theorem thL_len (ks : List (Int × Int)) (h : 0 < ks.length) : (thL ks).length ≤ ks.length := by
  unfold thL
  rw [List.length_reverse]
  have := thO_len (fun i => ks.getD i (0, 0)) (ks.length - 1)
  omega
end Go.Proofs.Ytipablcbkoedbaa

namespace Go.Proofs.Ytipablcbkoedbaa
open Go.RowKit Go

def newInv2 (w : World) (i : Nat) (t : TypeId) (cs : Array Value) (i' : Nat) (t' : TypeId) (cs' : Array Value) (ls : Nat → Bool) (vs : Nat → Value) (v : World) : Prop :=
  (ls i = true → ∃ g, vs i = .pointer (some ⟨g, 0, none⟩) ∧ w.heap.size ≤ g ∧ Blk v g t cs) ∧ (ls i' = true → ∃ g, vs i' = .pointer (some ⟨g, 0, none⟩) ∧ w.heap.size ≤ g ∧ Blk v g t' cs') ∧ (ls i = true → ls i' = true → vs i ≠ vs i')

theorem wp_region_new2 {P : Program} {id : Nat} {Q : Exit → Act → World → Prop} {a : Act} {w : World} {l : List Oper} (n i : Nat) (d : Tmp) (t : TypeId) (cs : Array Value) (i' : Nat) (d' : Tmp) (t' : TypeId) (cs' : Array Value) (hii : i ≠ i')
    (hm : P.follows .mixedOrders = true) (hB : (regB l.toArray n [(i, d), (i', d')] && dstsB a.tmps.size (qOf [(i, d), (i', d')] 0 (l.take n)) && [(i, d), (i', d')].all fun p => match l[p.1]? with | some o => o.dst.isSome || decide (a.tmps.size ≤ p.2) | none => true) = true)
    (hop : ∀ (a' : Act) (v : World) (R : Value → World → Prop), R (.pointer (some ⟨v.heap.size, 0, none⟩)) (v.alloc (.cells cs t)) → ∀ o, l[i]? = some o → loudAt P o a' v R)
    (hop' : ∀ (a' : Act) (v : World) (R : Value → World → Prop), R (.pointer (some ⟨v.heap.size, 0, none⟩)) (v.alloc (.cells cs' t')) → ∀ o, l[i']? = some o → loudAt P o a' v R)
    (h : ∃ aQ, (∀ W, Below w.heap.size w W → wpQuiet P l.toArray (fun v' => ∃ x : Ext W, v' = x.w) (fun a' => a' = aQ) (qOf [(i, d), (i', d')] 0 (l.take n)) a) ∧
      ∀ g g' v, w.heap.size ≤ g → w.heap.size ≤ g' → g ≠ g' → Below w.heap.size w v → Blk v g t cs → Blk v g' t' cs' → wpList P l.toArray Q (l.drop n) ((aQ.put (some d) (.pointer (some ⟨g, 0, none⟩))).put (some d') (.pointer (some ⟨g', 0, none⟩))) v) : (Code.region id l.toArray true).wp P Q a w := by
  obtain ⟨aQ, h1, h2⟩ := h
  refine wp_region_pre n [(i, d), (i', d')] (newInv2 w i t cs i' t' cs') hm hB (fun v _ => ⟨fun h => (by cases h), fun h => (by cases h), fun h => (by cases h)⟩) (fun ls vs v v' _ h k => ⟨fun hl => ?_, fun hl => ?_, h.2.2⟩) ⟨aQ, h1, ?_, ?_⟩
  · obtain ⟨g, e, hg, hb⟩ := h.1 hl
    exact ⟨g, e, hg, hb.below k⟩
  · obtain ⟨g, e, hg, hb⟩ := h.2.1 hl
    exact ⟨g, e, hg, hb.below k⟩
  · rintro p hp vs v ⟨x, rfl⟩ ls hI hls _ o ho
    simp only [List.mem_cons, List.not_mem_nil, or_false] at hp
    rcases hp with rfl | rfl
    · refine hop _ _ _ ⟨Over.of (x.below.alloc x.below.size _), fun _ => ⟨x.w.heap.size, by simp [upd], x.below.size, Blk.new _ _ _⟩, fun hl => ?_, fun _ hl => ?_⟩ o ho
      · have hl' : ls i' = true := by simpa [updB, Ne.symm hii] using hl
        obtain ⟨g, e, hg, hb⟩ := hI.2.1 hl'
        exact ⟨g, by simpa [upd, Ne.symm hii] using e, hg, hb.alloc _⟩
      · have hl' : ls i' = true := by simpa [updB, Ne.symm hii] using hl
        obtain ⟨g, e, hg, hb⟩ := hI.2.1 hl'
        have := hb.lt
        have e1 : upd vs i (.pointer (some ⟨x.w.heap.size, 0, none⟩)) i = .pointer (some ⟨x.w.heap.size, 0, none⟩) := by simp [upd]
        have e2 : upd vs i (.pointer (some ⟨x.w.heap.size, 0, none⟩)) i' = .pointer (some ⟨g, 0, none⟩) := by simpa [upd, Ne.symm hii] using e
        rw [e1, e2]
        intro c
        simp at c
        try omega
    · refine hop' _ _ _ ⟨Over.of (x.below.alloc x.below.size _), fun hl => ?_, fun _ => ⟨x.w.heap.size, by simp [upd], x.below.size, Blk.new _ _ _⟩, fun hl _ => ?_⟩ o ho
      · have hl' : ls i = true := by simpa [updB, hii] using hl
        obtain ⟨g, e, hg, hb⟩ := hI.1 hl'
        exact ⟨g, by simpa [upd, hii] using e, hg, hb.alloc _⟩
      · have hl' : ls i = true := by simpa [updB, hii] using hl
        obtain ⟨g, e, hg, hb⟩ := hI.1 hl'
        have := hb.lt
        have e1 : upd vs i' (.pointer (some ⟨x.w.heap.size, 0, none⟩)) i' = .pointer (some ⟨x.w.heap.size, 0, none⟩) := by simp [upd]
        have e2 : upd vs i' (.pointer (some ⟨x.w.heap.size, 0, none⟩)) i = .pointer (some ⟨g, 0, none⟩) := by simpa [upd, hii] using e
        rw [e1, e2]
        intro c
        simp at c
        try omega
  · rintro ls vs _ ⟨x, rfl⟩ hI hls
    have a1 := hls (i, d) (by simp)
    have a2 := hls (i', d') (by simp)
    obtain ⟨g, e, hg, hb⟩ := hI.1 a1
    obtain ⟨g', e', hg', hb'⟩ := hI.2.1 a2
    have hne := hI.2.2 a1 a2
    rw [e, e'] at hne
    have := h2 g g' x.w hg hg' (fun c => hne (by rw [c])) x.below hb hb'
    show wpList P l.toArray Q (l.drop n) (putsL aQ [(i, d), (i', d')] vs) x.w
    have ep : putsL aQ [(i, d), (i', d')] vs = (aQ.put (some d) (vs i)).put (some d') (vs i') := rfl
    rw [ep, e, e']
    exact this

theorem owns_shrink {W : World} {B e g c n : Nat} {xs ys : List Value} (h : W.ownsRow B e 2 (.slice (some ⟨g, 0, none⟩) (n + 1) c) (n + 1) (xs ++ ys)) (hx : xs.length = n * 2) : W.ownsRow B e 2 (.slice (some ⟨g, 0, none⟩) n c) n xs := by
  obtain ⟨h1, h2⟩ := h
  rcases h2 with ⟨h0, _⟩ | ⟨g', cap', cur, hv, hg, hh, hn, hcap, hsz, htake⟩
  · cases h0
  · cases hv
    refine ⟨hx, .inr ⟨g, c, cur, rfl, hg, hh, by omega, hcap, hsz, ?_⟩⟩
    have h3 : (cur.toList.take ((n + 1) * 2)).take (n * 2) = (xs ++ ys).take (n * 2) := by rw [htake]
    rw [List.take_take, Nat.min_eq_left (by omega)] at h3
    rw [h3, ← hx]
    simp
theorem owns_cap {W : World} {B e size g c n : Nat} {xs : List Value} (h : W.ownsRow B e size (.slice (some ⟨g, 0, none⟩) n c) n xs) : n ≤ c := by
  rcases h.2 with ⟨h0, _⟩ | ⟨g', cap', cur, hv, hg, hh, hn, hcap, hsz, htake⟩
  · cases h0
  · cases hv
    exact hn
end Go.Proofs.Ytipablcbkoedbaa

namespace Go.Proofs.Ytipablcbkoedbaa
open Go.RowKit

/-- What stands ahead of knot k. -/
def thS (l : Nat → Int × Int) : Nat → List (Int × Int)
  | 0 => []
  | k + 1 => thO l k
theorem thS_succ (l : Nat → Int × Int) : ∀ k, thS l (k + 1) = l k :: popR (thS l k) (l k)
  | 0 => rfl
  | _ + 1 => rfl
theorem thS_len (l : Nat → Int × Int) : ∀ k, (thS l k).length ≤ k
  | 0 => Nat.le_refl _
  | k + 1 => thO_len l k
theorem thO_mem (l : Nat → Int × Int) {N : Nat} : ∀ m, m < N → ∀ z ∈ thO l m, ∃ i, i < N ∧ z = l i
  | 0, h, z, hz => ⟨0, h, by simpa [thO] using hz⟩
  | m + 1, h, z, hz => by
    have hp : ∀ (T : List (Int × Int)) (k : Int × Int), ∀ z ∈ popR T k, z ∈ T := by
      intro T
      induction T with
      | nil => intro k z hz; exact hz
      | cons q T ih =>
        cases T with
        | nil => intro k z hz; exact hz
        | cons p rest =>
          intro k z hz
          have : z ∈ (if lineB p q k = true then popR (p :: rest) k else q :: p :: rest) := hz
          split at this
          · exact List.mem_cons_of_mem _ (ih k z this)
          · exact this
    rcases List.mem_cons.1 (show z ∈ l (m + 1) :: popR (thO l m) (l (m + 1)) from hz) with rfl | hz
    · exact ⟨m + 1, h, rfl⟩
    · exact thO_mem l m (by omega) z (hp _ _ z hz)
/-- A row, the last knot first. -/
theorem rev_cons (q : Int × Int) (T : List (Int × Int)) : (q :: T).reverse.flatMap encF = T.reverse.flatMap encF ++ [.int .i64 q.1, .int .i64 q.2] := by
  rw [List.reverse_cons, List.flatMap_append]; simp [encF]
theorem rev_len (T : List (Int × Int)) : (T.reverse.flatMap encF).length = T.length * 2 := by
  rw [flat_len 2 encF (fun _ => rfl), List.length_reverse]
/-- The two last knots of a row. -/
theorem last_two {W : World} {base g c : Nat} {q p : Int × Int} {rest : List (Int × Int)} (h : W.ownsRow base 108 2 (.slice (some ⟨g, 0, none⟩) (rest.length + 2) c) (rest.length + 2) ((q :: p :: rest).reverse.flatMap encF)) :
    W.cell? ⟨g, rest.length * 2, none⟩ = some (.int .i64 p.1) ∧ W.cell? ⟨g, rest.length * 2 + 1, none⟩ = some (.int .i64 p.2) ∧ W.cell? ⟨g, (rest.length + 1) * 2, none⟩ = some (.int .i64 q.1) ∧ W.cell? ⟨g, (rest.length + 1) * 2 + 1, none⟩ = some (.int .i64 q.2) := by
  rw [rev_cons, rev_cons] at h
  have hl := rev_len rest
  generalize rest.reverse.flatMap encF = xs at *
  refine ⟨?_, ?_, ?_, ?_⟩
  · rw [h.cellAt _ (by omega), List.append_assoc, List.getElem?_append_right (by omega)]; simp [hl]
  · rw [h.cellAt _ (by omega), List.append_assoc, List.getElem?_append_right (by omega)]; simp [hl]
  · rw [h.cellAt _ (by omega), List.append_assoc, List.getElem?_append_right (by omega), hl, show (rest.length + 1) * 2 - rest.length * 2 = 2 by omega]; rfl
  · rw [h.cellAt _ (by omega), List.append_assoc, List.getElem?_append_right (by omega), hl, show (rest.length + 1) * 2 + 1 - rest.length * 2 = 3 by omega]; rfl
/-- What thin returns. -/
def thOut (w : World) (R : List (Int × Int)) (err : Int) (en : Ending) (w' : World) : Prop :=
  ∃ A n cap, en = .returned (vCv A n cap err) ∧ CAt w' A n R ∧ n ≤ 1000 ∧ (∀ a, A = some a → w.heap.size ≤ a.block) ∧ Below w.heap.size w w'

/-- Two new blocks of four cells, the first of them written: what is known while a region draws its order. -/
def twoI4 (w : World) (t : TypeId) (cs : Array Value) (ls : Nat → Bool) (vs : Nat → Value) (v : World) : Prop :=
  (ls 21 = true → ∃ g, vs 21 = .pointer (some ⟨g, 0, none⟩) ∧ w.heap.size ≤ g ∧ (∃ a b c d, Blk v g t #[a, b, c, d]) ∧ (ls 22 = true → vs 22 ≠ vs 21) ∧ (ls 23 = true → Blk v g t cs)) ∧
  (ls 22 = true → ∃ g, vs 22 = .pointer (some ⟨g, 0, none⟩) ∧ w.heap.size ≤ g ∧ ∃ a b c d, Blk v g t #[a, b, c, d]) ∧ (ls 23 = true → ls 21 = true)
theorem twoI4_below {w : World} {t : TypeId} {cs : Array Value} {ls : Nat → Bool} {vs : Nat → Value} {v v' : World} (h : twoI4 w t cs ls vs v) (k : Below v.heap.size v v') : twoI4 w t cs ls vs v' := by
  refine ⟨fun h1 => ?_, fun h1 => ?_, h.2.2⟩
  · obtain ⟨g, e, hg, ⟨a, b, c, d, hb⟩, h2, h3⟩ := h.1 h1
    exact ⟨g, e, hg, ⟨a, b, c, d, hb.below k⟩, h2, fun h4 => (h3 h4).below k⟩
  · obtain ⟨g, e, hg, a, b, c, d, hb⟩ := h.2.1 h1
    exact ⟨g, e, hg, a, b, c, d, hb.below k⟩
theorem twoI4_21 {w : World} {t : TypeId} {cs : Array Value} {ls : Nat → Bool} {vs : Nat → Value} {v : World} (h : twoI4 w t cs ls vs v) (h21 : ls 21 = false) (hv : Below w.heap.size w v) (a b c d : Value) :
    twoI4 w t cs (updB ls 21) (upd vs 21 (.pointer (some ⟨v.heap.size, 0, none⟩))) (v.alloc (.cells #[a, b, c, d] t)) := by
  refine ⟨fun _ => ⟨v.heap.size, by simp [upd], hv.size, ⟨_, _, _, _, Blk.new _ _ _⟩, fun h1 => ?_, fun h1 => ?_⟩, fun h1 => ?_, fun _ => by simp [updB]⟩
  · have h1 : ls 22 = true := by simpa [updB] using h1
    obtain ⟨g, e, hg, _, _, _, _, hb⟩ := h.2.1 h1
    have := hb.lt
    have hx : g ≠ v.heap.size := by omega
    simp [upd, e]
  · have h1 : ls 23 = true := by simpa [updB] using h1
    rw [h.2.2 h1] at h21; cases h21
  · have h1 : ls 22 = true := by simpa [updB] using h1
    obtain ⟨g, e, hg, _, _, _, _, hb⟩ := h.2.1 h1
    exact ⟨g, by simp [upd, e], hg, _, _, _, _, hb.alloc _⟩
theorem twoI4_22 {w : World} {t : TypeId} {cs : Array Value} {ls : Nat → Bool} {vs : Nat → Value} {v : World} (h : twoI4 w t cs ls vs v) (hv : Below w.heap.size w v) (a b c d : Value) :
    twoI4 w t cs (updB ls 22) (upd vs 22 (.pointer (some ⟨v.heap.size, 0, none⟩))) (v.alloc (.cells #[a, b, c, d] t)) := by
  refine ⟨fun h1 => ?_, fun _ => ⟨v.heap.size, by simp [upd], hv.size, _, _, _, _, Blk.new _ _ _⟩, fun h1 => ?_⟩
  · have h1 : ls 21 = true := by simpa [updB] using h1
    obtain ⟨g, e, hg, ⟨a, b, c, d, hb⟩, h2, h3⟩ := h.1 h1
    have := hb.lt
    refine ⟨g, by simp [upd, e], hg, ⟨a, b, c, d, hb.alloc _⟩, fun _ => by
      have hx : g ≠ v.heap.size := by omega
      simp [upd, e], fun h4 => ?_⟩
    exact (h3 (by simpa [updB] using h4)).alloc _
  · have h1 : ls 23 = true := by simpa [updB] using h1
    simpa [updB] using h.2.2 h1
theorem blk_four {W : World} {g : Nat} {t : TypeId} {p q r s : Value} (h : Blk W g t #[p, q, r, s]) (a b c d : Value) :
    Blk ((((W.setCell ⟨g, 0, none⟩ a).setCell ⟨g, 1, none⟩ b).setCell ⟨g, 2, none⟩ c).setCell ⟨g, 3, none⟩ d) g t #[a, b, c, d] := by
  have := (((h.set_ 0 a).set_ 1 b).set_ 2 c).set_ 3 d
  simpa using this
theorem far_four {W : World} {g g' : Nat} {t : TypeId} {cs : Array Value} (h : Blk W g' t cs) (hne : g' ≠ g) (a b c d : Value) :
    Blk ((((W.setCell ⟨g, 0, none⟩ a).setCell ⟨g, 1, none⟩ b).setCell ⟨g, 2, none⟩ c).setCell ⟨g, 3, none⟩ d) g' t cs :=
  (((h.far (p := ⟨g, 0, none⟩) hne a).far (p := ⟨g, 1, none⟩) hne b).far (p := ⟨g, 2, none⟩) hne c).far (p := ⟨g, 3, none⟩) hne d
theorem below_four {B : Nat} {w W : World} {g : Nat} (h : Below B w W) (hg : B ≤ g) (a b c d : Value) : Below B w ((((W.setCell ⟨g, 0, none⟩ a).setCell ⟨g, 1, none⟩ b).setCell ⟨g, 2, none⟩ c).setCell ⟨g, 3, none⟩ d) :=
  (((h.setCell (p := ⟨g, 0, none⟩) hg a).setCell (p := ⟨g, 1, none⟩) hg b).setCell (p := ⟨g, 2, none⟩) hg c).setCell (p := ⟨g, 3, none⟩) hg d
theorem twoI4_23 {w : World} {t : TypeId} {ls : Nat → Bool} {vs : Nat → Value} {v : World} {g : Nat} {a b c d : Value} (h : twoI4 w t #[a, b, c, d] ls vs v) (h21 : ls 21 = true) (e : vs 21 = .pointer (some ⟨g, 0, none⟩)) (u : Value) :
    twoI4 w t #[a, b, c, d] (updB ls 23) (upd vs 23 u) ((((v.setCell ⟨g, 0, none⟩ a).setCell ⟨g, 1, none⟩ b).setCell ⟨g, 2, none⟩ c).setCell ⟨g, 3, none⟩ d) := by
  obtain ⟨g1, e1, hg, ⟨_, _, _, _, hb⟩, h2, h3⟩ := h.1 h21
  rw [e1] at e
  have : g1 = g := by simpa using e
  subst this
  refine ⟨fun _ => ⟨g1, by simp [upd, e1], hg, ⟨_, _, _, _, blk_four hb _ _ _ _⟩, fun h1 => ?_, fun _ => blk_four hb _ _ _ _⟩, fun h1 => ?_, fun _ => by simpa [updB] using h21⟩
  · have h1 : ls 22 = true := by simpa [updB] using h1
    simpa [upd] using h2 h1
  · have h1 : ls 22 = true := by simpa [updB] using h1
    obtain ⟨g', e', hg', _, _, _, _, hb'⟩ := h.2.1 h1
    have hne : g' ≠ g1 := fun hh => h2 h1 (by rw [e1, e', hh])
    exact ⟨g', by simp [upd, e'], hg', _, _, _, _, far_four hb' hne _ _ _ _⟩

set_option maxRecDepth 100000 in
set_option maxHeartbeats 12800000 in
theorem thin_any (b off cap : Nat) (err : Int) (ks : List (Int × Int)) (w : World) (h : Kn w b off ks) (hv : Valid ks) :
    Calls Try.prog 123 #[vCv (some ⟨b, off, none⟩) ks.length cap err] w (thOut w (thL ks) err) := by
  have HKn := Lib.hid h
  have HV := Lib.hid hv
  have hpos := hv.pos
  have hle := hv.le
  have HTh := Lib.hid (show thL ks = (thO (fun i => ks.getD i (0, 0)) (ks.length - 1)).reverse from rfl)
  have HTl := Lib.hid (thL_len ks hpos)
  obtain ⟨i0, hi0, hi1, hi2, hi3⟩ := info_parts info_knot
  have HI := Lib.hid (show Try.prog.info? 108 = some i0 ∧ i0.zero = some (.agg #[.int .i64 0, .int .i64 0]) ∧ i0.size = 2 ∧ i0.bytes = 16 from ⟨hi0, hi1, hi2, hi3⟩)
  have HSs := Lib.hid (thS_succ fun i => ks.getD i (0, 0))
  have HSl := Lib.hid (thS_len fun i => ks.getD i (0, 0))
  have HSm := Lib.hid (fun (k : Nat) (hk : k < ks.length + 1) z (hz : z ∈ thS (fun i => ks.getD i (0, 0)) k) => (show -65536 ≤ z.2 ∧ z.2 ≤ 65536 ∧ 0 ≤ z.1 ∧ z.1 ≤ 2000 from by
    cases k with
    | zero => cases hz
    | succ k =>
      obtain ⟨i, hi, rfl⟩ := thO_mem (fun i => ks.getD i (0, 0)) (N := ks.length) k (by omega) z hz
      have a := hv.x0 i hi
      have b := hv.y0 i hi
      unfold kx at a
      unfold ky at b
      omega))
  have HPm := Lib.hid (fun (T S : List (Int × Int)) (k : Int × Int) (_ : popR T k = popR S k) => True.intro)
  clear h hv hi0 hi1 hi2 hi3 HPm
  generalize hn : ks.length = n at *
  have HNn := Lib.hid hn
  clear hn
  generalize hS : thS (fun i => ks.getD i (0, 0)) = S at *
  have HS := Lib.hid hS
  clear hS
  generalize hW : (w.alloc (.cells #[.slice (some ⟨b, off, none⟩) n cap, .int .i64 err] 24)).alloc (.cells #[.slice none 0 0, .int .i64 0] 24) = W
  have B0 : Below w.heap.size w W := by rw [← hW]; exact (((Below.refl w.heap.size w).alloc (Nat.le_refl _) _).alloc (by simp) _)
  have x0_0 : Blk W w.heap.size 24 #[.slice (some ⟨b, off, none⟩) n cap, .int .i64 err] := by rw [← hW]; exact ((Blk.at_new _ _ rfl).alloc _)
  have r_0 : Blk W (w.heap.size + 1) 24 #[.slice none 0 0, .int .i64 0] := by rw [← hW]; exact (Blk.at_new _ _ (by simp))
  have HWE := Lib.hid hW
  clear hW
  go_enter Try.func123, Try.ntmps123
  have x0_0c0 := x0_0.cell 0
  have x0_0c1 := x0_0.cell 1
  simp only [List.getElem?_toArray, List.getElem?_cons_zero, List.getElem?_cons_succ] at x0_0c0 x0_0c1
  have x0_0l := x0_0.lt
  have r_0c0 := r_0.cell 0
  have r_0c1 := r_0.cell 1
  simp only [List.getElem?_toArray, List.getElem?_cons_zero, List.getElem?_cons_succ] at r_0c0 r_0c1
  have r_0l := r_0.lt
  have hws : w.heap.size + 1 < W.heap.size := r_0l
  go_upto_region 1 with fail
  rw [HWE.out]
  have B1 := B0
  have B1a := B1.alloc B1.size (.cells #[.slice none 0 0, .int .i64 err] 24)
  go_wp2_with fail
  clear x0_0c0 x0_0c1 x0_0l r_0c0 r_0c1 r_0l
  have x0_1 := (x0_0.alloc (.cells #[.slice none 0 0, .int .i64 err] 24))
  have r_1 := (r_0.alloc (.cells #[.slice none 0 0, .int .i64 err] 24))
  clear x0_0 r_0
  have o_1 := (Blk.new W 24 #[.slice none 0 0, .int .i64 err])
  generalize hV1 : W.alloc (.cells #[.slice none 0 0, .int .i64 err] 24) = V1 at *
  generalize hg1 : W.heap.size = g1 at *
  clear hV1 hg1
  have x0_1c0 := x0_1.cell 0
  have x0_1c1 := x0_1.cell 1
  simp only [List.getElem?_toArray, List.getElem?_cons_zero, List.getElem?_cons_succ] at x0_1c0 x0_1c1
  have x0_1l := x0_1.lt
  have r_1c0 := r_1.cell 0
  have r_1c1 := r_1.cell 1
  simp only [List.getElem?_toArray, List.getElem?_cons_zero, List.getElem?_cons_succ] at r_1c0 r_1c1
  have r_1l := r_1.lt
  have o_1c0 := o_1.cell 0
  have o_1c1 := o_1.cell 1
  simp only [List.getElem?_toArray, List.getElem?_cons_zero, List.getElem?_cons_succ] at o_1c0 o_1c1
  have o_1l := o_1.lt
  have hbs : (g1 + 1) ≤ V1.heap.size := o_1l
  go_loopw [15] (fun i wx => ∃ (k : Nat) (v : Value) (t : Nat), k ≤ n ∧ i = .int .i64 k ∧ (S k).length = t ∧ wx.ownsRow (g1 + 1) 108 2 v t ((S k).reverse.flatMap encF) ∧ (g1 + 1) ≤ wx.heap.size ∧ Below w.heap.size w wx ∧ Blk wx w.heap.size 24 #[.slice (some ⟨b, off, none⟩) n cap, .int .i64 err] ∧ Blk wx (w.heap.size + 1) 24 #[.slice none 0 0, .int .i64 0] ∧ Blk wx g1 24 #[v, .int .i64 err]) (fun i _ => n - (intOf i).toNat)
  case atStart => exact ⟨0, .slice none 0 0, 0, Nat.zero_le _, rfl, by rw [← HS.out]; rfl, by rw [← HS.out]; exact World.ownsRow_nil _ _ _ _, hbs, (B1a), x0_1, r_1, o_1⟩
  case round =>
    clear x0_1c0 x0_1c1 x0_1l r_1c0 r_1c1 r_1l o_1c0 o_1c1 o_1l
    obtain ⟨wo, hwo⟩ : ∃ wo : World, wo = wr := ⟨_, rfl⟩
    subst hwo
    obtain ⟨k, v, t, hk, rfl, htl, ow_20, hbr, Br, x0_20, r_20, o_20⟩ := hrel
    have HTl2 := Lib.hid htl
    have htk : t ≤ k := by have := HSl.out k; omega
    clear htl
    have x0_20c0 := x0_20.cell 0
    have x0_20c1 := x0_20.cell 1
    simp only [List.getElem?_toArray, List.getElem?_cons_zero, List.getElem?_cons_succ] at x0_20c0 x0_20c1
    have x0_20l := x0_20.lt
    have r_20c0 := r_20.cell 0
    have r_20c1 := r_20.cell 1
    simp only [List.getElem?_toArray, List.getElem?_cons_zero, List.getElem?_cons_succ] at r_20c0 r_20c1
    have r_20l := r_20.lt
    have o_20c0 := o_20.cell 0
    have o_20c1 := o_20.cell 1
    simp only [List.getElem?_toArray, List.getElem?_cons_zero, List.getElem?_cons_succ] at o_20c0 o_20c1
    have o_20l := o_20.lt
    by_cases hkn : k < n
    · have hkl : k < ks.length := by rw [HNn.out]; exact hkn
      have hK := HKn.out.below Br
      have lt1 := hK.lt
      have xx := hK.x k hkl
      have xy := hK.y k hkl
      obtain ⟨y1, y2⟩ := HV.out.y0 k hkl
      obtain ⟨y3, y4⟩ := HV.out.x0 k hkl
      have HSk := Lib.hid (show S (k + 1) = (kx ks k, ky ks k) :: popR (S k) (kx ks k, ky ks k) by rw [← HS.out]; exact thS_succ _ k)
      have HSb := Lib.hid (fun z (hz : z ∈ S k) => HSm.out k (by omega) z (by rw [← HS.out] at hz; first | exact hz | (rw [HS.out] at hz; exact hz)))
      clear hK
      generalize kx ks k = ax at *
      generalize ky ks k = ay at *
      obtain ⟨A1, c1, hv1⟩ : ∃ A1 c1, v = .slice A1 t c1 := by
        rcases ow_20.2 with ⟨e, h0⟩ | ⟨gg, cp, cur, e, _⟩
        · exact ⟨none, 0, by rw [e, h0]⟩
        · exact ⟨_, _, e⟩
      subst hv1
      have HLT0 := Lib.hid (fun (q : Nat) hq => own_lt (g := q) ow_20 hq)
      clear x0_20c0 x0_20c1 x0_20l r_20c0 r_20c1 r_20l o_20c0 o_20c1 o_20l
      have x0_20c0 := x0_20.cell 0
      have x0_20c1 := x0_20.cell 1
      simp only [List.getElem?_toArray, List.getElem?_cons_zero, List.getElem?_cons_succ] at x0_20c0 x0_20c1
      have x0_20l := x0_20.lt
      have r_20c0 := r_20.cell 0
      have r_20c1 := r_20.cell 1
      simp only [List.getElem?_toArray, List.getElem?_cons_zero, List.getElem?_cons_succ] at r_20c0 r_20c1
      have r_20l := r_20.lt
      have o_20c0 := o_20.cell 0
      have o_20c1 := o_20.cell 1
      simp only [List.getElem?_toArray, List.getElem?_cons_zero, List.getElem?_cons_succ] at o_20c0 o_20c1
      have o_20l := o_20.lt
      have hwl := Br.size
      have B21 := Br
      have B21a := B21.alloc B21.size (.cells #[.int .i64 ax, .int .i64 ay] 108)
      go_wp2_with fail
      clear x0_20c0 x0_20c1 x0_20l r_20c0 r_20c1 r_20l o_20c0 o_20c1 o_20l
      have x0_21 := (x0_20.alloc (.cells #[.int .i64 ax, .int .i64 ay] 108))
      have r_21 := (r_20.alloc (.cells #[.int .i64 ax, .int .i64 ay] 108))
      have o_21 := (o_20.alloc (.cells #[.int .i64 ax, .int .i64 ay] 108))
      have ow_21 := (ow_20.alloc (.cells #[.int .i64 ax, .int .i64 ay] 108))
      clear x0_20 r_20 o_20
      have kn_21 := (Blk.new wo 108 #[.int .i64 ax, .int .i64 ay])
      generalize hV21 : wo.alloc (.cells #[.int .i64 ax, .int .i64 ay] 108) = V21 at *
      generalize hg21 : wo.heap.size = g21 at *
      clear hV21 hg21
      have x0_21c0 := x0_21.cell 0
      have x0_21c1 := x0_21.cell 1
      simp only [List.getElem?_toArray, List.getElem?_cons_zero, List.getElem?_cons_succ] at x0_21c0 x0_21c1
      have x0_21l := x0_21.lt
      have r_21c0 := r_21.cell 0
      have r_21c1 := r_21.cell 1
      simp only [List.getElem?_toArray, List.getElem?_cons_zero, List.getElem?_cons_succ] at r_21c0 r_21c1
      have r_21l := r_21.lt
      have o_21c0 := o_21.cell 0
      have o_21c1 := o_21.cell 1
      simp only [List.getElem?_toArray, List.getElem?_cons_zero, List.getElem?_cons_succ] at o_21c0 o_21c1
      have o_21l := o_21.lt
      have kn_21c0 := kn_21.cell 0
      have kn_21c1 := kn_21.cell 1
      simp only [List.getElem?_toArray, List.getElem?_cons_zero, List.getElem?_cons_succ] at kn_21c0 kn_21c1
      have kn_21l := kn_21.lt
      clear xx xy lt1
      have hgk : (g1 + 1) ≤ g21 := hbr
      have hgv : g21 < V21.heap.size := kn_21l
      go_loopw [6] (fun i wx => ∃ (T : List (Int × Int)) (v : Value) (t : Nat), i = .int .i64 t ∧ T.length = t ∧ popR T (ax, ay) = popR (S k) (ax, ay) ∧ t ≤ k ∧ (∀ z ∈ T, z ∈ S k) ∧ wx.ownsRow (g1 + 1) 108 2 v t (T.reverse.flatMap encF) ∧ (∀ q, v.ownBlock = some q → q < g21) ∧ g21 < wx.heap.size ∧ Below w.heap.size w wx ∧ Blk wx w.heap.size 24 #[.slice (some ⟨b, off, none⟩) n cap, .int .i64 err] ∧ Blk wx (w.heap.size + 1) 24 #[.slice none 0 0, .int .i64 0] ∧ Blk wx g1 24 #[v, .int .i64 err] ∧ Blk wx g21 108 #[.int .i64 ax, .int .i64 ay]) (fun i _ => (intOf i).toNat)
      case atStart => exact ⟨S k, _, t, rfl, HTl2.out, rfl, htk, fun z hz => hz, ow_21, fun q hq => (HLT0.out q hq).2, hgv, (B21a), x0_21, r_21, o_21, kn_21⟩
      case round =>
        clear x0_21c0 x0_21c1 x0_21l r_21c0 r_21c1 r_21l o_21c0 o_21c1 o_21l kn_21c0 kn_21c1 kn_21l
        obtain ⟨T, v, t2, rfl, hTt, hpop, hTk, hTS, ow_40, hvq, hgw, Bi, x0_40, r_40, o_40, kn_40⟩ := hrel
        clear ow_21
        have HPop := Lib.hid hpop
        have HTS := Lib.hid hTS
        have HVq := Lib.hid hvq
        clear hpop hTS hvq
        match T, HPop, HTS, hTt, ow_40 with
        | [], HPop, HTS, hTt, ow_40 =>
          obtain rfl : t2 = 0 := by simpa using hTt.symm
          have OW := Lib.hid ow_40
          clear ow_40 hTt
          obtain ⟨A5, c5, hv5⟩ : ∃ A5 c5, v = .slice A5 0 c5 := by
            rcases OW.out.2 with ⟨e, h0⟩ | ⟨gg, cp, cur, e, _⟩
            · exact ⟨none, 0, by rw [e, h0]⟩
            · exact ⟨_, _, e⟩
          subst hv5
          have x0_40c0 := x0_40.cell 0
          have x0_40c1 := x0_40.cell 1
          simp only [List.getElem?_toArray, List.getElem?_cons_zero, List.getElem?_cons_succ] at x0_40c0 x0_40c1
          have x0_40l := x0_40.lt
          have r_40c0 := r_40.cell 0
          have r_40c1 := r_40.cell 1
          simp only [List.getElem?_toArray, List.getElem?_cons_zero, List.getElem?_cons_succ] at r_40c0 r_40c1
          have r_40l := r_40.lt
          have o_40c0 := o_40.cell 0
          have o_40c1 := o_40.cell 1
          simp only [List.getElem?_toArray, List.getElem?_cons_zero, List.getElem?_cons_succ] at o_40c0 o_40c1
          have o_40l := o_40.lt
          have kn_40c0 := kn_40.cell 0
          have kn_40c1 := kn_40.cell 1
          simp only [List.getElem?_toArray, List.getElem?_cons_zero, List.getElem?_cons_succ] at kn_40c0 kn_40c1
          have kn_40l := kn_40.lt
          have HLT := Lib.hid (fun (q : Nat) hq => (⟨(own_lt (g := q) OW.out hq).1, HVq.out q hq⟩ : (g1 + 1) ≤ q ∧ q < g21))
          have HTe := Lib.hid (show ([] : List (Int × Int)) = popR (S k) (ax, ay) from HPop.out)
          have HLn := Lib.hid (show (([] : List (Int × Int))).length = 0 from rfl)
          have hbq : (g1 + 1) ≤ wr.heap.size := by omega
          go_wp2_with (at_builtin; go_loud (refine wpList_append_own _ rfl (.tmp 65) (.tmp 67) 22 rfl ((g1 + 1)) 108 i0 (.agg #[.int .i64 0, .int .i64 0]) 2 16 Try.underlying22 HI.out.1 HI.out.2.1 HI.out.2.2.1 HI.out.2.2.2 rfl (by decide) _ (0) (([] : List (Int × Int)).reverse.flatMap encF) rfl (OW.out.alloc _) ⟨wr.heap.size, 0, none⟩ 1 1 [.int .i64 ax, .int .i64 ay] rfl rfl (new_cells2 _ _ _ _) (one_ints2 _ _) (by unfold maxLen; omega) (by omega) (by simp; omega) ?_))
          intro v' w41 hown41 hgrow41 hnn41
          clear x0_40c0 x0_40c1 x0_40l r_40c0 r_40c1 r_40l o_40c0 o_40c1 o_40l kn_40c0 kn_40c1 kn_40l
          have x0_41 := Blk.grown (x0_40.alloc _) hgrow41 (fun h => by have := HLT.out _ h; omega)
          have r_41 := Blk.grown (r_40.alloc _) hgrow41 (fun h => by have := HLT.out _ h; omega)
          have o_41 := Blk.grown (o_40.alloc _) hgrow41 (fun h => by have := HLT.out _ h; omega)
          have kn_41 := Blk.grown (kn_40.alloc _) hgrow41 (fun h => by have := HLT.out _ h; omega)
          have B41 := ((Bi).alloc (Bi).size _).grown hgrow41 (Nat.le_trans (Bi).size (by simp)) (fun kk hk => by have := HLT.out _ hk; omega)
          have hbase41 : (g1 + 1) ≤ w41.heap.size := Nat.le_trans hbq (Nat.le_trans (by simp) hgrow41.size)
          have HN := Lib.hid hown41
          clear hown41 hgrow41 hnn41
          have x0_41c0 := x0_41.cell 0
          have x0_41c1 := x0_41.cell 1
          simp only [List.getElem?_toArray, List.getElem?_cons_zero, List.getElem?_cons_succ] at x0_41c0 x0_41c1
          have x0_41l := x0_41.lt
          have r_41c0 := r_41.cell 0
          have r_41c1 := r_41.cell 1
          simp only [List.getElem?_toArray, List.getElem?_cons_zero, List.getElem?_cons_succ] at r_41c0 r_41c1
          have r_41l := r_41.lt
          have o_41c0 := o_41.cell 0
          have o_41c1 := o_41.cell 1
          simp only [List.getElem?_toArray, List.getElem?_cons_zero, List.getElem?_cons_succ] at o_41c0 o_41c1
          have o_41l := o_41.lt
          have kn_41c0 := kn_41.cell 0
          have kn_41c1 := kn_41.cell 1
          simp only [List.getElem?_toArray, List.getElem?_cons_zero, List.getElem?_cons_succ] at kn_41c0 kn_41c1
          have kn_41l := kn_41.lt
          have hrow := HN.out
          obtain ⟨g2, c2, rfl⟩ := ownsRow_succ hrow
          have HRw := Lib.hid hrow
          clear hrow
          have of0 := o_41.frozen 0
          go_wp2
          go_roundw
          case rel =>
            refine ⟨k + 1, .slice (some ⟨g2, 0, none⟩) (0 + 1) c2, 0 + 1, by omega, by go_num, by rw [HSk.out, ← HTe.out, List.length_cons, HLn.out], ?_, by simpa [World.setCell] using hbase41, ?_⟩
            · rw [HSk.out, ← HTe.out, rev_cons]
              have := owns_grown HRw.out (grownBy_setCell' w41 g1 (.slice (some ⟨g2, 0, none⟩) (0 + 1) c2)) (fun q hq e => by have := (own_lt HRw.out hq).1; have e2 := Option.some.inj e; omega)
              simpa using this
            · exact ⟨B41.setCell (p := ⟨g1, 0, none⟩) (by simp <;> omega) _, x0_41.far (p := ⟨g1, 0, none⟩) (by simp <;> omega) _, r_41.far (p := ⟨g1, 0, none⟩) (by simp <;> omega) _, by simpa using o_41.set_ 0 (.slice (some ⟨g2, 0, none⟩) (0 + 1) c2)⟩
          case measure => simp [intOf]; omega
        | [q1], HPop, HTS, hTt, ow_40 =>
          obtain rfl : t2 = 1 := by simpa using hTt.symm
          have OW := Lib.hid ow_40
          clear ow_40 hTt
          obtain ⟨A5, c5, hv5⟩ : ∃ A5 c5, v = .slice A5 1 c5 := by
            rcases OW.out.2 with ⟨e, h0⟩ | ⟨gg, cp, cur, e, _⟩
            · exact ⟨none, 0, by rw [e, h0]⟩
            · exact ⟨_, _, e⟩
          subst hv5
          have x0_40c0 := x0_40.cell 0
          have x0_40c1 := x0_40.cell 1
          simp only [List.getElem?_toArray, List.getElem?_cons_zero, List.getElem?_cons_succ] at x0_40c0 x0_40c1
          have x0_40l := x0_40.lt
          have r_40c0 := r_40.cell 0
          have r_40c1 := r_40.cell 1
          simp only [List.getElem?_toArray, List.getElem?_cons_zero, List.getElem?_cons_succ] at r_40c0 r_40c1
          have r_40l := r_40.lt
          have o_40c0 := o_40.cell 0
          have o_40c1 := o_40.cell 1
          simp only [List.getElem?_toArray, List.getElem?_cons_zero, List.getElem?_cons_succ] at o_40c0 o_40c1
          have o_40l := o_40.lt
          have kn_40c0 := kn_40.cell 0
          have kn_40c1 := kn_40.cell 1
          simp only [List.getElem?_toArray, List.getElem?_cons_zero, List.getElem?_cons_succ] at kn_40c0 kn_40c1
          have kn_40l := kn_40.lt
          have HLT := Lib.hid (fun (q : Nat) hq => (⟨(own_lt (g := q) OW.out hq).1, HVq.out q hq⟩ : (g1 + 1) ≤ q ∧ q < g21))
          have HTe := Lib.hid (show [q1] = popR (S k) (ax, ay) from HPop.out)
          have HLn := Lib.hid (show ([q1]).length = 1 from rfl)
          have hbq : (g1 + 1) ≤ wr.heap.size := by omega
          go_wp2_with (at_builtin; go_loud (refine wpList_append_own _ rfl (.tmp 65) (.tmp 67) 22 rfl ((g1 + 1)) 108 i0 (.agg #[.int .i64 0, .int .i64 0]) 2 16 Try.underlying22 HI.out.1 HI.out.2.1 HI.out.2.2.1 HI.out.2.2.2 rfl (by decide) _ (1) ([q1].reverse.flatMap encF) rfl (OW.out.alloc _) ⟨wr.heap.size, 0, none⟩ 1 1 [.int .i64 ax, .int .i64 ay] rfl rfl (new_cells2 _ _ _ _) (one_ints2 _ _) (by unfold maxLen; omega) (by omega) (by simp; omega) ?_))
          intro v' w41 hown41 hgrow41 hnn41
          clear x0_40c0 x0_40c1 x0_40l r_40c0 r_40c1 r_40l o_40c0 o_40c1 o_40l kn_40c0 kn_40c1 kn_40l
          have x0_41 := Blk.grown (x0_40.alloc _) hgrow41 (fun h => by have := HLT.out _ h; omega)
          have r_41 := Blk.grown (r_40.alloc _) hgrow41 (fun h => by have := HLT.out _ h; omega)
          have o_41 := Blk.grown (o_40.alloc _) hgrow41 (fun h => by have := HLT.out _ h; omega)
          have kn_41 := Blk.grown (kn_40.alloc _) hgrow41 (fun h => by have := HLT.out _ h; omega)
          have B41 := ((Bi).alloc (Bi).size _).grown hgrow41 (Nat.le_trans (Bi).size (by simp)) (fun kk hk => by have := HLT.out _ hk; omega)
          have hbase41 : (g1 + 1) ≤ w41.heap.size := Nat.le_trans hbq (Nat.le_trans (by simp) hgrow41.size)
          have HN := Lib.hid hown41
          clear hown41 hgrow41 hnn41
          have x0_41c0 := x0_41.cell 0
          have x0_41c1 := x0_41.cell 1
          simp only [List.getElem?_toArray, List.getElem?_cons_zero, List.getElem?_cons_succ] at x0_41c0 x0_41c1
          have x0_41l := x0_41.lt
          have r_41c0 := r_41.cell 0
          have r_41c1 := r_41.cell 1
          simp only [List.getElem?_toArray, List.getElem?_cons_zero, List.getElem?_cons_succ] at r_41c0 r_41c1
          have r_41l := r_41.lt
          have o_41c0 := o_41.cell 0
          have o_41c1 := o_41.cell 1
          simp only [List.getElem?_toArray, List.getElem?_cons_zero, List.getElem?_cons_succ] at o_41c0 o_41c1
          have o_41l := o_41.lt
          have kn_41c0 := kn_41.cell 0
          have kn_41c1 := kn_41.cell 1
          simp only [List.getElem?_toArray, List.getElem?_cons_zero, List.getElem?_cons_succ] at kn_41c0 kn_41c1
          have kn_41l := kn_41.lt
          have hrow := HN.out
          obtain ⟨g2, c2, rfl⟩ := ownsRow_succ hrow
          have HRw := Lib.hid hrow
          clear hrow
          have of0 := o_41.frozen 0
          go_wp2
          go_roundw
          case rel =>
            refine ⟨k + 1, .slice (some ⟨g2, 0, none⟩) (1 + 1) c2, 1 + 1, by omega, by go_num, by rw [HSk.out, ← HTe.out, List.length_cons, HLn.out], ?_, by simpa [World.setCell] using hbase41, ?_⟩
            · rw [HSk.out, ← HTe.out, rev_cons]
              have := owns_grown HRw.out (grownBy_setCell' w41 g1 (.slice (some ⟨g2, 0, none⟩) (1 + 1) c2)) (fun q hq e => by have := (own_lt HRw.out hq).1; have e2 := Option.some.inj e; omega)
              simpa using this
            · exact ⟨B41.setCell (p := ⟨g1, 0, none⟩) (by simp <;> omega) _, x0_41.far (p := ⟨g1, 0, none⟩) (by simp <;> omega) _, r_41.far (p := ⟨g1, 0, none⟩) (by simp <;> omega) _, by simpa using o_41.set_ 0 (.slice (some ⟨g2, 0, none⟩) (1 + 1) c2)⟩
          case measure => simp [intOf]; omega
        | q1 :: p1 :: rest, HPop, HTS, hTt, ow_40 =>
          obtain ⟨m, rfl, hm⟩ : ∃ m, t2 = m + 1 + 1 ∧ rest.length = m := ⟨rest.length, by simpa using hTt.symm, rfl⟩
          have HM := Lib.hid hm
          clear hTt hm
          obtain ⟨gk1, ck1, rfl⟩ := Joins.ownsRow_form ow_40 (by omega)
          have hcap := owns_cap ow_40
          have hg1 := own_lt (g := gk1) ow_40 rfl
          obtain ⟨by1, by2, bx1, bx2⟩ := HSb.out q1 (HTS.out q1 (by simp))
          obtain ⟨by3, by4, bx3, bx4⟩ := HSb.out p1 (HTS.out p1 (by simp))
          have HGo := Lib.hid (fun (h : lineB p1 q1 (ax, ay) = true) => (popR_go (rest := rest) h).symm.trans HPop.out)
          have HSt := Lib.hid (fun (h : lineB p1 q1 (ax, ay) = false) => (popR_stop (rest := rest) h).symm.trans HPop.out)
          have HTT := Lib.hid (fun z (hz : z ∈ p1 :: rest) => HTS.out z (List.mem_cons_of_mem _ hz))
          have HLi := Lib.hid (lineB_iff p1 q1 (ax, ay))
          obtain ⟨q1x, q1y⟩ := q1
          obtain ⟨p1x, p1y⟩ := p1
          dsimp only at by1 by2 bx1 bx2 by3 by4 bx3 bx4 HLi
          have OW := Lib.hid ow_40
          have HSh := Lib.hid (owns_shrink (n := m + 1) (by have := ow_40; rw [rev_cons] at this; exact this) (by rw [rev_len, List.length_cons, HM.out]))
          clear ow_40
          have hw1 : IntKind.i64.wrap (((m + 1 + 1 : Nat) : Int) - 2) = (m : Int) := (IntWalk.i64_in _ (by omega)).trans (by omega)
          have hw2 : IntKind.i64.wrap (((m + 1 + 1 : Nat) : Int) - 1) = ((m + 1 : Nat) : Int) := (IntWalk.i64_in _ (by omega)).trans (by omega)
          have HW1 := Lib.hid hw1
          have HW2 := Lib.hid hw2
          clear hw1 hw2
          have x0_40c0 := x0_40.cell 0
          have x0_40c1 := x0_40.cell 1
          simp only [List.getElem?_toArray, List.getElem?_cons_zero, List.getElem?_cons_succ] at x0_40c0 x0_40c1
          have x0_40l := x0_40.lt
          have r_40c0 := r_40.cell 0
          have r_40c1 := r_40.cell 1
          simp only [List.getElem?_toArray, List.getElem?_cons_zero, List.getElem?_cons_succ] at r_40c0 r_40c1
          have r_40l := r_40.lt
          have o_40c0 := o_40.cell 0
          have o_40c1 := o_40.cell 1
          simp only [List.getElem?_toArray, List.getElem?_cons_zero, List.getElem?_cons_succ] at o_40c0 o_40c1
          have o_40l := o_40.lt
          have kn_40c0 := kn_40.cell 0
          have kn_40c1 := kn_40.cell 1
          simp only [List.getElem?_toArray, List.getElem?_cons_zero, List.getElem?_cons_succ] at kn_40c0 kn_40c1
          have kn_40l := kn_40.lt
          go_wp2_with fail
          refine wp_region_pre 24 [(21, 7), (22, 8), (23, 1000)] (twoI4 wr 134 #[.int .i64 p1x, .int .i64 p1y, .int .i64 q1x, .int .i64 q1y]) (by kernel_rfl) (by kernel_rfl) ?h0 ?hP ?ex
          case h0 => intro v _; simp [twoI4]
          case hP => exact fun ls vs v v' _ h k => twoI4_below h k
          case ex =>
            apply Exists.intro
            refine ⟨?walk, ?loud⟩
            case walk =>
              intro V hV
              have BV := (Bi).trans (hV.mono (Bi).size)
              have x0_v := x0_40.below hV
              have x0_vc0 := x0_v.cell 0
              have x0_vc1 := x0_v.cell 1
              simp only [List.getElem?_toArray, List.getElem?_cons_zero, List.getElem?_cons_succ] at x0_vc0 x0_vc1
              have x0_vl := x0_v.lt
              have r_v := r_40.below hV
              have r_vc0 := r_v.cell 0
              have r_vc1 := r_v.cell 1
              simp only [List.getElem?_toArray, List.getElem?_cons_zero, List.getElem?_cons_succ] at r_vc0 r_vc1
              have r_vl := r_v.lt
              have o_v := o_40.below hV
              have o_vc0 := o_v.cell 0
              have o_vc1 := o_v.cell 1
              simp only [List.getElem?_toArray, List.getElem?_cons_zero, List.getElem?_cons_succ] at o_vc0 o_vc1
              have o_vl := o_v.lt
              have kn_v := kn_40.below hV
              have kn_vc0 := kn_v.cell 0
              have kn_vc1 := kn_v.cell 1
              simp only [List.getElem?_toArray, List.getElem?_cons_zero, List.getElem?_cons_succ] at kn_vc0 kn_vc1
              have kn_vl := kn_v.lt
              obtain ⟨lc0, lc1, lc2, lc3⟩ := last_two (by have := owns_below OW.out hV; rw [← HM.out] at this; exact this)
              rw [HM.out] at lc0 lc1 lc2 lc3
              have hlg := Nat.lt_of_lt_of_le hg1.2 hV.size
              have hw1 := HW1.out
              have hw2 := HW2.out
              obtain ⟨xc, xf⟩ := xcell (W := V)
              simp only [List.take_succ_cons, List.take_zero, qOf, isLoud, List.any_cons, List.any_nil, Nat.reduceBEq, Bool.or_false, Bool.or_true, Nat.reduceAdd, Bool.false_eq_true, if_true, if_false, beq_self_eq_true, Nat.zero_add]
              repeat (first | go_big_quiet_step (fail) | quiet_step (fail))
              exact wpQuiet_nil rfl
            case loud =>
              simp only [List.drop_succ_cons, List.drop_zero]
              refine ⟨?_, ?_⟩
              · rintro p hp vs v ⟨x, rfl⟩ ls hI hls hw o ho
                simp only [List.mem_cons, List.not_mem_nil, or_false] at hp
                rcases hp with rfl | rfl | rfl
                · simp only [List.getElem?_cons_succ, List.getElem?_cons_zero, Option.some.injEq] at ho
                  subst ho
                  simp [loudAt, loudUpon, go_sem, execOp]
                  exact ⟨Over.of (x.below.alloc x.below.size _), twoI4_21 hI hls x.below _ _ _ _⟩
                · simp only [List.getElem?_cons_succ, List.getElem?_cons_zero, Option.some.injEq] at ho
                  subst ho
                  simp [loudAt, loudUpon, go_sem, execOp]
                  exact ⟨Over.of (x.below.alloc x.below.size _), twoI4_22 hI x.below _ _ _ _⟩
                · have h12 := hw (21, 7) (by simp) (by kernel_rfl)
                  simp only [List.getElem?_cons_succ, List.getElem?_cons_zero, Option.some.injEq] at ho
                  subst ho
                  obtain ⟨g, e, hg, ⟨c1, c2, c3, c4, hb⟩, h2, h3⟩ := hI.1 h12
                  have g0 := hb.cell 0
                  have g1 := hb.cell 1
                  have g2 := hb.cell 2
                  have g3 := hb.cell 3
                  have f0 := hb.frozen 0
                  have f1 := hb.frozen 1
                  have f2 := hb.frozen 2
                  have f3 := hb.frozen 3
                  simp only [List.getElem?_toArray, List.getElem?_cons_zero, List.getElem?_cons_succ] at g0 g1 g2 g3
                  simp [loudAt, loudUpon, go_sem, execOp, putsL, Act.put, e, g0, g1, g2, g3, f0, f1, f2, f3]
                  exact ⟨Over.of (below_four x.below hg _ _ _ _), twoI4_23 hI h12 e _⟩
              · rintro ls vs _ ⟨x, rfl⟩ hI hls
                have h12 := hls (21, 7) (by simp)
                have h13 := hls (22, 8) (by simp)
                have h14 := hls (23, 1000) (by simp)
                obtain ⟨ga, e, hga, _, h2, h3⟩ := hI.1 h12
                have hba := h3 h14
                obtain ⟨gb, e', hgb, _, _, _, _, hbb⟩ := hI.2.1 h13
                have hgab : gb ≠ ga := fun h => h2 h13 (by rw [e, e', h])
                clear h2 h3 hI hls h12 h13 h14
                simp only [putsL, List.foldl_cons, List.foldl_nil, Act.put, e, e', List.setIfInBounds_toArray, List.set_cons_succ, List.set_cons_zero, List.set_nil]
                clear e e'
                have hvn := x.below
                generalize x.w = vn at *
                have nb0 := hbb.cell 0
                have nb1 := hbb.cell 1
                have nb2 := hbb.cell 2
                have nb3 := hbb.cell 3
                have fb0 := hbb.frozen 0
                have fb1 := hbb.frozen 1
                have fb2 := hbb.frozen 2
                have fb3 := hbb.frozen 3
                simp only [List.getElem?_toArray, List.getElem?_cons_zero, List.getElem?_cons_succ] at nb0 nb1 nb2 nb3
                have lb := hbb.lt
                have pa_41 := far_four hba (Ne.symm hgab) (.int .i64 q1x) (.int .i64 q1y) (.int .i64 ax) (.int .i64 ay)
                have pb_41 := blk_four hbb (.int .i64 q1x) (.int .i64 q1y) (.int .i64 ax) (.int .i64 ay)
                have x0_l41 := x0_40.lt
                have x0_41 := far_four (x0_40.below hvn) (g := gb) (by simp <;> omega) (.int .i64 q1x) (.int .i64 q1y) (.int .i64 ax) (.int .i64 ay)
                have r_l41 := r_40.lt
                have r_41 := far_four (r_40.below hvn) (g := gb) (by simp <;> omega) (.int .i64 q1x) (.int .i64 q1y) (.int .i64 ax) (.int .i64 ay)
                have o_l41 := o_40.lt
                have o_41 := far_four (o_40.below hvn) (g := gb) (by simp <;> omega) (.int .i64 q1x) (.int .i64 q1y) (.int .i64 ax) (.int .i64 ay)
                have kn_l41 := kn_40.lt
                have kn_41 := far_four (kn_40.below hvn) (g := gb) (by simp <;> omega) (.int .i64 q1x) (.int .i64 q1y) (.int .i64 ax) (.int .i64 ay)
                have hbv41 := below_four hvn hgb (.int .i64 q1x) (.int .i64 q1y) (.int .i64 ax) (.int .i64 ay)
                have B41 := (Bi).trans (hbv41.mono (Bi).size)
                go_wp2_with fail
                generalize hve41 : (((vn.setCell ⟨gb, 0, none⟩ (.int .i64 q1x)).setCell ⟨gb, 1, none⟩ (.int .i64 q1y)).setCell ⟨gb, 2, none⟩ (.int .i64 ax)).setCell ⟨gb, 3, none⟩ (.int .i64 ay) = V41 at *
                clear hve41 nb0 nb1 nb2 nb3 fb0 fb1 fb2 fb3 lb hba hbb hvn
                have x0_41c0 := x0_41.cell 0
                have x0_41c1 := x0_41.cell 1
                simp only [List.getElem?_toArray, List.getElem?_cons_zero, List.getElem?_cons_succ] at x0_41c0 x0_41c1
                have x0_41l := x0_41.lt
                have r_41c0 := r_41.cell 0
                have r_41c1 := r_41.cell 1
                simp only [List.getElem?_toArray, List.getElem?_cons_zero, List.getElem?_cons_succ] at r_41c0 r_41c1
                have r_41l := r_41.lt
                have o_41c0 := o_41.cell 0
                have o_41c1 := o_41.cell 1
                simp only [List.getElem?_toArray, List.getElem?_cons_zero, List.getElem?_cons_succ] at o_41c0 o_41c1
                have o_41l := o_41.lt
                have kn_41c0 := kn_41.cell 0
                have kn_41c1 := kn_41.cell 1
                simp only [List.getElem?_toArray, List.getElem?_cons_zero, List.getElem?_cons_succ] at kn_41c0 kn_41c1
                have kn_41l := kn_41.lt
                have pa_41c0 := pa_41.cell 0
                have pa_41c1 := pa_41.cell 1
                have pa_41c2 := pa_41.cell 2
                have pa_41c3 := pa_41.cell 3
                simp only [List.getElem?_toArray, List.getElem?_cons_zero, List.getElem?_cons_succ] at pa_41c0 pa_41c1 pa_41c2 pa_41c3
                have pa_41l := pa_41.lt
                have pb_41c0 := pb_41.cell 0
                have pb_41c1 := pb_41.cell 1
                have pb_41c2 := pb_41.cell 2
                have pb_41c3 := pb_41.cell 3
                simp only [List.getElem?_toArray, List.getElem?_cons_zero, List.getElem?_cons_succ] at pb_41c0 pb_41c1 pb_41c2 pb_41c3
                have pb_41l := pb_41.lt
                have OW8 := Lib.hid (owns_below OW.out hbv41)
                have HSh8 := Lib.hid (owns_below HSh.out hbv41)
                have hsz8 := hbv41.size
                clear OW HSh
                have mb1 := mul_bd (x := q1y - p1y) (y := ax - q1x) (A := 131072) (B := 4000) (by omega) (by omega) (by omega) (by omega)
                have mb2 := mul_bd (x := ay - q1y) (y := q1x - p1x) (A := 131072) (B := 4000) (by omega) (by omega) (by omega) (by omega)
                have HWa := Lib.hid (show IntKind.i64.wrap ((q1y - p1y) * (ax - q1x)) = (q1y - p1y) * (ax - q1x) from IntWalk.i64_in _ (by omega))
                have HWb := Lib.hid (show IntKind.i64.wrap ((ay - q1y) * (q1x - p1x)) = (ay - q1y) * (q1x - p1x) from IntWalk.i64_in _ (by omega))
                have Hr1 := Lib.hid (fun W => rise_any p1x p1y q1x q1y W (by omega) (by omega) (by omega) (by omega))
                have Hr2 := Lib.hid (fun W => rise_any q1x q1y ax ay W (by omega) (by omega) (by omega) (by omega))
                have Hu1 := Lib.hid (fun W => run_any p1x p1y q1x q1y W (by omega) (by omega) (by omega) (by omega))
                have Hu2 := Lib.hid (fun W => run_any q1x q1y ax ay W (by omega) (by omega) (by omega) (by omega))
                clear mb1 mb2
                have HCz : ((q1y - p1y) * (ax - q1x) = (ay - q1y) * (q1x - p1x)) ∨ ¬ ((q1y - p1y) * (ax - q1x) = (ay - q1y) * (q1x - p1x)) := Decidable.em _
                rcases HCz with hzz | hzz
                · have hln : lineB (p1x, p1y) (q1x, q1y) (ax, ay) = true := HLi.out.2 hzz
                  have HG2 := Lib.hid (HGo.out hln)
                  have hq1 : ((q1y - p1y) * (ax - q1x) != (ay - q1y) * (q1x - p1x)) = false := by simpa using hzz
                  have hq2 : ((q1y - p1y) * (ax - q1x) == (ay - q1y) * (q1x - p1x)) = true := by simpa using hzz
                  clear hln HGo HSt hzz by1 by2 bx1 bx2 by3 by4 bx3 bx4 y1 y2 y3 y4
                  have hwa := HWa.out
                  have hwb := HWb.out
                  obtain ⟨xc, xf⟩ := xcell (W := V41)
                  refine wp_region_quiet_tail 11 (by kernel_rfl) (by kernel_rfl) ?_
                  simp only [List.take_succ_cons, List.take_zero, List.drop_succ_cons, List.drop_zero]
                  repeat (first | go_big_quiet_step (first | (go_at_call 107; with_reducible refine calls_ext (Hr1.out _)) | (go_at_call 107; with_reducible refine calls_ext (Hr2.out _)) | (go_at_call 108; with_reducible refine calls_ext (Hu1.out _)) | (go_at_call 108; with_reducible refine calls_ext (Hu2.out _))) | quiet_step (first | (go_at_call 107; with_reducible refine calls_ext (Hr1.out _)) | (go_at_call 107; with_reducible refine calls_ext (Hr2.out _)) | (go_at_call 108; with_reducible refine calls_ext (Hu1.out _)) | (go_at_call 108; with_reducible refine calls_ext (Hu2.out _))))
                  refine wpQuiet_nil ?_
                  intro w50 hb50
                  clear xc xf hwa hwb
                  have HSh9 := Lib.hid (owns_below HSh8.out hb50)
                  have hsz9 := hb50.size
                  clear x0_41c0 x0_41c1 x0_41l r_41c0 r_41c1 r_41l o_41c0 o_41c1 o_41l kn_41c0 kn_41c1 kn_41l pa_41c0 pa_41c1 pa_41c2 pa_41c3 pa_41l pb_41c0 pb_41c1 pb_41c2 pb_41c3 pb_41l
                  have B50 := B41
                  have x0_50 := x0_41.below hb50
                  have r_50 := r_41.below hb50
                  have o_50 := o_41.below hb50
                  have kn_50 := kn_41.below hb50
                  have pa_50 := pa_41.below hb50
                  have pb_50 := pb_41.below hb50
                  clear x0_41 r_41 o_41 kn_41 pa_41 pb_41
                  have x0_50c0 := x0_50.cell 0
                  have x0_50c1 := x0_50.cell 1
                  simp only [List.getElem?_toArray, List.getElem?_cons_zero, List.getElem?_cons_succ] at x0_50c0 x0_50c1
                  have x0_50l := x0_50.lt
                  have r_50c0 := r_50.cell 0
                  have r_50c1 := r_50.cell 1
                  simp only [List.getElem?_toArray, List.getElem?_cons_zero, List.getElem?_cons_succ] at r_50c0 r_50c1
                  have r_50l := r_50.lt
                  have o_50c0 := o_50.cell 0
                  have o_50c1 := o_50.cell 1
                  simp only [List.getElem?_toArray, List.getElem?_cons_zero, List.getElem?_cons_succ] at o_50c0 o_50c1
                  have o_50l := o_50.lt
                  have kn_50c0 := kn_50.cell 0
                  have kn_50c1 := kn_50.cell 1
                  simp only [List.getElem?_toArray, List.getElem?_cons_zero, List.getElem?_cons_succ] at kn_50c0 kn_50c1
                  have kn_50l := kn_50.lt
                  have pa_50c0 := pa_50.cell 0
                  have pa_50c1 := pa_50.cell 1
                  have pa_50c2 := pa_50.cell 2
                  have pa_50c3 := pa_50.cell 3
                  simp only [List.getElem?_toArray, List.getElem?_cons_zero, List.getElem?_cons_succ] at pa_50c0 pa_50c1 pa_50c2 pa_50c3
                  have pa_50l := pa_50.lt
                  have pb_50c0 := pb_50.cell 0
                  have pb_50c1 := pb_50.cell 1
                  have pb_50c2 := pb_50.cell 2
                  have pb_50c3 := pb_50.cell 3
                  simp only [List.getElem?_toArray, List.getElem?_cons_zero, List.getElem?_cons_succ] at pb_50c0 pb_50c1 pb_50c2 pb_50c3
                  have pb_50l := pb_50.lt
                  have of0 := o_50.frozen 0
                  go_wp2
                  go_roundw
                  case rel =>
                    refine ⟨(p1x, p1y) :: rest, .slice (some ⟨gk1, 0, none⟩) (m + 1) ck1, m + 1, by go_num, by rw [List.length_cons, HM.out], HG2.out, by omega, HTT.out, ?_, fun q hq => ?_, by simp [World.setCell]; omega, ?_⟩
                    · have := owns_grown HSh9.out (grownBy_setCell' w50 g1 (.slice (some ⟨gk1, 0, none⟩) (m + 1) ck1)) (fun q hq e => by have := (own_lt HSh9.out hq).1; have e2 := Option.some.inj e; omega)
                      simpa using this
                    · exact HVq.out q hq
                    · exact ⟨(B50.trans (hb50.mono B50.size)).setCell (p := ⟨g1, 0, none⟩) (by simp <;> omega) _, x0_50.far (p := ⟨g1, 0, none⟩) (by simp <;> omega) _, r_50.far (p := ⟨g1, 0, none⟩) (by simp <;> omega) _, by simpa using o_50.set_ 0 (.slice (some ⟨gk1, 0, none⟩) (m + 1) ck1), kn_50.far (p := ⟨g1, 0, none⟩) (by simp <;> omega) _⟩
                  case measure => simp [intOf]; omega
                · have hln : lineB (p1x, p1y) (q1x, q1y) (ax, ay) = false := Bool.eq_false_iff.2 (fun hk => hzz (HLi.out.1 hk))
                  have hq1 : ((q1y - p1y) * (ax - q1x) != (ay - q1y) * (q1x - p1x)) = true := by simpa using hzz
                  have hq2 : ((q1y - p1y) * (ax - q1x) == (ay - q1y) * (q1x - p1x)) = false := by simpa using hzz
                  have HS2 := Lib.hid (HSt.out hln)
                  clear hln HGo HSt hzz by1 by2 bx1 bx2 by3 by4 bx3 bx4 y1 y2 y3 y4
                  have hwa := HWa.out
                  have hwb := HWb.out
                  obtain ⟨xc, xf⟩ := xcell (W := V41)
                  refine wp_region_quiet_tail 11 (by kernel_rfl) (by kernel_rfl) ?_
                  simp only [List.take_succ_cons, List.take_zero, List.drop_succ_cons, List.drop_zero]
                  repeat (first | go_big_quiet_step (first | (go_at_call 107; with_reducible refine calls_ext (Hr1.out _)) | (go_at_call 107; with_reducible refine calls_ext (Hr2.out _)) | (go_at_call 108; with_reducible refine calls_ext (Hu1.out _)) | (go_at_call 108; with_reducible refine calls_ext (Hu2.out _))) | quiet_step (first | (go_at_call 107; with_reducible refine calls_ext (Hr1.out _)) | (go_at_call 107; with_reducible refine calls_ext (Hr2.out _)) | (go_at_call 108; with_reducible refine calls_ext (Hu1.out _)) | (go_at_call 108; with_reducible refine calls_ext (Hu2.out _))))
                  refine wpQuiet_nil ?_
                  intro w50 hb50
                  clear xc xf hwa hwb
                  have OW9 := Lib.hid (owns_below OW8.out hb50)
                  have hsz9 := hb50.size
                  clear x0_41c0 x0_41c1 x0_41l r_41c0 r_41c1 r_41l o_41c0 o_41c1 o_41l kn_41c0 kn_41c1 kn_41l pa_41c0 pa_41c1 pa_41c2 pa_41c3 pa_41l pb_41c0 pb_41c1 pb_41c2 pb_41c3 pb_41l
                  have B50 := B41
                  have x0_50 := x0_41.below hb50
                  have r_50 := r_41.below hb50
                  have o_50 := o_41.below hb50
                  have kn_50 := kn_41.below hb50
                  have pa_50 := pa_41.below hb50
                  have pb_50 := pb_41.below hb50
                  clear x0_41 r_41 o_41 kn_41 pa_41 pb_41
                  have x0_50c0 := x0_50.cell 0
                  have x0_50c1 := x0_50.cell 1
                  simp only [List.getElem?_toArray, List.getElem?_cons_zero, List.getElem?_cons_succ] at x0_50c0 x0_50c1
                  have x0_50l := x0_50.lt
                  have r_50c0 := r_50.cell 0
                  have r_50c1 := r_50.cell 1
                  simp only [List.getElem?_toArray, List.getElem?_cons_zero, List.getElem?_cons_succ] at r_50c0 r_50c1
                  have r_50l := r_50.lt
                  have o_50c0 := o_50.cell 0
                  have o_50c1 := o_50.cell 1
                  simp only [List.getElem?_toArray, List.getElem?_cons_zero, List.getElem?_cons_succ] at o_50c0 o_50c1
                  have o_50l := o_50.lt
                  have kn_50c0 := kn_50.cell 0
                  have kn_50c1 := kn_50.cell 1
                  simp only [List.getElem?_toArray, List.getElem?_cons_zero, List.getElem?_cons_succ] at kn_50c0 kn_50c1
                  have kn_50l := kn_50.lt
                  have pa_50c0 := pa_50.cell 0
                  have pa_50c1 := pa_50.cell 1
                  have pa_50c2 := pa_50.cell 2
                  have pa_50c3 := pa_50.cell 3
                  simp only [List.getElem?_toArray, List.getElem?_cons_zero, List.getElem?_cons_succ] at pa_50c0 pa_50c1 pa_50c2 pa_50c3
                  have pa_50l := pa_50.lt
                  have pb_50c0 := pb_50.cell 0
                  have pb_50c1 := pb_50.cell 1
                  have pb_50c2 := pb_50.cell 2
                  have pb_50c3 := pb_50.cell 3
                  simp only [List.getElem?_toArray, List.getElem?_cons_zero, List.getElem?_cons_succ] at pb_50c0 pb_50c1 pb_50c2 pb_50c3
                  have pb_50l := pb_50.lt
                  have hlT : ((q1x, q1y) :: (p1x, p1y) :: rest).length = m + 1 + 1 := by rw [List.length_cons, List.length_cons, HM.out]
                  generalize hTT : (q1x, q1y) :: (p1x, p1y) :: rest = T at *
                  clear hTT
                  have HlT := Lib.hid hlT
                  clear hlT
                  have HLT := Lib.hid (fun (q : Nat) hq => (⟨(own_lt (g := q) OW9.out hq).1, HVq.out q hq⟩ : (g1 + 1) ≤ q ∧ q < g21))
                  have HTe := Lib.hid (show T = popR (S k) (ax, ay) from HS2.out)
                  have HLn := Lib.hid (show (T).length = (m + 1 + 1) from HlT.out)
                  have hbq : (g1 + 1) ≤ w50.heap.size := by omega
                  go_wp2_with (at_builtin; go_loud (refine wpList_append_own _ rfl (.tmp 65) (.tmp 67) 22 rfl ((g1 + 1)) 108 i0 (.agg #[.int .i64 0, .int .i64 0]) 2 16 Try.underlying22 HI.out.1 HI.out.2.1 HI.out.2.2.1 HI.out.2.2.2 rfl (by decide) _ ((m + 1 + 1)) (T.reverse.flatMap encF) rfl (OW9.out.alloc _) ⟨w50.heap.size, 0, none⟩ 1 1 [.int .i64 ax, .int .i64 ay] rfl rfl (new_cells2 _ _ _ _) (one_ints2 _ _) (by unfold maxLen; omega) (by omega) (by simp; omega) ?_))
                  intro v' w51 hown51 hgrow51 hnn51
                  clear x0_50c0 x0_50c1 x0_50l r_50c0 r_50c1 r_50l o_50c0 o_50c1 o_50l kn_50c0 kn_50c1 kn_50l pa_50c0 pa_50c1 pa_50c2 pa_50c3 pa_50l pb_50c0 pb_50c1 pb_50c2 pb_50c3 pb_50l
                  have x0_51 := Blk.grown (x0_50.alloc _) hgrow51 (fun h => by have := HLT.out _ h; omega)
                  have r_51 := Blk.grown (r_50.alloc _) hgrow51 (fun h => by have := HLT.out _ h; omega)
                  have o_51 := Blk.grown (o_50.alloc _) hgrow51 (fun h => by have := HLT.out _ h; omega)
                  have kn_51 := Blk.grown (kn_50.alloc _) hgrow51 (fun h => by have := HLT.out _ h; omega)
                  have pa_51 := Blk.grown (pa_50.alloc _) hgrow51 (fun h => by have := HLT.out _ h; omega)
                  have pb_51 := Blk.grown (pb_50.alloc _) hgrow51 (fun h => by have := HLT.out _ h; omega)
                  have B51 := ((B50.trans (hb50.mono B50.size)).alloc (B50.trans (hb50.mono B50.size)).size _).grown hgrow51 (Nat.le_trans (B50.trans (hb50.mono B50.size)).size (by simp)) (fun kk hk => by have := HLT.out _ hk; omega)
                  have hbase51 : (g1 + 1) ≤ w51.heap.size := Nat.le_trans hbq (Nat.le_trans (by simp) hgrow51.size)
                  have HN := Lib.hid hown51
                  clear hown51 hgrow51 hnn51
                  have x0_51c0 := x0_51.cell 0
                  have x0_51c1 := x0_51.cell 1
                  simp only [List.getElem?_toArray, List.getElem?_cons_zero, List.getElem?_cons_succ] at x0_51c0 x0_51c1
                  have x0_51l := x0_51.lt
                  have r_51c0 := r_51.cell 0
                  have r_51c1 := r_51.cell 1
                  simp only [List.getElem?_toArray, List.getElem?_cons_zero, List.getElem?_cons_succ] at r_51c0 r_51c1
                  have r_51l := r_51.lt
                  have o_51c0 := o_51.cell 0
                  have o_51c1 := o_51.cell 1
                  simp only [List.getElem?_toArray, List.getElem?_cons_zero, List.getElem?_cons_succ] at o_51c0 o_51c1
                  have o_51l := o_51.lt
                  have kn_51c0 := kn_51.cell 0
                  have kn_51c1 := kn_51.cell 1
                  simp only [List.getElem?_toArray, List.getElem?_cons_zero, List.getElem?_cons_succ] at kn_51c0 kn_51c1
                  have kn_51l := kn_51.lt
                  have pa_51c0 := pa_51.cell 0
                  have pa_51c1 := pa_51.cell 1
                  have pa_51c2 := pa_51.cell 2
                  have pa_51c3 := pa_51.cell 3
                  simp only [List.getElem?_toArray, List.getElem?_cons_zero, List.getElem?_cons_succ] at pa_51c0 pa_51c1 pa_51c2 pa_51c3
                  have pa_51l := pa_51.lt
                  have pb_51c0 := pb_51.cell 0
                  have pb_51c1 := pb_51.cell 1
                  have pb_51c2 := pb_51.cell 2
                  have pb_51c3 := pb_51.cell 3
                  simp only [List.getElem?_toArray, List.getElem?_cons_zero, List.getElem?_cons_succ] at pb_51c0 pb_51c1 pb_51c2 pb_51c3
                  have pb_51l := pb_51.lt
                  have hrow := HN.out
                  obtain ⟨g2, c2, rfl⟩ := ownsRow_succ hrow
                  have HRw := Lib.hid hrow
                  clear hrow
                  have of0 := o_51.frozen 0
                  go_wp2
                  go_roundw
                  case rel =>
                    refine ⟨k + 1, .slice (some ⟨g2, 0, none⟩) ((m + 1 + 1) + 1) c2, (m + 1 + 1) + 1, by omega, by go_num, by rw [HSk.out, ← HTe.out, List.length_cons, HLn.out], ?_, by simpa [World.setCell] using hbase51, ?_⟩
                    · rw [HSk.out, ← HTe.out, rev_cons]
                      have := owns_grown HRw.out (grownBy_setCell' w51 g1 (.slice (some ⟨g2, 0, none⟩) ((m + 1 + 1) + 1) c2)) (fun q hq e => by have := (own_lt HRw.out hq).1; have e2 := Option.some.inj e; omega)
                      simpa using this
                    · exact ⟨B51.setCell (p := ⟨g1, 0, none⟩) (by simp <;> omega) _, x0_51.far (p := ⟨g1, 0, none⟩) (by simp <;> omega) _, r_51.far (p := ⟨g1, 0, none⟩) (by simp <;> omega) _, by simpa using o_51.set_ 0 (.slice (some ⟨g2, 0, none⟩) ((m + 1 + 1) + 1) c2)⟩
                  case measure => simp [intOf]; omega
    · have hkk : k = n := by omega
      subst hkk
      obtain ⟨m, rfl⟩ : ∃ m, k = m + 1 := ⟨k - 1, by omega⟩
      have hSe : S (m + 1) = thO (fun i => ks.getD i (0, 0)) m := by rw [← HS.out]; rfl
      have hre : (S (m + 1)).reverse = thL ks := by rw [hSe, HTh.out]; rfl
      have hne : S (m + 1) ≠ [] := by rw [hSe]; exact thO_ne _ m
      have hpl : 0 < t := by rw [← HTl2.out]; exact List.length_pos_iff.2 hne
      rw [hre] at ow_20
      have hll : (thL ks).length = t := by rw [← hre, List.length_reverse]; exact HTl2.out
      obtain ⟨g', cap', rfl⟩ := Joins.ownsRow_form ow_20 hpl
      have hgl := own_lt (g := g') ow_20 rfl
      have HKo := Lib.hid (Kn_of_row hll ow_20)
      have HLl := Lib.hid hll
      clear ow_20 hre hne hSe hll
      have x0_20c0 := x0_20.cell 0
      have x0_20c1 := x0_20.cell 1
      simp only [List.getElem?_toArray, List.getElem?_cons_zero, List.getElem?_cons_succ] at x0_20c0 x0_20c1
      have x0_20l := x0_20.lt
      have r_20c0 := r_20.cell 0
      have r_20c1 := r_20.cell 1
      simp only [List.getElem?_toArray, List.getElem?_cons_zero, List.getElem?_cons_succ] at r_20c0 r_20c1
      have r_20l := r_20.lt
      have o_20c0 := o_20.cell 0
      have o_20c1 := o_20.cell 1
      simp only [List.getElem?_toArray, List.getElem?_cons_zero, List.getElem?_cons_succ] at o_20c0 o_20c1
      have o_20l := o_20.lt
      have hr := r_20
      have hf0 := r_20.frozen 0
      have hf1 := r_20.frozen 1
      have hl := r_20.lt
      have BZ := Br
      go_wp2
      have hF := ((hr.set_ 0 ((.slice (some ⟨g', 0, none⟩) t cap'))).set_ 1 ((.int .i64 err)))
      have k0 := hF.cell 0
      have k1 := hF.cell 1
      simp only [List.setIfInBounds_toArray, List.set_cons_zero, List.set_cons_succ, List.getElem?_toArray, List.getElem?_cons_zero, List.getElem?_cons_succ] at k0 k1
      exact bodyPost_ret (v := .agg #[(.slice (some ⟨g', 0, none⟩) t cap'), (.int .i64 err)]) (by simp [results, Try.results123, go_sem, k0, k1]) rfl (⟨some ⟨g', 0, none⟩, t, cap', rfl, CAt.sets ⟨HLl.out, fun _ => ⟨g', 0, rfl, HKo.out⟩⟩ (r := (w.heap.size + 1)) (fun a h => by have := Option.some.inj h; subst this; have := hgl; dsimp only; omega) _ _, by omega, (fun a h => by have := Option.some.inj h; subst this; have := hgl; dsimp only; omega), ((BZ.setCell (p := ⟨(w.heap.size + 1), 0, none⟩) (by simp <;> omega) _).setCell (p := ⟨(w.heap.size + 1), 1, none⟩) (by simp <;> omega) _)⟩)
end Go.Proofs.Ytipablcbkoedbaa

namespace Go.Proofs.Ytipablcbkoedbaa
open Go.RowKit

set_option maxHeartbeats 1600000 in
theorem line_any (p q r : Int × Int) (w : World) (h1 : -65536 ≤ p.2 ∧ p.2 ≤ 65536) (h2 : -65536 ≤ q.2 ∧ q.2 ≤ 65536) (h3 : -65536 ≤ r.2 ∧ r.2 ≤ 65536) (g1 : 0 ≤ p.1 ∧ p.1 ≤ 2000) (g2 : 0 ≤ q.1 ∧ q.1 ≤ 2000) (g3 : 0 ≤ r.1 ∧ r.1 ≤ 2000) :
    Calls Try.prog 139 #[.agg #[.int .i64 p.1, .int .i64 p.2], .agg #[.int .i64 q.1, .int .i64 q.2], .agg #[.int .i64 r.1, .int .i64 r.2]] w fun e w' => e = .returned (.bool (lineB p q r)) ∧ Below w.heap.size w w' := by
  obtain ⟨px, py⟩ := p
  obtain ⟨qx, qy⟩ := q
  obtain ⟨rx, ry⟩ := r
  dsimp only at *
  have mb1 := mul_bd (x := qy - py) (y := rx - qx) (A := 131072) (B := 2000) (by omega) (by omega) (by omega) (by omega)
  have mb2 := mul_bd (x := ry - qy) (y := qx - px) (A := 131072) (B := 2000) (by omega) (by omega) (by omega) (by omega)
  have HL := Lib.hid (show lineB (px, py) (qx, qy) (rx, ry) = decide ((qy - py) * (rx - qx) = (ry - qy) * (qx - px)) from rfl)
  generalize hW : ((w.alloc (.cells #[.int .i64 px, .int .i64 py] 108)).alloc (.cells #[.int .i64 qx, .int .i64 qy] 108)).alloc (.cells #[.int .i64 rx, .int .i64 ry] 108) = W
  have B0 : Below w.heap.size w W := by rw [← hW]; exact ((((Below.refl w.heap.size w).alloc (Nat.le_refl _) _).alloc (by simp) _).alloc (by simp; omega) _)
  have x0_0 : Blk W w.heap.size 108 #[.int .i64 px, .int .i64 py] := by rw [← hW]; exact (((Blk.at_new _ _ rfl).alloc _).alloc _)
  have x1_0 : Blk W (w.heap.size + 1) 108 #[.int .i64 qx, .int .i64 qy] := by rw [← hW]; exact ((Blk.at_new _ _ (by simp)).alloc _)
  have x2_0 : Blk W (w.heap.size + 2) 108 #[.int .i64 rx, .int .i64 ry] := by rw [← hW]; exact (Blk.at_new _ _ (by simp))
  have HWE := Lib.hid hW
  clear hW
  go_enter Try.func139, Try.ntmps139
  go_upto_region 1 with fail
  rw [HWE.out]
  have x0_0c0 := x0_0.cell 0
  have x0_0c1 := x0_0.cell 1
  simp only [List.getElem?_toArray, List.getElem?_cons_zero, List.getElem?_cons_succ] at x0_0c0 x0_0c1
  have x0_0l := x0_0.lt
  have x1_0c0 := x1_0.cell 0
  have x1_0c1 := x1_0.cell 1
  simp only [List.getElem?_toArray, List.getElem?_cons_zero, List.getElem?_cons_succ] at x1_0c0 x1_0c1
  have x1_0l := x1_0.lt
  have x2_0c0 := x2_0.cell 0
  have x2_0c1 := x2_0.cell 1
  simp only [List.getElem?_toArray, List.getElem?_cons_zero, List.getElem?_cons_succ] at x2_0c0 x2_0c1
  have x2_0l := x2_0.lt
  go_wp2
  go_ret
  exact ⟨by rw [HL.out]; rfl, B0⟩

/-- What the reference keeps of the first k knots. -/
def thR (l : Nat → Int × Int) (N : Nat) : Nat → List (Int × Int)
  | 0 => []
  | k + 1 => if k = 0 ∨ k + 1 = N ∨ lineB (l (k - 1)) (l k) (l (k + 1)) = false then thR l N k ++ [l k] else thR l N k
theorem thR_yes {l : Nat → Int × Int} {N k : Nat} (h : k = 0 ∨ k + 1 = N ∨ lineB (l (k - 1)) (l k) (l (k + 1)) = false) : thR l N (k + 1) = thR l N k ++ [l k] := if_pos h
theorem thR_no {l : Nat → Int × Int} {N k : Nat} (h : ¬ (k = 0 ∨ k + 1 = N ∨ lineB (l (k - 1)) (l k) (l (k + 1)) = false)) : thR l N (k + 1) = thR l N k := if_neg h
theorem thR_len (l : Nat → Int × Int) (N : Nat) : ∀ k, (thR l N k).length ≤ k
  | 0 => Nat.le_refl _
  | k + 1 => by
    have := thR_len l N k
    unfold thR
    split
    · simp; omega
    · omega
theorem thR_eq (l : Nat → Int × Int) (N : Nat) : ∀ k, k < N → thR l N k = (thK l k).reverse
  | 0, _ => rfl
  | k + 1, h => by
    have ih := thR_eq l N k (by omega)
    show (if k = 0 ∨ k + 1 = N ∨ lineB (l (k - 1)) (l k) (l (k + 1)) = false then thR l N k ++ [l k] else thR l N k) = (if k = 0 ∨ lineB (l (k - 1)) (l k) (l (k + 1)) = false then l k :: thK l k else thK l k).reverse
    by_cases c : k = 0 ∨ lineB (l (k - 1)) (l k) (l (k + 1)) = false
    · rw [if_pos c, if_pos (c.elim .inl fun x => .inr (.inr x)), ih]; simp
    · rw [if_neg c, if_neg (fun h => by
        rcases h with h | h | h
        · exact c (.inl h)
        · omega
        · exact c (.inr h)), ih]
theorem thR_all {ks : List (Int × Int)} (hv : Valid ks) : thR (fun i => ks.getD i (0, 0)) ks.length ks.length = thL ks := by
  have hp := hv.pos
  rw [thL_eq hv, ← thR_eq (fun i => ks.getD i (0, 0)) ks.length (ks.length - 1) (by omega)]
  have e : ks.length = (ks.length - 1) + 1 := by omega
  have := thR_yes (l := fun i => ks.getD i (0, 0)) (N := ks.length) (k := ks.length - 1) (.inr (.inl (by omega)))
  rw [show ks.length - 1 + 1 = ks.length by omega] at this
  exact this
/-- What the reference's thin returns. -/
def slOut (w : World) (R : List (Int × Int)) (en : Ending) (w' : World) : Prop :=
  ∃ A n cap, en = .returned (.slice A n cap) ∧ CAt w' A n R ∧ n ≤ 1000 ∧ (∀ a, A = some a → w.heap.size ≤ a.block) ∧ Below w.heap.size w w'

set_option maxRecDepth 100000 in
set_option maxHeartbeats 6400000 in
theorem Rthin_any (b off cap n : Nat) (ks : List (Int × Int)) (w : World) (h : Kn w b off ks) (hn : ks.length = n) (hv : Valid ks) :
    Calls Try.prog 124 #[.slice (some ⟨b, off, none⟩) n cap] w (slOut w (thL ks)) := by
  have HKn := Lib.hid h
  have HV := Lib.hid hv
  have hpos := hv.pos
  have hle := hv.le
  have HTa := Lib.hid (thR_all hv)
  have HN := Lib.hid hn
  have HLn := Lib.hid (thR_len (fun i => ks.getD i (0, 0)) ks.length)
  have HY := Lib.hid (fun (k : Nat) h => thR_yes (l := fun i => ks.getD i (0, 0)) (N := ks.length) (k := k) h)
  have HZ := Lib.hid (fun (k : Nat) h => thR_no (l := fun i => ks.getD i (0, 0)) (N := ks.length) (k := k) h)
  have hn0 : 0 < n := by omega
  have hn40 : n ≤ 40 := by omega
  obtain ⟨i0, hi0, hi1, hi2, hi3⟩ := info_parts info_knot
  have HI := Lib.hid (show Try.prog.info? 108 = some i0 ∧ i0.zero = some (.agg #[.int .i64 0, .int .i64 0]) ∧ i0.size = 2 ∧ i0.bytes = 16 from ⟨hi0, hi1, hi2, hi3⟩)
  clear h hv hn hpos hle hi0 hi1 hi2 hi3
  generalize hS : thR (fun i => ks.getD i (0, 0)) ks.length = S at *
  have HS := Lib.hid hS
  clear hS
  go_enter Try.func124, Try.ntmps124
  go_wp2_with fail
  go_loopw [3, 4] (fun v i wx => ∃ (k t : Nat), k ≤ n ∧ i = .int .i64 k ∧ (S k).length = t ∧ wx.ownsRow w.heap.size 108 2 v t ((S k).flatMap encF) ∧ Below w.heap.size w wx) (fun _ i _ => n - (intOf i).toNat)
  case atStart => exact ⟨0, 0, Nat.zero_le _, rfl, by rw [← HS.out]; rfl, by rw [← HS.out]; exact World.ownsRow_nil _ _ _ _, Below.refl _ _⟩
  case round =>
    obtain ⟨k, t, hk, rfl, htl, ow, Br⟩ := hrel
    have htk : t ≤ k := by have := HLn.out k; omega
    have HTl := Lib.hid htl
    have OW := Lib.hid ow
    have HLT0 := Lib.hid (fun (q : Nat) hq => own_lt (g := q) ow hq)
    clear htl ow
    have hsz := Br.size
    by_cases hkn : k < n
    case neg =>
      have hkk : k = n := by omega
      subst hkk
      have hSe : S k = thL ks := by rw [← HTa.out, HN.out]
      have how := OW.out
      rw [hSe] at how
      have hll : (thL ks).length = t := by rw [← hSe]; exact HTl.out
      have htp : 0 < t := by rw [← hll, ← HTa.out]; exact List.length_pos_iff.2 (fun e => by
        have h2 := congrArg List.length e
        rw [HTa.out] at h2
        have := thL_eq HV.out
        rw [this] at h2
        simp at h2)
      obtain ⟨g', cap', rfl⟩ := Joins.ownsRow_form how htp
      have HKo := Lib.hid (Kn_of_row hll how)
      have HLl := Lib.hid hll
      have hgl := (own_lt (g := g') how rfl).1
      clear how hll hSe
      go_wp2
      go_ret
      exact ⟨_, _, _, rfl, ⟨HLl.out, fun _ => ⟨g', 0, rfl, HKo.out⟩⟩, by omega, (fun a h => by have := Option.some.inj h; subst this; exact hgl), Br⟩
    have hkl : k < ks.length := by rw [HN.out]; exact hkn
    have hK := HKn.out.below Br
    have lt1 := hK.lt
    have xx := hK.x k hkl
    have xy := hK.y k hkl
    have HXk := Lib.hid (show (kx ks k, ky ks k) = ks.getD k (0, 0) from rfl)
    have B21 := Br
    by_cases hk0 : k = 0
    case pos =>
      have hq0 : ((k : Int) == 0) = true := by simp [hk0]
      have HYk := Lib.hid (HY.out k (.inl hk0))
      clear hk0
      go_wp2_with fail
      obtain ⟨xc, xf⟩ := xcell (W := wr)
      refine wp_region_quiet_tail 27 (by kernel_rfl) (by kernel_rfl) ?_
      simp only [List.take_succ_cons, List.take_zero, List.drop_succ_cons, List.drop_zero]
      repeat (first | go_big_quiet_step (fail) | quiet_step (fail))
      refine wpQuiet_nil ?_
      intro w21 hb21
      clear xc xf xx xy lt1
      have HLT := Lib.hid (fun (q : Nat) hq => (⟨(HLT0.out q hq).1, Nat.lt_of_lt_of_le (HLT0.out q hq).2 hb21.size⟩ : w.heap.size ≤ q ∧ q < w21.heap.size))
      have OW1 := Lib.hid (owns_below OW.out hb21)
      have hbq : w.heap.size ≤ w21.heap.size := Nat.le_trans hsz hb21.size
      have xx2 := (HKn.out.below (Br.trans (hb21.mono Br.size))).x k hkl
      have xy2 := (HKn.out.below (Br.trans (hb21.mono Br.size))).y k hkl
      have lt2 := (HKn.out.below (Br.trans (hb21.mono Br.size))).lt
      have HXp := Lib.hid (show S (k + 1) = S k ++ [(kx ks k, ky ks k)] from HYk.out)
      generalize kx ks k = ax at *
      generalize ky ks k = ay at *
      go_wp2_with (at_builtin; go_loud (refine wpList_append_own _ rfl (.tmp 38) (.tmp 43) 22 rfl (w.heap.size) 108 i0 (.agg #[.int .i64 0, .int .i64 0]) 2 16 Try.underlying22 HI.out.1 HI.out.2.1 HI.out.2.2.1 HI.out.2.2.2 rfl (by decide) _ (t) ((S k).flatMap encF) rfl (OW1.out.alloc _) ⟨w21.heap.size, 0, none⟩ 1 1 [.int .i64 ax, .int .i64 ay] rfl rfl (new_cells2 _ _ _ _) (one_ints2 _ _) (by unfold maxLen; omega) (by omega) (by simp; omega) ?_))
      intro v' w21 hown21 hgrow21 hnn21
      clear xx2 xy2 lt2
      have B21 := ((Br.trans (hb21.mono Br.size)).alloc (Br.trans (hb21.mono Br.size)).size _).grown hgrow21 (Nat.le_trans (Br.trans (hb21.mono Br.size)).size (by simp)) (fun kk hk => by have := HLT.out _ hk; omega)
      have hbase21 : w.heap.size ≤ w21.heap.size := Nat.le_trans hbq (Nat.le_trans (by simp) hgrow21.size)
      have HNw := Lib.hid hown21
      clear hown21 hgrow21 hnn21
      go_wp2
      go_roundw
      case rel => exact ⟨k + 1, t + 1, by omega, by go_num, by rw [HXp.out]; simp [HTl.out], by rw [HXp.out, List.flatMap_append]; simpa [encF] using HNw.out, B21⟩
      case measure => simp [intOf]; omega
    have hq0 : ((k : Int) == 0) = false := by simp; omega
    have hm1 : IntKind.i64.wrap ((n : Int) - 1) = ((n - 1 : Nat) : Int) := (IntWalk.i64_in _ (by omega)).trans (by omega)
    have HM1 := Lib.hid hm1
    clear hm1
    by_cases hkl1 : k + 1 = n
    case pos =>
      have hq1 : ((k : Int) == ((n - 1 : Nat) : Int)) = true := by simp; omega
      have hm1 := HM1.out
      have HYk := Lib.hid (HY.out k (.inr (.inl (by have := HN.out; omega))))
      clear hkl1
      go_wp2_with fail
      obtain ⟨xc, xf⟩ := xcell (W := wr)
      refine wp_region_quiet_tail 27 (by kernel_rfl) (by kernel_rfl) ?_
      simp only [List.take_succ_cons, List.take_zero, List.drop_succ_cons, List.drop_zero]
      repeat (first | go_big_quiet_step (fail) | quiet_step (fail))
      refine wpQuiet_nil ?_
      intro w21 hb21
      clear xc xf xx xy lt1 hm1 hq1
      have HLT := Lib.hid (fun (q : Nat) hq => (⟨(HLT0.out q hq).1, Nat.lt_of_lt_of_le (HLT0.out q hq).2 hb21.size⟩ : w.heap.size ≤ q ∧ q < w21.heap.size))
      have OW1 := Lib.hid (owns_below OW.out hb21)
      have hbq : w.heap.size ≤ w21.heap.size := Nat.le_trans hsz hb21.size
      have xx2 := (HKn.out.below (Br.trans (hb21.mono Br.size))).x k hkl
      have xy2 := (HKn.out.below (Br.trans (hb21.mono Br.size))).y k hkl
      have lt2 := (HKn.out.below (Br.trans (hb21.mono Br.size))).lt
      have HXp := Lib.hid (show S (k + 1) = S k ++ [(kx ks k, ky ks k)] from HYk.out)
      generalize kx ks k = ax at *
      generalize ky ks k = ay at *
      go_wp2_with (at_builtin; go_loud (refine wpList_append_own _ rfl (.tmp 38) (.tmp 43) 22 rfl (w.heap.size) 108 i0 (.agg #[.int .i64 0, .int .i64 0]) 2 16 Try.underlying22 HI.out.1 HI.out.2.1 HI.out.2.2.1 HI.out.2.2.2 rfl (by decide) _ (t) ((S k).flatMap encF) rfl (OW1.out.alloc _) ⟨w21.heap.size, 0, none⟩ 1 1 [.int .i64 ax, .int .i64 ay] rfl rfl (new_cells2 _ _ _ _) (one_ints2 _ _) (by unfold maxLen; omega) (by omega) (by simp; omega) ?_))
      intro v' w21 hown21 hgrow21 hnn21
      clear xx2 xy2 lt2
      have B21 := ((Br.trans (hb21.mono Br.size)).alloc (Br.trans (hb21.mono Br.size)).size _).grown hgrow21 (Nat.le_trans (Br.trans (hb21.mono Br.size)).size (by simp)) (fun kk hk => by have := HLT.out _ hk; omega)
      have hbase21 : w.heap.size ≤ w21.heap.size := Nat.le_trans hbq (Nat.le_trans (by simp) hgrow21.size)
      have HNw := Lib.hid hown21
      clear hown21 hgrow21 hnn21
      go_wp2
      go_roundw
      case rel => exact ⟨k + 1, t + 1, by omega, by go_num, by rw [HXp.out]; simp [HTl.out], by rw [HXp.out, List.flatMap_append]; simpa [encF] using HNw.out, B21⟩
      case measure => simp [intOf]; omega
    have hq1 : ((k : Int) == ((n - 1 : Nat) : Int)) = false := by simp; omega
    have xxp := hK.x (k - 1) (by omega)
    have xyp := hK.y (k - 1) (by omega)
    have xxn := hK.x (k + 1) (by have := HN.out; omega)
    have xyn := hK.y (k + 1) (by have := HN.out; omega)
    have HLc := Lib.hid (fun W => line_any (kx ks (k - 1), ky ks (k - 1)) (kx ks k, ky ks k) (kx ks (k + 1), ky ks (k + 1)) W (HV.out.y0 _ (by omega)) (HV.out.y0 _ hkl) (HV.out.y0 _ (by have := HN.out; omega)) (HV.out.x0 _ (by omega)) (HV.out.x0 _ hkl) (HV.out.x0 _ (by have := HN.out; omega)))
    have HB := Lib.hid (show lineB (kx ks (k - 1), ky ks (k - 1)) (kx ks k, ky ks k) (kx ks (k + 1), ky ks (k + 1)) = lineB (ks.getD (k - 1) (0, 0)) (ks.getD k (0, 0)) (ks.getD (k + 1) (0, 0)) from rfl)
    have hm2 : IntKind.i64.wrap ((k : Int) - 1) = ((k - 1 : Nat) : Int) := (IntWalk.i64_in _ (by omega)).trans (by omega)
    have hm3 : IntKind.i64.wrap ((k : Int) + 1) = ((k + 1 : Nat) : Int) := (IntWalk.i64_in _ (by omega)).trans (by omega)
    have hm1 := HM1.out
    have hkp : k - 1 < n := by omega
    have hkn1 : k + 1 < n := by omega
    clear hK
    generalize lineB (kx ks (k - 1), ky ks (k - 1)) (kx ks k, ky ks k) (kx ks (k + 1), ky ks (k + 1)) = bl at *
    dsimp only at HLc
    generalize kx ks (k - 1) = px at *
    generalize ky ks (k - 1) = py at *
    generalize kx ks (k + 1) = rx at *
    generalize ky ks (k + 1) = ry at *
    cases bl with
    | true =>
      go_wp2_with fail
      obtain ⟨xc, xf⟩ := xcell (W := wr)
      refine wp_region_quiet_tail 27 (by kernel_rfl) (by kernel_rfl) ?_
      simp only [List.take_succ_cons, List.take_zero, List.drop_succ_cons, List.drop_zero]
      repeat (first | go_big_quiet_step ((go_at_call 139; with_reducible refine calls_ext (HLc.out _))) | quiet_step ((go_at_call 139; with_reducible refine calls_ext (HLc.out _))))
      refine wpQuiet_nil ?_
      intro w21 hb21
      clear xc xf hm1 hm2 hm3
      have HZk := Lib.hid (HZ.out k (fun c => by have := HN.out; have := HB.out; rcases c with c | c | c; omega; omega; rw [c] at this; cases this))
      have OW1 := Lib.hid (owns_below OW.out hb21)
      go_wp2
      go_roundw
      case rel => exact ⟨k + 1, t, by omega, by go_num, by rw [HZk.out]; exact HTl.out, by rw [HZk.out]; exact OW1.out, Br.trans (hb21.mono Br.size)⟩
      case measure => simp [intOf]; omega
    | false =>
      go_wp2_with fail
      obtain ⟨xc, xf⟩ := xcell (W := wr)
      refine wp_region_quiet_tail 27 (by kernel_rfl) (by kernel_rfl) ?_
      simp only [List.take_succ_cons, List.take_zero, List.drop_succ_cons, List.drop_zero]
      repeat (first | go_big_quiet_step ((go_at_call 139; with_reducible refine calls_ext (HLc.out _))) | quiet_step ((go_at_call 139; with_reducible refine calls_ext (HLc.out _))))
      refine wpQuiet_nil ?_
      intro w21 hb21
      clear xc xf hm1 hm2 hm3 xx xy lt1 xxp xyp xxn xyn
      have HYk := Lib.hid (HY.out k (.inr (.inr HB.out.symm)))
      have HLT := Lib.hid (fun (q : Nat) hq => (⟨(HLT0.out q hq).1, Nat.lt_of_lt_of_le (HLT0.out q hq).2 hb21.size⟩ : w.heap.size ≤ q ∧ q < w21.heap.size))
      have OW1 := Lib.hid (owns_below OW.out hb21)
      have hbq : w.heap.size ≤ w21.heap.size := Nat.le_trans hsz hb21.size
      have xx2 := (HKn.out.below (Br.trans (hb21.mono Br.size))).x k hkl
      have xy2 := (HKn.out.below (Br.trans (hb21.mono Br.size))).y k hkl
      have lt2 := (HKn.out.below (Br.trans (hb21.mono Br.size))).lt
      have HXp := Lib.hid (show S (k + 1) = S k ++ [(kx ks k, ky ks k)] from HYk.out)
      generalize kx ks k = ax at *
      generalize ky ks k = ay at *
      go_wp2_with (at_builtin; go_loud (refine wpList_append_own _ rfl (.tmp 38) (.tmp 43) 22 rfl (w.heap.size) 108 i0 (.agg #[.int .i64 0, .int .i64 0]) 2 16 Try.underlying22 HI.out.1 HI.out.2.1 HI.out.2.2.1 HI.out.2.2.2 rfl (by decide) _ (t) ((S k).flatMap encF) rfl (OW1.out.alloc _) ⟨w21.heap.size, 0, none⟩ 1 1 [.int .i64 ax, .int .i64 ay] rfl rfl (new_cells2 _ _ _ _) (one_ints2 _ _) (by unfold maxLen; omega) (by omega) (by simp; omega) ?_))
      intro v' w21 hown21 hgrow21 hnn21
      clear xx2 xy2 lt2
      have B21 := ((Br.trans (hb21.mono Br.size)).alloc (Br.trans (hb21.mono Br.size)).size _).grown hgrow21 (Nat.le_trans (Br.trans (hb21.mono Br.size)).size (by simp)) (fun kk hk => by have := HLT.out _ hk; omega)
      have hbase21 : w.heap.size ≤ w21.heap.size := Nat.le_trans hbq (Nat.le_trans (by simp) hgrow21.size)
      have HNw := Lib.hid hown21
      clear hown21 hgrow21 hnn21
      go_wp2
      go_roundw
      case rel => exact ⟨k + 1, t + 1, by omega, by go_num, by rw [HXp.out]; simp [HTl.out], by rw [HXp.out, List.flatMap_append]; simpa [encF] using HNw.out, B21⟩
      case measure => simp [intOf]; omega
end Go.Proofs.Ytipablcbkoedbaa

namespace Go.Proofs.Ytipablcbkoedbaa
open Go.RowKit Go
def regG (ops : Array Oper) (n : Nat) (L : List (Nat × Tmp)) : Bool :=
  Region.noSelect ops && ops.all (fun o => match o.op with | .defer _ => false | _ => true) &&
  decide (n ≤ ops.size) && (decide (n = ops.size) || (Region.sinkB .any ops n && Region.chainB .any ops n)) &&
  Region.seqB .any ops (ops.size - n) n (Array.replicate n true ++ Array.replicate (ops.size - n) false) &&
  (List.range n).all (fun i => match ops[i]? with | some o => o.after.all (fun e => !Region.binds .any e || decide (e.on < i)) | none => false) &&
  (List.range n).all (fun i => (List.range n).all (fun j => headOk ops L i j)) &&
  L.all (fun p => decide (p.1 < n) && (match ops[p.1]? with | some o => (o.dst == some p.2 || o.dst == none) | none => false)) &&
  L.all (fun p => L.all fun q => p.2 != q.2 || p.1 == q.1)

structure RegOkG (ops : Array Oper) (n : Nat) (L : List (Nat × Tmp)) : Prop where
  sel : Region.noSelect ops = true
  defer_ : ∀ (i : Nat) (o : Oper), ops[i]? = some o → ∀ c, o.op ≠ .defer c
  le : n ≤ ops.size
  tail : n < ops.size → Region.sinkB .any ops n = true ∧ Region.chainB .any ops n = true
  seq : Region.seqB .any ops (ops.size - n) n (Array.replicate n true ++ Array.replicate (ops.size - n) false) = true
  back : ∀ (i : Nat) (o : Oper), i < n → ops[i]? = some o → ∀ e ∈ o.after, Region.binds .any e = true → e.on < i
  distinct : Distinct ops n
  looks : ∀ (i j : Nat) (oi oj : Oper) (d : Tmp), i < n → j < n → i ≠ j → ops[i]? = some oi → ops[j]? = some oj → oi.dst = some d → d ∈ oj.looksAt ops →
    (i < j ∧ Region.waitsFor .any ops j i = true ∧ (isLoud L j = false → isLoud L i = false)) ∨ (isLoud L j = false ∧ j < i ∧ Region.waitsFor .any ops i j = true)
  own : ∀ (j : Nat) (oj : Oper) (d : Tmp), j < n → ops[j]? = some oj → oj.dst = some d → isLoud L j = true → d ∉ oj.looksAt ops
  loud : ∀ p ∈ L, p.1 < n ∧ ∀ (o : Oper), ops[p.1]? = some o → (o.dst = some p.2 ∨ o.dst = none)
  slots : ∀ p ∈ L, ∀ q ∈ L, p.2 = q.2 → p.1 = q.1

theorem regG_ok {ops : Array Oper} {n : Nat} {L : List (Nat × Tmp)} (h : regG ops n L = true) : RegOkG ops n L := by
  simp only [regG, Bool.and_eq_true, decide_eq_true_eq, Bool.or_eq_true, List.all_eq_true, List.mem_range] at h
  obtain ⟨⟨⟨⟨⟨⟨⟨⟨h1, h2⟩, h3⟩, h4⟩, h5⟩, h6⟩, h7⟩, h8⟩, h9⟩ := h
  have hk : ∀ i j oi oj d, i < n → j < n → ops[i]? = some oi → ops[j]? = some oj → oi.dst = some d →
      (if i == j then !isLoud L j || !(oj.looksAt ops).contains d
      else oj.dst != some d && (!(oj.looksAt ops).contains d || (decide (i < j) && Region.waitsFor .any ops j i && (isLoud L j || !isLoud L i)) || (!isLoud L j && decide (j < i) && Region.waitsFor .any ops i j))) = true := by
    intro i j oi oj d hi hj hoi hoj hd
    have := h7 i hi j hj
    unfold headOk at this
    rw [hoi, hoj] at this
    simpa only [hd] using this
  refine ⟨h1, fun i o ho c hc => ?_, h3, fun hlt => ?_, h5, fun i o hi ho e he hb => ?_, fun i j oi oj d hi hj hoi hoj hdi hdj => ?_, fun i j oi oj d hi hj hij hoi hoj hd hmem => ?_, fun j oj d hj hoj hd hl hmem => ?_, fun p hp => ?_, fun p hp q hq he => ?_⟩
  · have hlt : i < ops.size := (Array.getElem?_eq_some_iff.1 ho).1
    have := Array.all_eq_true.1 h2 i hlt
    have he : ops[i] = o := by simpa [Array.getElem?_eq_getElem hlt] using ho
    rw [he, hc] at this
    exact Bool.noConfusion this
  · rcases h4 with h4 | h4
    · omega
    · exact h4
  · have := h6 i hi
    rw [ho] at this
    have := Array.all_eq_true'.1 this e he
    simpa [hb] using this
  · by_cases hij : i = j
    · exact hij
    · have := hk i j oi oj d hi hj hoi hoj hdi
      rw [if_neg (by simpa using hij)] at this
      simp only [Bool.and_eq_true, bne_iff_ne, ne_eq] at this
      exact absurd hdj this.1
  · have := hk i j oi oj d hi hj hoi hoj hd
    rw [if_neg (by simpa using hij)] at this
    have hc : (oj.looksAt ops).contains d = true := by simpa using hmem
    simp only [Bool.and_eq_true, hc, Bool.not_true, Bool.or_eq_true, Bool.false_eq_true, false_or, decide_eq_true_eq, Bool.not_eq_true'] at this
    rcases this.2 with ⟨⟨h1, h2⟩, h3⟩ | ⟨⟨h1, h2⟩, h3⟩
    · exact .inl ⟨h1, h2, fun hl => h3.resolve_left (by rw [hl]; exact Bool.false_ne_true)⟩
    · exact .inr ⟨h1, h2, h3⟩
  · have := hk j j oj oj d hj hj hoj hoj hd
    rw [if_pos (by simp)] at this
    simp only [hl, Bool.not_true, Bool.false_or, Bool.not_eq_true', List.contains_eq_mem, decide_eq_false_iff_not] at this
    exact this hmem
  · have := h8 p hp
    refine ⟨this.1, fun o ho => ?_⟩
    have h2 := this.2
    rw [ho] at h2
    simpa using h2
  · have := h9 p hp q hq
    simpa [he] using this


theorem any_of_headG {P : Program} {ops : Array Oper} {n : Nat} {L : List (Nat × Tmp)} {step : Nat → (Act → World → Prop) → Act → World → Prop} {Q T : Act → World → Prop}
    (ok : RegOkG ops n L)
    (hstep : ∀ i o a w K, ops[i]? = some o → Region.wanted o (yielded ops a.tmps) = true → loudAt P o a w (fun v w' => K (a.put o.dst v) w') → step i K a w)
    (hskip : ∀ i o a w K, ops[i]? = some o → Region.wanted o (yielded ops a.tmps) = false → K (a.put o.dst undef) w → step i K a w)
    {C : World → Prop} {S : World → World → Prop} {Φ : (Nat → Bool) → (Nat → Value) → World → Prop} (hS : ∀ w, C w → S w w) (hC : ∀ w w', C w → S w w' → C w')
    (hΦ : ∀ ls vs w w', C w → Φ ls vs w → S w w' → Φ ls vs w')
    {u : Nat → Value} {a₀ aQ : Act} (hQ : PW ops L u 0 n a₀ aQ) (hout : ∀ p ∈ L, ∀ o, ops[p.1]? = some o → o.dst = none → a₀.tmps.size ≤ p.2)
    (hy : ∀ j o, j < n → isLoud L j = false → ops[j]? = some o → ∃ A, YlS P ops C S o (u j) A ∧ PW ops L u 0 j a₀ A)
    (hloud : ∀ p ∈ L, ∀ (vs : Nat → Value) (w : World), C w → ∀ ls, Φ ls vs w → ls p.1 = false → (∀ q ∈ L, Region.waitsFor .any ops p.1 q.1 = true → ls q.1 = true) → ∀ o, ops[p.1]? = some o →
      Region.wanted o (yielded ops (putsL aQ L vs).tmps) = true ∧ loudAt P o (putsL aQ L vs) w fun v w' => C w' ∧ Φ (updB ls p.1) (upd vs p.1 v) w')
    (hfin : ∀ (ls : Nat → Bool) (vs : Nat → Value) (w : World), C w → Φ ls vs w → (∀ p ∈ L, ls p.1 = true) → T (putsL aQ L vs) w)
    (hT : ∀ a w, T a w → anyOf step ops Q (ops.size - n) (Array.replicate n true ++ Array.replicate (ops.size - n) false) a w) :
    ∀ (f : Nat) (listed : Array Bool) (a : Act) (w : World) (vs : Nat → Value), unl listed n = f → HeadInv .any ops n listed → StR ops n L u vs a₀ listed a → C w →
      Φ (lsOf L listed) vs w → anyOf step ops Q (f + (ops.size - n)) listed a w := by
  have hLd := ok.slots
  have hdst : ∀ p ∈ L, ∀ o, ops[p.1]? = some o → p.2 < a₀.tmps.size → o.dst = some p.2 := fun p hp o ho hs => by
    rcases (ok.loud p hp).2 o ho with h | h
    · exact h
    · exact absurd hs (Nat.not_lt.2 (hout p hp o ho h))
  have big : ∀ {A B : Act} {t : Nat}, A.tmps.size = B.tmps.size → ¬ t < B.tmps.size → A.tmps[t]? = B.tmps[t]? := fun h1 h2 => by
    rw [Array.getElem?_eq_none (by omega), Array.getElem?_eq_none (by omega)]
  intro f
  induction f with
  | zero =>
    intro listed a w vs hun inv st hc hf
    have hall := unl_zero listed n hun
    have hl : listed = Array.replicate n true ++ Array.replicate (ops.size - n) false := by
      apply Array.ext
      · simp [inv.size]; have := ok.le; omega
      · intro i h1 h2
        rcases Nat.lt_or_ge i n with h | h
        · have := hall i h
          simp [h1] at this
          rw [Array.getElem_append_left (by simpa using h)]
          simp [this]
        · have := inv.tail i h (by rw [← inv.size]; exact h1)
          simp [h1] at this
          rw [Array.getElem_append_right (by simpa using h)]
          simp [this]
    have ha : a = putsL aQ L vs := by
      have htmps : a.tmps = (putsL aQ L vs).tmps := by
        apply Array.ext_getElem?
        intro t
        by_cases hx : ∃ i o, i < n ∧ ops[i]? = some o ∧ o.dst = some t
        · obtain ⟨i, o, h1, h2, h3⟩ := hx
          by_cases hs : t < a₀.tmps.size
          · rw [st.at_ i o t h1 h2 h3 hs (hall i h1)]
            by_cases hl : isLoud L i = true
            · rw [if_pos hl]
              obtain ⟨p, hp, rfl⟩ := isLoud_iff.1 hl
              have : p.2 = t := by
                rcases (ok.loud p hp).2 o h2 with h | h
                · rw [h3] at h; exact (Option.some.inj h).symm
                · rw [h3] at h; cases h
              subst this
              rw [putsL_at L vs aQ hLd p hp (by rw [hQ.size]; exact hs)]
            · rw [if_neg hl, putsL_ne L vs t aQ (fun p hp he => ?_), hQ.at_ i o t (Nat.zero_le _) h1 (by simpa using hl) h2 h3 hs]
              obtain ⟨h4, h5⟩ := ok.loud p hp
              have hop := Array.getElem?_eq_getElem (show p.1 < ops.size by have := ok.le; omega)
              exact hl (isLoud_iff.2 ⟨p, hp, ok.distinct p.1 i _ o t h4 h1 hop h2 (by rw [hdst p hp _ hop (by rw [he]; exact hs), he]) h3⟩)
          · exact big (by rw [st.size, putsL_size, hQ.size]) (by rw [putsL_size, hQ.size]; exact hs)
        · by_cases hs : t < a₀.tmps.size
          case neg => exact big (by rw [st.size, putsL_size, hQ.size]) (by rw [putsL_size, hQ.size]; exact hs)
          rw [st.else_ t (fun i o h1 h2 _ h3 => hx ⟨i, o, h1, h2, h3⟩), putsL_ne L vs t aQ (fun p hp he => ?_), hQ.else_ t (fun i o _ h1 _ h2 h3 => hx ⟨i, o, h1, h2, h3⟩)]
          obtain ⟨h4, h5⟩ := ok.loud p hp
          have hop := Array.getElem?_eq_getElem (show p.1 < ops.size by have := ok.le; omega)
          exact hx ⟨p.1, _, h4, hop, by rw [hdst p hp _ hop (by rw [he]; exact hs), he]⟩
      have hdef : a.defers = (putsL aQ L vs).defers := by rw [st.defers, putsL_defers, hQ.defers]
      cases a
      generalize putsL aQ L vs = b at htmps hdef
      cases b
      simp only at htmps hdef
      rw [htmps, hdef]
    obtain ⟨listed', hl'⟩ : ∃ l', l' = listed := ⟨_, rfl⟩
    rw [← hl'] at hf hall
    rw [Nat.zero_add, hl, ha]
    exact hT _ _ (hfin (lsOf L listed') vs w hc hf fun p hp => (by unfold lsOf; rw [isLoud_iff.2 ⟨p, hp, rfl⟩, hall p.1 (ok.loud p hp).1]; rfl))
  | succ f ih =>
    intro listed a w vs hun inv st hc hf
    have hsz : n ≤ listed.size := by rw [inv.size]; exact ok.le
    rw [show f + 1 + (ops.size - n) = (f + (ops.size - n)) + 1 by omega]
    obtain ⟨m, hm, hm1, hm2⟩ := unl_first listed n (by omega)
    refine ⟨fun h => ?_, fun j hj => ?_⟩
    · have hom := Array.getElem?_eq_getElem (show m < ops.size by have := ok.le; omega)
      have : m ∈ Region.ready .any ops listed := mem_ready.2 ⟨getD_in (by omega) hm1, _, hom, fun e he hb => hm2 _ (ok.back m _ hm hom e he hb)⟩
      rw [h] at this
      cases this
    · obtain ⟨hjun, oj, hoj, hall⟩ := mem_ready.1 hj
      have hjn : j < n := by
        rcases Nat.lt_or_ge j n with h | h
        · exact h
        · have hlt : j < ops.size := (Array.getElem?_eq_some_iff.1 hoj).1
          obtain ⟨hs, hcn⟩ := ok.tail (by omega)
          exact absurd hj (tail_waits hs hcn (by omega) inv _ m rfl hm (getD_in (by omega) hm1) j h)
      have hwait : ∀ i, Region.waitsFor .any ops j i = true → listed.getD i false = true := fun i h => by
        obtain ⟨o', ho', e, he, hb, hon⟩ := Region.waitsFor_spec h
        have : o' = oj := Option.some.inj (ho'.symm.trans hoj)
        subst this
        rw [← hon]; exact hall e he hb
      have hnot : ∀ i, Region.waitsFor .any ops i j = true → listed.getD i false = false := fun i h => by
        obtain ⟨o', ho', e, he, hb, hon⟩ := Region.waitsFor_spec h
        cases hl : listed.getD i false with
        | false => rfl
        | true =>
          have := inv.closed i o' ho' hl e he hb
          rw [hon, getD_both hjun] at this
          cases this
      have hun' : unl (listed.setIfInBounds j true) n = f := by have := unl_set listed j hjun n hjn; omega
      have inv' := inv.set hj hjn
      have hlj : (listed.setIfInBounds j true).getD j false = true := by simp [show j < listed.size by omega]
      have st' : ∀ v vs', (∀ i, i ≠ j → vs' i = vs i) → (if isLoud L j = true then vs' j else u j) = v → StR ops n L u vs' a₀ (listed.setIfInBounds j true) (a.put oj.dst v) := fun v vs' hvs hv =>
        ⟨by rw [put_defers', st.defers], by rw [put_size, st.size], fun i o d h1 h2 h3 h4 h5 => by
          by_cases hij : i = j
          · subst hij
            have : o = oj := Option.some.inj (h2.symm.trans hoj)
            subst this
            rw [h3, put_at _ _ _ (by rw [st.size]; exact h4), hv]
          · rw [put_ne _ _ _ _ (fun he => hij (ok.distinct i j o oj d h1 hjn h2 hoj h3 he)), st.at_ i o d h1 h2 h3 h4 (by rwa [getD_set_ne false (Ne.symm hij)] at h5), hvs i hij],
         fun t ht => by
          rw [put_ne _ _ _ _ (ht j oj hjn hoj hlj), st.else_ t (fun i o h1 h2 h3 => ht i o h1 h2 (getD_set_true h3))]⟩
      have hsel : ∀ cs b, oj.op ≠ .select cs b := fun cs b => Region.noSelect_spec ok.sel j oj cs b hoj
      by_cases hlo : isLoud L j = true
      · -- a loud one
        obtain ⟨p, hp, rfl⟩ := isLoud_iff.1 hlo
        have hag : ∀ t ∈ oj.looksAt ops, a.tmps[t]? = (putsL aQ L vs).tmps[t]? := fun t ht => by
          by_cases hs : t < a₀.tmps.size
          case neg => exact big (by rw [st.size, putsL_size, hQ.size]) (by rw [putsL_size, hQ.size]; exact hs)
          by_cases hx : ∃ i o, i < n ∧ ops[i]? = some o ∧ o.dst = some t
          · obtain ⟨i, o, h1, h2, h3⟩ := hx
            have hij : i ≠ p.1 := fun he => by
              subst he
              have : o = oj := Option.some.inj (h2.symm.trans hoj)
              subst this
              exact ok.own _ _ t hjn hoj h3 hlo ht
            rcases ok.looks i p.1 o oj t h1 hjn hij h2 hoj h3 ht with ⟨h4, h5, _⟩ | ⟨h4, _⟩
            · rw [st.at_ i o t h1 h2 h3 hs (hwait i h5)]
              by_cases hl : isLoud L i = true
              · rw [if_pos hl]
                obtain ⟨q, hq, rfl⟩ := isLoud_iff.1 hl
                have : q.2 = t := by
                  rcases (ok.loud q hq).2 o h2 with h | h
                  · rw [h3] at h; exact (Option.some.inj h).symm
                  · rw [h3] at h; cases h
                subst this
                rw [putsL_at L vs aQ hLd q hq (by rw [hQ.size]; exact hs)]
              · rw [if_neg hl, putsL_ne L vs t aQ (fun q hq he => ?_), hQ.at_ i o t (Nat.zero_le _) h1 (by simpa using hl) h2 h3 hs]
                obtain ⟨h4, h5⟩ := ok.loud q hq
                have hop := Array.getElem?_eq_getElem (show q.1 < ops.size by have := ok.le; omega)
                exact hl (isLoud_iff.2 ⟨q, hq, ok.distinct q.1 i _ o t h4 h1 hop h2 (by rw [hdst q hq _ hop (by rw [he]; exact hs), he]) h3⟩)
            · rw [hlo] at h4; cases h4
          · rw [st.else_ t (fun i o h1 h2 _ h3 => hx ⟨i, o, h1, h2, h3⟩), putsL_ne L vs t aQ (fun q hq he => ?_), hQ.else_ t (fun i o _ h1 _ h2 h3 => hx ⟨i, o, h1, h2, h3⟩)]
            obtain ⟨h4, h5⟩ := ok.loud q hq
            have hop := Array.getElem?_eq_getElem (show q.1 < ops.size by have := ok.le; omega)
            exact hx ⟨q.1, _, h4, hop, by rw [hdst q hq _ hop (by rw [he]; exact hs), he]⟩
        obtain ⟨hex, hwa⟩ := exec_agree hsel hag
        obtain ⟨hgw, hld⟩ := hloud p hp vs w hc _ hf (by unfold lsOf; rw [getD_both hjun]; simp) (fun q hq hw => (by unfold lsOf; rw [isLoud_iff.2 ⟨q, hq, rfl⟩, hwait _ hw]; rfl)) oj hoj
        refine hstep p.1 oj a w _ hoj (by rw [hwa]; exact hgw) (loudAt_agree hex (loudAt_mono hld ?_))
        rintro v w' ⟨hc', hv⟩
        refine ih _ _ w' (upd vs p.1 v) hun' inv' (st' v _ (fun i hi => by simp [upd, hi]) (by simp [upd, hlo])) hc' ?_
        have e : lsOf L (listed.setIfInBounds p.1 true) = updB (lsOf L listed) p.1 := by
          funext i
          unfold lsOf updB
          by_cases hi : i = p.1
          · subst hi; rw [if_pos rfl, hlo, hlj]; rfl
          · rw [if_neg hi, getD_set_ne false (Ne.symm hi)]
        rw [e]; exact hv
      · -- a quiet one
        have hlo' : isLoud L j = false := by simpa using hlo
        have hls : lsOf L (listed.setIfInBounds j true) = lsOf L listed := by
          funext i
          unfold lsOf
          by_cases hi : i = j
          · subst hi; rw [hlo']; rfl
          · rw [getD_set_ne false (Ne.symm hi)]
        obtain ⟨A, hA, hPA⟩ := hy j oj hjn hlo' hoj
        have hag : ∀ t ∈ oj.looksAt ops, a.tmps[t]? = A.tmps[t]? := fun t ht => by
          by_cases hs : t < a₀.tmps.size
          case neg => exact big (by rw [st.size, hPA.size]) (by rw [hPA.size]; exact hs)
          by_cases hx : ∃ i o, i < n ∧ ops[i]? = some o ∧ o.dst = some t ∧ i ≠ j
          · obtain ⟨i, o, h1, h2, h3, hij⟩ := hx
            rcases ok.looks i j o oj t h1 hjn hij h2 hoj h3 ht with ⟨h4, h5, h6⟩ | ⟨_, h4, h5⟩
            · rw [st.at_ i o t h1 h2 h3 hs (hwait i h5), hPA.at_ i o t (Nat.zero_le _) h4 (h6 hlo') h2 h3 hs, if_neg (by rw [h6 hlo']; exact Bool.false_ne_true)]
            · rw [st.else_ t (fun i' o' h6 h7 h8 h9 => ?_), hPA.else_ t (fun i' o' _ h6 _ h7 h8 => ?_)]
              · have := ok.distinct i' i o' o t (by omega) h1 h7 h2 h8 h3
                omega
              · have := ok.distinct i' i o' o t h6 h1 h7 h2 h9 h3
                subst this
                rw [hnot _ h5] at h8
                cases h8
          · rw [st.else_ t (fun i o h1 h2 h3 h4 => ?_), hPA.else_ t (fun i o _ h1 _ h2 h3 => hx ⟨i, o, by omega, h2, h3, by omega⟩)]
            by_cases hij : i = j
            · subst hij; rw [getD_both hjun] at h3; cases h3
            · exact hx ⟨i, o, h1, h2, h4, hij⟩
        obtain ⟨hex, hwa⟩ := exec_agree hsel hag
        have hst := st' (u j) vs (fun _ _ => rfl) (by rw [if_neg hlo])
        rcases hA with ⟨h1, h2⟩ | ⟨h1, h2⟩
        · refine hstep j oj a w _ hoj (by rw [hwa]; exact h1) (loudAt_agree hex (loudAt_mono (loudAt_of_quiet (hS w hc) (h2 w hc)) ?_))
          rintro v w' ⟨rfl, hb⟩
          refine ih _ _ w' vs hun' inv' hst (hC w w' hc hb) ?_
          rw [hls]; exact hΦ _ _ _ _ hc hf hb
        · refine hskip j oj a w _ hoj (by rw [hwa]; exact h1) ?_
          rw [h2] at hst
          refine ih _ _ w vs hun' inv' hst hc ?_
          rw [hls]; exact hf


/-- What the walk of the head must end in. -/
def HeadEndG (P : Program) (l : List Oper) (L : List (Nat × Tmp)) (C : World → Prop) (Φ : (Nat → Bool) → (Nat → Value) → World → Prop) (T : Act → World → Prop) (aQ : Act) : Prop :=
  (∀ p ∈ L, ∀ (vs : Nat → Value) (w : World), C w → ∀ ls, Φ ls vs w → ls p.1 = false → (∀ q ∈ L, Region.waitsFor .any l.toArray p.1 q.1 = true → ls q.1 = true) → ∀ o, l[p.1]? = some o →
      Region.wanted o (yielded l.toArray (putsL aQ L vs).tmps) = true ∧ loudAt P o (putsL aQ L vs) w fun v w' => C w' ∧ Φ (updB ls p.1) (upd vs p.1 v) w') ∧
  (∀ (ls : Nat → Bool) (vs : Nat → Value) (w : World), C w → Φ ls vs w → (∀ p ∈ L, ls p.1 = true) → T (putsL aQ L vs) w)

theorem any_headG {P : Program} {l : List Oper} {n : Nat} {L : List (Nat × Tmp)} {step : Nat → (Act → World → Prop) → Act → World → Prop} {Q T : Act → World → Prop}
    (hB : regG l.toArray n L = true)
    (hstep : ∀ i o a w K, l.toArray[i]? = some o → (∀ c, o.op ≠ .defer c) → Region.wanted o (yielded l.toArray a.tmps) = true → loudAt P o a w (fun v w' => K (a.put o.dst v) w') → step i K a w)
    (hskip : ∀ i o a w K, l.toArray[i]? = some o → Region.wanted o (yielded l.toArray a.tmps) = false → K (a.put o.dst undef) w → step i K a w)
    (hmono : ∀ i a w K K', (∀ a w, K a w → K' a w) → step i K a w → step i K' a w)
    {C : World → Prop} {S : World → World → Prop} {Φ : (Nat → Bool) → (Nat → Value) → World → Prop} (hS : ∀ w, C w → S w w) (hC : ∀ w w', C w → S w w' → C w')
    (hΦ : ∀ ls vs w w', C w → Φ ls vs w → S w w' → Φ ls vs w') {a : Act} {w : World} (hw : C w) (h0 : Φ (fun _ => false) (fun _ => undef) w) (hout : ∀ p ∈ L, ∀ o, l[p.1]? = some o → o.dst = none → a.tmps.size ≤ p.2)
    (hT : ∀ a w, T a w → seqOf step Q (l.toArray.size - n) n a w)
    (h : wpQS P l.toArray C S L (HeadEndG P l L C Φ T) 0 (l.take n) a) : anyOf step l.toArray Q l.toArray.size (Array.replicate l.toArray.size false) a w := by
  have ok := regG_ok hB
  have hn : n ≤ l.length := by simpa using ok.le
  have htl : (l.take n).length = n := by simp; omega
  obtain ⟨u, aQ, hQ, hp, hy⟩ := qs_extract (l.take n) 0 a (fun j hj => by
    have : j < n := by omega
    simp [this]) (by rw [htl, Nat.zero_add]; exact ok.distinct) h
  rw [htl, Nat.zero_add] at hp hy
  have hun : ∀ m, unl (Array.replicate l.toArray.size false) m = m := fun m => by
    induction m with
    | zero => rfl
    | succ m ih => unfold unl; rw [ih, getD_replicate_false]; rfl
  have H := any_of_headG (T := T) (Q := Q) ok (fun i o a w K h1 => hstep i o a w K h1 (ok.defer_ i o h1)) hskip hS hC hΦ hp (fun p hp o ho => hout p hp o (by simpa using ho)) (fun j o h1 h2 h3 => hy j o (Nat.zero_le _) h1 h2 h3)
    (fun p hp vs w hc ls hf h0 hq o ho => hQ.1 p hp vs w hc ls hf h0 hq o (by simpa using ho)) hQ.2 (fun a w h => anyOf_of_seq hmono _ n _ a w ok.seq (hT a w h))
    n (Array.replicate l.toArray.size false) a w (fun _ => undef) (hun n)
    ⟨by simp, fun j oj _ hl => (by rw [getD_replicate_false] at hl; cases hl), fun t _ ht => getD_in (by simpa using ht) (getD_replicate_false _ _)⟩
    ⟨rfl, rfl, fun i o d _ _ _ _ h => (by rw [getD_replicate_false] at h; cases h), fun _ _ => rfl⟩ hw (by
      have e : lsOf L (Array.replicate l.toArray.size false) = fun _ => false := by funext i; unfold lsOf; rw [getD_replicate_false]; simp
      rw [e]; exact h0)
  rwa [show n + (l.toArray.size - n) = l.toArray.size by have := ok.le; omega] at H


theorem wp_region_headG {P : Program} {id : Nat} {Q : Exit → Act → World → Prop} {a : Act} {w : World} {l : List Oper} (n : Nat) (L : List (Nat × Tmp)) (C : World → Prop) (S : World → World → Prop) (Φ : (Nat → Bool) → (Nat → Value) → World → Prop)
    (hm : P.follows .mixedOrders = true) (hB : regG l.toArray n L = true) (hw : C { w with drawn := w.drawn + 1 }) (h0 : Φ (fun _ => false) (fun _ => undef) { w with drawn := w.drawn + 1 }) (hout : ∀ p ∈ L, ∀ o, l[p.1]? = some o → o.dst = none → a.tmps.size ≤ p.2) (hS : ∀ w, C w → S w w) (hC : ∀ w w', C w → S w w' → C w')
    (hΦ : ∀ ls vs w w', C w → Φ ls vs w → S w w' → Φ ls vs w')
    (h : wpQS P l.toArray C S L (HeadEndG P l L C Φ (fun a w => wpList P l.toArray Q (l.drop n) a w)) 0 (l.take n) a) : (Code.region id l.toArray true).wp P Q a w := by
  have ok := regG_ok hB
  refine wp_region_any hm (anyOf_wpAny _ _ _ _ (any_headG (Q := Q .normal) (step := fun i K a w => wpOp P l.toArray Q i K a w) hB ?_ ?_ ?_ hS hC hΦ hw h0 hout ?_ h))
  · intro i o a w K h1 _ h2 h3
    show wpOp P l.toArray Q i K a w
    unfold wpOp
    simp only [h1, h2, if_true]
    refine .inl ?_
    unfold loudAt at h3
    unfold Oper.wp
    generalize (execOp a.eval o).run P w = r at *
    cases r with
    | ok x w' =>
      cases x <;> simp only [loudUpon] at h3 <;> simp only [Oper.upon]
      case value v => exact h3
      case skip => exact h3
      case enter f args => exact h3.mono fun e w'' ⟨v, he, hv⟩ => by subst he; exact hv
    | halt x w' => simp only [loudUpon] at h3
  · intro i o a w K h1 h2 h3
    show wpOp P l.toArray Q i K a w
    unfold wpOp
    simp only [h1, h2, Bool.false_eq_true, if_false]
    exact h3
  · exact fun i a w K K' hk h => wpOp_mono hk h
  · intro a w h
    have hlen : l.toArray.size - n = (l.drop n).length := by simp
    rw [hlen]
    exact seqOf_of_wpList (l.drop n) n (fun j _ => by simp [List.getElem?_drop]) a w h


theorem wp_region_preG {P : Program} {id : Nat} {Q : Exit → Act → World → Prop} {a : Act} {w : World} {l : List Oper} (n : Nat) (L : List (Nat × Tmp)) (Φ : (Nat → Bool) → (Nat → Value) → World → Prop) 
    (hm : P.follows .mixedOrders = true) (hB : (regG l.toArray n L && dstsB a.tmps.size (qOf L 0 (l.take n)) && L.all fun p => match l[p.1]? with | some o => o.dst.isSome || decide (a.tmps.size ≤ p.2) | none => true) = true)
    (h0 : ∀ v, Below w.heap.size w v → Φ (fun _ => false) (fun _ => undef) v)
    (hΦ : ∀ ls vs v v', Below w.heap.size w v → Φ ls vs v → Below v.heap.size v v' → Φ ls vs v')
    (h : ∃ aQ, (∀ W, Below w.heap.size w W → wpQuiet P l.toArray (fun v' => ∃ x : Ext W, v' = x.w) (fun a' => a' = aQ) (qOf L 0 (l.take n)) a) ∧
      HeadEndG P l L (fun v => ∃ x : Ext w, v = x.w) Φ (fun a w => wpList P l.toArray Q (l.drop n) a w) aQ) : (Code.region id l.toArray true).wp P Q a w := by
  simp only [Bool.and_eq_true, List.all_eq_true] at hB
  obtain ⟨⟨hB, hd⟩, ho⟩ := hB
  obtain ⟨aQ, h, he⟩ := h
  refine wp_region_headG n L (fun v => ∃ x : Ext w, v = x.w) (fun W v' => ∃ x : Ext W, v' = x.w) Φ hm hB ⟨⟨_, (Below.refl _ w).drew⟩, rfl⟩ (h0 _ (Below.refl _ w).drew) (fun p hp o hpo hn => ?_) (fun v _ => Over.refl v) (fun _ _ h k => Over.trans h k)
    (fun ls vs v v' hc h k => hΦ ls vs v v' (Over.below hc) h (Over.below k)) (qs_of_q (fun v _ => Over.refl v) w (Over.refl w) he _ 0 a hd fun W hW => h W (Over.below hW))
  have := ho p hp
  rw [hpo] at this
  simpa [hn] using this


theorem wp_region_preCG {P : Program} {id : Nat} {Q : Exit → Act → World → Prop} {a : Act} {w : World} {l : List Oper} (n : Nat) (L : List (Nat × Tmp)) (C : World → Prop) (Φ : (Nat → Bool) → (Nat → Value) → World → Prop)
    (hm : P.follows .mixedOrders = true) (hB : (regG l.toArray n L && dstsB a.tmps.size (qOf L 0 (l.take n)) && L.all fun p => match l[p.1]? with | some o => o.dst.isSome || decide (a.tmps.size ≤ p.2) | none => true) = true)
    (hw : C w) (hC : ∀ v v', C v → Below v.heap.size v v' → C v') (h0 : ∀ v, Below w.heap.size w v → Φ (fun _ => false) (fun _ => undef) v)
    (hΦ : ∀ ls vs v v', C v → Φ ls vs v → Below v.heap.size v v' → Φ ls vs v')
    (h : ∃ aQ, (∀ W, C W → wpQuiet P l.toArray (fun v' => ∃ x : Ext W, v' = x.w) (fun a' => a' = aQ) (qOf L 0 (l.take n)) a) ∧
      HeadEndG P l L C Φ (fun a w => wpList P l.toArray Q (l.drop n) a w) aQ) : (Code.region id l.toArray true).wp P Q a w := by
  simp only [Bool.and_eq_true, List.all_eq_true] at hB
  obtain ⟨⟨hB, hd⟩, ho⟩ := hB
  obtain ⟨aQ, h, he⟩ := h
  refine wp_region_headG n L C (fun W v' => ∃ x : Ext W, v' = x.w) Φ hm hB (hC _ _ hw (Below.refl _ w).drew) (h0 _ (Below.refl _ w).drew) (fun p hp o hpo hn => ?_) (fun v _ => Over.refl v) (fun _ _ h k => hC _ _ h (Over.below k))
    (fun ls vs v v' hc h k => hΦ ls vs v v' hc h (Over.below k)) (qs_of_q (fun v _ => Over.refl v) w hw he _ 0 a hd h)
  have := ho p hp
  rw [hpo] at this
  simpa [hn] using this

end Go.Proofs.Ytipablcbkoedbaa

namespace Go.Proofs.Ytipablcbkoedbaa
open Go.RowKit

def smV (ks ks' : List (Int × Int)) (err err' : Int) : Bool := if twErr ks ks' err err' = 0 then (if err = err' then decide (thL ks = thL ks') else false) else false
/-- What is known of one thinned curve while a region draws its order: the call's slot i, the field's slot j. -/
def thH (R : List (Int × Int)) (err : Int) (i j : Nat) (ls : Nat → Bool) (vs : Nat → Value) (v : World) : Prop :=
  (ls i = true → ∃ A n cap, vs i = vCv A n cap err ∧ CAt v A n R ∧ n ≤ 1000 ∧ (ls j = true → vs j = .slice A n cap)) ∧ (ls j = true → ls i = true)
theorem thH.below {R : List (Int × Int)} {err : Int} {i j : Nat} {ls : Nat → Bool} {vs : Nat → Value} {v v' : World} (h : thH R err i j ls vs v) (k : Below v.heap.size v v') : thH R err i j ls vs v' :=
  ⟨fun h1 => by obtain ⟨A, n, cap, e, hc, hn, hf⟩ := h.1 h1; exact ⟨A, n, cap, e, hc.below k, hn, hf⟩, h.2⟩
theorem thH.other {R : List (Int × Int)} {err : Int} {i j m : Nat} {ls : Nat → Bool} {vs : Nat → Value} {v : World} {u : Value} (h : thH R err i j ls vs v) (h1 : m ≠ i) (h2 : m ≠ j) : thH R err i j (updB ls m) (upd vs m u) v := by
  unfold thH at *
  simpa [upd, updB, Ne.symm h1, Ne.symm h2] using h
theorem thH.call {R : List (Int × Int)} {err : Int} {i j : Nat} {ls : Nat → Bool} {vs : Nat → Value} {v v' : World} {A : Option Addr} {n cap : Nat} (h : thH R err i j ls vs v) (hi : ls i = false) (hij : j ≠ i) (hc : CAt v' A n R) (hn : n ≤ 1000) : thH R err i j (updB ls i) (upd vs i (vCv A n cap err)) v' := by
  refine ⟨fun _ => ⟨A, n, cap, by simp [upd], hc, hn, fun hj => ?_⟩, fun _ => by simp [updB]⟩
  have hj : ls j = true := by simpa [updB, hij] using hj
  rw [h.2 hj] at hi; cases hi
theorem thH.field {R : List (Int × Int)} {err : Int} {i j : Nat} {ls : Nat → Bool} {vs : Nat → Value} {v : World} {A : Option Addr} {n cap : Nat} (h : thH R err i j ls vs v) (hi : ls i = true) (hij : i ≠ j) (e : vs i = vCv A n cap err) : thH R err i j (updB ls j) (upd vs j (.slice A n cap)) v := by
  refine ⟨fun _ => ?_, fun _ => by simpa [updB, hij] using hi⟩
  obtain ⟨A1, n1, cap1, e1, hc, hn, _⟩ := h.1 hi
  rw [e] at e1
  have h3 : A = A1 ∧ n = n1 ∧ cap = cap1 := by simpa [vCv] using e1
  obtain ⟨rfl, rfl, rfl⟩ := h3
  exact ⟨A, n, cap, by simpa [upd, hij] using e, hc, hn, fun _ => by simp [upd]⟩
def slH (R : List (Int × Int)) (i : Nat) (ls : Nat → Bool) (vs : Nat → Value) (v : World) : Prop :=
  ls i = true → ∃ A n cap, vs i = .slice A n cap ∧ CAt v A n R ∧ n ≤ 1000
theorem slH.below {R : List (Int × Int)} {i : Nat} {ls : Nat → Bool} {vs : Nat → Value} {v v' : World} (h : slH R i ls vs v) (k : Below v.heap.size v v') : slH R i ls vs v' :=
  fun h1 => by obtain ⟨A, n, cap, e, hc, hn⟩ := h h1; exact ⟨A, n, cap, e, hc.below k, hn⟩
theorem slH.other {R : List (Int × Int)} {i m : Nat} {ls : Nat → Bool} {vs : Nat → Value} {v : World} {u : Value} (h : slH R i ls vs v) (h1 : m ≠ i) : slH R i (updB ls m) (upd vs m u) v := by
  unfold slH at *
  simpa [upd, updB, Ne.symm h1] using h
theorem slH.call {R : List (Int × Int)} {i : Nat} {ls : Nat → Bool} {vs : Nat → Value} {v' : World} {A : Option Addr} {n cap : Nat} (hc : CAt v' A n R) (hn : n ≤ 1000) : slH R i (updB ls i) (upd vs i (.slice A n cap)) v' :=
  fun _ => ⟨A, n, cap, by simp [upd], hc, hn⟩


set_option maxRecDepth 100000 in
set_option maxHeartbeats 6400000 in
theorem Same_any (A A' : Option Addr) (n cap n' cap' : Nat) (err err' : Int) (ks ks' : List (Int × Int)) (w : World) (h : CAt w A n ks) (hm : n ≤ 9223372036854775807) (h' : CAt w A' n' ks') (hm' : n' ≤ 9223372036854775807) :
    Calls Try.prog 61 #[vCv A n cap err, vCv A' n' cap' err'] w fun e w' => e = .returned (.tuple #[.bool (smV ks ks' err err'), .int .i64 (twErr ks ks' err err')]) ∧ Below w.heap.size w w' := by
  have hS := fun W (q : Nat) (hW : LAt W (some ⟨q, 0, none⟩) 2 [⟨A, n, cap, err, ks⟩, ⟨A', n', cap', err', ks'⟩]) => checked_any (some ⟨q, 0, none⟩) 2 2 [⟨A, n, cap, err, ks⟩, ⟨A', n', cap', err', ks'⟩] W hW (by omega)
  rw [tw_all] at hS
  have HS := Lib.hid hS
  have HA := Lib.hid h
  have HA' := Lib.hid h'
  have hsm : smV ks ks' err err' = if twErr ks ks' err err' = 0 then (if err = err' then decide (thL ks = thL ks') else false) else false := rfl
  rw [hsm]
  clear hsm
  by_cases hz : twErr ks ks' err err' = 0
  case neg =>
    rw [if_neg hz]
    have hz1 : (twErr ks ks' err err' != 0) = true := by simpa using hz
    clear h h' hz hS
    generalize twErr ks ks' err err' = te at *
    generalize hW : (w.alloc (.cells #[.slice A n cap, .int .i64 err] 24)).alloc (.cells #[.slice A' n' cap', .int .i64 err'] 24) = W
    have B0 : Below w.heap.size w W := by rw [← hW]; exact (((Below.refl w.heap.size w).alloc (Nat.le_refl _) _).alloc (by simp) _)
    have x0_0 : Blk W w.heap.size 24 #[.slice A n cap, .int .i64 err] := by rw [← hW]; exact ((Blk.at_new _ _ rfl).alloc _)
    have x1_0 : Blk W (w.heap.size + 1) 24 #[.slice A' n' cap', .int .i64 err'] := by rw [← hW]; exact (Blk.at_new _ _ (by simp))
    have HWE := Lib.hid hW
    clear hW
    have HLb := Lib.hid (fun q V (hV : Blk V q 24 #[.slice A n cap, .int .i64 err, .slice A' n' cap', .int .i64 err']) (hb : Below w.heap.size w V) => lat_two hV (HA.out.below hb) hm (HA'.out.below hb) hm')
    go_enter Try.func61, Try.ntmps61
    have B1 := B0
    have B1a := B1.alloc B1.size (.cells #[.slice A n cap, .int .i64 err, .slice A' n' cap', .int .i64 err'] 24)
    go_wp2_with fail
    rw [HWE.out]
    refine (HS.out _ _ (HLb.out _ _ (Blk.at_new (g := w.heap.size + 1 + 1) _ _ (by rw [← HWE.out]; simp)) B1a)).mono ?_; rintro e w1 ⟨rfl, hb1⟩
    have x0_1 := (x0_0.alloc (.cells #[.slice A n cap, .int .i64 err, .slice A' n' cap', .int .i64 err'] 24)).below hb1
    have x1_1 := (x1_0.alloc (.cells #[.slice A n cap, .int .i64 err, .slice A' n' cap', .int .i64 err'] 24)).below hb1
    clear x0_0 x1_0
    have x0_1c0 := x0_1.cell 0
    have x0_1c1 := x0_1.cell 1
    simp only [List.getElem?_toArray, List.getElem?_cons_zero, List.getElem?_cons_succ] at x0_1c0 x0_1c1
    have x0_1l := x0_1.lt
    have x1_1c0 := x1_1.cell 0
    have x1_1c1 := x1_1.cell 1
    simp only [List.getElem?_toArray, List.getElem?_cons_zero, List.getElem?_cons_succ] at x1_1c0 x1_1c1
    have x1_1l := x1_1.lt
    go_wp2
    exact bodyPost_ret (v := .tuple #[.bool false, .int .i64 te]) (by simp [results, Try.results61, go_sem]) rfl ⟨rfl, B1a.trans (hb1.mono B1a.size)⟩
  rw [if_pos hz, hz]
  rw [hz] at hS
  have HS := Lib.hid hS
  clear hS
  obtain ⟨hv, hv', he, he'⟩ := tw_valid hz
  have hkn := h.len
  have hkn' := h'.len
  have hv0 := hv.pos
  have hv0' := hv'.pos
  obtain ⟨b, off, rfl, hkb⟩ := h.at_ (by omega)
  obtain ⟨b', off', rfl, hkb'⟩ := h'.at_ (by omega)
  have HK := Lib.hid hkb
  have HK' := Lib.hid hkb'
  have HV := Lib.hid hv
  have HV' := Lib.hid hv'
  have HNn := Lib.hid hkn
  have HNn' := Lib.hid hkn'
  clear h h' hkb hkb' hv hv' hz hkn hkn' hv0 hv0'
  by_cases hee : err = err'
  case neg =>
    rw [if_neg hee]
    have hq1 : (err == err') = false := by simpa using hee
    clear hee
    generalize hW : (w.alloc (.cells #[.slice (some ⟨b, off, none⟩) n cap, .int .i64 err] 24)).alloc (.cells #[.slice (some ⟨b', off', none⟩) n' cap', .int .i64 err'] 24) = W
    have B0 : Below w.heap.size w W := by rw [← hW]; exact (((Below.refl w.heap.size w).alloc (Nat.le_refl _) _).alloc (by simp) _)
    have x0_0 : Blk W w.heap.size 24 #[.slice (some ⟨b, off, none⟩) n cap, .int .i64 err] := by rw [← hW]; exact ((Blk.at_new _ _ rfl).alloc _)
    have x1_0 : Blk W (w.heap.size + 1) 24 #[.slice (some ⟨b', off', none⟩) n' cap', .int .i64 err'] := by rw [← hW]; exact (Blk.at_new _ _ (by simp))
    have HWE := Lib.hid hW
    clear hW
    have HLb := Lib.hid (fun q V (hV : Blk V q 24 #[.slice (some ⟨b, off, none⟩) n cap, .int .i64 err, .slice (some ⟨b', off', none⟩) n' cap', .int .i64 err']) (hb : Below w.heap.size w V) => lat_two hV (HA.out.below hb) hm (HA'.out.below hb) hm')
    go_enter Try.func61, Try.ntmps61
    have B1 := B0
    have B1a := B1.alloc B1.size (.cells #[.slice (some ⟨b, off, none⟩) n cap, .int .i64 err, .slice (some ⟨b', off', none⟩) n' cap', .int .i64 err'] 24)
    go_wp2_with fail
    rw [HWE.out]
    refine (HS.out _ _ (HLb.out _ _ (Blk.at_new (g := w.heap.size + 1 + 1) _ _ (by rw [← HWE.out]; simp)) B1a)).mono ?_; rintro e w1 ⟨rfl, hb1⟩
    have x0_1 := (x0_0.alloc (.cells #[.slice (some ⟨b, off, none⟩) n cap, .int .i64 err, .slice (some ⟨b', off', none⟩) n' cap', .int .i64 err'] 24)).below hb1
    have x1_1 := (x1_0.alloc (.cells #[.slice (some ⟨b, off, none⟩) n cap, .int .i64 err, .slice (some ⟨b', off', none⟩) n' cap', .int .i64 err'] 24)).below hb1
    clear x0_0 x1_0
    have x0_1c0 := x0_1.cell 0
    have x0_1c1 := x0_1.cell 1
    simp only [List.getElem?_toArray, List.getElem?_cons_zero, List.getElem?_cons_succ] at x0_1c0 x0_1c1
    have x0_1l := x0_1.lt
    have x1_1c0 := x1_1.cell 0
    have x1_1c1 := x1_1.cell 1
    simp only [List.getElem?_toArray, List.getElem?_cons_zero, List.getElem?_cons_succ] at x1_1c0 x1_1c1
    have x1_1l := x1_1.lt
    go_upto_region 4 with fail
    obtain ⟨xc, xf⟩ := xcell (W := w1)
    refine wp_region_quiet_tail 14 (by kernel_rfl) (by kernel_rfl) ?_
    simp only [List.take_succ_cons, List.take_zero, List.drop_succ_cons, List.drop_zero]
    repeat (first | go_big_quiet_step (fail) | quiet_step (fail))
    refine wpQuiet_nil ?_
    intro w50 hb50
    have B50 := B1a.trans (hb1.mono B1a.size)
    clear xc xf
    go_wp2
    exact bodyPost_ret (v := .tuple #[.bool false, .int .i64 0]) (by simp [results, Try.results61, go_sem]) rfl ⟨rfl, B50.trans (hb50.mono B50.size)⟩
  rw [if_pos hee]
  have hq1 : (err == err') = true := by simpa using hee
  have HE2 := Lib.hid hee
  clear hee
  have HEq := Lib.hid (fun A1 n1 cap1 A2 n2 cap2 W (hW : CAt W A1 n1 (thL ks)) (h1 : n1 ≤ 1000) (hW' : CAt W A2 n2 (thL ks')) (h2 : n2 ≤ 1000) => EqualKnots_any A1 A2 n1 cap1 n2 cap2 (thL ks) (thL ks') W hW (by omega) hW' (by omega))
  have HT := Lib.hid (fun W (hW : Kn W b off ks) => thin_any b off cap err ks W hW HV.out)
  have HT' := Lib.hid (fun W (hW : Kn W b' off' ks') => thin_any b' off' cap' err' ks' W hW HV'.out)
  rw [HNn.out] at HT
  rw [HNn'.out] at HT'
  generalize thL ks = R at *
  generalize thL ks' = R' at *
  generalize hW : (w.alloc (.cells #[.slice (some ⟨b, off, none⟩) n cap, .int .i64 err] 24)).alloc (.cells #[.slice (some ⟨b', off', none⟩) n' cap', .int .i64 err'] 24) = W
  have B0 : Below w.heap.size w W := by rw [← hW]; exact (((Below.refl w.heap.size w).alloc (Nat.le_refl _) _).alloc (by simp) _)
  have x0_0 : Blk W w.heap.size 24 #[.slice (some ⟨b, off, none⟩) n cap, .int .i64 err] := by rw [← hW]; exact ((Blk.at_new _ _ rfl).alloc _)
  have x1_0 : Blk W (w.heap.size + 1) 24 #[.slice (some ⟨b', off', none⟩) n' cap', .int .i64 err'] := by rw [← hW]; exact (Blk.at_new _ _ (by simp))
  have HWE := Lib.hid hW
  clear hW
  have HLb := Lib.hid (fun q V (hV : Blk V q 24 #[.slice (some ⟨b, off, none⟩) n cap, .int .i64 err, .slice (some ⟨b', off', none⟩) n' cap', .int .i64 err']) (hb : Below w.heap.size w V) => lat_two hV (HA.out.below hb) hm (HA'.out.below hb) hm')
  go_enter Try.func61, Try.ntmps61
  have B1 := B0
  have B1a := B1.alloc B1.size (.cells #[.slice (some ⟨b, off, none⟩) n cap, .int .i64 err, .slice (some ⟨b', off', none⟩) n' cap', .int .i64 err'] 24)
  go_wp2_with fail
  rw [HWE.out]
  refine (HS.out _ _ (HLb.out _ _ (Blk.at_new (g := w.heap.size + 1 + 1) _ _ (by rw [← HWE.out]; simp)) B1a)).mono ?_; rintro e w1 ⟨rfl, hb1⟩
  have x0_1 := (x0_0.alloc (.cells #[.slice (some ⟨b, off, none⟩) n cap, .int .i64 err, .slice (some ⟨b', off', none⟩) n' cap', .int .i64 err'] 24)).below hb1
  have x1_1 := (x1_0.alloc (.cells #[.slice (some ⟨b, off, none⟩) n cap, .int .i64 err, .slice (some ⟨b', off', none⟩) n' cap', .int .i64 err'] 24)).below hb1
  clear x0_0 x1_0
  have x0_1c0 := x0_1.cell 0
  have x0_1c1 := x0_1.cell 1
  simp only [List.getElem?_toArray, List.getElem?_cons_zero, List.getElem?_cons_succ] at x0_1c0 x0_1c1
  have x0_1l := x0_1.lt
  have x1_1c0 := x1_1.cell 0
  have x1_1c1 := x1_1.cell 1
  simp only [List.getElem?_toArray, List.getElem?_cons_zero, List.getElem?_cons_succ] at x1_1c0 x1_1c1
  have x1_1l := x1_1.lt
  go_upto_region 4 with fail
  have HB0 := Lib.hid (B1a.trans (hb1.mono B1a.size))
  refine wp_region_preG 12 [(7, 21), (8, 22), (10, 24), (11, 25)] (fun ls vs v => thH R err 7 8 ls vs v ∧ thH R' err' 10 11 ls vs v) (by kernel_rfl) (by kernel_rfl) ?h0 ?hP ?ex
  case h0 => intro v _; simp [thH]
  case hP => exact fun ls vs v v' _ h k => ⟨h.1.below k, h.2.below k⟩
  case ex =>
    apply Exists.intro
    refine ⟨?walk, ?loud⟩
    case walk =>
      intro V hV
      have x0_v := x0_1.below hV
      have x0_vc0 := x0_v.cell 0
      have x0_vc1 := x0_v.cell 1
      simp only [List.getElem?_toArray, List.getElem?_cons_zero, List.getElem?_cons_succ] at x0_vc0 x0_vc1
      have x0_vl := x0_v.lt
      have x1_v := x1_1.below hV
      have x1_vc0 := x1_v.cell 0
      have x1_vc1 := x1_v.cell 1
      simp only [List.getElem?_toArray, List.getElem?_cons_zero, List.getElem?_cons_succ] at x1_vc0 x1_vc1
      have x1_vl := x1_v.lt
      obtain ⟨xc, xf⟩ := xcell (W := V)
      simp only [List.take_succ_cons, List.take_zero, qOf, isLoud, List.any_cons, List.any_nil, Nat.reduceBEq, Bool.or_false, Bool.or_true, Nat.reduceAdd, Bool.false_eq_true, if_true, if_false, beq_self_eq_true, Nat.zero_add]
      repeat (first | go_big_quiet_step (fail) | quiet_step (fail))
      exact wpQuiet_nil rfl
    case loud =>
      simp only [List.drop_succ_cons, List.drop_zero]
      refine ⟨?_, ?_⟩
      · rintro p hp vs v ⟨x, rfl⟩ ls ⟨hI, hI'⟩ hls hw o ho
        simp only [List.mem_cons, List.not_mem_nil, or_false] at hp
        rcases hp with rfl | rfl | rfl | rfl
        · simp only [List.getElem?_cons_succ, List.getElem?_cons_zero, Option.some.injEq] at ho
          subst ho
          refine ⟨by simp [Region.wanted, yielded, putsL, Act.put], ?_⟩
          simp [loudAt, loudUpon, go_sem, putsL, Act.put]
          refine (HT.out x.w ((HK.out.below HB0.out).below x.below)).mono ?_
          rintro e w5 ⟨A5, n5, cap5, rfl, hc5, hn5, _, hb5⟩
          exact ⟨_, rfl, Over.of (x.below.trans (hb5.mono x.below.size)), ⟨hI.call hls (by decide) hc5 hn5, (hI'.other (by decide) (by decide)).below hb5⟩⟩
        · have h12 := hw (7, 21) (by simp) (by kernel_rfl)
          simp only [List.getElem?_cons_succ, List.getElem?_cons_zero, Option.some.injEq] at ho
          subst ho
          obtain ⟨A5, n5, cap5, e5, hc5, hn5, hf5⟩ := hI.1 h12
          refine ⟨by simp [Region.wanted, yielded, putsL, Act.put], ?_⟩
          simp [loudAt, loudUpon, go_sem, execOp, putsL, Act.put, e5]
          exact ⟨Over.of x.below, ⟨hI.field h12 (by decide) e5, hI'.other (by decide) (by decide)⟩⟩
        · simp only [List.getElem?_cons_succ, List.getElem?_cons_zero, Option.some.injEq] at ho
          subst ho
          refine ⟨by simp [Region.wanted, yielded, putsL, Act.put], ?_⟩
          simp [loudAt, loudUpon, go_sem, putsL, Act.put]
          refine (HT'.out x.w ((HK'.out.below HB0.out).below x.below)).mono ?_
          rintro e w5 ⟨A5, n5, cap5, rfl, hc5, hn5, _, hb5⟩
          exact ⟨_, rfl, Over.of (x.below.trans (hb5.mono x.below.size)), ⟨(hI.other (by decide) (by decide)).below hb5, hI'.call hls (by decide) hc5 hn5⟩⟩
        · have h12 := hw (10, 24) (by simp) (by kernel_rfl)
          simp only [List.getElem?_cons_succ, List.getElem?_cons_zero, Option.some.injEq] at ho
          subst ho
          obtain ⟨A5, n5, cap5, e5, hc5, hn5, hf5⟩ := hI'.1 h12
          refine ⟨by simp [Region.wanted, yielded, putsL, Act.put], ?_⟩
          simp [loudAt, loudUpon, go_sem, execOp, putsL, Act.put, e5]
          exact ⟨Over.of x.below, ⟨hI.other (by decide) (by decide), hI'.field h12 (by decide) e5⟩⟩
      · rintro ls vs _ ⟨x, rfl⟩ ⟨hI, hI'⟩ hls
        have h21 := hls (7, 21) (by simp)
        have h22 := hls (8, 22) (by simp)
        have h24 := hls (10, 24) (by simp)
        have h25 := hls (11, 25) (by simp)
        obtain ⟨A5, n5, cap5, e5, hc5, hn5, hf5⟩ := hI.1 h21
        obtain ⟨A6, n6, cap6, e6, hc6, hn6, hf6⟩ := hI'.1 h24
        have f5 := hf5 h22
        have f6 := hf6 h25
        clear hI hI' hls h21 h22 h24 h25 hf5 hf6
        simp only [putsL, List.foldl_cons, List.foldl_nil, Act.put, e5, e6, f5, f6, List.setIfInBounds_toArray, List.set_cons_succ, List.set_cons_zero]
        clear e5 e6 f5 f6
        have hxb := x.below
        generalize x.w = vn at *
        have HXB := Lib.hid (HB0.out.trans (hxb.mono HB0.out.size))
        have HC5 := Lib.hid hc5
        have HC6 := Lib.hid hc6
        clear hc5 hc6 hxb
        go_wp2_with fail
        refine (HEq.out _ _ _ _ _ _ _ HC5.out hn5 HC6.out hn6).mono ?_; rintro e w8 ⟨rfl, hb8⟩
        obtain ⟨bq, hbq⟩ : ∃ bq, decide (R = R') = bq := ⟨_, rfl⟩
        rw [hbq]
        have HBQ := Lib.hid hbq
        clear hbq
        go_wp2
        exact bodyPost_ret (v := .tuple #[.bool bq, .int .i64 0]) (by simp [results, Try.results61, go_sem]) rfl ⟨by rw [HBQ.out], (HXB.out.trans (hb8.mono HXB.out.size))⟩

set_option maxRecDepth 100000 in
set_option maxHeartbeats 6400000 in
theorem RSame_any (A A' : Option Addr) (n cap n' cap' : Nat) (err err' : Int) (ks ks' : List (Int × Int)) (w : World) (h : CAt w A n ks) (hm : n ≤ 9223372036854775807) (h' : CAt w A' n' ks') (hm' : n' ≤ 9223372036854775807) :
    Calls Try.prog 62 #[vCv A n cap err, vCv A' n' cap' err'] w fun e w' => e = .returned (.tuple #[.bool (smV ks ks' err err'), .int .i64 (twErr ks ks' err err')]) ∧ Below w.heap.size w w' := by
  have hS := fun W (hW : CAt W A n ks) (hW' : CAt W A' n' ks') => two_any A A' n cap n' cap' err err' ks ks' W hW hm hW' hm'
  have HS := Lib.hid hS
  have HA := Lib.hid h
  have HA' := Lib.hid h'
  have hsm : smV ks ks' err err' = if twErr ks ks' err err' = 0 then (if err = err' then decide (thL ks = thL ks') else false) else false := rfl
  rw [hsm]
  clear hsm
  by_cases hz : twErr ks ks' err err' = 0
  case neg =>
    rw [if_neg hz]
    have hz1 : (twErr ks ks' err err' != 0) = true := by simpa using hz
    clear h h' hz hS
    generalize twErr ks ks' err err' = te at *
    generalize hW : (w.alloc (.cells #[.slice A n cap, .int .i64 err] 24)).alloc (.cells #[.slice A' n' cap', .int .i64 err'] 24) = W
    have B0 : Below w.heap.size w W := by rw [← hW]; exact (((Below.refl w.heap.size w).alloc (Nat.le_refl _) _).alloc (by simp) _)
    have x0_0 : Blk W w.heap.size 24 #[.slice A n cap, .int .i64 err] := by rw [← hW]; exact ((Blk.at_new _ _ rfl).alloc _)
    have x1_0 : Blk W (w.heap.size + 1) 24 #[.slice A' n' cap', .int .i64 err'] := by rw [← hW]; exact (Blk.at_new _ _ (by simp))
    have HWE := Lib.hid hW
    clear hW
    go_enter Try.func62, Try.ntmps62
    have B1 := B0
    go_wp2_with fail
    rw [HWE.out]
    refine (HS.out _ (HA.out.below B1) (HA'.out.below B1)).mono ?_; rintro e w1 ⟨rfl, hb1⟩
    have x0_1 := x0_0.below hb1
    have x1_1 := x1_0.below hb1
    clear x0_0 x1_0
    have x0_1c0 := x0_1.cell 0
    have x0_1c1 := x0_1.cell 1
    simp only [List.getElem?_toArray, List.getElem?_cons_zero, List.getElem?_cons_succ] at x0_1c0 x0_1c1
    have x0_1l := x0_1.lt
    have x1_1c0 := x1_1.cell 0
    have x1_1c1 := x1_1.cell 1
    simp only [List.getElem?_toArray, List.getElem?_cons_zero, List.getElem?_cons_succ] at x1_1c0 x1_1c1
    have x1_1l := x1_1.lt
    go_wp2
    exact bodyPost_ret (v := .tuple #[.bool false, .int .i64 te]) (by simp [results, Try.results62, go_sem]) rfl ⟨rfl, B1.trans (hb1.mono B1.size)⟩
  rw [if_pos hz, hz]
  rw [hz] at hS
  have HS := Lib.hid hS
  clear hS
  obtain ⟨hv, hv', he, he'⟩ := tw_valid hz
  have hkn := h.len
  have hkn' := h'.len
  have hv0 := hv.pos
  have hv0' := hv'.pos
  obtain ⟨b, off, rfl, hkb⟩ := h.at_ (by omega)
  obtain ⟨b', off', rfl, hkb'⟩ := h'.at_ (by omega)
  have HK := Lib.hid hkb
  have HK' := Lib.hid hkb'
  have HV := Lib.hid hv
  have HV' := Lib.hid hv'
  have HNn := Lib.hid hkn
  have HNn' := Lib.hid hkn'
  clear h h' hkb hkb' hv hv' hz hkn hkn' hv0 hv0'
  by_cases hee : err = err'
  case neg =>
    rw [if_neg hee]
    have hq1 : (err == err') = false := by simpa using hee
    clear hee
    generalize hW : (w.alloc (.cells #[.slice (some ⟨b, off, none⟩) n cap, .int .i64 err] 24)).alloc (.cells #[.slice (some ⟨b', off', none⟩) n' cap', .int .i64 err'] 24) = W
    have B0 : Below w.heap.size w W := by rw [← hW]; exact (((Below.refl w.heap.size w).alloc (Nat.le_refl _) _).alloc (by simp) _)
    have x0_0 : Blk W w.heap.size 24 #[.slice (some ⟨b, off, none⟩) n cap, .int .i64 err] := by rw [← hW]; exact ((Blk.at_new _ _ rfl).alloc _)
    have x1_0 : Blk W (w.heap.size + 1) 24 #[.slice (some ⟨b', off', none⟩) n' cap', .int .i64 err'] := by rw [← hW]; exact (Blk.at_new _ _ (by simp))
    have HWE := Lib.hid hW
    clear hW
    go_enter Try.func62, Try.ntmps62
    have B1 := B0
    go_wp2_with fail
    rw [HWE.out]
    refine (HS.out _ (HA.out.below B1) (HA'.out.below B1)).mono ?_; rintro e w1 ⟨rfl, hb1⟩
    have x0_1 := x0_0.below hb1
    have x1_1 := x1_0.below hb1
    clear x0_0 x1_0
    have x0_1c0 := x0_1.cell 0
    have x0_1c1 := x0_1.cell 1
    simp only [List.getElem?_toArray, List.getElem?_cons_zero, List.getElem?_cons_succ] at x0_1c0 x0_1c1
    have x0_1l := x0_1.lt
    have x1_1c0 := x1_1.cell 0
    have x1_1c1 := x1_1.cell 1
    simp only [List.getElem?_toArray, List.getElem?_cons_zero, List.getElem?_cons_succ] at x1_1c0 x1_1c1
    have x1_1l := x1_1.lt
    go_upto_region 4 with fail
    obtain ⟨xc, xf⟩ := xcell (W := w1)
    refine wp_region_quiet_tail 14 (by kernel_rfl) (by kernel_rfl) ?_
    simp only [List.take_succ_cons, List.take_zero, List.drop_succ_cons, List.drop_zero]
    repeat (first | go_big_quiet_step (fail) | quiet_step (fail))
    refine wpQuiet_nil ?_
    intro w50 hb50
    have B50 := B1.trans (hb1.mono B1.size)
    clear xc xf
    go_wp2
    exact bodyPost_ret (v := .tuple #[.bool false, .int .i64 0]) (by simp [results, Try.results62, go_sem]) rfl ⟨rfl, B50.trans (hb50.mono B50.size)⟩
  rw [if_pos hee]
  have hq1 : (err == err') = true := by simpa using hee
  have HE2 := Lib.hid hee
  clear hee
  have HEq := Lib.hid (fun A1 n1 cap1 A2 n2 cap2 W (hW : CAt W A1 n1 (thL ks)) (h1 : n1 ≤ 1000) (hW' : CAt W A2 n2 (thL ks')) (h2 : n2 ≤ 1000) => SameKnots_any A1 A2 n1 cap1 n2 cap2 (thL ks) (thL ks') W hW (by omega) hW' (by omega))
  have HT := Lib.hid (fun W (hW : Kn W b off ks) => Rthin_any b off cap n ks W hW HNn.out HV.out)
  have HT' := Lib.hid (fun W (hW : Kn W b' off' ks') => Rthin_any b' off' cap' n' ks' W hW HNn'.out HV'.out)
  generalize thL ks = R at *
  generalize thL ks' = R' at *
  generalize hW : (w.alloc (.cells #[.slice (some ⟨b, off, none⟩) n cap, .int .i64 err] 24)).alloc (.cells #[.slice (some ⟨b', off', none⟩) n' cap', .int .i64 err'] 24) = W
  have B0 : Below w.heap.size w W := by rw [← hW]; exact (((Below.refl w.heap.size w).alloc (Nat.le_refl _) _).alloc (by simp) _)
  have x0_0 : Blk W w.heap.size 24 #[.slice (some ⟨b, off, none⟩) n cap, .int .i64 err] := by rw [← hW]; exact ((Blk.at_new _ _ rfl).alloc _)
  have x1_0 : Blk W (w.heap.size + 1) 24 #[.slice (some ⟨b', off', none⟩) n' cap', .int .i64 err'] := by rw [← hW]; exact (Blk.at_new _ _ (by simp))
  have HWE := Lib.hid hW
  clear hW
  go_enter Try.func62, Try.ntmps62
  have B1 := B0
  go_wp2_with fail
  rw [HWE.out]
  refine (HS.out _ (HA.out.below B1) (HA'.out.below B1)).mono ?_; rintro e w1 ⟨rfl, hb1⟩
  have x0_1 := x0_0.below hb1
  have x1_1 := x1_0.below hb1
  clear x0_0 x1_0
  have x0_1c0 := x0_1.cell 0
  have x0_1c1 := x0_1.cell 1
  simp only [List.getElem?_toArray, List.getElem?_cons_zero, List.getElem?_cons_succ] at x0_1c0 x0_1c1
  have x0_1l := x0_1.lt
  have x1_1c0 := x1_1.cell 0
  have x1_1c1 := x1_1.cell 1
  simp only [List.getElem?_toArray, List.getElem?_cons_zero, List.getElem?_cons_succ] at x1_1c0 x1_1c1
  have x1_1l := x1_1.lt
  go_upto_region 4 with fail
  have HB0 := Lib.hid (B1.trans (hb1.mono B1.size))
  refine wp_region_preG 12 [(8, 21), (11, 24)] (fun ls vs v => slH R 8 ls vs v ∧ slH R' 11 ls vs v) (by kernel_rfl) (by kernel_rfl) ?h0 ?hP ?ex
  case h0 => intro v _; simp [slH]
  case hP => exact fun ls vs v v' _ h k => ⟨h.1.below k, h.2.below k⟩
  case ex =>
    apply Exists.intro
    refine ⟨?walk, ?loud⟩
    case walk =>
      intro V hV
      have x0_v := x0_1.below hV
      have x0_vc0 := x0_v.cell 0
      have x0_vc1 := x0_v.cell 1
      simp only [List.getElem?_toArray, List.getElem?_cons_zero, List.getElem?_cons_succ] at x0_vc0 x0_vc1
      have x0_vl := x0_v.lt
      have x1_v := x1_1.below hV
      have x1_vc0 := x1_v.cell 0
      have x1_vc1 := x1_v.cell 1
      simp only [List.getElem?_toArray, List.getElem?_cons_zero, List.getElem?_cons_succ] at x1_vc0 x1_vc1
      have x1_vl := x1_v.lt
      obtain ⟨xc, xf⟩ := xcell (W := V)
      simp only [List.take_succ_cons, List.take_zero, qOf, isLoud, List.any_cons, List.any_nil, Nat.reduceBEq, Bool.or_false, Bool.or_true, Nat.reduceAdd, Bool.false_eq_true, if_true, if_false, beq_self_eq_true, Nat.zero_add]
      repeat (first | go_big_quiet_step (fail) | quiet_step (fail))
      exact wpQuiet_nil rfl
    case loud =>
      simp only [List.drop_succ_cons, List.drop_zero]
      refine ⟨?_, ?_⟩
      · rintro p hp vs v ⟨x, rfl⟩ ls ⟨hI, hI'⟩ hls hw o ho
        simp only [List.mem_cons, List.not_mem_nil, or_false] at hp
        rcases hp with rfl | rfl
        · simp only [List.getElem?_cons_succ, List.getElem?_cons_zero, Option.some.injEq] at ho
          subst ho
          refine ⟨by simp [Region.wanted, yielded, putsL, Act.put], ?_⟩
          simp [loudAt, loudUpon, go_sem, putsL, Act.put]
          refine (HT.out x.w ((HK.out.below HB0.out).below x.below)).mono ?_
          rintro e w5 ⟨A5, n5, cap5, rfl, hc5, hn5, _, hb5⟩
          exact ⟨_, rfl, Over.of (x.below.trans (hb5.mono x.below.size)), ⟨slH.call hc5 hn5, (hI'.other (by decide)).below hb5⟩⟩
        · simp only [List.getElem?_cons_succ, List.getElem?_cons_zero, Option.some.injEq] at ho
          subst ho
          refine ⟨by simp [Region.wanted, yielded, putsL, Act.put], ?_⟩
          simp [loudAt, loudUpon, go_sem, putsL, Act.put]
          refine (HT'.out x.w ((HK'.out.below HB0.out).below x.below)).mono ?_
          rintro e w5 ⟨A5, n5, cap5, rfl, hc5, hn5, _, hb5⟩
          exact ⟨_, rfl, Over.of (x.below.trans (hb5.mono x.below.size)), ⟨(hI.other (by decide)).below hb5, slH.call hc5 hn5⟩⟩
      · rintro ls vs _ ⟨x, rfl⟩ ⟨hI, hI'⟩ hls
        have h21 := hls (8, 21) (by simp)
        have h24 := hls (11, 24) (by simp)
        obtain ⟨A5, n5, cap5, e5, hc5, hn5⟩ := hI h21
        obtain ⟨A6, n6, cap6, e6, hc6, hn6⟩ := hI' h24
        clear hI hI' hls h21 h24
        simp only [putsL, List.foldl_cons, List.foldl_nil, Act.put, e5, e6, List.setIfInBounds_toArray, List.set_cons_succ, List.set_cons_zero]
        clear e5 e6
        have hxb := x.below
        generalize x.w = vn at *
        have HXB := Lib.hid (HB0.out.trans (hxb.mono HB0.out.size))
        have HC5 := Lib.hid hc5
        have HC6 := Lib.hid hc6
        clear hc5 hc6 hxb
        go_wp2_with fail
        refine (HEq.out _ _ _ _ _ _ _ HC5.out hn5 HC6.out hn6).mono ?_; rintro e w8 ⟨rfl, hb8⟩
        obtain ⟨bq, hbq⟩ : ∃ bq, decide (R = R') = bq := ⟨_, rfl⟩
        rw [hbq]
        have HBQ := Lib.hid hbq
        clear hbq
        go_wp2
        exact bodyPost_ret (v := .tuple #[.bool bq, .int .i64 0]) (by simp [results, Try.results62, go_sem]) rfl ⟨by rw [HBQ.out], (HXB.out.trans (hb8.mono HXB.out.size))⟩
end Go.Proofs.Ytipablcbkoedbaa

namespace Go.Proofs.Ytipablcbkoedbaa
open Go.RowKit

def putL : List (Int × Int) → Int × Int → List (Int × Int)
  | [], k => [k]
  | q :: l, k => if q.1 < k.1 then q :: putL l k else if q.1 = k.1 then q :: l else k :: q :: l
theorem putL_len : ∀ (l : List (Int × Int)) (k : Int × Int), (putL l k).length ≤ l.length + 1
  | [], k => by simp [putL]
  | q :: l, k => by
    have := putL_len l k
    unfold putL
    split
    · simp; omega
    · split <;> simp
theorem putL_fst {x : Int} : ∀ (l : List (Int × Int)) (k : Int × Int), x ∈ (putL l k).map Prod.fst ↔ x ∈ l.map Prod.fst ∨ x = k.1
  | [], k => by simp [putL]
  | q :: l, k => by
    have ih := putL_fst (x := x) l k
    unfold putL
    split
    · simp only [List.map_cons, List.mem_cons, ih]
      constructor
      · rintro (h | h | h)
        · exact .inl (.inl h)
        · exact .inl (.inr h)
        · exact .inr h
      · rintro ((h | h) | h)
        · exact .inl h
        · exact .inr (.inl h)
        · exact .inr (.inr h)
    · split
      · rename_i h
        simp only [List.map_cons, List.mem_cons]
        constructor
        · exact .inl
        · rintro (h1 | h1)
          · exact h1
          · exact .inl (h1.trans h.symm)
      · simp only [List.map_cons, List.mem_cons]
        constructor
        · rintro (h | h | h)
          · exact .inr h
          · exact .inl (.inl h)
          · exact .inl (.inr h)
        · rintro ((h | h) | h)
          · exact .inr (.inl h)
          · exact .inr (.inr h)
          · exact .inl h
theorem putL_of {p : Int × Int → Prop} : ∀ (l : List (Int × Int)) (k : Int × Int), (∀ z ∈ l, p z) → p k → ∀ z ∈ putL l k, p z
  | [], k, _, hk, z, hz => by
    have : z = k := by simpa [putL] using hz
    rw [this]; exact hk
  | q :: l, k, hl, hk, z, hz => by
    unfold putL at hz
    split at hz
    · rcases List.mem_cons.1 hz with rfl | hz
      · exact hl _ (by simp)
      · exact putL_of l k (fun z h => hl z (by simp [h])) hk z hz
    · split at hz
      · exact hl z hz
      · rcases List.mem_cons.1 hz with rfl | hz
        · exact hk
        · exact hl z hz
abbrev Inc (l : List (Int × Int)) : Prop := l.Pairwise fun a b => a.1 < b.1
theorem putL_inc : ∀ (l : List (Int × Int)) (k : Int × Int), Inc l → Inc (putL l k)
  | [], k, _ => by simp [putL, Inc]
  | q :: l, k, h => by
    have h1 := List.pairwise_cons.1 h
    unfold putL
    split
    · rename_i hq
      exact List.pairwise_cons.2 ⟨putL_of l k h1.1 hq, putL_inc l k h1.2⟩
    · split
      · exact h
      · rename_i a b
        refine List.pairwise_cons.2 ⟨fun z hz => ?_, h⟩
        rcases List.mem_cons.1 hz with rfl | hz
        · omega
        · have := h1.1 z hz
          omega
theorem inc_eq : ∀ (a b : List Int), a.Pairwise (· < ·) → b.Pairwise (· < ·) → (∀ x, x ∈ a ↔ x ∈ b) → a = b
  | [], [], _, _, _ => rfl
  | [], y :: b, _, _, h => absurd ((h y).2 (by simp)) (by simp)
  | x :: a, [], _, _, h => absurd ((h x).1 (by simp)) (by simp)
  | x :: a, y :: b, ha, hb, h => by
    have ha1 := List.pairwise_cons.1 ha
    have hb1 := List.pairwise_cons.1 hb
    have e : x = y := by
      rcases List.mem_cons.1 ((h x).1 (by simp)) with e | e
      · exact e
      · rcases List.mem_cons.1 ((h y).2 (by simp)) with e2 | e2
        · exact e2.symm
        · have := hb1.1 _ e
          have := ha1.1 _ e2
          omega
    subst e
    rw [inc_eq a b ha1.2 hb1.2 fun z => ?_]
    constructor
    · intro hz
      rcases List.mem_cons.1 ((h z).1 (by simp [hz])) with e | e
      · have := ha1.1 z hz
        omega
      · exact e
    · intro hz
      rcases List.mem_cons.1 ((h z).2 (by simp [hz])) with e | e
      · have := hb1.1 z hz
        omega
      · exact e
/-- A list in order whose second numbers are a function of the first is that function of its first numbers. -/
theorem inc_map {f : Int → Int} {l : List (Int × Int)} (h : ∀ z ∈ l, z.2 = f z.1) : l = (l.map Prod.fst).map fun x => (x, f x) := by
  rw [List.map_map]
  conv => lhs; rw [← List.map_id l]
  refine List.map_congr_left fun z hz => ?_
  obtain ⟨x, y⟩ := z
  have := h (x, y) hz
  simp only at this
  simp [this]
theorem inc_fst {l : List (Int × Int)} (h : Inc l) : (l.map Prod.fst).Pairwise (· < ·) := List.pairwise_map.2 h
def putAll (f : Int → Int) (l : List (Int × Int)) (xs : List Int) : List (Int × Int) := xs.foldl (fun l x => putL l (x, f x)) l
theorem putAll_spec {f : Int → Int} : ∀ (xs : List Int) (l : List (Int × Int)), Inc l → (∀ z ∈ l, z.2 = f z.1) →
    Inc (putAll f l xs) ∧ (∀ z ∈ putAll f l xs, z.2 = f z.1) ∧ (∀ x, x ∈ (putAll f l xs).map Prod.fst ↔ x ∈ l.map Prod.fst ∨ x ∈ xs) ∧ (putAll f l xs).length ≤ l.length + xs.length
  | [], l, h1, h2 => ⟨h1, h2, fun x => by simp [putAll], by simp [putAll]⟩
  | y :: xs, l, h1, h2 => by
    obtain ⟨a, b, c, d⟩ := putAll_spec xs (putL l (y, f y)) (putL_inc l _ h1) (putL_of l _ h2 rfl)
    refine ⟨a, b, fun x => ?_, ?_⟩
    · have := c x
      show x ∈ (putAll f (putL l (y, f y)) xs).map Prod.fst ↔ _
      rw [this, putL_fst]
      simp only [List.mem_cons]
      constructor
      · rintro ((h | h) | h)
        · exact .inl h
        · exact .inr (.inl h)
        · exact .inr (.inr h)
      · rintro (h | h | h)
        · exact .inl (.inl h)
        · exact .inl (.inr h)
        · exact .inr h
    · have := putL_len l (y, f y)
      have d' : (putAll f l (y :: xs)).length ≤ (putL l (y, f y)).length + xs.length := d
      simp only [List.length_cons]
      omega
/-- What is put one by one is the function over the sorted numbers. -/
theorem putAll_eq {f : Int → Int} {l : List (Int × Int)} {xs X : List Int} (h1 : Inc l) (h2 : ∀ z ∈ l, z.2 = f z.1) (hX : X.Pairwise (· < ·)) (hm : ∀ x, x ∈ X ↔ x ∈ l.map Prod.fst ∨ x ∈ xs) :
    putAll f l xs = X.map fun x => (x, f x) := by
  obtain ⟨a, b, c, _⟩ := putAll_spec xs l h1 h2
  rw [inc_map b, inc_eq _ X (inc_fst a) hX fun x => (c x).trans (hm x).symm]
end Go.Proofs.Ytipablcbkoedbaa

namespace Go.Proofs.Ytipablcbkoedbaa
open Go.RowKit

theorem knot_lt {ks : List (Int × Int)} (hv : Valid ks) {i j : Nat} (hij : i < j) (hj : j < ks.length) : kx ks i < kx ks j := by
  have a := hv.up i (by omega)
  have b := kx_mono hv j (i + 1) (by omega) (by omega)
  omega
theorem val_knot {ks : List (Int × Int)} (hv : Valid ks) {i : Nat} (hi : i < ks.length) : valN ks (kx ks i) = ky ks i ∧ valD ks (kx ks i) = 1 :=
  (val_at hv (x := kx ks i) (i := i) hi (kx_mono hv i 0 (by omega) (by omega)) (Int.le_refl _) (fun _ hj => knot_lt hv hj hi)).1 rfl
theorem knot_get {ks : List (Int × Int)} {i : Nat} (hi : i < ks.length) : ks[i].1 = kx ks i ∧ ks[i].2 = ky ks i := by
  simp [kx, ky, hi]
theorem valid_inc {ks : List (Int × Int)} (hv : Valid ks) : Inc ks := by
  refine List.pairwise_iff_getElem.2 fun i j hi hj hij => ?_
  rw [(knot_get hi).1, (knot_get hj).1]
  exact knot_lt hv hij hj
theorem valid_val {ks : List (Int × Int)} (hv : Valid ks) : ∀ z ∈ ks, z.2 = valN ks z.1 := by
  intro z hz
  obtain ⟨i, hi, rfl⟩ := List.mem_iff_getElem.1 hz
  rw [(knot_get hi).1, (knot_get hi).2, (val_knot hv hi).1]
/-- The knots at some X. -/
def atL (ks : List (Int × Int)) (xs : List Int) : List (Int × Int) := xs.map fun x => (x, valN ks x)
def rfX (ks : List (Int × Int)) (xs : List Int) : List Int := Lib.compact ((xs ++ ks.map Prod.fst).mergeSort fun x y => decide (x ≤ y))
theorem sort_inc (zs : List Int) : (Lib.compact (zs.mergeSort fun x y => decide (x ≤ y))).Pairwise (· < ·) := by
  refine compact_inc ?_
  have := List.pairwise_mergeSort (le := fun x y : Int => decide (x ≤ y)) (fun a b c h1 h2 => by simp at *; omega) (fun a b => by simp; omega) zs
  exact this.imp (fun h => by simpa using h)
theorem sort_mem (zs : List Int) (x : Int) : x ∈ Lib.compact (zs.mergeSort fun x y => decide (x ≤ y)) ↔ x ∈ zs :=
  ⟨fun h => List.mem_mergeSort.1 (compact_mem h), fun h => mem_compact (List.mem_mergeSort.2 h)⟩
theorem rf_eq {ks : List (Int × Int)} (hv : Valid ks) (xs : List Int) : putAll (valN ks) ks xs = atL ks (rfX ks xs) :=
  putAll_eq (valid_inc hv) (valid_val hv) (sort_inc _) fun x => by
    unfold rfX
    rw [sort_mem, List.mem_append, or_comm]
def inL (lo hi : Int) (ks : List (Int × Int)) : List (Int × Int) := ks.filter fun k => decide (lo ≤ k.1 ∧ k.1 ≤ hi)
theorem inL_xs (lo hi : Int) : ∀ ks : List (Int × Int), inXs lo hi ks = (inL lo hi ks).map Prod.fst
  | [] => rfl
  | k :: ks => by
    have ih := inL_xs lo hi ks
    unfold inXs inL
    by_cases h : lo ≤ k.1 ∧ k.1 ≤ hi
    · rw [if_pos h, List.filter_cons_of_pos (by simpa using h), List.map_cons, ih]; rfl
    · rw [if_neg h, List.filter_cons_of_neg (by simpa using h), ih]; rfl
theorem cut_eq {ks : List (Int × Int)} (hv : Valid ks) (lo hi : Int) (c : CV) (hc : c.ks = ks) : putL (putL (inL lo hi ks) (lo, valN ks lo)) (hi, valN ks hi) = atL ks (cornerL lo hi [c]) := by
  have := putAll_eq (f := valN ks) (l := inL lo hi ks) (xs := [lo, hi]) (X := cornerL lo hi [c]) ((valid_inc hv).filter _) (fun z hz => valid_val hv z (List.mem_filter.1 hz).1) (corner_inc lo hi [c]) fun x => by
    unfold cornerL
    rw [sort_mem]
    unfold cornerXs inXss inXss
    rw [hc, inL_xs]
    simp only [List.mem_cons, List.mem_append, List.not_mem_nil, or_false]
    constructor
    · rintro (h | h | h)
      · exact .inr (.inl h)
      · exact .inr (.inr h)
      · exact .inl h
    · rintro (h | h | h)
      · exact .inr (.inr h)
      · exact .inl h
      · exact .inr (.inl h)
  exact this
end Go.Proofs.Ytipablcbkoedbaa

namespace Go.Proofs.Ytipablcbkoedbaa
open Go.RowKit

/-- Whether x lies in the domain and the value there is an integer. -/
def whB (ks : List (Int × Int)) (x : Int) : Bool := if domLo ks ≤ x ∧ x ≤ domHi ks then decide (valD ks x = 1) else false
def whX (ks : List (Int × Int)) (x : Int) : Int := if domLo ks ≤ x ∧ x ≤ domHi ks then x else 0
def whY (ks : List (Int × Int)) (x : Int) : Int := if domLo ks ≤ x ∧ x ≤ domHi ks then valN ks x else 0


set_option maxRecDepth 100000 in
set_option maxHeartbeats 1600000 in
theorem Rwhole_any (b off cap : Nat) (err : Int) (ks : List (Int × Int)) (x : Int) (w : World) (h : Kn w b off ks) (hv : Valid ks) :
    Calls Try.prog 129 #[vCv (some ⟨b, off, none⟩) ks.length cap err, .int .i64 x] w fun e w' => e = .returned (.tuple #[.int .i64 (whY ks x), .bool (whB ks x)]) ∧ Below w.heap.size w w' := by
  have hpos := hv.pos
  have hle := hv.le
  have HK := Lib.hid h
  have HD := Lib.hid (fun W (hW : Kn W b off ks) => Rdomain_any b off ks.length cap err ks W hW rfl hpos (by omega))
  have HI := Lib.hid (fun W => in_any x (domLo ks) (domHi ks) W)
  by_cases hd : domLo ks ≤ x ∧ x ≤ domHi ks
  case' pos => have hx0 := hd.1; have hx1 := hd.2; have h00 := hv.x0 0 hpos; have h11 := hv.x0 (ks.length - 1) (by omega); have HV := Lib.hid (fun W (hW : Kn W b off ks) => At_any b off cap err ks x W hW hv hx0 hx1)
  case pos =>
    rw [show decide (domLo ks ≤ x ∧ x ≤ domHi ks) = true from decide_eq_true hd] at HI
    rw [show whB ks x = decide (valD ks x = 1) from if_pos hd, show whY ks x = valN ks x from if_pos hd]
    generalize domLo ks = lo at *
    generalize domHi ks = hi at *
    generalize valN ks x = vn at *
    generalize valD ks x = vd at *
    clear h00 h11 hx0 hx1
    clear h hd
    generalize hW : w.alloc (.cells #[.slice (some ⟨b, off, none⟩) ks.length cap, .int .i64 err] 24) = W
    have B0 : Below w.heap.size w W := by rw [← hW]; exact ((Below.refl w.heap.size w).alloc (Nat.le_refl _) _)
    have x0_0 : Blk W w.heap.size 24 #[.slice (some ⟨b, off, none⟩) ks.length cap, .int .i64 err] := by rw [← hW]; exact (Blk.at_new _ _ rfl)
    have HWE := Lib.hid hW
    clear hW
    go_enter Try.func129, Try.ntmps129
    have B1 := B0
    go_wp2_with fail
    rw [HWE.out]
    refine (HD.out _ (HK.out.below B1)).mono ?_; rintro e w1 ⟨rfl, hb1⟩
    have x0_1 := x0_0.below hb1
    clear x0_0
    have x0_1c0 := x0_1.cell 0
    have x0_1c1 := x0_1.cell 1
    simp only [List.getElem?_toArray, List.getElem?_cons_zero, List.getElem?_cons_succ] at x0_1c0 x0_1c1
    have x0_1l := x0_1.lt
    have B2 := B1.trans (hb1.mono B1.size)
    go_wp2_with fail
    refine (HI.out _).mono ?_; rintro e w2 ⟨rfl, hb2⟩
    clear x0_1c0 x0_1c1 x0_1l
    have x0_2 := x0_1.below hb2
    clear x0_1
    have x0_2c0 := x0_2.cell 0
    have x0_2c1 := x0_2.cell 1
    simp only [List.getElem?_toArray, List.getElem?_cons_zero, List.getElem?_cons_succ] at x0_2c0 x0_2c1
    have x0_2l := x0_2.lt
    have B3 := B2.trans (hb2.mono B2.size)
    go_wp2_with fail
    refine (HV.out _ (HK.out.below B3)).mono ?_; rintro e w3 ⟨rfl, hb3⟩
    clear x0_2c0 x0_2c1 x0_2l
    have x0_3 := x0_2.below hb3
    clear x0_2
    have x0_3c0 := x0_3.cell 0
    have x0_3c1 := x0_3.cell 1
    simp only [List.getElem?_toArray, List.getElem?_cons_zero, List.getElem?_cons_succ] at x0_3c0 x0_3c1
    have x0_3l := x0_3.lt
    have B4 := B3.trans (hb3.mono B3.size)
    have B4a := B4.alloc B4.size (.cells #[.int .i64 vn, .int .i64 vd] 30)
    go_upto_region 4 with fail
    clear x0_3c0 x0_3c1 x0_3l
    have x0_4 := (x0_3.alloc (.cells #[.int .i64 vn, .int .i64 vd] 30))
    clear x0_3
    have fr_4 := (Blk.new w3 30 #[.int .i64 vn, .int .i64 vd])
    generalize hV4 : w3.alloc (.cells #[.int .i64 vn, .int .i64 vd] 30) = V4 at *
    generalize hg4 : w3.heap.size = g4 at *
    clear hV4 hg4
    have x0_4c0 := x0_4.cell 0
    have x0_4c1 := x0_4.cell 1
    simp only [List.getElem?_toArray, List.getElem?_cons_zero, List.getElem?_cons_succ] at x0_4c0 x0_4c1
    have x0_4l := x0_4.lt
    have fr_4c0 := fr_4.cell 0
    have fr_4c1 := fr_4.cell 1
    simp only [List.getElem?_toArray, List.getElem?_cons_zero, List.getElem?_cons_succ] at fr_4c0 fr_4c1
    have fr_4l := fr_4.lt
    obtain ⟨xc, xf⟩ := xcell (W := V4)
    refine wp_region_quiet_tail 7 (by kernel_rfl) (by kernel_rfl) ?_
    simp only [List.take_succ_cons, List.take_zero, List.drop_succ_cons, List.drop_zero]
    repeat (first | go_big_quiet_step (fail) | quiet_step (fail))
    refine wpQuiet_nil ?_
    intro w50 hb50
    go_wp2
    exact bodyPost_ret (v := .tuple #[.int .i64 vn, .bool (vd == 1)]) (by simp [results, Try.results129, go_sem]) rfl ⟨rfl, B4a.trans (hb50.mono B4a.size)⟩
  case neg =>
    rw [show decide (domLo ks ≤ x ∧ x ≤ domHi ks) = false from decide_eq_false hd] at HI
    rw [show whB ks x = false from if_neg hd, show whY ks x = 0 from if_neg hd]
    generalize domLo ks = lo at *
    generalize domHi ks = hi at *
    clear h hd
    generalize hW : w.alloc (.cells #[.slice (some ⟨b, off, none⟩) ks.length cap, .int .i64 err] 24) = W
    have B0 : Below w.heap.size w W := by rw [← hW]; exact ((Below.refl w.heap.size w).alloc (Nat.le_refl _) _)
    have x0_0 : Blk W w.heap.size 24 #[.slice (some ⟨b, off, none⟩) ks.length cap, .int .i64 err] := by rw [← hW]; exact (Blk.at_new _ _ rfl)
    have HWE := Lib.hid hW
    clear hW
    go_enter Try.func129, Try.ntmps129
    have B1 := B0
    go_wp2_with fail
    rw [HWE.out]
    refine (HD.out _ (HK.out.below B1)).mono ?_; rintro e w1 ⟨rfl, hb1⟩
    have x0_1 := x0_0.below hb1
    clear x0_0
    have x0_1c0 := x0_1.cell 0
    have x0_1c1 := x0_1.cell 1
    simp only [List.getElem?_toArray, List.getElem?_cons_zero, List.getElem?_cons_succ] at x0_1c0 x0_1c1
    have x0_1l := x0_1.lt
    have B2 := B1.trans (hb1.mono B1.size)
    go_wp2_with fail
    refine (HI.out _).mono ?_; rintro e w2 ⟨rfl, hb2⟩
    clear x0_1c0 x0_1c1 x0_1l
    have x0_2 := x0_1.below hb2
    clear x0_1
    have x0_2c0 := x0_2.cell 0
    have x0_2c1 := x0_2.cell 1
    simp only [List.getElem?_toArray, List.getElem?_cons_zero, List.getElem?_cons_succ] at x0_2c0 x0_2c1
    have x0_2l := x0_2.lt
    go_wp2
    exact bodyPost_ret (v := .tuple #[.int .i64 0, .bool false]) (by simp [results, Try.results129, go_sem]) rfl ⟨rfl, B2.trans (hb2.mono B2.size)⟩

set_option maxRecDepth 100000 in
set_option maxHeartbeats 1600000 in
theorem whole_any (b off cap : Nat) (err : Int) (ks : List (Int × Int)) (x : Int) (w : World) (h : Kn w b off ks) (hv : Valid ks) :
    Calls Try.prog 142 #[vCv (some ⟨b, off, none⟩) ks.length cap err, .int .i64 x] w fun e w' => e = .returned (.tuple #[.agg #[.int .i64 (whX ks x), .int .i64 (whY ks x)], .bool (whB ks x)]) ∧ Below w.heap.size w w' := by
  have hpos := hv.pos
  have hle := hv.le
  have HK := Lib.hid h
  have HD := Lib.hid (fun W (hW : Kn W b off ks) => domain_any b off ks.length cap err ks W hW rfl hpos (by omega))
  have HI := Lib.hid (fun W => within_any x (domLo ks) (domHi ks) W)
  by_cases hd : domLo ks ≤ x ∧ x ≤ domHi ks
  case' pos => have hx0 := hd.1; have hx1 := hd.2; have h00 := hv.x0 0 hpos; have h11 := hv.x0 (ks.length - 1) (by omega); have HV := Lib.hid (fun W (hW : Kn W b off ks) => value_any b off cap err ks x W hW hv (by have : kx ks 0 ≤ x := hx0; omega) (by have : x ≤ kx ks (ks.length - 1) := hx1; omega))
  case pos =>
    rw [show decide (domLo ks ≤ x ∧ x ≤ domHi ks) = true from decide_eq_true hd] at HI
    rw [show whB ks x = decide (valD ks x = 1) from if_pos hd, show whY ks x = valN ks x from if_pos hd, show whX ks x = x from if_pos hd]
    generalize domLo ks = lo at *
    generalize domHi ks = hi at *
    generalize valN ks x = vn at *
    generalize valD ks x = vd at *
    clear h00 h11 hx0 hx1
    clear h hd
    generalize hW : (w.alloc (.cells #[.slice (some ⟨b, off, none⟩) ks.length cap, .int .i64 err] 24)).alloc (.cells #[.int .i64 0, .int .i64 0] 108) = W
    have B0 : Below w.heap.size w W := by rw [← hW]; exact (((Below.refl w.heap.size w).alloc (Nat.le_refl _) _).alloc (by simp) _)
    have x0_0 : Blk W w.heap.size 24 #[.slice (some ⟨b, off, none⟩) ks.length cap, .int .i64 err] := by rw [← hW]; exact ((Blk.at_new _ _ rfl).alloc _)
    have r_0 : Blk W (w.heap.size + 1) 108 #[.int .i64 0, .int .i64 0] := by rw [← hW]; exact (Blk.at_new _ _ (by simp))
    have HWE := Lib.hid hW
    clear hW
    go_enter Try.func142, Try.ntmps142
    have B1 := B0
    go_wp2_with fail
    rw [HWE.out]
    refine (HD.out _ (HK.out.below B1)).mono ?_; rintro e w1 ⟨rfl, hb1⟩
    have x0_1 := x0_0.below hb1
    have r_1 := r_0.below hb1
    clear x0_0 r_0
    have x0_1c0 := x0_1.cell 0
    have x0_1c1 := x0_1.cell 1
    simp only [List.getElem?_toArray, List.getElem?_cons_zero, List.getElem?_cons_succ] at x0_1c0 x0_1c1
    have x0_1l := x0_1.lt
    have r_1c0 := r_1.cell 0
    have r_1c1 := r_1.cell 1
    simp only [List.getElem?_toArray, List.getElem?_cons_zero, List.getElem?_cons_succ] at r_1c0 r_1c1
    have r_1l := r_1.lt
    have B2 := B1.trans (hb1.mono B1.size)
    have B2a := B2.alloc B2.size (.cells #[.int .i64 lo, .int .i64 hi] 26)
    go_upto_region 2 with fail
    clear x0_1c0 x0_1c1 x0_1l r_1c0 r_1c1 r_1l
    have x0_2 := (x0_1.alloc (.cells #[.int .i64 lo, .int .i64 hi] 26))
    have r_2 := (r_1.alloc (.cells #[.int .i64 lo, .int .i64 hi] 26))
    clear x0_1 r_1
    have sp_2 := (Blk.new w1 26 #[.int .i64 lo, .int .i64 hi])
    generalize hV2 : w1.alloc (.cells #[.int .i64 lo, .int .i64 hi] 26) = V2 at *
    generalize hg2 : w1.heap.size = g2 at *
    clear hV2 hg2
    have x0_2c0 := x0_2.cell 0
    have x0_2c1 := x0_2.cell 1
    simp only [List.getElem?_toArray, List.getElem?_cons_zero, List.getElem?_cons_succ] at x0_2c0 x0_2c1
    have x0_2l := x0_2.lt
    have r_2c0 := r_2.cell 0
    have r_2c1 := r_2.cell 1
    simp only [List.getElem?_toArray, List.getElem?_cons_zero, List.getElem?_cons_succ] at r_2c0 r_2c1
    have r_2l := r_2.lt
    have sp_2c0 := sp_2.cell 0
    have sp_2c1 := sp_2.cell 1
    simp only [List.getElem?_toArray, List.getElem?_cons_zero, List.getElem?_cons_succ] at sp_2c0 sp_2c1
    have sp_2l := sp_2.lt
    have hz0 := r_2.frozen 0
    have hz1 := r_2.frozen 1
    go_wp2_with (go_at_call 98; refine (HI.out _).mono ?_; rintro e w5 ⟨rfl, rfl⟩)
    clear hz0 hz1
    have B3 := B2a
    go_wp2_with fail
    refine (HV.out _ (HK.out.below B3)).mono ?_; rintro e w3 ⟨rfl, hb3⟩
    clear x0_2c0 x0_2c1 x0_2l r_2c0 r_2c1 r_2l sp_2c0 sp_2c1 sp_2l
    have x0_3 := x0_2.below hb3
    have r_3 := r_2.below hb3
    have sp_3 := sp_2.below hb3
    clear x0_2 r_2 sp_2
    have x0_3c0 := x0_3.cell 0
    have x0_3c1 := x0_3.cell 1
    simp only [List.getElem?_toArray, List.getElem?_cons_zero, List.getElem?_cons_succ] at x0_3c0 x0_3c1
    have x0_3l := x0_3.lt
    have r_3c0 := r_3.cell 0
    have r_3c1 := r_3.cell 1
    simp only [List.getElem?_toArray, List.getElem?_cons_zero, List.getElem?_cons_succ] at r_3c0 r_3c1
    have r_3l := r_3.lt
    have sp_3c0 := sp_3.cell 0
    have sp_3c1 := sp_3.cell 1
    simp only [List.getElem?_toArray, List.getElem?_cons_zero, List.getElem?_cons_succ] at sp_3c0 sp_3c1
    have sp_3l := sp_3.lt
    have hrl := r_3l
    have B4 := B3.trans (hb3.mono B3.size)
    have B4a := B4.alloc B4.size (.cells #[.int .i64 vn, .int .i64 vd] 30)
    go_upto_region 5 with fail
    clear x0_3c0 x0_3c1 x0_3l r_3c0 r_3c1 r_3l sp_3c0 sp_3c1 sp_3l
    have x0_4 := (x0_3.alloc (.cells #[.int .i64 vn, .int .i64 vd] 30))
    have r_4 := (r_3.alloc (.cells #[.int .i64 vn, .int .i64 vd] 30))
    have sp_4 := (sp_3.alloc (.cells #[.int .i64 vn, .int .i64 vd] 30))
    clear x0_3 r_3 sp_3
    have fr_4 := (Blk.new w3 30 #[.int .i64 vn, .int .i64 vd])
    generalize hV4 : w3.alloc (.cells #[.int .i64 vn, .int .i64 vd] 30) = V4 at *
    generalize hg4 : w3.heap.size = g4 at *
    clear hV4 hg4
    have x0_4c0 := x0_4.cell 0
    have x0_4c1 := x0_4.cell 1
    simp only [List.getElem?_toArray, List.getElem?_cons_zero, List.getElem?_cons_succ] at x0_4c0 x0_4c1
    have x0_4l := x0_4.lt
    have r_4c0 := r_4.cell 0
    have r_4c1 := r_4.cell 1
    simp only [List.getElem?_toArray, List.getElem?_cons_zero, List.getElem?_cons_succ] at r_4c0 r_4c1
    have r_4l := r_4.lt
    have sp_4c0 := sp_4.cell 0
    have sp_4c1 := sp_4.cell 1
    simp only [List.getElem?_toArray, List.getElem?_cons_zero, List.getElem?_cons_succ] at sp_4c0 sp_4c1
    have sp_4l := sp_4.lt
    have fr_4c0 := fr_4.cell 0
    have fr_4c1 := fr_4.cell 1
    simp only [List.getElem?_toArray, List.getElem?_cons_zero, List.getElem?_cons_succ] at fr_4c0 fr_4c1
    have fr_4l := fr_4.lt
    have hne1 : w.heap.size + 1 ≠ g4 := by omega
    have hne2 := Ne.symm hne1
    have hr := r_4
    have hf0 := r_4.frozen 0
    have hf1 := r_4.frozen 1
    have BZ := B4a
    go_region
    have hF := ((hr.set_ 0 (.int .i64 x)).set_ 1 (.int .i64 vn)).below (Below.refl _ _).drew
    have k0 := hF.cell 0
    have k1 := hF.cell 1
    simp only [List.setIfInBounds_toArray, List.set_cons_zero, List.set_cons_succ, List.getElem?_toArray, List.getElem?_cons_zero, List.getElem?_cons_succ] at k0 k1
    go_wp2
    exact bodyPost_ret (v := .tuple #[.agg #[.int .i64 x, .int .i64 vn], .bool (vd == 1)]) (by simp [results, Try.results142, go_sem, k0, k1]) rfl ⟨rfl, ((BZ.setCell (p := ⟨(w.heap.size + 1), 0, none⟩) (by simp <;> omega) _).setCell (p := ⟨(w.heap.size + 1), 1, none⟩) (by simp <;> omega) _).drew⟩
  case neg =>
    rw [show decide (domLo ks ≤ x ∧ x ≤ domHi ks) = false from decide_eq_false hd] at HI
    rw [show whB ks x = false from if_neg hd, show whY ks x = 0 from if_neg hd, show whX ks x = 0 from if_neg hd]
    generalize domLo ks = lo at *
    generalize domHi ks = hi at *
    clear h hd
    generalize hW : (w.alloc (.cells #[.slice (some ⟨b, off, none⟩) ks.length cap, .int .i64 err] 24)).alloc (.cells #[.int .i64 0, .int .i64 0] 108) = W
    have B0 : Below w.heap.size w W := by rw [← hW]; exact (((Below.refl w.heap.size w).alloc (Nat.le_refl _) _).alloc (by simp) _)
    have x0_0 : Blk W w.heap.size 24 #[.slice (some ⟨b, off, none⟩) ks.length cap, .int .i64 err] := by rw [← hW]; exact ((Blk.at_new _ _ rfl).alloc _)
    have r_0 : Blk W (w.heap.size + 1) 108 #[.int .i64 0, .int .i64 0] := by rw [← hW]; exact (Blk.at_new _ _ (by simp))
    have HWE := Lib.hid hW
    clear hW
    go_enter Try.func142, Try.ntmps142
    have B1 := B0
    go_wp2_with fail
    rw [HWE.out]
    refine (HD.out _ (HK.out.below B1)).mono ?_; rintro e w1 ⟨rfl, hb1⟩
    have x0_1 := x0_0.below hb1
    have r_1 := r_0.below hb1
    clear x0_0 r_0
    have x0_1c0 := x0_1.cell 0
    have x0_1c1 := x0_1.cell 1
    simp only [List.getElem?_toArray, List.getElem?_cons_zero, List.getElem?_cons_succ] at x0_1c0 x0_1c1
    have x0_1l := x0_1.lt
    have r_1c0 := r_1.cell 0
    have r_1c1 := r_1.cell 1
    simp only [List.getElem?_toArray, List.getElem?_cons_zero, List.getElem?_cons_succ] at r_1c0 r_1c1
    have r_1l := r_1.lt
    have B2 := B1.trans (hb1.mono B1.size)
    have B2a := B2.alloc B2.size (.cells #[.int .i64 lo, .int .i64 hi] 26)
    go_upto_region 2 with fail
    clear x0_1c0 x0_1c1 x0_1l r_1c0 r_1c1 r_1l
    have x0_2 := (x0_1.alloc (.cells #[.int .i64 lo, .int .i64 hi] 26))
    have r_2 := (r_1.alloc (.cells #[.int .i64 lo, .int .i64 hi] 26))
    clear x0_1 r_1
    have sp_2 := (Blk.new w1 26 #[.int .i64 lo, .int .i64 hi])
    generalize hV2 : w1.alloc (.cells #[.int .i64 lo, .int .i64 hi] 26) = V2 at *
    generalize hg2 : w1.heap.size = g2 at *
    clear hV2 hg2
    have x0_2c0 := x0_2.cell 0
    have x0_2c1 := x0_2.cell 1
    simp only [List.getElem?_toArray, List.getElem?_cons_zero, List.getElem?_cons_succ] at x0_2c0 x0_2c1
    have x0_2l := x0_2.lt
    have r_2c0 := r_2.cell 0
    have r_2c1 := r_2.cell 1
    simp only [List.getElem?_toArray, List.getElem?_cons_zero, List.getElem?_cons_succ] at r_2c0 r_2c1
    have r_2l := r_2.lt
    have sp_2c0 := sp_2.cell 0
    have sp_2c1 := sp_2.cell 1
    simp only [List.getElem?_toArray, List.getElem?_cons_zero, List.getElem?_cons_succ] at sp_2c0 sp_2c1
    have sp_2l := sp_2.lt
    have hz0 := r_2.frozen 0
    have hz1 := r_2.frozen 1
    go_wp2_with (go_at_call 98; refine (HI.out _).mono ?_; rintro e w5 ⟨rfl, rfl⟩)
    have hr := r_2
    have hf0 := r_2.frozen 0
    have hf1 := r_2.frozen 1
    have hl := r_2.lt
    have BZ := B2a
    go_wp2
    have hF := ((hr.set_ 0 (.int .i64 0)).set_ 1 (.int .i64 0))
    have k0 := hF.cell 0
    have k1 := hF.cell 1
    simp only [List.setIfInBounds_toArray, List.set_cons_zero, List.set_cons_succ, List.getElem?_toArray, List.getElem?_cons_zero, List.getElem?_cons_succ] at k0 k1
    exact bodyPost_ret (v := .tuple #[.agg #[.int .i64 0, .int .i64 0], .bool false]) (by simp [results, Try.results142, go_sem, k0, k1]) rfl (⟨rfl, ((BZ.setCell (p := ⟨(w.heap.size + 1), 0, none⟩) (by simp <;> omega) _).setCell (p := ⟨(w.heap.size + 1), 1, none⟩) (by simp <;> omega) _)⟩)
end Go.Proofs.Ytipablcbkoedbaa

namespace Go.Proofs.Ytipablcbkoedbaa
open Go.RowKit

def tnR (ks : List (Int × Int)) (err : Int) : List (Int × Int) := if check ks err = 0 then thL ks else []
def tnF (ks : List (Int × Int)) (err : Int) : Int := if check ks err = 0 then err else 0

set_option maxRecDepth 100000 in
set_option maxHeartbeats 1600000 in
theorem Thin_any (A : Option Addr) (n cap : Nat) (err : Int) (ks : List (Int × Int)) (w : World) (h : CAt w A n ks) (hm : n ≤ 9223372036854775807) :
    Calls Try.prog 66 #[vCv A n cap err] w (cvOut w (tnR ks err) (tnF ks err) (check ks err)) := by
  have hC := fun W (hW : CAt W A n ks) => Check_any A n cap err ks W hW hm
  have HA := Lib.hid h
  by_cases hz : check ks err = 0
  case neg =>
    rw [show tnR ks err = [] from if_neg hz, show tnF ks err = 0 from if_neg hz]
    have hz1 : (check ks err != 0) = true := by simpa using hz
    have HC := Lib.hid hC
    clear hC h hz
    generalize check ks err = e0 at *
    generalize hW : (w.alloc (.cells #[.slice A n cap, .int .i64 err] 24)).alloc (.cells #[.slice none 0 0, .int .i64 0] 24) = W
    have B0 : Below w.heap.size w W := by rw [← hW]; exact (((Below.refl w.heap.size w).alloc (Nat.le_refl _) _).alloc (by simp) _)
    have x0_0 : Blk W w.heap.size 24 #[.slice A n cap, .int .i64 err] := by rw [← hW]; exact ((Blk.at_new _ _ rfl).alloc _)
    have r_0 : Blk W (w.heap.size + 1) 24 #[.slice none 0 0, .int .i64 0] := by rw [← hW]; exact (Blk.at_new _ _ (by simp))
    have HWE := Lib.hid hW
    clear hW
    go_enter Try.func66, Try.ntmps66
    have B1 := B0
    go_wp2_with fail
    rw [HWE.out]
    refine (HC.out _ (HA.out.below B1)).mono ?_; rintro e w1 ⟨rfl, hb1⟩
    have x0_1 := x0_0.below hb1
    have r_1 := r_0.below hb1
    clear x0_0 r_0
    have x0_1c0 := x0_1.cell 0
    have x0_1c1 := x0_1.cell 1
    simp only [List.getElem?_toArray, List.getElem?_cons_zero, List.getElem?_cons_succ] at x0_1c0 x0_1c1
    have x0_1l := x0_1.lt
    have r_1c0 := r_1.cell 0
    have r_1c1 := r_1.cell 1
    simp only [List.getElem?_toArray, List.getElem?_cons_zero, List.getElem?_cons_succ] at r_1c0 r_1c1
    have r_1l := r_1.lt
    have hr := r_1
    have hf0 := r_1.frozen 0
    have hf1 := r_1.frozen 1
    have hl := r_1.lt
    have BZ := B1.trans (hb1.mono B1.size)
    go_wp2
    have hF := ((hr.set_ 0 (.slice none 0 0)).set_ 1 (.int .i64 0))
    have k0 := hF.cell 0
    have k1 := hF.cell 1
    simp only [List.setIfInBounds_toArray, List.set_cons_zero, List.set_cons_succ, List.getElem?_toArray, List.getElem?_cons_zero, List.getElem?_cons_succ] at k0 k1
    exact bodyPost_ret (v := .tuple #[.agg #[.slice none 0 0, .int .i64 0], .int .i64 e0]) (by simp [results, Try.results66, go_sem, k0, k1]) rfl (cvOut_nil rfl ((BZ.setCell (p := ⟨(w.heap.size + 1), 0, none⟩) (by simp <;> omega) _).setCell (p := ⟨(w.heap.size + 1), 1, none⟩) (by simp <;> omega) _))
  rw [show tnR ks err = thL ks from if_pos hz, show tnF ks err = err from if_pos hz, hz]
  rw [hz] at hC
  have HC := Lib.hid hC
  obtain ⟨hv, he⟩ := check_zero hz
  have hpos := hv.pos
  have hn := h.len
  obtain ⟨b, off, rfl, hk⟩ := h.at_ (by omega)
  have HK := Lib.hid hk
  have HT := Lib.hid (fun W (hW : Kn W b off ks) => thin_any b off cap err ks W hW hv)
  rw [hn] at HT
  clear hC h hz hk hpos hn
  generalize thL ks = R at *
  generalize hW : (w.alloc (.cells #[.slice (some ⟨b, off, none⟩) n cap, .int .i64 err] 24)).alloc (.cells #[.slice none 0 0, .int .i64 0] 24) = W
  have B0 : Below w.heap.size w W := by rw [← hW]; exact (((Below.refl w.heap.size w).alloc (Nat.le_refl _) _).alloc (by simp) _)
  have x0_0 : Blk W w.heap.size 24 #[.slice (some ⟨b, off, none⟩) n cap, .int .i64 err] := by rw [← hW]; exact ((Blk.at_new _ _ rfl).alloc _)
  have r_0 : Blk W (w.heap.size + 1) 24 #[.slice none 0 0, .int .i64 0] := by rw [← hW]; exact (Blk.at_new _ _ (by simp))
  have HWE := Lib.hid hW
  clear hW
  go_enter Try.func66, Try.ntmps66
  have B1 := B0
  go_wp2_with fail
  rw [HWE.out]
  refine (HC.out _ (HA.out.below B1)).mono ?_; rintro e w1 ⟨rfl, hb1⟩
  have x0_1 := x0_0.below hb1
  have r_1 := r_0.below hb1
  clear x0_0 r_0
  have x0_1c0 := x0_1.cell 0
  have x0_1c1 := x0_1.cell 1
  simp only [List.getElem?_toArray, List.getElem?_cons_zero, List.getElem?_cons_succ] at x0_1c0 x0_1c1
  have x0_1l := x0_1.lt
  have r_1c0 := r_1.cell 0
  have r_1c1 := r_1.cell 1
  simp only [List.getElem?_toArray, List.getElem?_cons_zero, List.getElem?_cons_succ] at r_1c0 r_1c1
  have r_1l := r_1.lt
  have B2 := B1.trans (hb1.mono B1.size)
  go_wp2_with fail
  refine (HT.out _ (HK.out.below B2)).mono ?_; rintro e w2 ⟨A2, n2, cap2, rfl, hC2, hn2, hfr, hb2⟩
  clear x0_1c0 x0_1c1 x0_1l r_1c0 r_1c1 r_1l
  have x0_2 := x0_1.below hb2
  have r_2 := r_1.below hb2
  clear x0_1 r_1
  have x0_2c0 := x0_2.cell 0
  have x0_2c1 := x0_2.cell 1
  simp only [List.getElem?_toArray, List.getElem?_cons_zero, List.getElem?_cons_succ] at x0_2c0 x0_2c1
  have x0_2l := x0_2.lt
  have r_2c0 := r_2.cell 0
  have r_2c1 := r_2.cell 1
  simp only [List.getElem?_toArray, List.getElem?_cons_zero, List.getElem?_cons_succ] at r_2c0 r_2c1
  have r_2l := r_2.lt
  have HC2 := Lib.hid hC2
  have hlr : (w.heap.size + 1) < W.heap.size := by rw [← HWE.out]; simp
  have hw1 := hb1.size
  have hw0 := B0.size
  clear hC2
  have hr := r_2
  have hf0 := r_2.frozen 0
  have hf1 := r_2.frozen 1
  have hl := r_2.lt
  have BZ := B2.trans (hb2.mono B2.size)
  go_wp2
  have hF := ((hr.set_ 0 ((.slice A2 n2 cap2))).set_ 1 ((.int .i64 err)))
  have k0 := hF.cell 0
  have k1 := hF.cell 1
  simp only [List.setIfInBounds_toArray, List.set_cons_zero, List.set_cons_succ, List.getElem?_toArray, List.getElem?_cons_zero, List.getElem?_cons_succ] at k0 k1
  exact bodyPost_ret (v := .tuple #[.agg #[(.slice A2 n2 cap2), (.int .i64 err)], .int .i64 0]) (by simp [results, Try.results66, go_sem, k0, k1]) rfl (⟨A2, n2, cap2, rfl, CAt.sets HC2.out (r := (w.heap.size + 1)) (fun a h => by have := hfr a h; omega) _ _, hn2, (fun a h => by have := hfr a h; omega), ((BZ.setCell (p := ⟨(w.heap.size + 1), 0, none⟩) (by simp <;> omega) _).setCell (p := ⟨(w.heap.size + 1), 1, none⟩) (by simp <;> omega) _)⟩)
end Go.Proofs.Ytipablcbkoedbaa

namespace Go.Proofs.Ytipablcbkoedbaa
open Go.RowKit

/-- What is known while the region draws its order: the call's value (2), the curve (5), what is stored (6). -/
def tnI (R : List (Int × Int)) (err : Int) (b : Nat) (ls : Nat → Bool) (vs : Nat → Value) (v : World) : Prop :=
  (ls 2 = true → ∃ A n cap, vs 2 = .slice A n cap ∧ CAt v A n R ∧ n ≤ 1000 ∧ (∀ a, A = some a → b ≤ a.block) ∧ (ls 5 = true → vs 5 = vCv A n cap err) ∧ (ls 6 = true → vs 6 = .agg #[.slice A n cap, .int .i64 err, .int .i64 0])) ∧ (ls 5 = true → ls 2 = true) ∧ (ls 6 = true → ls 5 = true)
theorem tnI.below {R : List (Int × Int)} {err : Int} {b : Nat} {ls : Nat → Bool} {vs : Nat → Value} {v v' : World} (h : tnI R err b ls vs v) (k : Below v.heap.size v v') : tnI R err b ls vs v' :=
  ⟨fun h1 => by obtain ⟨A, n, cap, e, hc, hn, hf⟩ := h.1 h1; exact ⟨A, n, cap, e, hc.below k, hn, hf⟩, h.2⟩

set_option maxRecDepth 100000 in
set_option maxHeartbeats 1600000 in
theorem RThin_any (A : Option Addr) (n cap : Nat) (err : Int) (ks : List (Int × Int)) (w : World) (h : CAt w A n ks) (hm : n ≤ 9223372036854775807) :
    Calls Try.prog 67 #[vCv A n cap err] w (cvdOut w (tnR ks err) (tnF ks err) (check ks err)) := by
  have hC := fun W (hW : CAt W A n ks) => RCheck_any A n cap err ks W hW hm
  have HA := Lib.hid h
  by_cases hz : check ks err = 0
  case neg =>
    rw [show tnR ks err = [] from if_neg hz, show tnF ks err = 0 from if_neg hz]
    have hz1 : (check ks err != 0) = true := by simpa using hz
    have HC := Lib.hid hC
    clear hC h hz
    generalize check ks err = e0 at *
    generalize hW : (w.alloc (.cells #[.slice A n cap, .int .i64 err] 24)).alloc (.cells #[.slice none 0 0, .int .i64 0, .int .i64 0] 78) = W
    have B0 : Below w.heap.size w W := by rw [← hW]; exact (((Below.refl w.heap.size w).alloc (Nat.le_refl _) _).alloc (by simp) _)
    have x0_0 : Blk W w.heap.size 24 #[.slice A n cap, .int .i64 err] := by rw [← hW]; exact ((Blk.at_new _ _ rfl).alloc _)
    have r_0 : Blk W (w.heap.size + 1) 78 #[.slice none 0 0, .int .i64 0, .int .i64 0] := by rw [← hW]; exact (Blk.at_new _ _ (by simp))
    have HWE := Lib.hid hW
    clear hW
    go_enter Try.func67, Try.ntmps67
    have B1 := B0
    go_wp2_with fail
    rw [HWE.out]
    refine (HC.out _ (HA.out.below B1)).mono ?_; rintro e w1 ⟨rfl, hb1⟩
    have x0_1 := x0_0.below hb1
    have r_1 := r_0.below hb1
    clear x0_0 r_0
    have x0_1c0 := x0_1.cell 0
    have x0_1c1 := x0_1.cell 1
    simp only [List.getElem?_toArray, List.getElem?_cons_zero, List.getElem?_cons_succ] at x0_1c0 x0_1c1
    have x0_1l := x0_1.lt
    have r_1c0 := r_1.cell 0
    have r_1c1 := r_1.cell 1
    have r_1c2 := r_1.cell 2
    simp only [List.getElem?_toArray, List.getElem?_cons_zero, List.getElem?_cons_succ] at r_1c0 r_1c1 r_1c2
    have r_1l := r_1.lt
    have hr := r_1
    have hf0 := r_1.frozen 0
    have hf1 := r_1.frozen 1
    have hf2 := r_1.frozen 2
    have hl := r_1.lt
    have BZ := B1.trans (hb1.mono B1.size)
    go_wp2
    have hF := (((hr.set_ 0 (.slice none 0 0)).set_ 1 (.int .i64 0)).set_ 2 (.int .i64 e0))
    have k0 := hF.cell 0
    have k1 := hF.cell 1
    have k2 := hF.cell 2
    simp only [List.setIfInBounds_toArray, List.set_cons_zero, List.set_cons_succ, List.getElem?_toArray, List.getElem?_cons_zero, List.getElem?_cons_succ] at k0 k1 k2
    exact bodyPost_ret (v := .agg #[.slice none 0 0, .int .i64 0, .int .i64 e0]) (by simp [results, Try.results67, go_sem, k0, k1, k2]) rfl (⟨none, 0, 0, rfl, ⟨rfl, fun h => absurd h (by omega)⟩, by omega, (fun a h => by cases h), (((BZ.setCell (p := ⟨(w.heap.size + 1), 0, none⟩) (by simp <;> omega) _).setCell (p := ⟨(w.heap.size + 1), 1, none⟩) (by simp <;> omega) _).setCell (p := ⟨(w.heap.size + 1), 2, none⟩) (by simp <;> omega) _)⟩)
  rw [show tnR ks err = thL ks from if_pos hz, show tnF ks err = err from if_pos hz, hz]
  rw [hz] at hC
  have HC := Lib.hid hC
  obtain ⟨hv, he⟩ := check_zero hz
  have hpos := hv.pos
  have hn := h.len
  obtain ⟨b, off, rfl, hk⟩ := h.at_ (by omega)
  have HK := Lib.hid hk
  have HT := Lib.hid (fun W (hW : Kn W b off ks) => Rthin_any b off cap n ks W hW hn hv)
  clear hC h hz hk hpos hn
  generalize thL ks = R at *
  generalize hW : (w.alloc (.cells #[.slice (some ⟨b, off, none⟩) n cap, .int .i64 err] 24)).alloc (.cells #[.slice none 0 0, .int .i64 0, .int .i64 0] 78) = W
  have B0 : Below w.heap.size w W := by rw [← hW]; exact (((Below.refl w.heap.size w).alloc (Nat.le_refl _) _).alloc (by simp) _)
  have x0_0 : Blk W w.heap.size 24 #[.slice (some ⟨b, off, none⟩) n cap, .int .i64 err] := by rw [← hW]; exact ((Blk.at_new _ _ rfl).alloc _)
  have r_0 : Blk W (w.heap.size + 1) 78 #[.slice none 0 0, .int .i64 0, .int .i64 0] := by rw [← hW]; exact (Blk.at_new _ _ (by simp))
  have HWE := Lib.hid hW
  clear hW
  go_enter Try.func67, Try.ntmps67
  have B1 := B0
  go_wp2_with fail
  rw [HWE.out]
  refine (HC.out _ (HA.out.below B1)).mono ?_; rintro e w1 ⟨rfl, hb1⟩
  have x0_1 := x0_0.below hb1
  have r_1 := r_0.below hb1
  clear x0_0 r_0
  have x0_1c0 := x0_1.cell 0
  have x0_1c1 := x0_1.cell 1
  simp only [List.getElem?_toArray, List.getElem?_cons_zero, List.getElem?_cons_succ] at x0_1c0 x0_1c1
  have x0_1l := x0_1.lt
  have r_1c0 := r_1.cell 0
  have r_1c1 := r_1.cell 1
  have r_1c2 := r_1.cell 2
  simp only [List.getElem?_toArray, List.getElem?_cons_zero, List.getElem?_cons_succ] at r_1c0 r_1c1 r_1c2
  have r_1l := r_1.lt
  go_upto_region 4 with fail
  have HB0 := Lib.hid (B1.trans (hb1.mono B1.size))
  have hlr : (w.heap.size + 1) < w1.heap.size := r_1l
  refine wp_region_pre 7 [(2, 12), (5, 15), (6, 16)] (tnI R err w1.heap.size) (by kernel_rfl) (by kernel_rfl) ?h0 ?hP ?ex
  case h0 => intro v _; simp [tnI]
  case hP => exact fun ls vs v v' _ h k => h.below k
  case ex =>
    apply Exists.intro
    refine ⟨?walk, ?loud⟩
    case walk =>
      intro V hV
      have x0_v := x0_1.below hV
      have x0_vc0 := x0_v.cell 0
      have x0_vc1 := x0_v.cell 1
      simp only [List.getElem?_toArray, List.getElem?_cons_zero, List.getElem?_cons_succ] at x0_vc0 x0_vc1
      have x0_vl := x0_v.lt
      have r_v := r_1.below hV
      have r_vc0 := r_v.cell 0
      have r_vc1 := r_v.cell 1
      have r_vc2 := r_v.cell 2
      simp only [List.getElem?_toArray, List.getElem?_cons_zero, List.getElem?_cons_succ] at r_vc0 r_vc1 r_vc2
      have r_vl := r_v.lt
      obtain ⟨xc, xf⟩ := xcell (W := V)
      simp only [List.take_succ_cons, List.take_zero, qOf, isLoud, List.any_cons, List.any_nil, Nat.reduceBEq, Bool.or_false, Bool.or_true, Nat.reduceAdd, Bool.false_eq_true, if_true, if_false, beq_self_eq_true, Nat.zero_add]
      repeat (first | go_big_quiet_step (fail) | quiet_step (fail))
      exact wpQuiet_nil rfl
    case loud =>
      simp only [List.drop_succ_cons, List.drop_zero]
      refine ⟨?_, ?_⟩
      · rintro p hp vs v ⟨x, rfl⟩ ls hI hls hw o ho
        simp only [List.mem_cons, List.not_mem_nil, or_false] at hp
        rcases hp with rfl | rfl | rfl
        · simp only [List.getElem?_cons_succ, List.getElem?_cons_zero, Option.some.injEq] at ho
          subst ho
          simp [loudAt, loudUpon, go_sem, putsL, Act.put]
          refine (HT.out x.w ((HK.out.below HB0.out).below x.below)).mono ?_
          rintro e w5 ⟨A5, n5, cap5, rfl, hc5, hn5, hf5, hb5⟩
          refine ⟨_, rfl, Over.of (x.below.trans (hb5.mono x.below.size)), fun _ => ⟨A5, n5, cap5, by simp [upd], hc5, hn5, fun a h => Nat.le_trans x.below.size (hf5 a h), fun h5 => ?_, fun h6 => ?_⟩, fun _ => by simp [updB], fun h6 => by simpa [updB] using hI.2.2 (by simpa [updB] using h6)⟩
          · have h2 := hI.2.1 (by simpa [updB] using h5)
            have hls' : ls 2 = false := hls
            rw [h2] at hls'; cases hls'
          · have h2 := hI.2.1 (hI.2.2 (by simpa [updB] using h6))
            have hls' : ls 2 = false := hls
            rw [h2] at hls'; cases hls'
        · have h2 := hw (2, 12) (by simp) (by kernel_rfl)
          simp only [List.getElem?_cons_succ, List.getElem?_cons_zero, Option.some.injEq] at ho
          subst ho
          obtain ⟨A5, n5, cap5, e5, hc5, hn5, hf5, g5, g6⟩ := hI.1 h2
          simp [loudAt, loudUpon, go_sem, execOp, putsL, Act.put, e5]
          refine ⟨Over.of x.below, fun _ => ⟨A5, n5, cap5, by simpa [upd] using e5, hc5, hn5, hf5, fun _ => by simp [upd], fun h6 => ?_⟩, fun _ => by simpa [updB] using h2, fun _ => by simp [updB]⟩
          have h7 := hI.2.2 (by simpa [updB] using h6)
          have hls' : ls 5 = false := hls
          rw [h7] at hls'; cases hls'
        · have h5 := hw (5, 15) (by simp) (by kernel_rfl)
          simp only [List.getElem?_cons_succ, List.getElem?_cons_zero, Option.some.injEq] at ho
          subst ho
          have h2 := hI.2.1 h5
          obtain ⟨A5, n5, cap5, e5, hc5, hn5, hf5, g5, g6⟩ := hI.1 h2
          have e6 := g5 h5
          simp [loudAt, loudUpon, go_sem, execOp, putsL, Act.put, e6]
          exact ⟨Over.of x.below, fun _ => ⟨A5, n5, cap5, by simpa [upd] using e5, hc5, hn5, hf5, fun _ => by simpa [upd] using e6, fun _ => by simp [upd]⟩, fun _ => by simpa [updB] using h2, fun _ => by simpa [updB] using h5⟩
      · rintro ls vs _ ⟨x, rfl⟩ hI hls
        have h2 := hls (2, 12) (by simp)
        have h5 := hls (5, 15) (by simp)
        have h6 := hls (6, 16) (by simp)
        obtain ⟨A5, n5, cap5, e5, hc5, hn5, hf5, g5, g6⟩ := hI.1 h2
        have e6 := g5 h5
        have e7 := g6 h6
        clear hI hls h2 h5 h6 g5 g6
        simp only [putsL, List.foldl_cons, List.foldl_nil, Act.put, e5, e6, e7, List.setIfInBounds_toArray, List.set_cons_succ, List.set_cons_zero]
        clear e5 e6 e7
        have hxb := x.below
        generalize x.w = vn at *
        have BX := HB0.out.trans (hxb.mono HB0.out.size)
        have r_50 := r_1.below hxb
        have HC5 := Lib.hid hc5
        clear hc5
        have r_50c0 := r_50.cell 0
        have r_50c1 := r_50.cell 1
        have r_50c2 := r_50.cell 2
        simp only [List.getElem?_toArray, List.getElem?_cons_zero, List.getElem?_cons_succ] at r_50c0 r_50c1 r_50c2
        have r_50l := r_50.lt
        have hw0 := HB0.out.size
        have hr := r_50
        have hf0 := r_50.frozen 0
        have hf1 := r_50.frozen 1
        have hf2 := r_50.frozen 2
        have hl := r_50.lt
        have BZ := BX
        go_wp2
        have hF := (((hr.set_ 0 ((.slice A5 n5 cap5))).set_ 1 ((.int .i64 err))).set_ 2 ((.int .i64 0)))
        have k0 := hF.cell 0
        have k1 := hF.cell 1
        have k2 := hF.cell 2
        simp only [List.setIfInBounds_toArray, List.set_cons_zero, List.set_cons_succ, List.getElem?_toArray, List.getElem?_cons_zero, List.getElem?_cons_succ] at k0 k1 k2
        exact bodyPost_ret (v := .agg #[(.slice A5 n5 cap5), (.int .i64 err), (.int .i64 0)]) (by simp [results, Try.results67, go_sem, k0, k1, k2]) rfl (⟨A5, n5, cap5, rfl, HC5.out.sets3 (r := (w.heap.size + 1)) (fun a h => by have := hf5 a h; omega) _ _ _, hn5, (fun a h => by have := hf5 a h; omega), (((BZ.setCell (p := ⟨(w.heap.size + 1), 0, none⟩) (by simp <;> omega) _).setCell (p := ⟨(w.heap.size + 1), 1, none⟩) (by simp <;> omega) _).setCell (p := ⟨(w.heap.size + 1), 2, none⟩) (by simp <;> omega) _)⟩)
end Go.Proofs.Ytipablcbkoedbaa

namespace Go.Proofs.Ytipablcbkoedbaa
open Go.RowKit

/-- What at returns. -/
def atOut (w : World) (ks : List (Int × Int)) (xs : List Int) (err : Int) (en : Ending) (w' : World) : Prop :=
  ∃ A n cap, en = .returned (.tuple #[vCv A n cap (if xs.all (whB ks) = true then err else 0), .bool (xs.all (whB ks))]) ∧ CAt w' A n (if xs.all (whB ks) = true then atL ks xs else []) ∧ n ≤ 1000 ∧ (∀ a, A = some a → w.heap.size ≤ a.block ∧ a.block < w'.heap.size) ∧ Below w.heap.size w w'
theorem wh_yes {ks : List (Int × Int)} {x : Int} (h : whB ks x = true) : whX ks x = x ∧ whY ks x = valN ks x := by
  unfold whB at h
  split at h
  · rename_i c; exact ⟨if_pos c, if_pos c⟩
  · cases h
theorem atL_len (ks : List (Int × Int)) (xs : List Int) : (atL ks xs).length = xs.length := by simp [atL]
theorem atL_take (ks : List (Int × Int)) (xs : List Int) (k : Nat) (hk : k < xs.length) : atL ks (xs.take (k + 1)) = atL ks (xs.take k) ++ [(xs.getD k 0, valN ks (xs.getD k 0))] := by
  rw [List.take_succ_eq_append_getElem hk]
  unfold atL
  rw [List.map_append, List.map_cons, List.map_nil, show xs.getD k 0 = xs[k] by simp [List.getD_eq_getElem?_getD, hk]]

set_option maxRecDepth 100000 in
set_option maxHeartbeats 6400000 in
theorem at_any (b off cap : Nat) (err : Int) (ks : List (Int × Int)) (q qo n qc : Nat) (xs : List Int) (w : World) (h : Kn w b off ks) (hv : Valid ks) (hi : Is w q qo xs) (hn : xs.length = n) (hm : n ≤ 1000) :
    Calls Try.prog 127 #[vCv (some ⟨b, off, none⟩) ks.length cap err, .slice (some ⟨q, qo, none⟩) n qc] w (atOut w ks xs err) := by
  have HKn := Lib.hid h
  have HIs := Lib.hid hi
  have HQl := Lib.hid hi.lt
  have HN := Lib.hid hn
  have HW := Lib.hid (fun x W (hW : Kn W b off ks) => whole_any b off cap err ks x W hW hv)
  obtain ⟨i0, hi0, hi1, hi2, hi3⟩ := info_parts info_knot
  have HI := Lib.hid (show Try.prog.info? 108 = some i0 ∧ i0.zero = some (.agg #[.int .i64 0, .int .i64 0]) ∧ i0.size = 2 ∧ i0.bytes = 16 from ⟨hi0, hi1, hi2, hi3⟩)
  have hkl0 := hv.le
  clear h hi hn hv hi0 hi1 hi2 hi3
  generalize hS : (fun k => atL ks (xs.take k)) = S at *
  have HS := Lib.hid hS
  have HS0 := Lib.hid (show S 0 = [] by rw [← hS]; rfl)
  have HSn := Lib.hid (show S n = atL ks xs by rw [← hS]; show atL ks (xs.take n) = _; rw [← HN.out, List.take_length])
  have HSs := Lib.hid (show ∀ k, k < n → S (k + 1) = S k ++ [(xs.getD k 0, valN ks (xs.getD k 0))] by rw [← hS]; exact fun k hk => atL_take ks xs k (by rw [HN.out]; exact hk))
  clear hS
  have HAll := Lib.hid (show (∀ j, j < n → whB ks (xs.getD j 0) = true) → xs.all (whB ks) = true from fun h => List.all_eq_true.2 fun x hx => by
    obtain ⟨j, hj, rfl⟩ := List.mem_iff_getElem.1 hx
    have := h j (by rw [← HN.out]; exact hj)
    simpa [List.getD_eq_getElem?_getD, hj] using this)
  have HNo := Lib.hid (show ∀ j, j < n → whB ks (xs.getD j 0) = false → xs.all (whB ks) = false from fun j hj h => by
    have hj' : j < xs.length := by rw [HN.out]; exact hj
    refine Bool.eq_false_iff.2 fun c => ?_
    have := List.all_eq_true.1 c _ (List.getElem_mem hj')
    rw [show xs.getD j 0 = xs[j] by simp [List.getD_eq_getElem?_getD, hj']] at h
    rw [h] at this; cases this)
  generalize hW : (w.alloc (.cells #[.slice (some ⟨b, off, none⟩) ks.length cap, .int .i64 err] 24)).alloc (.cells #[.slice none 0 0, .int .i64 0] 24) = W
  have B0 : Below w.heap.size w W := by rw [← hW]; exact (((Below.refl w.heap.size w).alloc (Nat.le_refl _) _).alloc (by simp) _)
  have x0_0 : Blk W w.heap.size 24 #[.slice (some ⟨b, off, none⟩) ks.length cap, .int .i64 err] := by rw [← hW]; exact ((Blk.at_new _ _ rfl).alloc _)
  have r_0 : Blk W (w.heap.size + 1) 24 #[.slice none 0 0, .int .i64 0] := by rw [← hW]; exact (Blk.at_new _ _ (by simp))
  have HWE := Lib.hid hW
  clear hW
  go_enter Try.func127, Try.ntmps127
  have x0_0c0 := x0_0.cell 0
  have x0_0c1 := x0_0.cell 1
  simp only [List.getElem?_toArray, List.getElem?_cons_zero, List.getElem?_cons_succ] at x0_0c0 x0_0c1
  have x0_0l := x0_0.lt
  have r_0c0 := r_0.cell 0
  have r_0c1 := r_0.cell 1
  simp only [List.getElem?_toArray, List.getElem?_cons_zero, List.getElem?_cons_succ] at r_0c0 r_0c1
  have r_0l := r_0.lt
  have hws : w.heap.size + 1 < W.heap.size := r_0l
  go_upto_region 1 with fail
  rw [HWE.out]
  have B1 := B0
  have B1a := B1.alloc B1.size (.cells #[.slice none 0 0, .int .i64 err] 24)
  go_wp2_with fail
  clear x0_0c0 x0_0c1 x0_0l r_0c0 r_0c1 r_0l
  have x0_1 := (x0_0.alloc (.cells #[.slice none 0 0, .int .i64 err] 24))
  have r_1 := (r_0.alloc (.cells #[.slice none 0 0, .int .i64 err] 24))
  clear x0_0 r_0
  have o_1 := (Blk.new W 24 #[.slice none 0 0, .int .i64 err])
  generalize hV1 : W.alloc (.cells #[.slice none 0 0, .int .i64 err] 24) = V1 at *
  generalize hg1 : W.heap.size = g1 at *
  clear hV1 hg1
  have x0_1c0 := x0_1.cell 0
  have x0_1c1 := x0_1.cell 1
  simp only [List.getElem?_toArray, List.getElem?_cons_zero, List.getElem?_cons_succ] at x0_1c0 x0_1c1
  have x0_1l := x0_1.lt
  have r_1c0 := r_1.cell 0
  have r_1c1 := r_1.cell 1
  simp only [List.getElem?_toArray, List.getElem?_cons_zero, List.getElem?_cons_succ] at r_1c0 r_1c1
  have r_1l := r_1.lt
  have o_1c0 := o_1.cell 0
  have o_1c1 := o_1.cell 1
  simp only [List.getElem?_toArray, List.getElem?_cons_zero, List.getElem?_cons_succ] at o_1c0 o_1c1
  have o_1l := o_1.lt
  have hbs : (g1 + 1) ≤ V1.heap.size := o_1l
  go_loopw [16] (fun i wx => ∃ (k : Nat) (v : Value), k ≤ n ∧ i = .int .i64 k ∧ (S k).length = k ∧ (∀ j, j < k → whB ks (xs.getD j 0) = true) ∧ wx.ownsRow (g1 + 1) 108 2 v k ((S k).flatMap encF) ∧ (g1 + 1) ≤ wx.heap.size ∧ Below w.heap.size w wx ∧ Blk wx w.heap.size 24 #[.slice (some ⟨b, off, none⟩) ks.length cap, .int .i64 err] ∧ Blk wx (w.heap.size + 1) 24 #[.slice none 0 0, .int .i64 0] ∧ Blk wx g1 24 #[v, .int .i64 err]) (fun i _ => n - (intOf i).toNat)
  case atStart => exact ⟨0, .slice none 0 0, Nat.zero_le _, rfl, by rw [HS0.out]; rfl, fun j hj => absurd hj (by omega), by rw [HS0.out]; exact World.ownsRow_nil _ _ _ _, hbs, (B1a), x0_1, r_1, o_1⟩
  case round =>
    clear x0_1c0 x0_1c1 x0_1l r_1c0 r_1c1 r_1l o_1c0 o_1c1 o_1l
    obtain ⟨wo, hwo⟩ : ∃ wo : World, wo = wr := ⟨_, rfl⟩
    subst hwo
    obtain ⟨k, v, hk, rfl, htl, hjs, ow_20, hbr, Br, x0_20, r_20, o_20⟩ := hrel
    have HTl := Lib.hid htl
    have HJs := Lib.hid hjs
    clear htl hjs
    obtain ⟨A1, c1, hv1⟩ : ∃ A1 c1, v = .slice A1 k c1 := by
      rcases ow_20.2 with ⟨e, h0⟩ | ⟨gg, cp, cur, e, _⟩
      · exact ⟨none, 0, by rw [e, h0]⟩
      · exact ⟨_, _, e⟩
    have OW0 := Lib.hid ow_20
    clear ow_20
    subst hv1
    have HLT0 := Lib.hid (fun (q : Nat) hq => own_lt (g := q) OW0.out hq)
    have x0_20c0 := x0_20.cell 0
    have x0_20c1 := x0_20.cell 1
    simp only [List.getElem?_toArray, List.getElem?_cons_zero, List.getElem?_cons_succ] at x0_20c0 x0_20c1
    have x0_20l := x0_20.lt
    have r_20c0 := r_20.cell 0
    have r_20c1 := r_20.cell 1
    simp only [List.getElem?_toArray, List.getElem?_cons_zero, List.getElem?_cons_succ] at r_20c0 r_20c1
    have r_20l := r_20.lt
    have o_20c0 := o_20.cell 0
    have o_20c1 := o_20.cell 1
    simp only [List.getElem?_toArray, List.getElem?_cons_zero, List.getElem?_cons_succ] at o_20c0 o_20c1
    have o_20l := o_20.lt
    by_cases hkn : k < n
    case neg =>
      have hkk : k = n := by omega
      subst hkk
      have hal := HAll.out HJs.out
      have how := OW0.out
      rw [HSn.out] at how
      have HAl := Lib.hid hal
      have HC : CAt wo A1 k (atL ks xs) := by
        refine ⟨by rw [atL_len, HN.out], fun h0 => ?_⟩
        obtain ⟨g', cap', e⟩ := Joins.ownsRow_form how h0
        have e2 : A1 = some ⟨g', 0, none⟩ ∧ c1 = cap' := by simpa using e
        obtain ⟨rfl, rfl⟩ := e2
        exact ⟨g', 0, rfl, Kn_of_row (by rw [atL_len, HN.out]) how⟩
      have HCA := Lib.hid HC
      have hfr : ∀ a, A1 = some a → (g1 + 1) ≤ a.block ∧ a.block < wo.heap.size := fun a h => by
        rcases how.2 with ⟨e, h0⟩ | ⟨gg, cp, cur, e, _⟩
        · have : A1 = none := by have := e; simp at this; exact this.1
          rw [this] at h; cases h
        · have e2 : A1 = some ⟨gg, 0, none⟩ := by have := e; simp at this; exact this.1
          subst e2
          have e3 := Option.some.inj h
          subst e3
          exact HLT0.out gg rfl
      have HFr := Lib.hid hfr
      clear hal how HC hfr
      have hr := r_20
      have hf0 := r_20.frozen 0
      have hf1 := r_20.frozen 1
      have hl := r_20.lt
      have BZ := Br
      go_wp2
      have hF := ((hr.set_ 0 ((.slice A1 k c1))).set_ 1 ((.int .i64 err)))
      have k0 := hF.cell 0
      have k1 := hF.cell 1
      simp only [List.setIfInBounds_toArray, List.set_cons_zero, List.set_cons_succ, List.getElem?_toArray, List.getElem?_cons_zero, List.getElem?_cons_succ] at k0 k1
      exact bodyPost_ret (v := .tuple #[.agg #[(.slice A1 k c1), (.int .i64 err)], .bool true]) (by simp [results, Try.results127, go_sem, k0, k1]) rfl (by rw [show atOut w ks xs err = atOut w ks xs err from rfl]; unfold atOut; rw [HAl.out, if_pos rfl, if_pos rfl]; exact ⟨A1, k, c1, rfl, CAt.sets HCA.out (r := (w.heap.size + 1)) (fun a h => by have := HFr.out a h; omega) _ _, hm, (fun a h => by have := HFr.out a h; simp [World.setCell]; omega), ((BZ.setCell (p := ⟨(w.heap.size + 1), 0, none⟩) (by simp <;> omega) _).setCell (p := ⟨(w.heap.size + 1), 1, none⟩) (by simp <;> omega) _)⟩)
    have hK := HKn.out.below Br
    have hIk := (HIs.out.below HQl.out Br).c k (by rw [HN.out]; exact hkn)
    have hIl := (HIs.out.below HQl.out Br).lt
    have HSk := Lib.hid (HSs.out k hkn)
    have HNok := Lib.hid (HNo.out k hkn)
    have HJk := Lib.hid (fun (h : whB ks (xs.getD k 0) = true) j (hj : j < k + 1) => (show whB ks (xs.getD j 0) = true from by
      by_cases e : j = k
      · rw [e]; exact h
      · exact HJs.out j (by omega)))
    have HYes := Lib.hid (fun (h : whB ks (xs.getD k 0) = true) => wh_yes h)
    have HWk := Lib.hid (fun W hW => HW.out (xs.getD k 0) W hW)
    clear hK
    generalize xs.getD k 0 = x at *
    generalize hbw : whB ks x = bw at *
    have HBw := Lib.hid hbw
    clear hbw
    have HXp := Lib.hid (fun (h : bw = true) => (show S (k + 1) = S k ++ [(whX ks x, whY ks x)] by rw [HSk.out, (HYes.out h).1, (HYes.out h).2]))
    generalize whX ks x = ax at *
    generalize whY ks x = ay at *
    have B21 := Br
    go_wp2_with fail
    refine (HWk.out _ (HKn.out.below B21)).mono ?_; rintro e w21 ⟨rfl, hb21⟩
    clear x0_20c0 x0_20c1 x0_20l r_20c0 r_20c1 r_20l o_20c0 o_20c1 o_20l
    have x0_21 := x0_20.below hb21
    have r_21 := r_20.below hb21
    have o_21 := o_20.below hb21
    clear x0_20 r_20 o_20
    have x0_21c0 := x0_21.cell 0
    have x0_21c1 := x0_21.cell 1
    simp only [List.getElem?_toArray, List.getElem?_cons_zero, List.getElem?_cons_succ] at x0_21c0 x0_21c1
    have x0_21l := x0_21.lt
    have r_21c0 := r_21.cell 0
    have r_21c1 := r_21.cell 1
    simp only [List.getElem?_toArray, List.getElem?_cons_zero, List.getElem?_cons_succ] at r_21c0 r_21c1
    have r_21l := r_21.lt
    have o_21c0 := o_21.cell 0
    have o_21c1 := o_21.cell 1
    simp only [List.getElem?_toArray, List.getElem?_cons_zero, List.getElem?_cons_succ] at o_21c0 o_21c1
    have o_21l := o_21.lt
    clear hIk hIl
    cases bw with
    | false =>
      have B22 := B21.trans (hb21.mono B21.size)
      have B22a := B22.alloc B22.size (.cells #[.int .i64 ax, .int .i64 ay] 108)
      go_upto_region 7 with fail
      clear x0_21c0 x0_21c1 x0_21l r_21c0 r_21c1 r_21l o_21c0 o_21c1 o_21l
      have x0_22 := (x0_21.alloc (.cells #[.int .i64 ax, .int .i64 ay] 108))
      have r_22 := (r_21.alloc (.cells #[.int .i64 ax, .int .i64 ay] 108))
      have o_22 := (o_21.alloc (.cells #[.int .i64 ax, .int .i64 ay] 108))
      clear x0_21 r_21 o_21
      have kn_22 := (Blk.new w21 108 #[.int .i64 ax, .int .i64 ay])
      generalize hV22 : w21.alloc (.cells #[.int .i64 ax, .int .i64 ay] 108) = V22 at *
      generalize hg22 : w21.heap.size = g22 at *
      clear hV22 hg22
      have x0_22c0 := x0_22.cell 0
      have x0_22c1 := x0_22.cell 1
      simp only [List.getElem?_toArray, List.getElem?_cons_zero, List.getElem?_cons_succ] at x0_22c0 x0_22c1
      have x0_22l := x0_22.lt
      have r_22c0 := r_22.cell 0
      have r_22c1 := r_22.cell 1
      simp only [List.getElem?_toArray, List.getElem?_cons_zero, List.getElem?_cons_succ] at r_22c0 r_22c1
      have r_22l := r_22.lt
      have o_22c0 := o_22.cell 0
      have o_22c1 := o_22.cell 1
      simp only [List.getElem?_toArray, List.getElem?_cons_zero, List.getElem?_cons_succ] at o_22c0 o_22c1
      have o_22l := o_22.lt
      have kn_22c0 := kn_22.cell 0
      have kn_22c1 := kn_22.cell 1
      simp only [List.getElem?_toArray, List.getElem?_cons_zero, List.getElem?_cons_succ] at kn_22c0 kn_22c1
      have kn_22l := kn_22.lt
      have HNa := Lib.hid (HNok.out (by simp))
      have hr := r_22
      have hf0 := r_22.frozen 0
      have hf1 := r_22.frozen 1
      have hl := r_22.lt
      have BZ := B22a
      go_wp2
      have hF := ((hr.set_ 0 (.slice none 0 0)).set_ 1 (.int .i64 0))
      have k0 := hF.cell 0
      have k1 := hF.cell 1
      simp only [List.setIfInBounds_toArray, List.set_cons_zero, List.set_cons_succ, List.getElem?_toArray, List.getElem?_cons_zero, List.getElem?_cons_succ] at k0 k1
      exact bodyPost_ret (v := .tuple #[.agg #[.slice none 0 0, .int .i64 0], .bool false]) (by simp [results, Try.results127, go_sem, k0, k1]) rfl (by unfold atOut; rw [HNa.out, if_neg Bool.false_ne_true, if_neg Bool.false_ne_true]; exact ⟨none, 0, 0, rfl, ⟨rfl, fun h => absurd h (by omega)⟩, by omega, (fun a h => by cases h), ((BZ.setCell (p := ⟨(w.heap.size + 1), 0, none⟩) (by simp <;> omega) _).setCell (p := ⟨(w.heap.size + 1), 1, none⟩) (by simp <;> omega) _)⟩)
    | true =>
      have ow1_21 := owns_below OW0.out hb21
      have hsz := hb21.size
      have B22 := B21.trans (hb21.mono B21.size)
      have B22a := B22.alloc B22.size (.cells #[.int .i64 ax, .int .i64 ay] 108)
      go_upto_region 8 with fail
      clear x0_21c0 x0_21c1 x0_21l r_21c0 r_21c1 r_21l o_21c0 o_21c1 o_21l
      have x0_22 := (x0_21.alloc (.cells #[.int .i64 ax, .int .i64 ay] 108))
      have r_22 := (r_21.alloc (.cells #[.int .i64 ax, .int .i64 ay] 108))
      have o_22 := (o_21.alloc (.cells #[.int .i64 ax, .int .i64 ay] 108))
      have ow1_22 := (ow1_21.alloc (.cells #[.int .i64 ax, .int .i64 ay] 108))
      clear x0_21 r_21 o_21
      have kn_22 := (Blk.new w21 108 #[.int .i64 ax, .int .i64 ay])
      generalize hV22 : w21.alloc (.cells #[.int .i64 ax, .int .i64 ay] 108) = V22 at *
      generalize hg22 : w21.heap.size = g22 at *
      clear hV22 hg22
      have x0_22c0 := x0_22.cell 0
      have x0_22c1 := x0_22.cell 1
      simp only [List.getElem?_toArray, List.getElem?_cons_zero, List.getElem?_cons_succ] at x0_22c0 x0_22c1
      have x0_22l := x0_22.lt
      have r_22c0 := r_22.cell 0
      have r_22c1 := r_22.cell 1
      simp only [List.getElem?_toArray, List.getElem?_cons_zero, List.getElem?_cons_succ] at r_22c0 r_22c1
      have r_22l := r_22.lt
      have o_22c0 := o_22.cell 0
      have o_22c1 := o_22.cell 1
      simp only [List.getElem?_toArray, List.getElem?_cons_zero, List.getElem?_cons_succ] at o_22c0 o_22c1
      have o_22l := o_22.lt
      have kn_22c0 := kn_22.cell 0
      have kn_22c1 := kn_22.cell 1
      simp only [List.getElem?_toArray, List.getElem?_cons_zero, List.getElem?_cons_succ] at kn_22c0 kn_22c1
      have kn_22l := kn_22.lt
      have OW1 := Lib.hid ow1_22
      clear ow1_22
      have HTrue := Lib.hid (HJk.out (by simp))
      have HX := Lib.hid (HXp.out (by simp))
      have HLT := Lib.hid (fun (q : Nat) hq => (⟨(HLT0.out q hq).1, (HLT0.out q hq).2⟩ : (g1 + 1) ≤ q ∧ q < wo.heap.size))
      have hbq : (g1 + 1) ≤ V22.heap.size := by omega
      go_wp2_with (at_builtin; go_loud (refine wpList_append_own _ rfl (.tmp 30) (.tmp 32) 22 rfl ((g1 + 1)) 108 i0 (.agg #[.int .i64 0, .int .i64 0]) 2 16 Try.underlying22 HI.out.1 HI.out.2.1 HI.out.2.2.1 HI.out.2.2.2 rfl (by decide) _ (k) ((S k).flatMap encF) rfl (OW1.out.alloc _) ⟨V22.heap.size, 0, none⟩ 1 1 [.int .i64 ax, .int .i64 ay] rfl rfl (new_cells2 _ _ _ _) (one_ints2 _ _) (by unfold maxLen; omega) (by omega) (by simp; omega) ?_))
      intro v' w23 hown23 hgrow23 hnn23
      clear x0_22c0 x0_22c1 x0_22l r_22c0 r_22c1 r_22l o_22c0 o_22c1 o_22l kn_22c0 kn_22c1 kn_22l
      have x0_23 := Blk.grown (x0_22.alloc _) hgrow23 (fun h => by have := HLT.out _ h; omega)
      have r_23 := Blk.grown (r_22.alloc _) hgrow23 (fun h => by have := HLT.out _ h; omega)
      have o_23 := Blk.grown (o_22.alloc _) hgrow23 (fun h => by have := HLT.out _ h; omega)
      have kn_23 := Blk.grown (kn_22.alloc _) hgrow23 (fun h => by have := HLT.out _ h; omega)
      have B23 := ((B22a).alloc (B22a).size _).grown hgrow23 (Nat.le_trans (B22a).size (by simp)) (fun kk hk => by have := HLT.out _ hk; omega)
      have hbase23 : (g1 + 1) ≤ w23.heap.size := Nat.le_trans hbq (Nat.le_trans (by simp) hgrow23.size)
      have HNw := Lib.hid hown23
      clear hown23 hgrow23 hnn23
      have x0_23c0 := x0_23.cell 0
      have x0_23c1 := x0_23.cell 1
      simp only [List.getElem?_toArray, List.getElem?_cons_zero, List.getElem?_cons_succ] at x0_23c0 x0_23c1
      have x0_23l := x0_23.lt
      have r_23c0 := r_23.cell 0
      have r_23c1 := r_23.cell 1
      simp only [List.getElem?_toArray, List.getElem?_cons_zero, List.getElem?_cons_succ] at r_23c0 r_23c1
      have r_23l := r_23.lt
      have o_23c0 := o_23.cell 0
      have o_23c1 := o_23.cell 1
      simp only [List.getElem?_toArray, List.getElem?_cons_zero, List.getElem?_cons_succ] at o_23c0 o_23c1
      have o_23l := o_23.lt
      have kn_23c0 := kn_23.cell 0
      have kn_23c1 := kn_23.cell 1
      simp only [List.getElem?_toArray, List.getElem?_cons_zero, List.getElem?_cons_succ] at kn_23c0 kn_23c1
      have kn_23l := kn_23.lt
      have hrow := HNw.out
      obtain ⟨g2, c2, rfl⟩ := ownsRow_succ hrow
      have HRw := Lib.hid hrow
      clear hrow
      have of0 := o_23.frozen 0
      go_wp2
      go_roundw
      case rel =>
        refine ⟨k + 1, .slice (some ⟨g2, 0, none⟩) (k + 1) c2, by omega, by go_num, by rw [HX.out, List.length_append, HTl.out]; rfl, HTrue.out, ?_, by simpa [World.setCell] using hbase23, ?_⟩
        · rw [HX.out, List.flatMap_append]
          have := owns_grown HRw.out (grownBy_setCell' w23 g1 (.slice (some ⟨g2, 0, none⟩) (k + 1) c2)) (fun q hq e => by have := (own_lt HRw.out hq).1; have e2 := Option.some.inj e; omega)
          simpa [encF] using this
        · exact ⟨B23.setCell (p := ⟨g1, 0, none⟩) (by simp <;> omega) _, x0_23.far (p := ⟨g1, 0, none⟩) (by simp <;> omega) _, r_23.far (p := ⟨g1, 0, none⟩) (by simp <;> omega) _, by simpa using o_23.set_ 0 (.slice (some ⟨g2, 0, none⟩) (k + 1) c2)⟩
      case measure => simp [intOf]; omega
end Go.Proofs.Ytipablcbkoedbaa

namespace Go.Proofs.Ytipablcbkoedbaa
open Go.RowKit

section
theorem upB_ne {ls : Nat → Bool} {i j : Nat} (h : j ≠ i) : updB ls i j = ls j := if_neg h
theorem upB_at {ls : Nat → Bool} {i : Nat} : updB ls i i = true := if_pos rfl
theorem up_ne {vs : Nat → Value} {i j : Nat} {u : Value} (h : j ≠ i) : upd vs i u j = vs j := if_neg h
theorem up_at {vs : Nat → Value} {i : Nat} {u : Value} : upd vs i u i = u := if_pos rfl
/-- The call (p), its value (p + 1), its parts (p + 2, p + 3), the new curve (p + 4), and what is stored into it (p + 5). -/
structure AtI (p b0 : Nat) (t : TypeId) (R : List (Int × Int)) (fe : Int) (ok : Bool) (ls : Nat → Bool) (vs : Nat → Value) (v : World) : Prop where
  call : ls p = true → ∃ A n cap, vs p = .tuple #[vCv A n cap fe, .bool ok] ∧ CAt v A n R ∧ n ≤ 1000 ∧ (∀ a, A = some a → b0 ≤ a.block ∧ a.block < v.heap.size) ∧
    (ls (p + 1) = true → vs (p + 1) = .tuple #[vCv A n cap fe, .bool ok]) ∧ (ls (p + 2) = true → vs (p + 2) = vCv A n cap fe) ∧ (ls (p + 3) = true → vs (p + 3) = .bool ok) ∧
    (ls (p + 4) = true → ∀ g, vs (p + 4) = .pointer (some ⟨g, 0, none⟩) → (∀ a, A = some a → a.block ≠ g) ∧ (ls (p + 5) = true → Blk v g t #[.slice A n cap, .int .i64 fe]))
  l1 : ls (p + 1) = true → ls p = true
  l2 : ls (p + 2) = true → ls (p + 1) = true
  l3 : ls (p + 3) = true → ls (p + 1) = true
  l5 : ls (p + 5) = true → ls (p + 2) = true ∧ ls (p + 4) = true
  new : ls (p + 4) = true → ∃ g, vs (p + 4) = .pointer (some ⟨g, 0, none⟩) ∧ b0 ≤ g ∧ g < v.heap.size ∧ (ls (p + 5) = false → Blk v g t #[.slice none 0 0, .int .i64 0])
theorem nof {q : Prop} (h : false = true) : q := Bool.noConfusion h
theorem up_false {a b : Bool} (h : a = true → b = true) (hb : b = false) : a = false := by
  cases a with
  | false => rfl
  | true => rw [h rfl] at hb; cases hb
variable {p b0 : Nat} {t : TypeId} {R : List (Int × Int)} {fe : Int} {ok : Bool} {ls : Nat → Bool} {vs : Nat → Value} {v v' : World}
theorem AtI.start : AtI p b0 t R fe ok (fun _ => false) (fun _ => undef) v :=
  ⟨nof, nof, nof, nof, nof, nof⟩
theorem AtI.below (h : AtI p b0 t R fe ok ls vs v) (k : Below v.heap.size v v') : AtI p b0 t R fe ok ls vs v' := by
  refine ⟨fun a => ?_, h.l1, h.l2, h.l3, h.l5, fun a => ?_⟩
  · obtain ⟨A, n, cap, e1, e2, e3, e4, e5, e6, e7, e8⟩ := h.call a
    exact ⟨A, n, cap, e1, e2.below k, e3, fun a e => ⟨(e4 a e).1, Nat.lt_of_lt_of_le (e4 a e).2 k.size⟩, e5, e6, e7, fun a g e => ⟨(e8 a g e).1, fun a => ((e8 ‹_› g e).2 a).below k⟩⟩
  · obtain ⟨g, e1, e2, e3, e4⟩ := h.new a
    exact ⟨g, e1, e2, Nat.lt_of_lt_of_le e3 k.size, fun a => (e4 a).below k⟩
/-- A row of old is written ahead of the call. -/
theorem AtI.grown {r : Nat} (h : AtI p b0 t R fe ok ls vs v) (hp : ls p = false) (k : v.grownBy v' (some r)) (hr : r < b0) : AtI p b0 t R fe ok ls vs v' := by
  refine ⟨fun a => nof (hp.symm.trans a), h.l1, h.l2, h.l3, h.l5, fun a => ?_⟩
  obtain ⟨g, e1, e2, e3, e4⟩ := h.new a
  exact ⟨g, e1, e2, Nat.lt_of_lt_of_le e3 k.size, fun a => (e4 a).grown k (fun e => by have := Option.some.inj e; omega)⟩
/-- An operation ahead of the call is done. -/
theorem AtI.pre {q : Nat} {u : Value} (h : AtI p b0 t R fe ok ls vs v) (hq : q < p) : AtI p b0 t R fe ok (updB ls q) (upd vs q u) v := by
  have n0 : updB ls q p = ls p := upB_ne (by omega)
  have n1 : updB ls q (p + 1) = ls (p + 1) := upB_ne (by omega)
  have n2 : updB ls q (p + 2) = ls (p + 2) := upB_ne (by omega)
  have n3 : updB ls q (p + 3) = ls (p + 3) := upB_ne (by omega)
  have n4 : updB ls q (p + 4) = ls (p + 4) := upB_ne (by omega)
  have n5 : updB ls q (p + 5) = ls (p + 5) := upB_ne (by omega)
  have m0 : upd vs q u p = vs p := up_ne (by omega)
  have m1 : upd vs q u (p + 1) = vs (p + 1) := up_ne (by omega)
  have m2 : upd vs q u (p + 2) = vs (p + 2) := up_ne (by omega)
  have m3 : upd vs q u (p + 3) = vs (p + 3) := up_ne (by omega)
  have m4 : upd vs q u (p + 4) = vs (p + 4) := up_ne (by omega)
  constructor
  · rw [n0, n1, n2, n3, n4, n5, m0, m1, m2, m3, m4]; exact h.call
  · rw [n0, n1]; exact h.l1
  · rw [n1, n2]; exact h.l2
  · rw [n1, n3]; exact h.l3
  · rw [n2, n4, n5]; exact h.l5
  · rw [n4, n5, m4]; exact h.new
theorem AtI.did (h : AtI p b0 t R fe ok ls vs v) (hs : ls p = false) {A : Option Addr} {n cap : Nat} (hc : CAt v' A n R) (hn : n ≤ 1000) (hA : ∀ a, A = some a → v.heap.size ≤ a.block ∧ a.block < v'.heap.size) (hb0 : b0 ≤ v.heap.size) (k : Below v.heap.size v v') :
    AtI p b0 t R fe ok (updB ls p) (upd vs p (.tuple #[vCv A n cap fe, .bool ok])) v' := by
  have h' := h.below k
  have f1 := up_false h.l1 hs
  have f2 := up_false h.l2 f1
  have f3 := up_false h.l3 f1
  have f5 := up_false (fun a => (h.l5 a).1) f2
  have n1 : updB ls p (p + 1) = false := (upB_ne (by omega)).trans f1
  have n2 : updB ls p (p + 2) = false := (upB_ne (by omega)).trans f2
  have n3 : updB ls p (p + 3) = false := (upB_ne (by omega)).trans f3
  have n4 : updB ls p (p + 4) = ls (p + 4) := upB_ne (by omega)
  have n5 : updB ls p (p + 5) = false := (upB_ne (by omega)).trans f5
  have m4 : upd vs p (.tuple #[vCv A n cap fe, .bool ok]) (p + 4) = vs (p + 4) := up_ne (by omega)
  constructor
  · rw [n1, n2, n3, n4, n5, m4]
    refine fun _ => ⟨A, n, cap, up_at, hc, hn, fun a e => ⟨Nat.le_trans hb0 (hA a e).1, (hA a e).2⟩, nof, nof, nof, fun a g e => ⟨fun a' ea => ?_, nof⟩⟩
    obtain ⟨g', e1, e2, e3, e4⟩ := h.new a
    rw [e1] at e
    have eg : g' = g := by simpa using e
    have := (hA a' ea).1
    omega
  · rw [n1]; exact nof
  · rw [n2]; exact nof
  · rw [n3]; exact nof
  · rw [n5]; exact nof
  · rw [n4, n5, m4]
    intro a
    obtain ⟨g, e1, e2, e3, e4⟩ := h'.new a
    exact ⟨g, e1, e2, e3, fun _ => e4 f5⟩
theorem AtI.moved (h : AtI p b0 t R fe ok ls vs v) (hp : ls p = true) : AtI p b0 t R fe ok (updB ls (p + 1)) (upd vs (p + 1) (vs p)) v := by
  have n0 : updB ls (p + 1) p = ls p := upB_ne (by omega)
  have n1 : updB ls (p + 1) (p + 1) = true := upB_at
  have n2 : updB ls (p + 1) (p + 2) = ls (p + 2) := upB_ne (by omega)
  have n3 : updB ls (p + 1) (p + 3) = ls (p + 3) := upB_ne (by omega)
  have n4 : updB ls (p + 1) (p + 4) = ls (p + 4) := upB_ne (by omega)
  have n5 : updB ls (p + 1) (p + 5) = ls (p + 5) := upB_ne (by omega)
  have m0 : upd vs (p + 1) (vs p) p = vs p := up_ne (by omega)
  have m1 : upd vs (p + 1) (vs p) (p + 1) = vs p := up_at
  have m2 : upd vs (p + 1) (vs p) (p + 2) = vs (p + 2) := up_ne (by omega)
  have m3 : upd vs (p + 1) (vs p) (p + 3) = vs (p + 3) := up_ne (by omega)
  have m4 : upd vs (p + 1) (vs p) (p + 4) = vs (p + 4) := up_ne (by omega)
  constructor
  · rw [n0, n1, n2, n3, n4, n5, m0, m1, m2, m3, m4]
    intro a
    obtain ⟨A, n, cap, e1, e2, e3, e4, e5, e6⟩ := h.call a
    exact ⟨A, n, cap, e1, e2, e3, e4, fun _ => e1, e6⟩
  · rw [n0]; exact fun _ => hp
  · rw [n1]; exact fun _ => rfl
  · rw [n1]; exact fun _ => rfl
  · rw [n2, n4, n5]; exact h.l5
  · rw [n4, n5, m4]; exact h.new
theorem AtI.part0 (h : AtI p b0 t R fe ok ls vs v) (h1 : ls (p + 1) = true) : ∃ A n cap, vs (p + 1) = .tuple #[vCv A n cap fe, .bool ok] ∧ AtI p b0 t R fe ok (updB ls (p + 2)) (upd vs (p + 2) (vCv A n cap fe)) v := by
  obtain ⟨A, n, cap, e1, e2, e3, e4, e5, e6, e7, e8⟩ := h.call (h.l1 h1)
  refine ⟨A, n, cap, e5 h1, ?_⟩
  have n0 : updB ls (p + 2) p = ls p := upB_ne (by omega)
  have n1 : updB ls (p + 2) (p + 1) = ls (p + 1) := upB_ne (by omega)
  have n2 : updB ls (p + 2) (p + 2) = true := upB_at
  have n3 : updB ls (p + 2) (p + 3) = ls (p + 3) := upB_ne (by omega)
  have n4 : updB ls (p + 2) (p + 4) = ls (p + 4) := upB_ne (by omega)
  have n5 : updB ls (p + 2) (p + 5) = ls (p + 5) := upB_ne (by omega)
  have m0 : upd vs (p + 2) (vCv A n cap fe) p = vs p := up_ne (by omega)
  have m1 : upd vs (p + 2) (vCv A n cap fe) (p + 1) = vs (p + 1) := up_ne (by omega)
  have m2 : upd vs (p + 2) (vCv A n cap fe) (p + 2) = vCv A n cap fe := up_at
  have m3 : upd vs (p + 2) (vCv A n cap fe) (p + 3) = vs (p + 3) := up_ne (by omega)
  have m4 : upd vs (p + 2) (vCv A n cap fe) (p + 4) = vs (p + 4) := up_ne (by omega)
  constructor
  · rw [n0, n1, n2, n3, n4, n5, m0, m1, m2, m3, m4]
    exact fun _ => ⟨A, n, cap, e1, e2, e3, e4, e5, fun _ => rfl, e7, e8⟩
  · rw [n0, n1]; exact h.l1
  · rw [n1]; exact fun _ => h1
  · rw [n1]; exact fun _ => h1
  · rw [n2, n4, n5]; exact fun a => ⟨rfl, (h.l5 a).2⟩
  · rw [n4, n5, m4]; exact h.new
theorem AtI.part1 (h : AtI p b0 t R fe ok ls vs v) (h1 : ls (p + 1) = true) : ∃ A n cap, vs (p + 1) = .tuple #[vCv A n cap fe, .bool ok] ∧ AtI p b0 t R fe ok (updB ls (p + 3)) (upd vs (p + 3) (.bool ok)) v := by
  obtain ⟨A, n, cap, e1, e2, e3, e4, e5, e6, e7, e8⟩ := h.call (h.l1 h1)
  refine ⟨A, n, cap, e5 h1, ?_⟩
  have n0 : updB ls (p + 3) p = ls p := upB_ne (by omega)
  have n1 : updB ls (p + 3) (p + 1) = ls (p + 1) := upB_ne (by omega)
  have n2 : updB ls (p + 3) (p + 2) = ls (p + 2) := upB_ne (by omega)
  have n3 : updB ls (p + 3) (p + 3) = true := upB_at
  have n4 : updB ls (p + 3) (p + 4) = ls (p + 4) := upB_ne (by omega)
  have n5 : updB ls (p + 3) (p + 5) = ls (p + 5) := upB_ne (by omega)
  have m0 : upd vs (p + 3) (.bool ok) p = vs p := up_ne (by omega)
  have m1 : upd vs (p + 3) (.bool ok) (p + 1) = vs (p + 1) := up_ne (by omega)
  have m2 : upd vs (p + 3) (.bool ok) (p + 2) = vs (p + 2) := up_ne (by omega)
  have m3 : upd vs (p + 3) (.bool ok) (p + 3) = .bool ok := up_at
  have m4 : upd vs (p + 3) (.bool ok) (p + 4) = vs (p + 4) := up_ne (by omega)
  constructor
  · rw [n0, n1, n2, n3, n4, n5, m0, m1, m2, m3, m4]
    exact fun _ => ⟨A, n, cap, e1, e2, e3, e4, e5, e6, fun _ => rfl, e8⟩
  · rw [n0, n1]; exact h.l1
  · rw [n1, n2]; exact h.l2
  · rw [n1]; exact fun _ => h1
  · rw [n2, n4, n5]; exact h.l5
  · rw [n4, n5, m4]; exact h.new
theorem AtI.laid (h : AtI p b0 t R fe ok ls vs v) (hs : ls (p + 4) = false) (hb0 : b0 ≤ v.heap.size) : AtI p b0 t R fe ok (updB ls (p + 4)) (upd vs (p + 4) (.pointer (some ⟨v.heap.size, 0, none⟩))) (v.alloc (.cells #[.slice none 0 0, .int .i64 0] t)) := by
  have hb : Below v.heap.size v (v.alloc (.cells #[.slice none 0 0, .int .i64 0] t)) := (Below.refl v.heap.size v).alloc (Nat.le_refl _) _
  have h' := h.below hb
  have f5 := up_false (fun a => (h.l5 a).2) hs
  have n0 : updB ls (p + 4) p = ls p := upB_ne (by omega)
  have n1 : updB ls (p + 4) (p + 1) = ls (p + 1) := upB_ne (by omega)
  have n2 : updB ls (p + 4) (p + 2) = ls (p + 2) := upB_ne (by omega)
  have n3 : updB ls (p + 4) (p + 3) = ls (p + 3) := upB_ne (by omega)
  have n4 : updB ls (p + 4) (p + 4) = true := upB_at
  have n5 : updB ls (p + 4) (p + 5) = false := (upB_ne (by omega)).trans f5
  have m0 : upd vs (p + 4) (.pointer (some ⟨v.heap.size, 0, none⟩)) p = vs p := up_ne (by omega)
  have m1 : upd vs (p + 4) (.pointer (some ⟨v.heap.size, 0, none⟩)) (p + 1) = vs (p + 1) := up_ne (by omega)
  have m2 : upd vs (p + 4) (.pointer (some ⟨v.heap.size, 0, none⟩)) (p + 2) = vs (p + 2) := up_ne (by omega)
  have m3 : upd vs (p + 4) (.pointer (some ⟨v.heap.size, 0, none⟩)) (p + 3) = vs (p + 3) := up_ne (by omega)
  have m4 : upd vs (p + 4) (.pointer (some ⟨v.heap.size, 0, none⟩)) (p + 4) = .pointer (some ⟨v.heap.size, 0, none⟩) := up_at
  constructor
  · rw [n0, n1, n2, n3, n4, n5, m0, m1, m2, m3, m4]
    intro a
    obtain ⟨A, n, cap, e1, e2, e3, e4, e5, e6, e7, e8⟩ := h.call a
    refine ⟨A, n, cap, e1, e2.below hb, e3, fun a e => ⟨(e4 a e).1, Nat.lt_of_lt_of_le (e4 a e).2 hb.size⟩, e5, e6, e7, fun _ g e => ⟨fun a e' => ?_, nof⟩⟩
    have eg : v.heap.size = g := by simpa using e
    have := (e4 a e').2
    omega
  · rw [n0, n1]; exact h.l1
  · rw [n1, n2]; exact h.l2
  · rw [n1, n3]; exact h.l3
  · rw [n5]; exact nof
  · rw [n5, m4]
    exact fun _ => ⟨v.heap.size, rfl, hb0, by simp, fun _ => Blk.new _ _ _⟩
/-- What the store finds, and what it leaves. -/
theorem AtI.stored (h : AtI p b0 t R fe ok ls vs v) (hs : ls (p + 5) = false) (h2 : ls (p + 2) = true) (h4 : ls (p + 4) = true) :
    ∃ A n cap g, vs (p + 2) = vCv A n cap fe ∧ vs (p + 4) = .pointer (some ⟨g, 0, none⟩) ∧ b0 ≤ g ∧ g < v.heap.size ∧ Blk v g t #[.slice none 0 0, .int .i64 0] ∧
      ∀ u, AtI p b0 t R fe ok (updB ls (p + 5)) (upd vs (p + 5) u) ((v.setCell ⟨g, 0, none⟩ (.slice A n cap)).setCell ⟨g, 1, none⟩ (.int .i64 fe)) := by
  obtain ⟨A, n, cap, e1, e2, e3, e4, e5, e6, e7, e8⟩ := h.call (h.l1 (h.l2 h2))
  obtain ⟨g, g1, g2, g3, g4⟩ := h.new h4
  refine ⟨A, n, cap, g, e6 h2, g1, g2, g3, g4 hs, fun u => ?_⟩
  have hne := (e8 h4 g g1).1
  have n0 : updB ls (p + 5) p = ls p := upB_ne (by omega)
  have n1 : updB ls (p + 5) (p + 1) = ls (p + 1) := upB_ne (by omega)
  have n2 : updB ls (p + 5) (p + 2) = ls (p + 2) := upB_ne (by omega)
  have n3 : updB ls (p + 5) (p + 3) = ls (p + 3) := upB_ne (by omega)
  have n4 : updB ls (p + 5) (p + 4) = ls (p + 4) := upB_ne (by omega)
  have n5 : updB ls (p + 5) (p + 5) = true := upB_at
  have m0 : upd vs (p + 5) u p = vs p := up_ne (by omega)
  have m1 : upd vs (p + 5) u (p + 1) = vs (p + 1) := up_ne (by omega)
  have m2 : upd vs (p + 5) u (p + 2) = vs (p + 2) := up_ne (by omega)
  have m3 : upd vs (p + 5) u (p + 3) = vs (p + 3) := up_ne (by omega)
  have m4 : upd vs (p + 5) u (p + 4) = vs (p + 4) := up_ne (by omega)
  constructor
  · rw [n0, n1, n2, n3, n4, n5, m0, m1, m2, m3, m4]
    refine fun _ => ⟨A, n, cap, e1, e2.sets hne _ _, e3, fun a e => ⟨(e4 a e).1, by simpa [World.setCell] using (e4 a e).2⟩, e5, e6, e7, fun _ g' e => ?_⟩
    rw [g1] at e
    have eg : g = g' := by simpa using e
    subst eg
    refine ⟨hne, fun _ => ?_⟩
    have := ((g4 hs).set_ 0 (.slice A n cap)).set_ 1 (.int .i64 fe)
    simpa using this
  · rw [n0, n1]; exact h.l1
  · rw [n1, n2]; exact h.l2
  · rw [n1, n3]; exact h.l3
  · rw [n2, n4]; exact fun _ => ⟨h2, h4⟩
  · rw [n4, n5, m4]
    exact fun _ => ⟨g, g1, g2, by simpa [World.setCell] using g3, fun a => Bool.noConfusion a⟩
theorem AtI.done (h : AtI p b0 t R fe ok ls vs v) (h3 : ls (p + 3) = true) (h5 : ls (p + 5) = true) :
    ∃ A n cap g, vs p = .tuple #[vCv A n cap fe, .bool ok] ∧ vs (p + 1) = .tuple #[vCv A n cap fe, .bool ok] ∧ vs (p + 2) = vCv A n cap fe ∧ vs (p + 3) = .bool ok ∧ vs (p + 4) = .pointer (some ⟨g, 0, none⟩) ∧
      CAt v A n R ∧ n ≤ 1000 ∧ (∀ a, A = some a → b0 ≤ a.block ∧ a.block < v.heap.size ∧ a.block ≠ g) ∧ b0 ≤ g ∧ g < v.heap.size ∧ Blk v g t #[.slice A n cap, .int .i64 fe] := by
  obtain ⟨h2, h4⟩ := h.l5 h5
  obtain ⟨A, n, cap, e1, e2, e3, e4, e5, e6, e7, e8⟩ := h.call (h.l1 (h.l2 h2))
  obtain ⟨g, g1, g2, g3, g4⟩ := h.new h4
  exact ⟨A, n, cap, g, e1, e5 (h.l2 h2), e6 h2, e7 h3, g1, e2, e3, fun a e => ⟨(e4 a e).1, (e4 a e).2, (e8 h4 g g1).1 a e⟩, g2, g3, (e8 h4 g g1).2 h5⟩
theorem AtI.part0E {K : Prop} (h : AtI p b0 t R fe ok ls vs v) (h1 : ls (p + 1) = true) (k : ∀ A n cap, vs (p + 1) = .tuple #[vCv A n cap fe, .bool ok] → AtI p b0 t R fe ok (updB ls (p + 2)) (upd vs (p + 2) (vCv A n cap fe)) v → K) : K := by
  obtain ⟨A, n, cap, e, h⟩ := h.part0 h1
  exact k A n cap e h
theorem AtI.part1E {K : Prop} (h : AtI p b0 t R fe ok ls vs v) (h1 : ls (p + 1) = true) (k : ∀ A n cap, vs (p + 1) = .tuple #[vCv A n cap fe, .bool ok] → AtI p b0 t R fe ok (updB ls (p + 3)) (upd vs (p + 3) (.bool ok)) v → K) : K := by
  obtain ⟨A, n, cap, e, h⟩ := h.part1 h1
  exact k A n cap e h
theorem AtI.storedE {K : Prop} (h : AtI p b0 t R fe ok ls vs v) (hs : ls (p + 5) = false) (h2 : ls (p + 2) = true) (h4 : ls (p + 4) = true)
    (k : ∀ A n cap g, vs (p + 2) = vCv A n cap fe → vs (p + 4) = .pointer (some ⟨g, 0, none⟩) → b0 ≤ g → g < v.heap.size → Blk v g t #[.slice none 0 0, .int .i64 0] →
      (∀ u, AtI p b0 t R fe ok (updB ls (p + 5)) (upd vs (p + 5) u) ((v.setCell ⟨g, 0, none⟩ (.slice A n cap)).setCell ⟨g, 1, none⟩ (.int .i64 fe))) → K) : K := by
  obtain ⟨A, n, cap, g, a, b, c, d, e, f⟩ := h.stored hs h2 h4
  exact k A n cap g a b c d e f
theorem AtI.doneE {K : Prop} (h : AtI p b0 t R fe ok ls vs v) (h3 : ls (p + 3) = true) (h5 : ls (p + 5) = true)
    (k : ∀ A n cap g, vs p = .tuple #[vCv A n cap fe, .bool ok] → vs (p + 1) = .tuple #[vCv A n cap fe, .bool ok] → vs (p + 2) = vCv A n cap fe → vs (p + 3) = .bool ok → vs (p + 4) = .pointer (some ⟨g, 0, none⟩) →
      CAt v A n R → n ≤ 1000 → (∀ a, A = some a → b0 ≤ a.block ∧ a.block < v.heap.size ∧ a.block ≠ g) → b0 ≤ g → g < v.heap.size → Blk v g t #[.slice A n cap, .int .i64 fe] → K) : K := by
  obtain ⟨A, n, cap, g, a, b, c, d, e, f, x, y, z, q, r⟩ := h.done h3 h5
  exact k A n cap g a b c d e f x y z q r
end
end Go.Proofs.Ytipablcbkoedbaa
