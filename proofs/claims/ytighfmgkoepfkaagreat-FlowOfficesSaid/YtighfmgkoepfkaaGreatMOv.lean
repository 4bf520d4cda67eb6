/- The office of the specification behind a deed. -/
import Derived.Test.YtighfmgkoepfkaaGreatMOb
namespace Go.Proofs.YtighfmgkoepfkaaGreat
open Go.RowKit

theorem OwnT.set2 {v : World} {L g : Nat} {v1 v2 a b x y : Value} {hs : List Hd} {ms : List Mv} (h : OwnT v L v1 v2 hs ms) (hb : Blk v g 74 #[a, b]) : OwnT ((v.setCell ⟨g, 0, none⟩ x).setCell ⟨g, 1, none⟩ y) L v1 v2 hs ms := by
  have hg := grown_set2 v g x y
  exact ⟨owns_grown h.h hg (fun r hr e => own_ne h.h hb (by decide) (by rw [hr, ← e])), owns_grown h.m hg (fun r hr e => own_ne h.m hb (by decide) (by rw [hr, ← e]))⟩
theorem OwnT.tr {w : World} {L : Nat} {A : Option Addr} {n c : Nat} {B : Option Addr} {m d : Nat} {hs : List Hd} {ms : List Mv} (h : OwnT w L (.slice A n c) (.slice B m d) hs ms) (h1 : hs.length ≤ 9 ∧ ms.length ≤ 24) : TR.Ok w ⟨A, n, c, B, m, d, hs, ms⟩ ∧ n ≤ 1000000 ∧ m ≤ 1000000 := by
  obtain ⟨A', c', B', d', e1, e2, a1, a2, a3, a4, _, _⟩ := h.form
  cases e1
  cases e2
  exact ⟨⟨a1, a2, by dsimp only; omega, by dsimp only; omega, a3, a4⟩, by omega, by omega⟩
theorem OfE.set2 {v : World} {L p K g : Nat} {a b x y : Value} {hs : List Hd} {ms : List Mv} (h : OfE v L p K hs ms) (hb : Blk v g 74 #[a, b]) : OfE ((v.setCell ⟨g, 0, none⟩ x).setCell ⟨g, 1, none⟩ y) L p K hs ms := by
  obtain ⟨A, n, c, d, k, O, q, oc, hk, h⟩ := h
  have hg := grown_set2 v g x y
  refine ⟨A, n, c, d, k, O, q, oc, hk, h.grown hg fun r hr => ?_⟩
  have e : g = r := Option.some.inj hr
  subst e
  refine ⟨fun e => ?_, h.mp.ne_cells hb, fun e => own_ne h.hrow hb (by decide) e, fun e => own_ne h.orow hb (by decide) e⟩
  subst e
  have h1 := h.blk
  unfold Blk at h1 hb
  rw [h1] at hb
  have := Option.some.inj hb
  simp only [Obj.cells.injEq] at this
  exact absurd this.2.1 (by decide)
structure XtP (L gx : Nat) (s1 s2 : Value) (hs : List Hd) (ms : List Mv) (er : Int) (ls : Nat → Bool) (vs : Nat → Value) (v : World) : Prop where
  p0 : ls 0 = true → vs 0 = .agg #[s1, s2]
  bk : ls 11 = false → Blk v gx 74 #[s1, s2]
  pc : ls 7 = true → ls 0 = true ∧ ∃ (A : Option Addr) (n k : Nat) (B : Option Addr) (m d : Nat), vs 7 = .tuple #[.agg #[.slice A n k, .slice B m d], .int .i64 er] ∧ OwnT v L (.slice A n k) (.slice B m d) hs ms
  pm : ls 8 = true → ls 7 = true ∧ vs 8 = vs 7
  pe : ls 9 = true → ls 7 = true ∧ ∃ a b, vs 7 = .tuple #[a, b] ∧ vs 9 = a
  pf : ls 10 = true → ls 7 = true ∧ ∃ a b, vs 7 = .tuple #[a, b] ∧ vs 10 = b
  ps : ls 11 = true → ls 9 = true ∧ ∃ a b, vs 9 = .agg #[a, b] ∧ Blk v gx 74 #[a, b]
  pl : ls 12 = true → ls 10 = true ∧ vs 12 = vs 10
section
variable {L gx : Nat} {s1 s2 : Value} {hs : List Hd} {ms : List Mv} {er : Int} {ls : Nat → Bool} {vs : Nat → Value} {v v' : World}
theorem XtP.init (h : Blk v gx 74 #[s1, s2]) : XtP L gx s1 s2 hs ms er (fun _ => false) (fun _ => undef) v :=
  ⟨fun a => (by cases a), fun _ => h, fun a => (by cases a), fun a => (by cases a), fun a => (by cases a), fun a => (by cases a), fun a => (by cases a), fun a => (by cases a)⟩
theorem XtP.below (h : XtP L gx s1 s2 hs ms er ls vs v) (hb : Below v.heap.size v v') : XtP L gx s1 s2 hs ms er ls vs v' :=
  ⟨h.p0, fun a => (h.bk a).below hb, fun a => let ⟨q, A, n, k, B, m, d, x, y⟩ := h.pc a; ⟨q, A, n, k, B, m, d, x, y.below hb⟩, h.pm, h.pe, h.pf, fun a => let ⟨q, x, y, z, k⟩ := h.ps a; ⟨q, x, y, z, k.below hb⟩, h.pl⟩
theorem XtP.unsaid (h : XtP L gx s1 s2 hs ms er ls vs v) (h2 : ls 0 = false ∨ ls 7 = false ∨ ls 9 = false) : ls 11 = false := by
  cases c : ls 11 with
  | false => rfl
  | true =>
    obtain ⟨a, _⟩ := h.ps c
    obtain ⟨b, _⟩ := h.pe a
    obtain ⟨d, _⟩ := h.pc b
    rcases h2 with e | e | e
    · rw [d] at e; cases e
    · rw [b] at e; cases e
    · rw [a] at e; cases e
theorem XtP.s0 (h : XtP L gx s1 s2 hs ms er ls vs v) (hl : ls 0 = false) : XtP L gx s1 s2 hs ms er (updB ls 0) (upd vs 0 (.agg #[s1, s2])) v := by
  have n4 := h.unsaid (.inl hl)
  refine ⟨fun a => ?_, fun a => ?_, fun a => ?_, fun a => ?_, fun a => ?_, fun a => ?_, fun a => ?_, fun a => ?_⟩
  · simp [upd]
  · simpa [updB, upd] using h.bk (by simpa [updB] using a)
  · have q := h.pc (by simpa [updB] using a)
    exact ⟨by simp [updB], by simpa [upd] using q.2⟩
  · simpa [updB, upd] using h.pm (by simpa [updB] using a)
  · simpa [updB, upd] using h.pe (by simpa [updB] using a)
  · simpa [updB, upd] using h.pf (by simpa [updB] using a)
  · simp [updB, n4] at a
  · simpa [updB, upd] using h.pl (by simpa [updB] using a)
theorem XtP.sc (h : XtP L gx s1 s2 hs ms er ls vs v) (h0 : ls 0 = true) (hl : ls 7 = false) (hb : Below v.heap.size v v') {A : Option Addr} {n k : Nat} {B : Option Addr} {m d : Nat} (ho : OwnT v' L (.slice A n k) (.slice B m d) hs ms) : XtP L gx s1 s2 hs ms er (updB ls 7) (upd vs 7 (.tuple #[.agg #[.slice A n k, .slice B m d], .int .i64 er])) v' := by
  have n4 := h.unsaid (.inr (.inl hl))
  have no : ∀ {p : Prop}, ls 7 = true → p := fun e => by rw [hl] at e; cases e
  refine ⟨fun a => ?_, fun a => ?_, fun a => ?_, fun a => ?_, fun a => ?_, fun a => ?_, fun a => ?_, fun a => ?_⟩
  · simpa [updB, upd] using h.p0 (by simpa [updB] using a)
  · exact (h.bk n4).below hb
  · exact ⟨by simpa [updB] using h0, A, n, k, B, m, d, by simp [upd], ho⟩
  · exact no (h.pm (by simpa [updB] using a)).1
  · exact no (h.pe (by simpa [updB] using a)).1
  · exact no (h.pf (by simpa [updB] using a)).1
  · simp [updB, n4] at a
  · simpa [updB, upd] using h.pl (by simpa [updB] using a)
theorem XtP.sm (h : XtP L gx s1 s2 hs ms er ls vs v) (hc : ls 7 = true) : XtP L gx s1 s2 hs ms er (updB ls 8) (upd vs 8 (vs 7)) v := by
  refine ⟨fun a => ?_, fun a => ?_, fun a => ?_, fun a => ?_, fun a => ?_, fun a => ?_, fun a => ?_, fun a => ?_⟩
  · simpa [updB, upd] using h.p0 (by simpa [updB] using a)
  · simpa [updB, upd] using h.bk (by simpa [updB] using a)
  · simpa [updB, upd] using h.pc (by simpa [updB] using a)
  · exact ⟨by simpa [updB] using hc, by simp [upd]⟩
  · simpa [updB, upd] using h.pe (by simpa [updB] using a)
  · simpa [updB, upd] using h.pf (by simpa [updB] using a)
  · simpa [updB, upd] using h.ps (by simpa [updB] using a)
  · simpa [updB, upd] using h.pl (by simpa [updB] using a)
theorem XtP.se (h : XtP L gx s1 s2 hs ms er ls vs v) (hc : ls 7 = true) (hl : ls 9 = false) {x y : Value} (e : vs 7 = .tuple #[x, y]) : XtP L gx s1 s2 hs ms er (updB ls 9) (upd vs 9 x) v := by
  have n4 := h.unsaid (.inr (.inr hl))
  refine ⟨fun a => ?_, fun a => ?_, fun a => ?_, fun a => ?_, fun a => ?_, fun a => ?_, fun a => ?_, fun a => ?_⟩
  · simpa [updB, upd] using h.p0 (by simpa [updB] using a)
  · simpa [updB, upd] using h.bk (by simpa [updB] using a)
  · simpa [updB, upd] using h.pc (by simpa [updB] using a)
  · simpa [updB, upd] using h.pm (by simpa [updB] using a)
  · exact ⟨by simpa [updB] using hc, x, y, by simpa [upd] using e, by simp [upd]⟩
  · simpa [updB, upd] using h.pf (by simpa [updB] using a)
  · simp [updB, n4] at a
  · simpa [updB, upd] using h.pl (by simpa [updB] using a)
theorem XtP.sf (h : XtP L gx s1 s2 hs ms er ls vs v) (hc : ls 7 = true) (hl : ls 10 = false) {x y : Value} (e : vs 7 = .tuple #[x, y]) : XtP L gx s1 s2 hs ms er (updB ls 10) (upd vs 10 y) v := by
  refine ⟨fun a => ?_, fun a => ?_, fun a => ?_, fun a => ?_, fun a => ?_, fun a => ?_, fun a => ?_, fun a => ?_⟩
  · simpa [updB, upd] using h.p0 (by simpa [updB] using a)
  · simpa [updB, upd] using h.bk (by simpa [updB] using a)
  · simpa [updB, upd] using h.pc (by simpa [updB] using a)
  · simpa [updB, upd] using h.pm (by simpa [updB] using a)
  · simpa [updB, upd] using h.pe (by simpa [updB] using a)
  · exact ⟨by simpa [updB] using hc, x, y, by simpa [upd] using e, by simp [upd]⟩
  · simpa [updB, upd] using h.ps (by simpa [updB] using a)
  · have := (h.pl (by simpa [updB] using a)).1
    rw [hl] at this
    cases this
theorem XtP.sl (h : XtP L gx s1 s2 hs ms er ls vs v) (hf : ls 10 = true) : XtP L gx s1 s2 hs ms er (updB ls 12) (upd vs 12 (vs 10)) v := by
  refine ⟨fun a => ?_, fun a => ?_, fun a => ?_, fun a => ?_, fun a => ?_, fun a => ?_, fun a => ?_, fun a => ?_⟩
  · simpa [updB, upd] using h.p0 (by simpa [updB] using a)
  · simpa [updB, upd] using h.bk (by simpa [updB] using a)
  · simpa [updB, upd] using h.pc (by simpa [updB] using a)
  · simpa [updB, upd] using h.pm (by simpa [updB] using a)
  · simpa [updB, upd] using h.pe (by simpa [updB] using a)
  · simpa [updB, upd] using h.pf (by simpa [updB] using a)
  · simpa [updB, upd] using h.ps (by simpa [updB] using a)
  · exact ⟨by simpa [updB] using hf, by simp [upd]⟩
theorem XtP.ss (h : XtP L gx s1 s2 hs ms er ls vs v) (h2 : ls 9 = true) (hl : ls 11 = false) {x y : Value} (e : vs 9 = .agg #[x, y]) (u : Value) : XtP L gx s1 s2 hs ms er (updB ls 11) (upd vs 11 u) ((v.setCell ⟨gx, 0, none⟩ x).setCell ⟨gx, 1, none⟩ y) := by
  have hb := h.bk hl
  refine ⟨fun a => ?_, fun a => ?_, fun a => ?_, fun a => ?_, fun a => ?_, fun a => ?_, fun a => ?_, fun a => ?_⟩
  · simpa [updB, upd] using h.p0 (by simpa [updB] using a)
  · simp [updB] at a
  · obtain ⟨q, A, n, k, B, m, d, e1, e2⟩ := h.pc (by simpa [updB] using a)
    exact ⟨by simpa [updB] using q, A, n, k, B, m, d, by simpa [upd] using e1, e2.set2 hb⟩
  · simpa [updB, upd] using h.pm (by simpa [updB] using a)
  · simpa [updB, upd] using h.pe (by simpa [updB] using a)
  · simpa [updB, upd] using h.pf (by simpa [updB] using a)
  · exact ⟨by simpa [updB] using h2, x, y, by simpa [upd] using e, blk_set2 hb x y⟩
  · simpa [updB, upd] using h.pl (by simpa [updB] using a)
theorem XtP.done (h : XtP L gx s1 s2 hs ms er ls vs v) (h4 : ls 11 = true) (h5 : ls 12 = true) : ∃ (A : Option Addr) (n k : Nat) (B : Option Addr) (m d : Nat), vs 12 = .int .i64 er ∧ OwnT v L (.slice A n k) (.slice B m d) hs ms ∧ Blk v gx 74 #[.slice A n k, .slice B m d] := by
  obtain ⟨h2, a, b, e1, hb⟩ := h.ps h4
  obtain ⟨hc, a2, b2, e2, e3⟩ := h.pe h2
  obtain ⟨_, A, n, k, B, m, d, e4, ho⟩ := h.pc hc
  obtain ⟨h3, e5⟩ := h.pl h5
  obtain ⟨_, a6, b6, e6, e7⟩ := h.pf h3
  rw [e4] at e2 e6
  cases e2
  cases e6
  rw [e3] at e1
  cases e1
  exact ⟨A, n, k, B, m, d, e5.trans e7, ho, hb⟩
end
structure XuP (L gx : Nat) (s1 s2 : Value) (hs : List Hd) (ms : List Mv) (er : Int) (ls : Nat → Bool) (vs : Nat → Value) (v : World) : Prop where
  p0 : ls 0 = true → vs 0 = .agg #[s1, s2]
  bk : ls 10 = false → Blk v gx 74 #[s1, s2]
  pc : ls 6 = true → ls 0 = true ∧ ∃ (A : Option Addr) (n k : Nat) (B : Option Addr) (m d : Nat), vs 6 = .tuple #[.agg #[.slice A n k, .slice B m d], .int .i64 er] ∧ OwnT v L (.slice A n k) (.slice B m d) hs ms
  pm : ls 7 = true → ls 6 = true ∧ vs 7 = vs 6
  pe : ls 8 = true → ls 6 = true ∧ ∃ a b, vs 6 = .tuple #[a, b] ∧ vs 8 = a
  pf : ls 9 = true → ls 6 = true ∧ ∃ a b, vs 6 = .tuple #[a, b] ∧ vs 9 = b
  ps : ls 10 = true → ls 8 = true ∧ ∃ a b, vs 8 = .agg #[a, b] ∧ Blk v gx 74 #[a, b]
  pl : ls 11 = true → ls 9 = true ∧ vs 11 = vs 9
section
variable {L gx : Nat} {s1 s2 : Value} {hs : List Hd} {ms : List Mv} {er : Int} {ls : Nat → Bool} {vs : Nat → Value} {v v' : World}
theorem XuP.init (h : Blk v gx 74 #[s1, s2]) : XuP L gx s1 s2 hs ms er (fun _ => false) (fun _ => undef) v :=
  ⟨fun a => (by cases a), fun _ => h, fun a => (by cases a), fun a => (by cases a), fun a => (by cases a), fun a => (by cases a), fun a => (by cases a), fun a => (by cases a)⟩
theorem XuP.below (h : XuP L gx s1 s2 hs ms er ls vs v) (hb : Below v.heap.size v v') : XuP L gx s1 s2 hs ms er ls vs v' :=
  ⟨h.p0, fun a => (h.bk a).below hb, fun a => let ⟨q, A, n, k, B, m, d, x, y⟩ := h.pc a; ⟨q, A, n, k, B, m, d, x, y.below hb⟩, h.pm, h.pe, h.pf, fun a => let ⟨q, x, y, z, k⟩ := h.ps a; ⟨q, x, y, z, k.below hb⟩, h.pl⟩
theorem XuP.unsaid (h : XuP L gx s1 s2 hs ms er ls vs v) (h2 : ls 0 = false ∨ ls 6 = false ∨ ls 8 = false) : ls 10 = false := by
  cases c : ls 10 with
  | false => rfl
  | true =>
    obtain ⟨a, _⟩ := h.ps c
    obtain ⟨b, _⟩ := h.pe a
    obtain ⟨d, _⟩ := h.pc b
    rcases h2 with e | e | e
    · rw [d] at e; cases e
    · rw [b] at e; cases e
    · rw [a] at e; cases e
theorem XuP.s0 (h : XuP L gx s1 s2 hs ms er ls vs v) (hl : ls 0 = false) : XuP L gx s1 s2 hs ms er (updB ls 0) (upd vs 0 (.agg #[s1, s2])) v := by
  have n4 := h.unsaid (.inl hl)
  refine ⟨fun a => ?_, fun a => ?_, fun a => ?_, fun a => ?_, fun a => ?_, fun a => ?_, fun a => ?_, fun a => ?_⟩
  · simp [upd]
  · simpa [updB, upd] using h.bk (by simpa [updB] using a)
  · have q := h.pc (by simpa [updB] using a)
    exact ⟨by simp [updB], by simpa [upd] using q.2⟩
  · simpa [updB, upd] using h.pm (by simpa [updB] using a)
  · simpa [updB, upd] using h.pe (by simpa [updB] using a)
  · simpa [updB, upd] using h.pf (by simpa [updB] using a)
  · simp [updB, n4] at a
  · simpa [updB, upd] using h.pl (by simpa [updB] using a)
theorem XuP.sc (h : XuP L gx s1 s2 hs ms er ls vs v) (h0 : ls 0 = true) (hl : ls 6 = false) (hb : Below v.heap.size v v') {A : Option Addr} {n k : Nat} {B : Option Addr} {m d : Nat} (ho : OwnT v' L (.slice A n k) (.slice B m d) hs ms) : XuP L gx s1 s2 hs ms er (updB ls 6) (upd vs 6 (.tuple #[.agg #[.slice A n k, .slice B m d], .int .i64 er])) v' := by
  have n4 := h.unsaid (.inr (.inl hl))
  have no : ∀ {p : Prop}, ls 6 = true → p := fun e => by rw [hl] at e; cases e
  refine ⟨fun a => ?_, fun a => ?_, fun a => ?_, fun a => ?_, fun a => ?_, fun a => ?_, fun a => ?_, fun a => ?_⟩
  · simpa [updB, upd] using h.p0 (by simpa [updB] using a)
  · exact (h.bk n4).below hb
  · exact ⟨by simpa [updB] using h0, A, n, k, B, m, d, by simp [upd], ho⟩
  · exact no (h.pm (by simpa [updB] using a)).1
  · exact no (h.pe (by simpa [updB] using a)).1
  · exact no (h.pf (by simpa [updB] using a)).1
  · simp [updB, n4] at a
  · simpa [updB, upd] using h.pl (by simpa [updB] using a)
theorem XuP.sm (h : XuP L gx s1 s2 hs ms er ls vs v) (hc : ls 6 = true) : XuP L gx s1 s2 hs ms er (updB ls 7) (upd vs 7 (vs 6)) v := by
  refine ⟨fun a => ?_, fun a => ?_, fun a => ?_, fun a => ?_, fun a => ?_, fun a => ?_, fun a => ?_, fun a => ?_⟩
  · simpa [updB, upd] using h.p0 (by simpa [updB] using a)
  · simpa [updB, upd] using h.bk (by simpa [updB] using a)
  · simpa [updB, upd] using h.pc (by simpa [updB] using a)
  · exact ⟨by simpa [updB] using hc, by simp [upd]⟩
  · simpa [updB, upd] using h.pe (by simpa [updB] using a)
  · simpa [updB, upd] using h.pf (by simpa [updB] using a)
  · simpa [updB, upd] using h.ps (by simpa [updB] using a)
  · simpa [updB, upd] using h.pl (by simpa [updB] using a)
theorem XuP.se (h : XuP L gx s1 s2 hs ms er ls vs v) (hc : ls 6 = true) (hl : ls 8 = false) {x y : Value} (e : vs 6 = .tuple #[x, y]) : XuP L gx s1 s2 hs ms er (updB ls 8) (upd vs 8 x) v := by
  have n4 := h.unsaid (.inr (.inr hl))
  refine ⟨fun a => ?_, fun a => ?_, fun a => ?_, fun a => ?_, fun a => ?_, fun a => ?_, fun a => ?_, fun a => ?_⟩
  · simpa [updB, upd] using h.p0 (by simpa [updB] using a)
  · simpa [updB, upd] using h.bk (by simpa [updB] using a)
  · simpa [updB, upd] using h.pc (by simpa [updB] using a)
  · simpa [updB, upd] using h.pm (by simpa [updB] using a)
  · exact ⟨by simpa [updB] using hc, x, y, by simpa [upd] using e, by simp [upd]⟩
  · simpa [updB, upd] using h.pf (by simpa [updB] using a)
  · simp [updB, n4] at a
  · simpa [updB, upd] using h.pl (by simpa [updB] using a)
theorem XuP.sf (h : XuP L gx s1 s2 hs ms er ls vs v) (hc : ls 6 = true) (hl : ls 9 = false) {x y : Value} (e : vs 6 = .tuple #[x, y]) : XuP L gx s1 s2 hs ms er (updB ls 9) (upd vs 9 y) v := by
  refine ⟨fun a => ?_, fun a => ?_, fun a => ?_, fun a => ?_, fun a => ?_, fun a => ?_, fun a => ?_, fun a => ?_⟩
  · simpa [updB, upd] using h.p0 (by simpa [updB] using a)
  · simpa [updB, upd] using h.bk (by simpa [updB] using a)
  · simpa [updB, upd] using h.pc (by simpa [updB] using a)
  · simpa [updB, upd] using h.pm (by simpa [updB] using a)
  · simpa [updB, upd] using h.pe (by simpa [updB] using a)
  · exact ⟨by simpa [updB] using hc, x, y, by simpa [upd] using e, by simp [upd]⟩
  · simpa [updB, upd] using h.ps (by simpa [updB] using a)
  · have := (h.pl (by simpa [updB] using a)).1
    rw [hl] at this
    cases this
theorem XuP.sl (h : XuP L gx s1 s2 hs ms er ls vs v) (hf : ls 9 = true) : XuP L gx s1 s2 hs ms er (updB ls 11) (upd vs 11 (vs 9)) v := by
  refine ⟨fun a => ?_, fun a => ?_, fun a => ?_, fun a => ?_, fun a => ?_, fun a => ?_, fun a => ?_, fun a => ?_⟩
  · simpa [updB, upd] using h.p0 (by simpa [updB] using a)
  · simpa [updB, upd] using h.bk (by simpa [updB] using a)
  · simpa [updB, upd] using h.pc (by simpa [updB] using a)
  · simpa [updB, upd] using h.pm (by simpa [updB] using a)
  · simpa [updB, upd] using h.pe (by simpa [updB] using a)
  · simpa [updB, upd] using h.pf (by simpa [updB] using a)
  · simpa [updB, upd] using h.ps (by simpa [updB] using a)
  · exact ⟨by simpa [updB] using hf, by simp [upd]⟩
theorem XuP.ss (h : XuP L gx s1 s2 hs ms er ls vs v) (h2 : ls 8 = true) (hl : ls 10 = false) {x y : Value} (e : vs 8 = .agg #[x, y]) (u : Value) : XuP L gx s1 s2 hs ms er (updB ls 10) (upd vs 10 u) ((v.setCell ⟨gx, 0, none⟩ x).setCell ⟨gx, 1, none⟩ y) := by
  have hb := h.bk hl
  refine ⟨fun a => ?_, fun a => ?_, fun a => ?_, fun a => ?_, fun a => ?_, fun a => ?_, fun a => ?_, fun a => ?_⟩
  · simpa [updB, upd] using h.p0 (by simpa [updB] using a)
  · simp [updB] at a
  · obtain ⟨q, A, n, k, B, m, d, e1, e2⟩ := h.pc (by simpa [updB] using a)
    exact ⟨by simpa [updB] using q, A, n, k, B, m, d, by simpa [upd] using e1, e2.set2 hb⟩
  · simpa [updB, upd] using h.pm (by simpa [updB] using a)
  · simpa [updB, upd] using h.pe (by simpa [updB] using a)
  · simpa [updB, upd] using h.pf (by simpa [updB] using a)
  · exact ⟨by simpa [updB] using h2, x, y, by simpa [upd] using e, blk_set2 hb x y⟩
  · simpa [updB, upd] using h.pl (by simpa [updB] using a)
theorem XuP.done (h : XuP L gx s1 s2 hs ms er ls vs v) (h4 : ls 10 = true) (h5 : ls 11 = true) : ∃ (A : Option Addr) (n k : Nat) (B : Option Addr) (m d : Nat), vs 11 = .int .i64 er ∧ OwnT v L (.slice A n k) (.slice B m d) hs ms ∧ Blk v gx 74 #[.slice A n k, .slice B m d] := by
  obtain ⟨h2, a, b, e1, hb⟩ := h.ps h4
  obtain ⟨hc, a2, b2, e2, e3⟩ := h.pe h2
  obtain ⟨_, A, n, k, B, m, d, e4, ho⟩ := h.pc hc
  obtain ⟨h3, e5⟩ := h.pl h5
  obtain ⟨_, a6, b6, e6, e7⟩ := h.pf h3
  rw [e4] at e2 e6
  cases e2
  cases e6
  rw [e3] at e1
  cases e1
  exact ⟨A, n, k, B, m, d, e5.trans e7, ho, hb⟩
end
end Go.Proofs.YtighfmgkoepfkaaGreat
