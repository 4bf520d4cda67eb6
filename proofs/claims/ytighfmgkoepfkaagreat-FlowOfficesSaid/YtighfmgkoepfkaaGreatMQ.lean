/- course: what flows as a course. -/
import Derived.WalkMore
import Derived.Test.YtighfmgkoepfkaaGreatMO
import Derived.Test.YtighfmgkoepfkaaGreatMP
namespace Go.Proofs.YtighfmgkoepfkaaGreat
open Go.RowKit

structure PS (w : World) (N s0 s1 y0 y1 k0 k1 qb q1 : Nat) (X : List Nat) (q : List Nat) (seen : Nat → Bool) (by_ : Nat → Hp) (back : Nat → Nat) (W : World) : Prop where
  d : w.heap.size ≤ s0 ∧ s0 < s1 ∧ s1 < y0 ∧ y0 < y1 ∧ y1 < k0 ∧ k0 < k1 ∧ k1 < qb ∧ qb < q1
  b : Below w.heap.size w W
  s : Blk W s1 143 #[.slice (some ⟨s0, 0, none⟩) N N]
  sr : Blk W s0 4 (rowI N Value.bool seen)
  y : Blk W y1 187 #[.slice (some ⟨y0, 0, none⟩) N N]
  yr : Blk W y0 191 (rowH N by_)
  k : Blk W k1 42 #[.slice (some ⟨k0, 0, none⟩) N N]
  kr : Blk W k0 3 (rowI N (fun v : Nat => Value.int .i64 (v : Int)) back)
  q : ∃ gq cq, Blk W q1 42 #[.slice (some ⟨gq, 0, none⟩) q.length cq] ∧ W.ownsRow qb 3 1 (.slice (some ⟨gq, 0, none⟩) q.length cq) q.length (q.map fun v : Nat => Value.int .i64 (v : Int)) ∧ ∀ x ∈ X, gq ≠ x
section
variable {w : World} {N s0 s1 y0 y1 k0 k1 qb q1 : Nat} {X : List Nat} {q : List Nat} {seen : Nat → Bool} {by_ : Nat → Hp} {back : Nat → Nat} {W W' : World}
theorem PS.abide (h : PS w N s0 s1 y0 y1 k0 k1 qb q1 X q seen by_ back W) {row : Option Nat} (hg : W.grownBy W' row) (hr : ∀ r, row = some r → w.heap.size ≤ r ∧ ∃ o : Obj, W.heap[r]? = some o ∧ o.isCells = false) : PS w N s0 s1 y0 y1 k0 k1 qb q1 X q seen by_ back W' := by
  have ob : ∀ {g t cs}, Blk W g t cs → Blk W' g t cs := fun {g t cs} hb => Blk.own (β := Unit) w.heap.size g t cs () W W' row hb hg hr
  obtain ⟨gq, cq, h1, h2, h3⟩ := h.q
  exact ⟨h.d, h.b.grown hg h.b.size (fun k hk => (hr k hk).1), ob h.s, ob h.sr, ob h.y, ob h.yr, ob h.k, ob h.kr, gq, cq, ob h1, owns_own h2 hg hr, h3⟩
theorem PS.below (h : PS w N s0 s1 y0 y1 k0 k1 qb q1 X q seen by_ back W) (hb : Below W.heap.size W W') : PS w N s0 s1 y0 y1 k0 k1 qb q1 X q seen by_ back W' :=
  h.abide (grownBy_of_below hb) (fun r e => by cases e)
theorem PS.addX (h : PS w N s0 s1 y0 y1 k0 k1 qb q1 X q seen by_ back W) {x : Nat} (hx : W.heap.size ≤ x) : PS w N s0 s1 y0 y1 k0 k1 qb q1 (x :: X) q seen by_ back W := by
  obtain ⟨gq, cq, h1, h2, h3⟩ := h.q
  refine ⟨h.d, h.b, h.s, h.sr, h.y, h.yr, h.k, h.kr, gq, cq, h1, h2, fun z hz => ?_⟩
  have := (own_lt h2 (g := gq) rfl).2
  rcases List.mem_cons.1 hz with e | hz
  · omega
  · exact h3 z hz
theorem PS.subX (h : PS w N s0 s1 y0 y1 k0 k1 qb q1 X q seen by_ back W) {Y : List Nat} (hY : ∀ x ∈ Y, x ∈ X) : PS w N s0 s1 y0 y1 k0 k1 qb q1 Y q seen by_ back W := by
  obtain ⟨gq, cq, h1, h2, h3⟩ := h.q
  exact ⟨h.d, h.b, h.s, h.sr, h.y, h.yr, h.k, h.kr, gq, cq, h1, h2, fun z hz => h3 z (hY z hz)⟩
/-- The world behind the marks of a node. -/
def markW (W : World) (s0 y0 k0 t u : Nat) (x : Hp) : World :=
  (((((W.setCell ⟨s0, t, none⟩ (.bool true)).setCell ⟨y0, t * 4, none⟩ (.int .i64 (x.e : Int))).setCell ⟨y0, t * 4 + 1, none⟩ (.int .i64 (x.to : Int))).setCell ⟨y0, t * 4 + 2, none⟩ (.int .i64 x.by_)).setCell ⟨y0, t * 4 + 3, none⟩ (.int .i64 x.sg)).setCell ⟨k0, t, none⟩ (.int .i64 (u : Int))
theorem markW_far {s0 y0 k0 t u g ty : Nat} {x : Hp} {cs : Array Value} (h : Blk W g ty cs) (h1 : g ≠ s0) (h2 : g ≠ y0) (h3 : g ≠ k0) : Blk (markW W s0 y0 k0 t u x) g ty cs :=
  (((((h.far (p := ⟨s0, t, none⟩) h1 _).far (p := ⟨y0, t * 4, none⟩) h2 _).far (p := ⟨y0, t * 4 + 1, none⟩) h2 _).far (p := ⟨y0, t * 4 + 2, none⟩) h2 _).far (p := ⟨y0, t * 4 + 3, none⟩) h2 _).far (p := ⟨k0, t, none⟩) h3 _
theorem markW_size {s0 y0 k0 t u : Nat} {x : Hp} : (markW W s0 y0 k0 t u x).heap.size = W.heap.size := by simp [markW, World.setCell]
theorem markW_block {s0 y0 k0 t u : Nat} {x : Hp} (k : Nat) (h1 : k ≠ s0) (h2 : k ≠ y0) (h3 : k ≠ k0) : (markW W s0 y0 k0 t u x).heap[k]? = W.heap[k]? := by
  unfold markW
  rw [Below.heap_setCell _ _ _ _ (by exact h3), Below.heap_setCell _ _ _ _ (by exact h2), Below.heap_setCell _ _ _ _ (by exact h2), Below.heap_setCell _ _ _ _ (by exact h2), Below.heap_setCell _ _ _ _ (by exact h2), Below.heap_setCell _ _ _ _ (by exact h1)]
theorem markW_keeps {s0 y0 k0 t u B : Nat} {x : Hp} : KeepsFrom B W (markW W s0 y0 k0 t u x) :=
  ((KeepsOthers.setCell _ _ _).trans ((KeepsOthers.setCell _ _ _).trans ((KeepsOthers.setCell _ _ _).trans ((KeepsOthers.setCell _ _ _).trans ((KeepsOthers.setCell _ _ _).trans (KeepsOthers.setCell _ _ _)))))).from B
theorem owns_block {B e size n : Nat} {v : Value} {xs : List Value} (h : W.ownsRow B e size v n xs) (hk : ∀ g, v.ownBlock = some g → W'.heap[g]? = W.heap[g]?) : W'.ownsRow B e size v n xs := by
  refine ⟨h.1, ?_⟩
  rcases h.2 with hn | ⟨g, cap, cur, rfl, hg, hgg, rest⟩
  · exact .inl hn
  · exact .inr ⟨g, cap, cur, rfl, hg, (hk g rfl).trans hgg, rest⟩
theorem PS.mark (h : PS w N s0 s1 y0 y1 k0 k1 qb q1 X q seen by_ back W) {t u : Nat} {x : Hp} (ht : t < N) : PS w N s0 s1 y0 y1 k0 k1 qb q1 X q (updF seen t true) (updF by_ t x) (updF back t u) (markW W s0 y0 k0 t u x) := by
  obtain ⟨d0, d1, d2, d3, d4, d5, d6, d7⟩ := h.d
  obtain ⟨gq, cq, h1, h2, h3⟩ := h.q
  have hgq := (own_lt h2 (g := gq) rfl).1
  have far : ∀ {g ty cs}, Blk W g ty cs → g ≠ s0 → g ≠ y0 → g ≠ k0 → Blk (markW W s0 y0 k0 t u x) g ty cs := fun hb a b c => markW_far hb a b c
  refine ⟨h.d, ?_, far h.s (by omega) (by omega) (by omega), ?_, far h.y (by omega) (by omega) (by omega), ?_, far h.k (by omega) (by omega) (by omega), ?_, gq, cq, far h1 (by omega) (by omega) (by omega), ?_, h3⟩
  · exact (((((h.b.setCell (p := ⟨s0, t, none⟩) (by exact d0) _).setCell (p := ⟨y0, t * 4, none⟩) (by show _ ≤ y0; omega) _).setCell (p := ⟨y0, t * 4 + 1, none⟩) (by show _ ≤ y0; omega) _).setCell (p := ⟨y0, t * 4 + 2, none⟩) (by show _ ≤ y0; omega) _).setCell (p := ⟨y0, t * 4 + 3, none⟩) (by show _ ≤ y0; omega) _).setCell (p := ⟨k0, t, none⟩) (by show _ ≤ k0; omega) _
  · rw [← rowI_set]
    exact (((((h.sr.set_ t _).far (p := ⟨y0, t * 4, none⟩) (by show s0 ≠ y0; omega) _).far (p := ⟨y0, t * 4 + 1, none⟩) (by show s0 ≠ y0; omega) _).far (p := ⟨y0, t * 4 + 2, none⟩) (by show s0 ≠ y0; omega) _).far (p := ⟨y0, t * 4 + 3, none⟩) (by show s0 ≠ y0; omega) _).far (p := ⟨k0, t, none⟩) (by show s0 ≠ k0; omega) _
  · rw [← rowH_set N by_ t ht x]
    exact (((((h.yr.far (p := ⟨s0, t, none⟩) (by show y0 ≠ s0; omega) _).set_ (t * 4) _).set_ (t * 4 + 1) _).set_ (t * 4 + 2) _).set_ (t * 4 + 3) _).far (p := ⟨k0, t, none⟩) (by show y0 ≠ k0; omega) _
  · rw [← rowI_set]
    exact (((((h.kr.far (p := ⟨s0, t, none⟩) (by show k0 ≠ s0; omega) _).far (p := ⟨y0, t * 4, none⟩) (by show k0 ≠ y0; omega) _).far (p := ⟨y0, t * 4 + 1, none⟩) (by show k0 ≠ y0; omega) _).far (p := ⟨y0, t * 4 + 2, none⟩) (by show k0 ≠ y0; omega) _).far (p := ⟨y0, t * 4 + 3, none⟩) (by show k0 ≠ y0; omega) _).set_ t _
  · refine owns_block h2 fun g hg => ?_
    have e : gq = g := Option.some.inj hg
    subst e
    exact markW_block gq (by omega) (by omega) (by omega)
theorem own_one {B n g x ty : Nat} {c : Nat} {xs : List Value} {v : Value} (h : W.ownsRow B 3 1 (.slice (some ⟨g, 0, none⟩) n c) n xs) (h2 : 2 ≤ n) (hx : Blk W x ty #[v]) : g ≠ x := by
  rintro rfl
  rcases h.2 with ⟨e, _⟩ | ⟨g', cap, cur, e, hb, hg, h3, h4, h5, h6⟩
  · cases e
  · cases e
    rw [show W.heap[g]? = _ from hx] at hg
    cases hg
    simp at h5
    omega
theorem PS.setS (h : PS w N s0 s1 y0 y1 k0 k1 qb q1 X q seen by_ back W) (t : Nat) : PS w N s0 s1 y0 y1 k0 k1 qb q1 X q (updF seen t true) by_ back (W.setCell ⟨s0, t, none⟩ (.bool true)) := by
  obtain ⟨d0, d1, d2, d3, d4, d5, d6, d7⟩ := h.d
  obtain ⟨gq, cq, h1, h2, h3⟩ := h.q
  have hgq := (own_lt h2 (g := gq) rfl).1
  have far : ∀ {g ty cs}, Blk W g ty cs → g ≠ s0 → Blk (W.setCell ⟨s0, t, none⟩ (.bool true)) g ty cs := fun hb a => hb.far (p := ⟨s0, t, none⟩) a _
  refine ⟨h.d, h.b.setCell (p := ⟨s0, t, none⟩) (by exact d0) _, far h.s (by omega), ?_, far h.y (by omega), far h.yr (by omega), far h.k (by omega), far h.kr (by omega), gq, cq, far h1 (by omega), ?_, h3⟩
  · rw [← rowI_set]; exact h.sr.set_ t _
  · refine owns_block h2 fun g hg => ?_
    have e : gq = g := Option.some.inj hg
    subst e
    exact Below.heap_setCell _ _ _ _ (by show gq ≠ s0; omega)
def hopW (W : World) (y0 t : Nat) (x : Hp) : World := (((W.setCell ⟨y0, t * 4, none⟩ (.int .i64 (x.e : Int))).setCell ⟨y0, t * 4 + 1, none⟩ (.int .i64 (x.to : Int))).setCell ⟨y0, t * 4 + 2, none⟩ (.int .i64 x.by_)).setCell ⟨y0, t * 4 + 3, none⟩ (.int .i64 x.sg)
theorem hopW_far {y0 t g ty : Nat} {x : Hp} {cs : Array Value} (h : Blk W g ty cs) (h2 : g ≠ y0) : Blk (hopW W y0 t x) g ty cs :=
  (((h.far (p := ⟨y0, t * 4, none⟩) h2 _).far (p := ⟨y0, t * 4 + 1, none⟩) h2 _).far (p := ⟨y0, t * 4 + 2, none⟩) h2 _).far (p := ⟨y0, t * 4 + 3, none⟩) h2 _
theorem hopW_block {y0 t : Nat} {x : Hp} (k : Nat) (h2 : k ≠ y0) : (hopW W y0 t x).heap[k]? = W.heap[k]? := by
  unfold hopW
  rw [Below.heap_setCell _ _ _ _ (by exact h2), Below.heap_setCell _ _ _ _ (by exact h2), Below.heap_setCell _ _ _ _ (by exact h2), Below.heap_setCell _ _ _ _ (by exact h2)]
theorem hopW_size {y0 t : Nat} {x : Hp} : (hopW W y0 t x).heap.size = W.heap.size := by simp [hopW, World.setCell]
theorem hopW_keeps {y0 t B : Nat} {x : Hp} : KeepsFrom B W (hopW W y0 t x) :=
  ((KeepsOthers.setCell _ _ _).trans ((KeepsOthers.setCell _ _ _).trans ((KeepsOthers.setCell _ _ _).trans (KeepsOthers.setCell _ _ _)))).from B
theorem PS.setY (h : PS w N s0 s1 y0 y1 k0 k1 qb q1 X q seen by_ back W) {t : Nat} (ht : t < N) (x : Hp) : PS w N s0 s1 y0 y1 k0 k1 qb q1 X q seen (updF by_ t x) back (hopW W y0 t x) := by
  obtain ⟨d0, d1, d2, d3, d4, d5, d6, d7⟩ := h.d
  obtain ⟨gq, cq, h1, h2, h3⟩ := h.q
  have hgq := (own_lt h2 (g := gq) rfl).1
  have far : ∀ {g ty cs}, Blk W g ty cs → g ≠ y0 → Blk (hopW W y0 t x) g ty cs := fun hb a => hopW_far hb a
  refine ⟨h.d, ?_, far h.s (by omega), far h.sr (by omega), far h.y (by omega), ?_, far h.k (by omega), far h.kr (by omega), gq, cq, far h1 (by omega), ?_, h3⟩
  · exact (((h.b.setCell (p := ⟨y0, t * 4, none⟩) (by show _ ≤ y0; omega) _).setCell (p := ⟨y0, t * 4 + 1, none⟩) (by show _ ≤ y0; omega) _).setCell (p := ⟨y0, t * 4 + 2, none⟩) (by show _ ≤ y0; omega) _).setCell (p := ⟨y0, t * 4 + 3, none⟩) (by show _ ≤ y0; omega) _
  · rw [← rowH_set N by_ t ht x]
    exact (((h.yr.set_ (t * 4) _).set_ (t * 4 + 1) _).set_ (t * 4 + 2) _).set_ (t * 4 + 3) _
  · refine owns_block h2 fun g hg => ?_
    have e : gq = g := Option.some.inj hg
    subst e
    exact hopW_block gq (by omega)
theorem PS.setK (h : PS w N s0 s1 y0 y1 k0 k1 qb q1 X q seen by_ back W) (t u : Nat) : PS w N s0 s1 y0 y1 k0 k1 qb q1 X q seen by_ (updF back t u) (W.setCell ⟨k0, t, none⟩ (.int .i64 (u : Int))) := by
  obtain ⟨d0, d1, d2, d3, d4, d5, d6, d7⟩ := h.d
  obtain ⟨gq, cq, h1, h2, h3⟩ := h.q
  have hgq := (own_lt h2 (g := gq) rfl).1
  have far : ∀ {g ty cs}, Blk W g ty cs → g ≠ k0 → Blk (W.setCell ⟨k0, t, none⟩ (.int .i64 (u : Int))) g ty cs := fun hb a => hb.far (p := ⟨k0, t, none⟩) a _
  refine ⟨h.d, h.b.setCell (p := ⟨k0, t, none⟩) (by show _ ≤ k0; omega) _, far h.s (by omega), far h.sr (by omega), far h.y (by omega), far h.yr (by omega), far h.k (by omega), ?_, gq, cq, far h1 (by omega), ?_, h3⟩
  · rw [← rowI_set]; exact h.kr.set_ t _
  · refine owns_block h2 fun g hg => ?_
    have e : gq = g := Option.some.inj hg
    subst e
    exact Below.heap_setCell _ _ _ _ (by show gq ≠ k0; omega)
theorem keepE_set {G : List Nat} {b ty : Nat} {cs : Array Value} (hb : Blk W b ty cs) (ht : ty ≠ 186) (hG : ∀ k ∈ G, k ≠ b) (o : Nat) (v : Value) : KeepE G W (W.setCell ⟨b, o, none⟩ v) :=
  ⟨fun k hk => Below.heap_setCell _ _ _ _ (hG k hk), by simp [World.setCell], fun k cs' h => h.far (p := ⟨b, o, none⟩) (fun e => by
    have e : k = b := e
    subst e
    have := h.symm.trans hb
    cases this
    exact ht rfl) _⟩
theorem keepE_hopW {G : List Nat} {b ty : Nat} {cs : Array Value} (hb : Blk W b ty cs) (ht : ty ≠ 186) (hG : ∀ k ∈ G, k ≠ b) (t : Nat) (x : Hp) : KeepE G W (hopW W b t x) :=
  ⟨fun k hk => hopW_block k (hG k hk), by rw [hopW_size]; exact Nat.le_refl _, fun k cs' h => hopW_far h (fun e => by
    subst e
    have := h.symm.trans hb
    cases this
    exact ht rfl)⟩
theorem keepE_own {G : List Nat} {B size n : Nat} {g c ty : Nat} {xs : List Value} (ho : W.ownsRow B ty size (.slice (some ⟨g, 0, none⟩) n c) n xs) (ht : ty ≠ 186) (hg : W.grownBy W' (some g)) (hG : ∀ k ∈ G, k ≠ g ∧ k < W.heap.size) : KeepE G W W' :=
  ⟨fun k hk => hg.block k (hG k hk).2 (fun e => (hG k hk).1 (Option.some.inj e)), hg.size, fun k cs h => h.grown hg (fun e => by
    have e : g = k := Option.some.inj e
    subst e
    exact own_ne ho h (fun e => ht e.symm) rfl)⟩
/-- Behind the append to the queue, and the store of its slice. -/
theorem PS.push (h : PS w N s0 s1 y0 y1 k0 k1 qb q1 X q seen by_ back W) (hq : 0 < q.length) (hX : ∀ x ∈ X, ∃ ty v, Blk W x ty #[v]) {t : Nat} {gq cq : Nat} (hs : Blk W q1 42 #[.slice (some ⟨gq, 0, none⟩) q.length cq]) {v' : Value} (hg : W.grownBy W' (some gq))
    (ho : W'.ownsRow qb 3 1 v' (q.length + 1) ((q.map fun v : Nat => Value.int .i64 (v : Int)) ++ [.int .i64 (t : Int)])) : PS w N s0 s1 y0 y1 k0 k1 qb q1 X (q ++ [t]) seen by_ back (W'.setCell ⟨q1, 0, none⟩ v') := by
  obtain ⟨d0, d1, d2, d3, d4, d5, d6, d7⟩ := h.d
  obtain ⟨gq', cq', h1, h2, h3⟩ := h.q
  have e1 : gq' = gq ∧ cq' = cq := by
    have := h1.symm.trans hs
    simpa using this
  obtain ⟨rfl, rfl⟩ := e1
  have hgq := (own_lt h2 (g := gq') rfl).1
  have hty : gq' ≠ q1 := fun e => own_ne h2 h1 (by decide) (by rw [← e]; rfl)
  have gr : ∀ {g ty cs}, Blk W g ty cs → g ≠ gq' → g ≠ q1 → Blk (W'.setCell ⟨q1, 0, none⟩ v') g ty cs := fun hb a b => (hb.grown hg (fun e => a (Option.some.inj e).symm)).far (p := ⟨q1, 0, none⟩) b _
  obtain ⟨g2, c2, rfl⟩ := ownsRow_succ ho
  have hq1 := h1.grown hg (fun e => hty (Option.some.inj e))
  have hty2 : g2 ≠ q1 := fun e => own_ne ho hq1 (by decide) (by rw [← e]; rfl)
  have hg2 := (own_lt ho (g := g2) rfl).1
  refine ⟨h.d, (h.b.grown hg h.b.size (fun k hk => by cases hk; omega)).setCell (p := ⟨q1, 0, none⟩) (by show _ ≤ q1; omega) _, gr h.s (by omega) (by omega), gr h.sr (by omega) (by omega), gr h.y (by omega) (by omega), gr h.yr (by omega) (by omega), gr h.k (by omega) (by omega), gr h.kr (by omega) (by omega), g2, c2, ?_, ?_, ?_⟩
  · have := hq1.set_ 0 (.slice (some ⟨g2, 0, none⟩) (q.length + 1) c2)
    rw [List.length_append]
    simpa using this
  · have := owns_grown ho (grownBy_set W' q1 0 (.slice (some ⟨g2, 0, none⟩) (q.length + 1) c2)) (fun g hg e => by
      have e1 : g2 = g := Option.some.inj hg
      have e2 : q1 = g := Option.some.inj e
      omega)
    simpa using this
  · intro x hx
    obtain ⟨ty, v, hv⟩ := hX x hx
    exact own_one ho (by omega) (hv.grown hg (fun e => h3 x hx (Option.some.inj e)))
end
theorem Dfs.own {b : Nat} {Ds : List Nat} {W W' : World} {row : Option Nat} (h : Dfs b Ds W) (hg : W.grownBy W' row) (hr : ∀ r, row = some r → ∀ D ∈ Ds, D ≠ r) : Dfs b Ds W' :=
  ⟨h.nodup, h.ge, fun D hD => (hg.block D (h.lt D hD) (fun e => hr D e.symm D hD rfl)).trans (h.at_ D hD)⟩
theorem Dfs.set {b : Nat} {Ds : List Nat} {W : World} (h : Dfs b Ds W) {s ty : Nat} {cs : Array Value} (hb : Blk W s ty cs) (o : Nat) (v : Value) : Dfs b Ds (W.setCell ⟨s, o, none⟩ v) :=
  ⟨h.nodup, h.ge, fun D hD => (Below.heap_setCell _ _ _ _ (fun e => by
    have e : D = s := e
    subst e
    have := (h.at_ D hD).symm.trans hb
    cases this)).trans (h.at_ D hD)⟩
/-- The state inside a round over the hops of node u, at hop x. -/
structure RSt (w : World) (N s0 s1 y0 y1 k0 k1 qb q1 : Nat) (X q : List Nat) (Bx ga zb : Nat) (x : Hp) (u p : Nat) (but : Int) (Ds G : List Nat) (Zs : Nat) (W' : World) (se : Nat → Bool) (b2 : Nat → Hp) (ba : Nat → Nat) (V : World) : Prop where
  ps : PS w N s0 s1 y0 y1 k0 k1 qb q1 X q se b2 ba V
  hx : Blk V Bx 191 #[.int .i64 (x.e : Int), .int .i64 (x.to : Int), .int .i64 x.by_, .int .i64 x.sg]
  a : Blk V ga 3 #[.int .i64 (u : Int)]
  z0 : Blk V zb 141 #[.pointer (some ⟨p, 0, none⟩)]
  z1 : Blk V (zb + 1) 3 #[.int .i64 (u : Int)]
  z2 : Blk V (zb + 1 + 1) 3 #[.int .i64 but]
  df : Dfs w.heap.size Ds V
  kf : KeepsFrom Zs W' V
  ke : KeepE G W' V
  sz : W'.heap.size ≤ V.heap.size
  dj : q1 < Bx ∧ q1 < ga ∧ q1 < zb
  gj : ∀ i ∈ G, i ≠ s0 ∧ i ≠ y0 ∧ i ≠ k0 ∧ i < W'.heap.size
section
variable {w : World} {N s0 s1 y0 y1 k0 k1 qb q1 : Nat} {X q : List Nat} {Bx ga zb : Nat} {x : Hp} {u p : Nat} {but : Int} {Ds G : List Nat} {Zs : Nat} {W' : World} {se : Nat → Bool} {b2 : Nat → Hp} {ba : Nat → Nat} {V V2 : World}
theorem RSt.below (h : RSt w N s0 s1 y0 y1 k0 k1 qb q1 X q Bx ga zb x u p but Ds G Zs W' se b2 ba V) (k : Below V.heap.size V V2) : RSt w N s0 s1 y0 y1 k0 k1 qb q1 X q Bx ga zb x u p but Ds G Zs W' se b2 ba V2 :=
  ⟨h.ps.below k, h.hx.below k, h.a.below k, h.z0.below k, h.z1.below k, h.z2.below k, h.df.below k, h.kf.trans (keepsFrom_below k), keepE_t h.ke (keepE_below k (fun i hi => Nat.lt_of_lt_of_le (h.gj i hi).2.2.2 h.sz)), Nat.le_trans h.sz k.size, h.dj, h.gj⟩
theorem RSt.setS (h : RSt w N s0 s1 y0 y1 k0 k1 qb q1 X q Bx ga zb x u p but Ds G Zs W' se b2 ba V) (t : Nat) : RSt w N s0 s1 y0 y1 k0 k1 qb q1 X q Bx ga zb x u p but Ds G Zs W' (updF se t true) b2 ba (V.setCell ⟨s0, t, none⟩ (.bool true)) := by
  obtain ⟨d0, d1, d2, d3, d4, d5, d6, d7⟩ := h.ps.d
  obtain ⟨j0, j1, j2⟩ := h.dj
  have far : ∀ {g ty cs}, Blk V g ty cs → g ≠ s0 → Blk (V.setCell ⟨s0, t, none⟩ (.bool true)) g ty cs := fun hb a => hb.far (p := ⟨s0, t, none⟩) a _
  exact ⟨h.ps.setS t, far h.hx (by omega), far h.a (by omega), far h.z0 (by omega), far h.z1 (by omega), far h.z2 (by omega), h.df.set h.ps.sr t _, h.kf.trans ((KeepsOthers.setCell _ _ _).from _), keepE_t h.ke (keepE_set h.ps.sr (by decide) (fun i hi => (h.gj i hi).1) t _), by simpa [World.setCell] using h.sz, h.dj, h.gj⟩
theorem RSt.setY (h : RSt w N s0 s1 y0 y1 k0 k1 qb q1 X q Bx ga zb x u p but Ds G Zs W' se b2 ba V) {t : Nat} (ht : t < N) (z : Hp) : RSt w N s0 s1 y0 y1 k0 k1 qb q1 X q Bx ga zb x u p but Ds G Zs W' se (updF b2 t z) ba (hopW V y0 t z) := by
  obtain ⟨d0, d1, d2, d3, d4, d5, d6, d7⟩ := h.ps.d
  obtain ⟨j0, j1, j2⟩ := h.dj
  have far : ∀ {g ty cs}, Blk V g ty cs → g ≠ y0 → Blk (hopW V y0 t z) g ty cs := fun hb a => hopW_far hb a
  refine ⟨h.ps.setY ht z, far h.hx (by omega), far h.a (by omega), far h.z0 (by omega), far h.z1 (by omega), far h.z2 (by omega), ?_, h.kf.trans hopW_keeps, keepE_t h.ke (keepE_hopW h.ps.yr (by decide) (fun i hi => (h.gj i hi).2.1) t z), by rw [hopW_size]; exact h.sz, h.dj, h.gj⟩
  exact (((h.df.set h.ps.yr _ _).set (h.ps.yr.set_ _ _) _ _).set ((h.ps.yr.set_ _ _).set_ _ _) _ _).set (((h.ps.yr.set_ _ _).set_ _ _).set_ _ _) _ _
theorem RSt.setK (h : RSt w N s0 s1 y0 y1 k0 k1 qb q1 X q Bx ga zb x u p but Ds G Zs W' se b2 ba V) (t v : Nat) : RSt w N s0 s1 y0 y1 k0 k1 qb q1 X q Bx ga zb x u p but Ds G Zs W' se b2 (updF ba t v) (V.setCell ⟨k0, t, none⟩ (.int .i64 (v : Int))) := by
  obtain ⟨d0, d1, d2, d3, d4, d5, d6, d7⟩ := h.ps.d
  obtain ⟨j0, j1, j2⟩ := h.dj
  have far : ∀ {g ty cs}, Blk V g ty cs → g ≠ k0 → Blk (V.setCell ⟨k0, t, none⟩ (.int .i64 (v : Int))) g ty cs := fun hb a => hb.far (p := ⟨k0, t, none⟩) a _
  exact ⟨h.ps.setK t v, far h.hx (by omega), far h.a (by omega), far h.z0 (by omega), far h.z1 (by omega), far h.z2 (by omega), h.df.set h.ps.kr t _, h.kf.trans ((KeepsOthers.setCell _ _ _).from _), keepE_t h.ke (keepE_set h.ps.kr (by decide) (fun i hi => (h.gj i hi).2.2.1) t _), by simpa [World.setCell] using h.sz, h.dj, h.gj⟩
theorem RSt.push (h : RSt w N s0 s1 y0 y1 k0 k1 qb q1 [zb + 1 + 1, zb + 1, zb, ga] q Bx ga zb x u p but Ds G Zs W' se b2 ba V) (hq : 0 < q.length) {t gq cq : Nat} (hs : Blk V q1 42 #[.slice (some ⟨gq, 0, none⟩) q.length cq])
    (ho0 : V.ownsRow qb 3 1 (.slice (some ⟨gq, 0, none⟩) q.length cq) q.length (q.map fun v : Nat => Value.int .i64 (v : Int))) {v' : Value} (hg : V.grownBy V2 (some gq))
    (ho : V2.ownsRow qb 3 1 v' (q.length + 1) ((q.map fun v : Nat => Value.int .i64 (v : Int)) ++ [.int .i64 (t : Int)])) (hGx : ∀ i ∈ G, i ∈ [zb + 1 + 1, zb + 1, zb, ga] ∨ i < w.heap.size) :
    PS w N s0 s1 y0 y1 k0 k1 qb q1 [zb + 1 + 1, zb + 1, zb, ga] (q ++ [t]) se b2 ba (V2.setCell ⟨q1, 0, none⟩ v') ∧ Blk (V2.setCell ⟨q1, 0, none⟩ v') ga 3 #[.int .i64 (u : Int)] ∧ Blk (V2.setCell ⟨q1, 0, none⟩ v') zb 141 #[.pointer (some ⟨p, 0, none⟩)] ∧ Blk (V2.setCell ⟨q1, 0, none⟩ v') (zb + 1) 3 #[.int .i64 (u : Int)] ∧
    Blk (V2.setCell ⟨q1, 0, none⟩ v') (zb + 1 + 1) 3 #[.int .i64 but] ∧ Dfs w.heap.size Ds (V2.setCell ⟨q1, 0, none⟩ v') ∧ KeepsFrom Zs W' (V2.setCell ⟨q1, 0, none⟩ v') ∧ KeepE G W' (V2.setCell ⟨q1, 0, none⟩ v') ∧ W'.heap.size ≤ (V2.setCell ⟨q1, 0, none⟩ v').heap.size := by
  obtain ⟨d0, d1, d2, d3, d4, d5, d6, d7⟩ := h.ps.d
  obtain ⟨j0, j1, j2⟩ := h.dj
  obtain ⟨gq', cq', h1, h2, h3⟩ := h.ps.q
  have e1 : gq' = gq ∧ cq' = cq := by
    have := h1.symm.trans hs
    simpa using this
  obtain ⟨rfl, rfl⟩ := e1
  have hgq := (own_lt h2 (g := gq') rfl).1
  have hty : gq' ≠ q1 := fun e => own_ne h2 h1 (by decide) (by rw [← e]; rfl)
  have hq1 := h1.grown hg (fun e => hty (Option.some.inj e))
  have gr : ∀ {g ty cs}, Blk V g ty cs → g ∈ [zb + 1 + 1, zb + 1, zb, ga] → g ≠ q1 → Blk (V2.setCell ⟨q1, 0, none⟩ v') g ty cs := fun {g ty cs} hb a b => (hb.grown hg (fun e => h3 g a (Option.some.inj e))).far (p := ⟨q1, 0, none⟩) b _
  refine ⟨h.ps.push hq (fun z hz => ?_) hs hg ho, gr h.a (by simp) (by omega), gr h.z0 (by simp) (by omega), gr h.z1 (by simp) (by omega), gr h.z2 (by simp) (by omega), ?_, ?_, ?_, ?_⟩
  · simp only [List.mem_cons, List.not_mem_nil, or_false] at hz
    rcases hz with rfl | rfl | rfl | rfl
    · exact ⟨_, _, h.z2⟩
    · exact ⟨_, _, h.z1⟩
    · exact ⟨_, _, h.z0⟩
    · exact ⟨_, _, h.a⟩
  · exact (h.df.own hg (fun r hr D hD he => by
      cases hr
      subst he
      obtain ⟨cur, hc⟩ := own_blk h2 (g := D) rfl
      rw [h.df.at_ D hD] at hc
      cases hc)).set hq1 0 _
  · exact (h.kf.trans (own_keeps h2 hg)).trans ((KeepsOthers.setCell _ _ _).from _)
  · refine keepE_t h.ke (keepE_t (keepE_own h2 (by decide) hg fun i hi => ⟨fun e => ?_, Nat.lt_of_lt_of_le (h.gj i hi).2.2.2 h.sz⟩) (keepE_set hq1 (by decide) (fun i hi e => ?_) 0 v'))
    · rcases hGx i hi with c | c
      · exact h3 i c e.symm
      · omega
    · rcases hGx i hi with c | c
      · simp only [List.mem_cons, List.not_mem_nil, or_false] at c
        omega
      · omega
  · have := hg.size
    have := h.sz
    simp [World.setCell]
    omega
end
end Go.Proofs.YtighfmgkoepfkaaGreat

namespace Go.Proofs.YtighfmgkoepfkaaGreat
open Go.RowKit
attribute [local go_sem] Oper.semAt_some

theorem wpListIn_make_x {F : Fence} {n : Nat} {P : Program} (w : World) {ops : Array Oper} {rest : List Oper} {o : Oper} {a : Act} {Q : Exit → Act → World → Prop}
    (hg : o.guard = none) (l c : Operand) (t : TypeId) (hop : o.op = Op.makeSlice t l c)
    (e : TypeId) (i : TypeInfo) (z : Value) (h1 : P.underlying t = some (.slice e)) (h2 : P.info? e = some i) (h3 : i.zero = some z)
    (kl kc : IntKind) (L C : Int) (m : Nat) (hl : a.eval l = .int kl L) (hc : a.eval c = .int kc C) (hL : L = (m : Int)) (hC : C = (m : Int)) (b2 : (i.bytes : Int) * (m : Int) ≤ 281474976710656) (b3 : (m : Int) ≤ 9223372036854775807)
    (hK : wpListIn F n P ops Q rest (a.put o.dst (.slice (some ⟨w.heap.size, 0, none⟩) m m)) (w.alloc (.cells (madeCells z.cells (m * i.size)) e))) :
    wpListIn F n P ops Q (o :: rest) a w := by
  refine wpListIn_plain hg fun K hK' => ?_
  have hrun := run_make (P := P) w t e i z h1 h2 h3 kl kc (m : Int) (m : Int) (by omega) (Int.le_refl _) b2 b3
  simp only [Int.toNat_natCast] at hrun
  subst hL
  subst hC
  unfold Oper.wpIn
  refine ⟨?_, ?_⟩
  · simp [Oper.about, hop]
  · rw [Oper.semAt_plain F _ _ (by rw [hop]; intro c hc'; cases hc')]
    simp [execOp, hop, hl, hc, hrun, Result.andThen]
    exact hK' _ _ hK
theorem stepR_scope {P : Program} {b : Frame} {a : Act} {k : List Item} {cs : List Frame} {w : World} {c : Code} : step P (lone (b.atR a (.code (.scope c) :: k)) cs w) = .next (lone (b.atR a (.code c :: .inScope c :: k)) cs w) :=
  step_lone_go (by simp [stepG, stepG.exec, Frame.atR])
theorem stepR_inScope {P : Program} {b : Frame} {a : Act} {k : List Item} {cs : List Frame} {w : World} {c : Code} : step P (lone (b.atR a (.inScope c :: k)) cs w) = .next (lone (b.atR a k) cs w) :=
  step_lone_go (by simp [stepG, stepG.exec, Frame.atR])
theorem wpIn_scope_straight {F : Fence} {n : Nat} {P : Program} {Q : Exit → Act → World → Prop} {a : Act} {w : World} {c : Code} (h : c.wpIn F n P (Exit.noGoto Q) a w) : (Code.scope c).wpIn F n P Q a w := by
  intro b k cs hro hb hr
  have h0 : (lone (b.atR a (.code (.scope c) :: k)) cs w).fenced P F := fenced_calm hb hr rfl
  obtain ⟨e, a₁, w₁, hq, harr⟩ := h b (.inScope c :: k) cs hro hb hr
  cases e with
  | normal => exact ⟨.normal, a₁, w₁, hq, .head h0 stepR_scope (StepsIn.trans harr (.one (fenced_calm hb hr rfl) stepR_inScope))⟩
  | exit id =>
    have hx : exitTo id (.inScope c :: k) = exitTo id k := by simp [exitTo]
    exact ⟨.exit id, a₁, w₁, hq, fun k' hk => .head h0 stepR_scope (harr.1 k' (by rw [hx]; exact hk)),
      fun hr' hk => let ⟨k₁, h1, h2⟩ := harr.2 hr' (by rw [hx]; exact hk); ⟨k₁, h1, .head h0 stepR_scope h2⟩⟩
  | goto l => exact hq.elim
  | ret => exact ⟨_, a₁, w₁, hq, .of_steps (.one h0 stepR_scope) harr⟩
  | panic ch => exact ⟨_, a₁, w₁, hq, .of_steps (.one h0 stepR_scope) harr⟩
  | outgrown => exact ⟨_, a₁, w₁, hq, .of_steps (.one h0 stepR_scope) harr⟩
theorem info_bool : (Tryz.prog.info? 4).map (fun i => (i.zero, i.size, i.bytes)) = some (some (.bool false), 1, 1) := by kernel_rfl

theorem Dfs.row {b : Nat} {Ds : List Nat} {W : World} (h : Dfs b Ds W) {B e size n : Nat} {v : Value} {xs : List Value} (ho : W.ownsRow B e size v n xs) : (closed Ds W).ownsRow B e size v n xs :=
  owns_block ho fun g hg => closed_at Ds W g fun c => by
    obtain ⟨cur, hc⟩ := own_blk ho hg
    rw [h.at_ g c] at hc
    cases hc
theorem Dfs.grown {b : Nat} {Ds : List Nat} {W W' : World} {B e size n : Nat} {v : Value} {xs : List Value} (h : Dfs b Ds W) (ho : W.ownsRow B e size v n xs) (hg : W.grownBy W' v.ownBlock) : Dfs b Ds W' :=
  h.own hg fun r hr D hD he => by
    subst he
    obtain ⟨cur, hc⟩ := own_blk ho hr
    rw [h.at_ D hD] at hc
    cases hc
def slen : Value → Nat
  | .slice _ n _ => n
  | _ => 0
theorem new_cellsL (W : World) (t : TypeId) (cs : List Value) : ∀ j u, cs[j]? = some u → (W.alloc (.cells cs.toArray t)).cell? ((⟨W.heap.size, 0, none⟩ : Addr).add j) = some u := by
  intro j u hj
  have := (Blk.new W t cs.toArray).cell j
  have hadd : (⟨W.heap.size, 0, none⟩ : Addr).add j = ⟨W.heap.size, j, none⟩ := by unfold Addr.add; split <;> simp_all
  rw [hadd, this]
  simpa using hj
theorem one_intsL (cs : List Int) : ∀ u ∈ cs.map (Value.int .i64), u.oneCell' = true := by
  intro u hu
  obtain ⟨x, _, rfl⟩ := List.mem_map.1 hu
  rfl
theorem res_lt {es : List Eg} {N : Nat} (hin : InN es N) {but : Int} {u : Nat} {h : Hp} (hr : Res es but u h) : h.to < N ∧ h.e < es.length := by
  obtain ⟨_, e, he, _, h2⟩ := hr
  have := hin e (List.mem_of_getElem? he)
  refine ⟨?_, (List.getElem?_eq_some_iff.1 he).1⟩
  rcases h2 with ⟨_, h2, _⟩ | ⟨_, h2, _⟩ <;> omega
/-- What path returns. -/
def PathOut (w : World) (es : List Eg) (but : Int) (from_ N : Nat) (P : Nat → Bool) (en : Ending) (w' : World) : Prop :=
  Below w.heap.size w w' ∧
  ((∃ H n c l, en = .returned (.tuple #[.slice H n c, .slice none 0 0]) ∧ SAt encHp 4 w' H n l ∧ Way es but from_ l ∧ Fresh from_ l ∧ P (wayEnd from_ l) = true ∧ wayEnd from_ l < N ∧ n ≤ 100 ∧ (∀ a, H = some a → w.heap.size ≤ a.block)) ∨
   (∃ g S, en = .returned (.tuple #[.slice none 0 0, .slice (some ⟨g, 0, none⟩) N N]) ∧ Blk w' g 4 (rowI N Value.bool S) ∧ S from_ = true ∧ (∀ v, v < N → S v = true → P v = false) ∧ Shut es but S ∧ w.heap.size ≤ g))

set_option maxRecDepth 100000 in
set_option maxHeartbeats 12800000 in
theorem path_in (m p base : Nat) (A : Option Addr) (c : Nat) (es : List Eg) (N from_ : Nat) (but : Int) (P : Nat → Bool) (g : Nat) (lb : Array Value) (w : World) (hN : Net w p base A c es N) (hs : Small es) (hin : InN es N) (hf : from_ < N) (hn : N ≤ 10)
    (eg : ∀ args w, (callFunc g args).run Tryz.prog w = .ok (.enter g args) w) (hp : ∀ W v, v < N → Below w.heap.size w W → Calls Tryz.prog g (#[.int .i64 (v : Int)] ++ lb) W fun e w' => e = .returned (.bool (P v)) ∧ Below W.heap.size W w') :
    CallsIn Fence.wide (m + 3) Tryz.prog 120 #[.pointer (some ⟨p, 0, none⟩), .int .i64 (from_ : Int), .int .i64 but, .func (.func g) #[] lb] w (PathOut w es but from_ N P) := by
  have HN := Lib.hid hN
  have HS := Lib.hid hs
  have HIn := Lib.hid hin
  have HP := Lib.hid hp
  have p0 := hN.blk.cell 0
  simp only [List.getElem?_toArray, List.getElem?_cons_zero] at p0
  have hpl := hN.plt
  clear hN hs hin hp
  have hpl1 : p < w.heap.size + 1 := by omega
  have hpl2 : p < w.heap.size + 1 + 1 := by omega
  have hpl3 : p < w.heap.size + 1 + 1 + 1 := by omega
  have hpl4 : p < w.heap.size + 1 + 1 + 1 + 1 := by omega
  have hpl5 : p < w.heap.size + 1 + 1 + 1 + 1 + 1 := by omega
  have hpl6 : p < w.heap.size + 1 + 1 + 1 + 1 + 1 + 1 := by omega
  have hpl7 : p < w.heap.size + 1 + 1 + 1 + 1 + 1 + 1 + 1 := by omega
  have hmz : (madeCells #[Value.bool false] N)[from_]? = some (.bool false) := by rw [rowI_made]; exact rowI_at hf
  obtain ⟨ib, hb0, hb1, hb2, hb3⟩ := info_parts info_bool
  obtain ⟨ih, hh0, hh1, hh2, hh3⟩ := info_parts info_hop
  obtain ⟨ii, hi0, hi1, hi2, hi3⟩ := info_parts info_int
  refine callsIn_of_wp_marks Tryz.func120 rfl trivial ?_ rfl
  simp only [Tryz.ntmps120, List.size_toArray, List.length_cons, List.length_nil, Nat.reduceAdd, Nat.reduceSub, Array.replicate_succ, Array.replicate_zero, List.push_toArray, List.append_toArray, List.nil_append, List.cons_append]
  gi_wp2
  apply wpIn_scope_straight
  gi_wp2_with (first
    | (gi_at_make; refine wpListIn_make_x _ rfl _ _ 143 rfl 4 ib (.bool false) Tryz.underlying143 hb0 hb1 .i64 .i64 _ _ N rfl rfl rfl rfl (by rw [hb3]; omega) (by omega) ?_)
    | (gi_at_make; refine wpListIn_make_x _ rfl _ _ 187 rfl 191 ih (.agg #[.int .i64 0, .int .i64 0, .int .i64 0, .int .i64 0]) Tryz.underlying187 hh0 hh1 .i64 .i64 _ _ N rfl rfl rfl rfl (by rw [hh3]; omega) (by omega) ?_)
    | (gi_at_make; refine wpListIn_make_x _ rfl _ _ 42 rfl 3 ii (.int .i64 0) Tryz.underlying42 hi0 hi1 .i64 .i64 _ _ N rfl rfl rfl rfl (by rw [hi3]; omega) (by omega) ?_))
  refine wpIn_label ?_
  gi_wp2
  generalize hE : (((((((w.alloc (.cells ((madeCells #[Value.bool false] N).setIfInBounds from_ (Value.bool true)) 4)).alloc (.cells #[.slice (some ⟨w.heap.size, 0, none⟩) N N] 143)).alloc (.cells (madeCells #[.int .i64 0, .int .i64 0, .int .i64 0, .int .i64 0] (N * 4)) 191)).alloc (.cells #[.slice (some ⟨w.heap.size + 1 + 1, 0, none⟩) N N] 187)).alloc (.cells (madeCells #[.int .i64 0] N) 3)).alloc (.cells #[.slice (some ⟨w.heap.size + 1 + 1 + 1 + 1, 0, none⟩) N N] 42)).alloc (.cells #[.int .i64 (from_ : Int)] 3)).alloc (.cells #[.slice (some ⟨w.heap.size + 1 + 1 + 1 + 1 + 1 + 1, 0, none⟩) 1 1] 42) = E
  have e0 : Blk E (w.heap.size) 4 ((madeCells #[Value.bool false] N).setIfInBounds from_ (Value.bool true)) := by rw [← hE]; exact ((((((((Blk.at_new _ _ rfl).alloc _).alloc _).alloc _).alloc _).alloc _).alloc _).alloc _)
  have e1 : Blk E (w.heap.size + 1) 143 #[.slice (some ⟨w.heap.size, 0, none⟩) N N] := by rw [← hE]; exact (((((((Blk.at_new _ _ (by simp)).alloc _).alloc _).alloc _).alloc _).alloc _).alloc _)
  have e2 : Blk E (w.heap.size + 1 + 1) 191 (madeCells #[.int .i64 0, .int .i64 0, .int .i64 0, .int .i64 0] (N * 4)) := by rw [← hE]; exact ((((((Blk.at_new _ _ (by simp)).alloc _).alloc _).alloc _).alloc _).alloc _)
  have e3 : Blk E (w.heap.size + 1 + 1 + 1) 187 #[.slice (some ⟨w.heap.size + 1 + 1, 0, none⟩) N N] := by rw [← hE]; exact (((((Blk.at_new _ _ (by simp)).alloc _).alloc _).alloc _).alloc _)
  have e4 : Blk E (w.heap.size + 1 + 1 + 1 + 1) 3 (madeCells #[.int .i64 0] N) := by rw [← hE]; exact ((((Blk.at_new _ _ (by simp)).alloc _).alloc _).alloc _)
  have e5 : Blk E (w.heap.size + 1 + 1 + 1 + 1 + 1) 42 #[.slice (some ⟨w.heap.size + 1 + 1 + 1 + 1, 0, none⟩) N N] := by rw [← hE]; exact (((Blk.at_new _ _ (by simp)).alloc _).alloc _)
  have e6 : Blk E (w.heap.size + 1 + 1 + 1 + 1 + 1 + 1) 3 #[.int .i64 (from_ : Int)] := by rw [← hE]; exact ((Blk.at_new _ _ (by simp)).alloc _)
  have e7 : Blk E (w.heap.size + 1 + 1 + 1 + 1 + 1 + 1 + 1) 42 #[.slice (some ⟨w.heap.size + 1 + 1 + 1 + 1 + 1 + 1, 0, none⟩) 1 1] := by rw [← hE]; exact (Blk.at_new _ _ (by simp))
  have eB : Below w.heap.size w E := by rw [← hE]; exact (((((((((Below.refl w.heap.size w).alloc (Nat.le_refl _) _).alloc (by simp) _).alloc (by simp; omega) _).alloc (by simp; omega) _).alloc (by simp; omega) _).alloc (by simp; omega) _).alloc (by simp; omega) _).alloc (by simp; omega) _)
  have eO : E.ownsRow (w.heap.size + 1 + 1 + 1 + 1 + 1 + 1) 3 1 (.slice (some ⟨w.heap.size + 1 + 1 + 1 + 1 + 1 + 1, 0, none⟩) 1 1) 1 [.int .i64 (from_ : Int)] := ⟨rfl, .inr ⟨_, 1, _, rfl, Nat.le_refl _, e6, Nat.le_refl _, by unfold maxLen; omega, rfl, rfl⟩⟩
  have hps0 : PS w N (w.heap.size) (w.heap.size + 1) (w.heap.size + 1 + 1) (w.heap.size + 1 + 1 + 1) (w.heap.size + 1 + 1 + 1 + 1) (w.heap.size + 1 + 1 + 1 + 1 + 1) (w.heap.size + 1 + 1 + 1 + 1 + 1 + 1) (w.heap.size + 1 + 1 + 1 + 1 + 1 + 1 + 1) [] [from_] (updF (fun _ => false) from_ true) (fun _ => ⟨0, 0, 0, 0⟩) (fun _ => 0) E := by
    refine ⟨⟨Nat.le_refl _, by omega, by omega, by omega, by omega, by omega, by omega, by omega⟩, eB, e1, ?_, e3, ?_, e5, ?_, w.heap.size + 1 + 1 + 1 + 1 + 1 + 1, 1, e7, eO, fun x hx => (by cases hx)⟩
    · rw [← rowI_set, show rowI N Value.bool (fun _ => false) = rowI N (fun _ : Unit => Value.bool false) (fun _ => ()) from rfl, ← rowI_made]; exact e0
    · rw [← rowH_made]; exact e2
    · rw [show rowI N (fun v : Nat => Value.int .i64 (v : Int)) (fun _ => 0) = rowI N (fun _ : Unit => Value.int .i64 0) (fun _ => ()) from rfl, ← rowI_made]; exact e4
  have HPs0 := Lib.hid hps0
  clear hE e0 e1 e2 e3 e4 e5 e6 e7 eB eO hps0 hmz
  refine wpIn_loop (fun a' W => ∃ (u16 u40 u41 u42 u43 u44 u45 u46 u47 u48 u49 u50 u51 u52 u54 u55 u56 u57 : Value) (Ds : List Nat) (k : Nat) (q : List Nat) (seen : Nat → Bool) (by_ : Nat → Hp) (back : Nat → Nat), (k ≤ q.length ∧ Bfs es but from_ N q seen by_ back ∧ PS w N (w.heap.size) (w.heap.size + 1) (w.heap.size + 1 + 1) (w.heap.size + 1 + 1 + 1) (w.heap.size + 1 + 1 + 1 + 1) (w.heap.size + 1 + 1 + 1 + 1 + 1) (w.heap.size + 1 + 1 + 1 + 1 + 1 + 1) (w.heap.size + 1 + 1 + 1 + 1 + 1 + 1 + 1) [] q seen by_ back W ∧ Dfs w.heap.size Ds W ∧ (∀ j u, j < k → q[j]? = some u → P u = false ∧ ∀ x ∈ hopsL es but u, seen x.to = true)) ∧ a' = { tmps := #[.pointer (some ⟨p, 0, none⟩), .int .i64 (from_ : Int), .int .i64 but, .func (.func g) #[] lb, undef, undef, undef, undef, .slice none 0 0, .slice none 0 0, .pointer (some ⟨w.heap.size + 1, 0, none⟩), .pointer (some ⟨w.heap.size + 1 + 1 + 1, 0, none⟩), .pointer (some ⟨w.heap.size + 1 + 1 + 1 + 1 + 1, 0, none⟩), .pointer (some ⟨w.heap.size + 1 + 1 + 1 + 1 + 1 + 1 + 1, 0, none⟩), .int .i64 (-1), .int .i64 (k : Int), u16, undef, undef, undef, .pointer (some ⟨p, 0, none⟩), .pointer (some ⟨p, 0, none⟩), .pointer (some ⟨p, 0, none⟩), .int .i64 (N : Int), .slice (some ⟨w.heap.size, 0, none⟩) N N, .pointer (some ⟨p, 0, none⟩), .pointer (some ⟨p, 0, none⟩), .pointer (some ⟨p, 0, none⟩), .int .i64 (N : Int), .slice (some ⟨w.heap.size + 1 + 1, 0, none⟩) N N, .pointer (some ⟨p, 0, none⟩), .pointer (some ⟨p, 0, none⟩), .pointer (some ⟨p, 0, none⟩), .int .i64 (N : Int), .slice (some ⟨w.heap.size + 1 + 1 + 1 + 1, 0, none⟩) N N, .slice (some ⟨w.heap.size, 0, none⟩) N N, .int .i64 (from_ : Int), .pointer (some ⟨w.heap.size, from_, none⟩), .int .i64 (from_ : Int), .slice (some ⟨w.heap.size + 1 + 1 + 1 + 1 + 1 + 1, 0, none⟩) 1 1, u40, u41, u42, u43, u44, u45, u46, u47, u48, u49, u50, u51, u52, undef, u54, u55, u56, u57, undef, undef, undef, undef, undef, undef, undef, undef, undef, undef, undef, undef, undef, undef, undef, undef, undef, undef, undef, undef, undef, undef, undef, undef, undef, undef, undef, undef, undef, undef, undef, undef, undef, undef, undef, undef, undef, undef, undef, undef, undef, undef, undef, undef, undef], defers := marks Ds }) (fun a' _ => N + 1 - (intOf (a'.tmps.getD 15 undef)).toNat) ?start ?round
  case start => exact ⟨undef, undef, undef, undef, undef, undef, undef, undef, undef, undef, undef, undef, undef, undef, undef, undef, undef, undef, [], 0, [from_], _, _, _, ⟨Nat.zero_le _, Bfs.start hf _ _, HPs0.out, ⟨List.nodup_nil, fun D h => (by cases h), fun D h => (by cases h)⟩, fun j u h => absurd h (by omega)⟩, rfl⟩
  case round =>
    rintro a' W ⟨u16, u40, u41, u42, u43, u44, u45, u46, u47, u48, u49, u50, u51, u52, u54, u55, u56, u57, Ds, k, q, seen, by_, back, ⟨hk, hbfs, hps, hds, hdone⟩, rfl⟩
    try dsimp only
    have HB := Lib.hid hbfs
    have HPs := Lib.hid hps
    have HDs := Lib.hid hds
    have HDn := Lib.hid hdone
    have hql := hbfs.len
    have hsB := hps.b.size
    obtain ⟨gq, cq, hq1, hq2, _⟩ := hps.q
    have HQ1 := Lib.hid hq1
    have HQ2 := Lib.hid hq2
    have c7 := hq1.cell 0
    have cs1 := hps.s.cell 0
    have cy1 := hps.y.cell 0
    have ck1 := hps.k.cell 0
    simp only [List.getElem?_toArray, List.getElem?_cons_zero] at c7 cs1 cy1 ck1
    have l7 := hq1.lt
    have l1 := hps.s.lt
    have l3 := hps.y.lt
    have l5 := hps.k.lt
    clear hbfs hps hds hdone hq1 hq2
    by_cases hkq : k < q.length
    case neg =>
      have HKq := Lib.hid (show k = q.length by omega)
      gi_wp2
      gi_region
      gi_wp2
      rw [Exit.noGoto_ret]
      have hdD := HDs.out.below (below_drewN (Below.refl W.heap.size W) 1)
      refine leave_many (b := w.heap.size) hdD ⟨.tuple #[.slice none 0 0, .slice (some ⟨w.heap.size, 0, none⟩) N N], by simp [results, Tryz.results120, go_sem], ?_, .inr ⟨w.heap.size, seen, rfl, ?_, ?_, ?_, ?_, Nat.le_refl _⟩⟩
      · exact ((below_drewN HPs.out.b 1)).trans (closed_below hdD.ge)
      · exact hdD.blk (HPs.out.sr.below (below_drewN (Below.refl W.heap.size W) 1))
      · exact (HB.out.seen _ hf).2 (List.mem_of_getElem? HB.out.head)
      · intro v hv hs
        obtain ⟨j, hj⟩ := List.mem_iff_getElem?.1 ((HB.out.seen v hv).1 hs)
        have hjl := (List.getElem?_eq_some_iff.1 hj).1
        exact (HDn.out j v (by have := HKq.out; omega) hj).1
      · refine HB.out.shut HIn.out HS.out.inb fun v hv => ?_
        obtain ⟨j, hj⟩ := List.mem_iff_getElem?.1 hv
        have hjl := (List.getElem?_eq_some_iff.1 hj).1
        exact (HDn.out j v (by have := HKq.out; omega) hj).2
    have hqe := List.getElem?_eq_getElem hkq
    have cq0 := HQ2.out.cells (g := gq) rfl k (.int .i64 ((q[k] : Nat) : Int)) (by rw [List.getElem?_map, hqe]; rfl)
    have hadd : (⟨gq, 0, none⟩ : Addr).add k = ⟨gq, k, none⟩ := by unfold Addr.add; split <;> simp_all
    rw [hadd] at cq0
    have lq := (own_lt HQ2.out (g := gq) rfl).2
    have hun := HB.out.lt _ (List.getElem_mem hkq)
    have HU := Lib.hid hqe
    clear hadd hqe
    generalize q[k] = u at *
    gi_wp2
    have BA := HPs.out.b.alloc HPs.out.b.size (.cells #[.int .i64 (u : Int)] 3)
    refine ⟨trivial, (callsIn_wide.2 (HP.out _ u hun BA)).mono ?_⟩
    rintro e w1 ⟨rfl, hb1⟩
    have a1 := (Blk.new W 3 #[.int .i64 (u : Int)]).below hb1
    have HPs1 := Lib.hid ((((HPs.out.addX (Nat.le_refl _)).below ((Below.refl _ _).alloc (Nat.le_refl _) (.cells #[.int .i64 (u : Int)] 3))).below hb1))
    have HDs1 := Lib.hid ((HDs.out.below ((Below.refl _ _).alloc (Nat.le_refl _) (.cells #[.int .i64 (u : Int)] 3))).below hb1)
    have HA1 := Lib.hid a1
    have ca1 := a1.cell 0
    have cs2 := HPs1.out.s.cell 0
    have cy2 := HPs1.out.y.cell 0
    have ck2 := HPs1.out.k.cell 0
    simp only [List.getElem?_toArray, List.getElem?_cons_zero] at ca1 cs2 cy2 ck2
    have la1 := a1.lt
    have ly2 := HPs1.out.y.lt
    have lk2 := HPs1.out.k.lt
    have ls2 := HPs1.out.s.lt
    have HWl := Lib.hid (show w.heap.size ≤ W.heap.size from hsB)
    clear a1 c7 cs1 cy1 ck1 l7 l1 l3 l5 cq0 lq hb1
    generalize hga : W.heap.size = ga at *
    cases hPu : P u with
    | true =>
      have HPu := Lib.hid hPu
      have huz : ((u : Int) < 0) = False := by simp; try omega
      obtain ⟨l, hch, hway, hend, hfr, hll, _⟩ := HB.out.chain k u HU.out
      have HCh := Lib.hid hch
      have HWay := Lib.hid (show Way es but from_ l ∧ wayEnd from_ l = u ∧ Fresh from_ l from ⟨hway, hend, hfr⟩)
      have hl10 : l.length ≤ 10 := by omega
      clear hch hway hend hfr hll hPu
      gi_wp2
      gi_loopw [18, 19] (fun o at_ wr => ∃ (v : Nat) (done rest : List Hp) (A1 : Option Addr) (c1 : Nat), at_ = .int .i64 (v : Int) ∧ o = .slice A1 done.length c1 ∧ Chain by_ back from_ v rest ∧ v ∈ q ∧ done ++ rest = l ∧ wr.ownsRow w1.heap.size 191 4 (.slice A1 done.length c1) done.length (done.flatMap encHp) ∧ Blk wr (w.heap.size + 1 + 1 + 1) 187 #[.slice (some ⟨w.heap.size + 1 + 1, 0, none⟩) N N] ∧ Blk wr (w.heap.size + 1 + 1) 191 (rowH N by_) ∧ Blk wr (w.heap.size + 1 + 1 + 1 + 1 + 1) 42 #[.slice (some ⟨w.heap.size + 1 + 1 + 1 + 1, 0, none⟩) N N] ∧ Blk wr (w.heap.size + 1 + 1 + 1 + 1) 3 (rowI N (fun v : Nat => Value.int .i64 (v : Int)) back) ∧ Dfs w.heap.size Ds wr ∧ Below w.heap.size w wr ∧ w1.heap.size ≤ wr.heap.size) (fun o _ _ => l.length - slen o)
      case atStart => exact ⟨u, [], l, none, 0, rfl, rfl, HCh.out, List.mem_of_getElem? HU.out, rfl, World.ownsRow_nil _ _ _ _, HPs1.out.y, HPs1.out.yr, HPs1.out.k, HPs1.out.kr, HDs1.out, HPs1.out.b, Nat.le_refl _⟩
      case round =>
        obtain ⟨v, done, rest, A1, c1, rfl, rfl, hch, hvq, hdr, ow, by1, by0, bk1, bk0, hds, Br, hsz⟩ := hrel
        have HDr := Lib.hid hdr
        have OW := Lib.hid ow
        have HDs3 := Lib.hid hds
        have HVq := Lib.hid hvq
        have HVN := Lib.hid (HB.out.lt v hvq)
        have HY0 := Lib.hid by0
        have HY1 := Lib.hid by1
        have HK0 := Lib.hid bk0
        have HK1 := Lib.hid bk1
        have HLT := Lib.hid (fun (r : Nat) hr => own_lt (g := r) ow hr)
        have hvN := HB.out.lt v hvq
        have cc1 := by1.cell 0
        have cc2 := bk1.cell 0
        have cc3 := (bk0.cell v).trans (rowI_at hvN)
        have cc4 := (by0.cell (v * 4)).trans (rowH_at (j := 0) hvN (by omega))
        have cc5 := (by0.cell (v * 4 + 1)).trans (rowH_at (j := 1) hvN (by omega))
        have cc6 := (by0.cell (v * 4 + 2)).trans (rowH_at (j := 2) hvN (by omega))
        have cc7 := (by0.cell (v * 4 + 3)).trans (rowH_at (j := 3) hvN (by omega))
        simp only [encHp, List.getElem?_toArray, List.getElem?_cons_zero, List.getElem?_cons_succ] at cc1 cc2 cc4 cc5 cc6 cc7
        have hl1 := by1.lt
        have hl2 := by0.lt
        have hl3 := bk1.lt
        have hl4 := bk0.lt
        clear hdr ow hds hvq by0 by1 bk0 bk1
        by_cases hvf : v = from_
        case pos =>
          have hz : ((v : Int) != (from_ : Int)) = false := by simp [hvf]
          have HR := Lib.hid (show rest = [] from by
            cases rest with
            | nil => rfl
            | cons x t => exact absurd hvf hch.1)
          clear hvf hch
          gi_wp2
          rw [Exit.noGoto_ret]
          have hdl : done = l := by rw [← HDr.out, HR.out, List.append_nil]
          have HDl := Lib.hid hdl
          have hsat := SAt_of_row encHp_len rfl (HDs3.out.row OW.out)
          obtain ⟨A2, c2, e2, hs2, hs3, _⟩ := hsat
          have e3 : A1 = A2 ∧ c1 = c2 := by simpa using e2
          obtain ⟨rfl, rfl⟩ := e3
          refine leave_many (b := w.heap.size) HDs3.out ⟨.tuple #[.slice A1 done.length c1, .slice none 0 0], by simp [results, Tryz.results120, go_sem], Br.trans (closed_below HDs3.out.ge), .inl ⟨A1, done.length, c1, l, rfl, by rw [← HDl.out]; exact hs2, HWay.out.1, HWay.out.2.2, by rw [HWay.out.2.1]; exact HPu.out, by rw [HWay.out.2.1]; exact hun, by rw [HDl.out]; omega, fun a ha => Nat.le_trans (by omega) (hs3 a ha)⟩⟩
        case neg =>
          have hz : ((v : Int) != (from_ : Int)) = true := by simp; omega
          obtain ⟨x, t, rfl⟩ : ∃ x t, rest = x :: t := by
            cases rest with
            | nil => exact absurd hch hvf
            | cons x t => exact ⟨x, t, rfl⟩
          have HX := Lib.hid (show x = by_ v from hch.2.1)
          have HC2 := Lib.hid hch.2.2
          have HBk := Lib.hid (show back v ∈ q from by
            obtain ⟨j, hj⟩ := List.mem_iff_getElem?.1 HVq.out
            have hj0 : 0 < j := by
              refine Nat.pos_of_ne_zero fun e => ?_
              subst e
              rw [HB.out.head] at hj
              exact hvf (Option.some.inj hj).symm
            obtain ⟨i, _, h2, _⟩ := HB.out.link j v hj0 hj
            exact List.mem_of_getElem? h2)
          have hdl : done.length < l.length := by rw [← HDr.out]; simp
          clear hvf hch
          generalize hbv : by_ v = bv at *
          clear hbv
          obtain ⟨be, bt, bb, bs⟩ := bv
          dsimp only at *
          have OW2 := Lib.hid (OW.out.alloc (.cells #[.int .i64 (be : Int), .int .i64 (bt : Int), .int .i64 bb, .int .i64 bs] 191))
          gi_wp2_with (gi_at_builtin; refine wpListIn_append_own _ rfl (.tmp 95) (.tmp 100) 187 rfl w1.heap.size 191 ih (.agg #[.int .i64 0, .int .i64 0, .int .i64 0, .int .i64 0]) 4 32 Tryz.underlying187 hh0 hh1 hh2 hh3 rfl (by decide) _ done.length (done.flatMap encHp) rfl OW2.out ⟨wr.heap.size, 0, none⟩ 1 1 [.int .i64 (be : Int), .int .i64 (bt : Int), .int .i64 bb, .int .i64 bs] rfl rfl (new_cellsL wr _ _) (one_intsL [(be : Int), (bt : Int), bb, bs]) (by unfold maxLen; omega) (by omega) (by simp; omega) ?_)
          intro v' w4 ho hgr _
          obtain ⟨g5, c5, rfl⟩ := ownsRow_succ ho
          have HO := Lib.hid ho
          have gb : ∀ {i ty cs}, Blk wr i ty cs → i < w1.heap.size → Blk w4 i ty cs := fun hb hi => Blk.grown (hb.alloc _) hgr (fun e => by have := HLT.out _ e; omega)
          have gk1 := gb HK1.out (by omega)
          have gk0 := gb HK0.out (by omega)
          have gy1 := gb HY1.out (by omega)
          have gy0 := gb HY0.out (by omega)
          have HG1 := Lib.hid gk1
          have HG2 := Lib.hid gk0
          have HG3 := Lib.hid gy1
          have HG4 := Lib.hid gy0
          have HDs4 := Lib.hid ((HDs3.out.below ((Below.refl _ _).alloc (Nat.le_refl _) _)).grown OW2.out hgr)
          have B4 := (Br.alloc Br.size (.cells #[.int .i64 (be : Int), .int .i64 (bt : Int), .int .i64 bb, .int .i64 bs] 191)).grown hgr (Nat.le_trans Br.size (by simp)) (fun r hr => by have := HLT.out _ hr; omega)
          have hs4 : w1.heap.size ≤ w4.heap.size := Nat.le_trans hsz (Nat.le_trans (by simp) hgr.size)
          have dd1 := gk1.cell 0
          have dd2 := gk0.cell v
          rw [rowI_at HVN.out] at dd2
          simp only [List.getElem?_toArray, List.getElem?_cons_zero] at dd1
          clear gb gk1 gk0 gy1 gy0 hgr ho
          gi_wp2
          go_roundw
          case rel =>
            refine ⟨back v, done ++ [x], t, some ⟨g5, 0, none⟩, c5, rfl, by rw [List.length_append]; rfl, HC2.out, HBk.out, by rw [← HDr.out]; simp, ?_, HG3.out, HG4.out, HG1.out, HG2.out, HDs4.out, B4, hs4⟩
            rw [HX.out, List.length_append, List.flatMap_append]
            exact HO.out
          case measure => simp only [slen]; omega
    | false =>
      have HPu := Lib.hid hPu
      clear hPu
      gi_wp2_with fail
      refine ⟨trivial, (callsIn_wide.2 (hops_any _ _ _ _)).mono ?_⟩
      rintro e w2 ⟨rfl, rfl⟩
      gi_wp2
      have HWZ := Lib.hid (show w1.heap.size = w1.heap.size from rfl)
      have hps1 := HPs1.out
      have hpsz := ((hps1.addX (x := w1.heap.size) (Nat.le_refl _)).addX (x := w1.heap.size + 1) (by omega)).addX (x := w1.heap.size + 1 + 1) (by omega)
      have bz1 := ((Below.refl w1.heap.size w1).alloc (Nat.le_refl _) (.cells #[.pointer (some ⟨p, 0, none⟩)] 141)).alloc (by simp) (.cells #[.int .i64 (u : Int)] 3)
      have bz := bz1.alloc (by simp; omega) (.cells #[.int .i64 but] 3)
      generalize hZ : ((w1.alloc (.cells #[.pointer (some ⟨p, 0, none⟩)] 141)).alloc (.cells #[.int .i64 (u : Int)] 3)).alloc (.cells #[.int .i64 but] 3) = Z at *
      have zB0 : Blk Z w1.heap.size 141 #[.pointer (some ⟨p, 0, none⟩)] := by rw [← hZ]; exact ((Blk.at_new _ _ rfl).alloc _).alloc _
      have zB1 : Blk Z (w1.heap.size + 1) 3 #[.int .i64 (u : Int)] := by rw [← hZ]; exact (Blk.at_new _ _ (by simp)).alloc _
      have zB2 : Blk Z (w1.heap.size + 1 + 1) 3 #[.int .i64 but] := by rw [← hZ]; exact Blk.at_new _ _ (by simp)
      have hZs : w1.heap.size + 1 + 1 < Z.heap.size := zB2.lt
      have hBZ := hps1.b.trans (bz.mono hps1.b.size)
      have hNZ := HN.out.below hBZ
      have hPZ := hpsz.below bz
      have hAZ := HA1.out.below bz
      have hDZ := HDs1.out.below bz
      have hDlt := hDZ.lt
      have hZw := hBZ.size
      have HPZ := Lib.hid hPZ
      have HNZ := Lib.hid hNZ
      clear hps1 hpsz bz1 bz hZ HWZ
      have hwz : w.heap.size ≤ w1.heap.size := HPs1.out.b.size
      generalize hzb : w1.heap.size = zb at *
      have hG : ∀ i ∈ hopG zb p (Value.slice A es.length c).ownBlock, i < Z.heap.size := fun i hi => by
        unfold hopG at hi
        simp only [List.mem_append, List.mem_cons, List.not_mem_nil, or_false, Option.mem_toList] at hi
        rcases hi with (rfl | rfl | rfl | rfl) | hi
        · omega
        · omega
        · omega
        · exact hNZ.plt
        · exact (own_lt hNZ.row hi).2
      have HGw := Lib.hid (show ∀ i ∈ hopG zb p (Value.slice A es.length c).ownBlock, i < w.heap.size ∨ zb ≤ i from fun i hi => by
        unfold hopG at hi
        simp only [List.mem_append, List.mem_cons, List.not_mem_nil, or_false, Option.mem_toList] at hi
        rcases hi with (rfl | rfl | rfl | rfl) | hi
        · omega
        · omega
        · omega
        · exact .inl hpl
        · exact .inl (own_lt HN.out.row hi).2)
      refine wpIn_rangeFunc_ownH (α := HopOf es but u) rfl (by omega) (gf := 155) (lb := #[.pointer (some ⟨zb, 0, none⟩), .pointer (some ⟨zb + 1 + 1, 0, none⟩), .pointer (some ⟨zb + 1, 0, none⟩)]) rfl trivial (enters_of Tryz.func155 (by kernel_rfl) rfl)
        (hops_stops _ zb p base A c es N u but HS.out Z (zB0.cell 0) (zB1.cell 0) (zB2.cell 0) hZs hNZ) keepE_t (keepE_b hG) (Below.refl _ _) (fun x => (rfl : (encP es but u x).size = 1))
        (fun pre W' => ∃ (q' : List Nat) (seen' : Nat → Bool) (by' : Nat → Hp) (back' : Nat → Nat), q <+: q' ∧ Bfs es but from_ N q' seen' by' back' ∧ PS w N (w.heap.size) (w.heap.size + 1) (w.heap.size + 1 + 1) (w.heap.size + 1 + 1 + 1) (w.heap.size + 1 + 1 + 1 + 1) (w.heap.size + 1 + 1 + 1 + 1 + 1) (w.heap.size + 1 + 1 + 1 + 1 + 1 + 1) (w.heap.size + 1 + 1 + 1 + 1 + 1 + 1 + 1) [zb + 1 + 1, zb + 1, zb, ga] q' seen' by' back' W' ∧ Blk W' ga 3 #[.int .i64 (u : Int)] ∧ Blk W' zb 141 #[.pointer (some ⟨p, 0, none⟩)] ∧ Blk W' (zb + 1) 3 #[.int .i64 (u : Int)] ∧ Blk W' (zb + 1 + 1) 3 #[.int .i64 but] ∧
          (∀ x ∈ pre, seen' x.val.to = true) ∧ (∀ v, v < N → seen v = true → seen' v = true) ∧ Dfs w.heap.size Ds W' ∧ Z.heap.size ≤ W'.heap.size)
        (fun _ _ _ => False) ?hI (fun _ _ _ _ _ h _ _ => h) ?h0
        (fun x a' W' => ∃ Bx, Z.heap.size ≤ Bx ∧ Blk W' Bx 191 #[.int .i64 (x.val.e : Int), .int .i64 (x.val.to : Int), .int .i64 x.val.by_, .int .i64 x.val.sg] ∧ a' = { tmps := #[.pointer (some ⟨p, 0, none⟩), .int .i64 (from_ : Int), .int .i64 but, .func (.func g) #[] lb, undef, undef, undef, undef, .slice none 0 0, .slice none 0 0, .pointer (some ⟨w.heap.size + 1, 0, none⟩), .pointer (some ⟨w.heap.size + 1 + 1 + 1, 0, none⟩), .pointer (some ⟨w.heap.size + 1 + 1 + 1 + 1 + 1, 0, none⟩), .pointer (some ⟨w.heap.size + 1 + 1 + 1 + 1 + 1 + 1 + 1, 0, none⟩), .int .i64 (-1), .int .i64 (k : Int), .pointer (some ⟨ga, 0, none⟩), .pointer (some ⟨Bx, 0, none⟩), undef, undef, .pointer (some ⟨p, 0, none⟩), .pointer (some ⟨p, 0, none⟩), .pointer (some ⟨p, 0, none⟩), .int .i64 (N : Int), .slice (some ⟨w.heap.size, 0, none⟩) N N, .pointer (some ⟨p, 0, none⟩), .pointer (some ⟨p, 0, none⟩), .pointer (some ⟨p, 0, none⟩), .int .i64 (N : Int), .slice (some ⟨w.heap.size + 1 + 1, 0, none⟩) N N, .pointer (some ⟨p, 0, none⟩), .pointer (some ⟨p, 0, none⟩), .pointer (some ⟨p, 0, none⟩), .int .i64 (N : Int), .slice (some ⟨w.heap.size + 1 + 1 + 1 + 1, 0, none⟩) N N, .slice (some ⟨w.heap.size, 0, none⟩) N N, .int .i64 (from_ : Int), .pointer (some ⟨w.heap.size, from_, none⟩), .int .i64 (from_ : Int), .slice (some ⟨w.heap.size + 1 + 1 + 1 + 1 + 1 + 1, 0, none⟩) 1 1, .int .i64 (k : Int), .slice (some ⟨gq, 0, none⟩) q.length cq, .int .i64 (q.length : Int), .bool true, u44, u45, .slice (some ⟨gq, 0, none⟩) q.length cq, .int .i64 (k : Int), .pointer (some ⟨gq, k, none⟩), .int .i64 (u : Int), .func (.func g) #[] lb, .int .i64 (u : Int), .bool false, undef, .pointer (some ⟨p, 0, none⟩), .int .i64 (u : Int), .int .i64 but, .func (.func 155) #[] #[.pointer (some ⟨zb, 0, none⟩), .pointer (some ⟨zb + 1 + 1, 0, none⟩), .pointer (some ⟨zb + 1, 0, none⟩)], vHop x.val, undef, undef, undef, undef, undef, undef, undef, undef, undef, undef, undef, undef, undef, undef, undef, undef, undef, undef, undef, undef, undef, undef, undef, undef, undef, undef, undef, undef, undef, undef, undef, undef, undef, undef, undef, undef, undef, undef, undef, undef, undef, undef, undef, undef], defers := [] })
        ?hAx ?assign ?body ?done ?stop
      case hI =>
        rintro pre X Y row ⟨q', seen', by', back', i1, i2, i3, i4, i5, i6, i7, i8, i9, i10, i11⟩ hg hr
        refine ⟨q', seen', by', back', i1, i2, i3.abide hg (fun r e => ⟨Nat.le_trans hZw (hr r e).1, (hr r e).2⟩), Blk.own (β := Unit) _ _ _ _ () X Y row i4 hg hr, Blk.own (β := Unit) _ _ _ _ () X Y row i5 hg hr, Blk.own (β := Unit) _ _ _ _ () X Y row i6 hg hr, Blk.own (β := Unit) _ _ _ _ () X Y row i7 hg hr, i8, i9, i10.own hg (fun r e D hD => by have := (hr r e).1; have := hDlt D hD; omega), Nat.le_trans i11 hg.size⟩
      case h0 => exact ⟨q, seen, by_, back, List.prefix_refl _, HB.out, HPZ.out, hAZ, zB0, zB1, zB2, fun x h => (by cases h), fun v _ h => h, hDZ, Nat.le_refl _⟩
      case hAx =>
        rintro x a' _ X Y row ⟨Bx, h1, h2, h3⟩ hg hr
        exact ⟨Bx, h1, Blk.own (β := Unit) _ _ _ _ () X Y row h2 hg hr, h3⟩
      case assign =>
        rintro l pre x W' K ⟨q', seen', by', back', i1, i2, i3, i4, i5, i6, i7, i8, i9, i10, i11⟩ hK
        unfold encP
        gi_wp2
        have bq := (Below.refl W'.heap.size W').alloc (Nat.le_refl _) (.cells #[.int .i64 (x.val.e : Int), .int .i64 (x.val.to : Int), .int .i64 x.val.by_, .int .i64 x.val.sg] 191)
        exact hK _ _ ((KeepsOthers.alloc _ _).from _) (keepE_below bq (fun i hi => Nat.lt_of_lt_of_le (hG i hi) i11)) ⟨q', seen', by', back', i1, i2, i3.below bq, i4.alloc _, i5.alloc _, i6.alloc _, i7.alloc _, i8, i9, i10.below bq, by simp; omega⟩ ⟨W'.heap.size, i11, Blk.new W' _ _, rfl⟩
      case stop =>
        intro D cc pre W' _ _ hx _
        exact hx.elim
      case done =>
        rintro D xs W' hD hxs ⟨q', seen', by', back', i1, i2, i3, i4, i5, i6, i7, i8, i9, i10, i11⟩ hK
        have hk1 : k < q'.length := Nat.lt_of_lt_of_le hkq i1.length_le
        have HB2 := Lib.hid i2
        have HP2 := Lib.hid (i3.subX (Y := []) (fun x h => (by cases h)))
        have HD2 := Lib.hid (show Dfs w.heap.size (D :: Ds) W' from ⟨List.nodup_cons.2 ⟨fun h => by have := hDlt D h; omega, i10.nodup⟩, fun x h => (List.mem_cons.1 h).elim (fun e => by rw [e]; omega) (i10.ge x), fun x h => (List.mem_cons.1 h).elim (fun e => by rw [e]; exact hK) (i10.at_ x)⟩)
        have HDn2 := Lib.hid (show ∀ j v, j < k + 1 → q'[j]? = some v → P v = false ∧ ∀ x ∈ hopsL es but v, seen' x.to = true from fun j v hj hv => by
          have hjq : j < q.length := by omega
          have hv2 : q[j]? = some v := by
            obtain ⟨t, rfl⟩ := i1
            rwa [List.getElem?_append_left hjq] at hv
          by_cases e : j = k
          · subst e
            have e2 : u = v := by rw [HU.out] at hv2; exact Option.some.inj hv2
            subst e2
            refine ⟨HPu.out, fun x hx => ?_⟩
            rw [← hxs] at hx
            obtain ⟨y, hy, rfl⟩ := List.mem_map.1 hx
            exact i8 y hy
          · obtain ⟨h1, h2⟩ := HDn.out j v (by omega) hv2
            exact ⟨h1, fun x hx => i9 _ (res_lt HIn.out (hops_res hx)).1 (h2 x hx)⟩)
        have hql2 := i2.len
        clear i1 i2 i3 i4 i5 i6 i7 i8 i9 i10 hK hxs
        gi_wp2
        refine ⟨⟨_, _, _, _, _, _, _, _, _, _, _, _, _, _, _, _, _, _, D :: Ds, k + 1, q', seen', by', back', ⟨hk1, HB2.out, HP2.out, HD2.out, HDn2.out⟩, rfl⟩, ?_⟩
        simp [intOf]
        omega
      case body =>
        rintro l pre x _ W' hl ⟨r, hr⟩ ⟨q', seen', by', back', i1, i2, i3, i4, i5, i6, i7, i8, i9, i10, i11⟩ ⟨Bx, hBx, hbx, rfl⟩ hlen
        obtain ⟨⟨xe, xt, xb, xs⟩, hxm⟩ := x
        dsimp only at hbx ⊢
        obtain ⟨hxN, hxE⟩ := res_lt HIn.out (hops_res hxm)
        dsimp only at hxN hxE
        have HRes := Lib.hid (hops_res hxm)
        have HB2 := Lib.hid i2
        have HP2 := Lib.hid i3
        have d1 := i3.s.cell 0
        have d2 := i3.y.cell 0
        have d3 := i3.k.cell 0
        have d4 := (i3.sr.cell xt).trans (rowI_at hxN)
        have h0 := hbx.cell 0
        have h1 := hbx.cell 1
        have h2 := hbx.cell 2
        have h3 := hbx.cell 3
        have ga0 := i4.cell 0
        simp only [List.getElem?_toArray, List.getElem?_cons_zero, List.getElem?_cons_succ] at d1 d2 d3 h0 h1 h2 h3 ga0
        have m1 := i3.s.lt
        have m2 := i3.y.lt
        have m3 := i3.k.lt
        have m4 := i3.sr.lt
        have m5 := hbx.lt
        have m6 := i4.lt
        cases hsn : seen' xt with
        | true =>
          rw [hsn] at d4
          gi_wp2
          refine ⟨KeepsFrom.refl _ _, KeepE.refl _ _, q', seen', by', back', i1, i2, i3, i4, i5, i6, i7, fun y hy => ?_, i9, i10, i11⟩
          rcases List.mem_append.1 hy with hy | hy
          · exact i8 y hy
          · have : y = ⟨⟨xe, xt, xb, xs⟩, hxm⟩ := by simpa using hy
            rw [this]; exact hsn
        | false =>
          rw [hsn] at d4
          gi_wp2
          have hq7 : w.heap.size + 1 + 1 + 1 + 1 + 1 + 1 + 1 < zb := by
            obtain ⟨_, _, hh, _⟩ := HPs1.out.q
            rw [← hzb]; exact hh.lt
          have HQ7 := Lib.hid hq7
          have HQ8 := Lib.hid (show w.heap.size + 1 + 1 + 1 + 1 + 1 + 1 + 1 < ga from by
            obtain ⟨_, _, hh, _⟩ := HPs.out.q
            rw [← hga]; exact hh.lt)
          have hG0 : RSt w N (w.heap.size) (w.heap.size + 1) (w.heap.size + 1 + 1) (w.heap.size + 1 + 1 + 1) (w.heap.size + 1 + 1 + 1 + 1) (w.heap.size + 1 + 1 + 1 + 1 + 1) (w.heap.size + 1 + 1 + 1 + 1 + 1 + 1) (w.heap.size + 1 + 1 + 1 + 1 + 1 + 1 + 1) [zb + 1 + 1, zb + 1, zb, ga] q' Bx ga zb ⟨xe, xt, xb, xs⟩ u p but Ds (hopG zb p (Value.slice A es.length c).ownBlock) Z.heap.size W' seen' by' back' W' := ⟨i3, hbx, i4, i5, i6, i7, i10, KeepsFrom.refl _ _, KeepE.refl _ _, Nat.le_refl _, ⟨by have := HQ7.out; omega, HQ8.out, HQ7.out⟩, fun i hi => by have := HGw.out i hi; have := hG i hi; have := HQ7.out; omega⟩
          refine wpIn_region_preC 17 [(12, 1000), (14, 1001), (16, 1002)]
            (fun v => ∃ (se : Nat → Bool) (b2 : Nat → Hp) (ba : Nat → Nat), RSt w N (w.heap.size) (w.heap.size + 1) (w.heap.size + 1 + 1) (w.heap.size + 1 + 1 + 1) (w.heap.size + 1 + 1 + 1 + 1) (w.heap.size + 1 + 1 + 1 + 1 + 1) (w.heap.size + 1 + 1 + 1 + 1 + 1 + 1) (w.heap.size + 1 + 1 + 1 + 1 + 1 + 1 + 1) [zb + 1 + 1, zb + 1, zb, ga] q' Bx ga zb ⟨xe, xt, xb, xs⟩ u p but Ds (hopG zb p (Value.slice A es.length c).ownBlock) Z.heap.size W' se b2 ba v)
            (fun ls _ v => RSt w N (w.heap.size) (w.heap.size + 1) (w.heap.size + 1 + 1) (w.heap.size + 1 + 1 + 1) (w.heap.size + 1 + 1 + 1 + 1) (w.heap.size + 1 + 1 + 1 + 1 + 1) (w.heap.size + 1 + 1 + 1 + 1 + 1 + 1) (w.heap.size + 1 + 1 + 1 + 1 + 1 + 1 + 1) [zb + 1 + 1, zb + 1, zb, ga] q' Bx ga zb ⟨xe, xt, xb, xs⟩ u p but Ds (hopG zb p (Value.slice A es.length c).ownBlock) Z.heap.size W' (if ls 12 = true then updF seen' xt true else seen') (if ls 14 = true then updF by' xt ⟨xe, xt, xb, xs⟩ else by') (if ls 16 = true then updF back' xt u else back') v)
            (openRound _ _) (by kernel_rfl) (by kernel_rfl) ?hw ?hC ?h0 ?hP ?ex
          case hw => exact ⟨_, _, _, hG0⟩
          case hC =>
            rintro v v' ⟨se, b2, ba, g1⟩ kk
            exact ⟨se, b2, ba, g1.below kk⟩
          case h0 =>
            intro v hv
            simpa using hG0.below hv
          case hP =>
            rintro ls vs v v' _ g1 kk
            exact g1.below kk
          case ex =>
            apply Exists.intro
            refine ⟨?walk, ?loud⟩
            case walk =>
              rintro V ⟨se, b2, ba, g⟩
              have e1 := g.ps.s.cell 0
              have e2 := g.ps.y.cell 0
              have e3 := g.ps.k.cell 0
              have e4 := g.hx.cell 0
              have e5 := g.hx.cell 1
              have e6 := g.hx.cell 2
              have e7 := g.hx.cell 3
              have e8 := g.a.cell 0
              simp only [List.getElem?_toArray, List.getElem?_cons_zero, List.getElem?_cons_succ] at e1 e2 e3 e4 e5 e6 e7 e8
              have l1 := g.ps.s.lt
              have l2 := g.ps.y.lt
              have l3 := g.ps.k.lt
              have l4 := g.hx.lt
              have l5 := g.a.lt
              obtain ⟨xc, xf⟩ := xcell (W := V)
              simp only [List.take_succ_cons, List.take_nil, qOf, isLoud, List.any_cons, List.any_nil, Nat.reduceBEq, Bool.or_false, Bool.or_true, Nat.reduceAdd, Bool.false_eq_true, if_true, if_false, beq_self_eq_true, Nat.zero_add]
              repeat (first | go_big_quiet_step (fail) | quiet_step (fail))
              exact wpQuiet_nil rfl
            case loud =>
              simp only [List.drop_succ_cons, List.drop_nil]
              refine ⟨?_, ?_⟩
              · rintro pp hpp vs V hC ls hI hls hw o ho
                simp only [List.mem_cons, List.not_mem_nil, or_false] at hpp
                clear hw hC
                rcases hpp with rfl | rfl | rfl
                · have hl : ls 12 = false := hls
                  rw [hl, if_neg (by decide)] at hI
                  have r1 := (hI.ps.sr.cell xt).trans (rowI_at hxN)
                  have r2 := hI.ps.sr.frozen xt
                  have r3 := hI.ps.sr.lt
                  have hcs := hI.setS xt
                  have u1 : updB ls 12 12 = true := by simp [updB]
                  have u2 : updB ls 12 14 = ls 14 := by simp [updB]
                  have u3 : updB ls 12 16 = ls 16 := by simp [updB]
                  simp only [List.getElem?_cons_succ, List.getElem?_cons_zero, Option.some.injEq] at ho
                  subst ho
                  simp [loudAt, loudUpon, go_sem, execOp, putsL, Act.put, r1, r2]
                  simp only [u1, u2, u3, if_true]
                  exact ⟨⟨_, _, _, hcs⟩, hcs⟩
                · have hl : ls 14 = false := hls
                  simp only [hl, Bool.false_eq_true, if_false] at hI
                  have r0 := (hI.ps.yr.cell (xt * 4)).trans (rowH_at (j := 0) hxN (by omega))
                  have r1 := (hI.ps.yr.cell (xt * 4 + 1)).trans (rowH_at (j := 1) hxN (by omega))
                  have r2 := (hI.ps.yr.cell (xt * 4 + 2)).trans (rowH_at (j := 2) hxN (by omega))
                  have r3 := (hI.ps.yr.cell (xt * 4 + 3)).trans (rowH_at (j := 3) hxN (by omega))
                  simp only [encHp, List.getElem?_cons_zero, List.getElem?_cons_succ] at r0 r1 r2 r3
                  have r4 := hI.ps.yr.frozen (xt * 4)
                  have r5 := hI.ps.yr.frozen (xt * 4 + 1)
                  have r6 := hI.ps.yr.frozen (xt * 4 + 2)
                  have r7 := hI.ps.yr.frozen (xt * 4 + 3)
                  have r8 := hI.ps.yr.lt
                  have hcs := hI.setY hxN ⟨xe, xt, xb, xs⟩
                  have u1 : updB ls 14 14 = true := by simp [updB]
                  have u2 : updB ls 14 12 = ls 12 := by simp [updB]
                  have u3 : updB ls 14 16 = ls 16 := by simp [updB]
                  simp only [List.getElem?_cons_succ, List.getElem?_cons_zero, Option.some.injEq] at ho
                  subst ho
                  simp [loudAt, loudUpon, go_sem, execOp, putsL, Act.put, r0, r1, r2, r3, r4, r5, r6, r7]
                  simp only [u1, u2, u3, if_true]
                  exact ⟨⟨_, _, _, hcs⟩, hcs⟩
                · have hl : ls 16 = false := hls
                  simp only [hl, Bool.false_eq_true, if_false] at hI
                  have r1 := (hI.ps.kr.cell xt).trans (rowI_at hxN)
                  have r2 := hI.ps.kr.frozen xt
                  have r3 := hI.ps.kr.lt
                  have hcs := hI.setK xt u
                  have u1 : updB ls 16 16 = true := by simp [updB]
                  have u2 : updB ls 16 12 = ls 12 := by simp [updB]
                  have u3 : updB ls 16 14 = ls 14 := by simp [updB]
                  simp only [List.getElem?_cons_succ, List.getElem?_cons_zero, Option.some.injEq] at ho
                  subst ho
                  simp [loudAt, loudUpon, go_sem, execOp, putsL, Act.put, r1, r2]
                  simp only [u1, u2, u3, if_true]
                  exact ⟨⟨_, _, _, hcs⟩, hcs⟩
              · rintro ls vs V hC hI hls
                have h12 : ls 12 = true := hls (12, 1000) (by simp)
                have h14 : ls 14 = true := hls (14, 1001) (by simp)
                have h16 : ls 16 = true := hls (16, 1002) (by simp)
                rw [h12, h14, h16, if_pos rfl, if_pos rfl, if_pos rfl] at hI
                clear hls hC hG0 d1 d2 d3 d4 h0 h1 h2 h3 ga0 m1 m2 m3 m4 m5 m6 hbx i3 i4 i5 i6 i7 i10
                have HGx := Lib.hid (show ∀ i ∈ hopG zb p (Value.slice A es.length c).ownBlock, i ∈ [zb + 1 + 1, zb + 1, zb, ga] ∨ i < w.heap.size from fun i hi => by
                  unfold hopG at hi
                  simp only [List.mem_append, List.mem_cons, List.not_mem_nil, or_false, Option.mem_toList] at hi ⊢
                  rcases hi with (rfl | rfl | rfl | rfl) | hi
                  · exact .inl (.inr (.inr (.inl rfl)))
                  · exact .inl (.inr (.inl rfl))
                  · exact .inl (.inl rfl)
                  · exact .inr hpl
                  · exact .inr (own_lt HN.out.row hi).2)
                have hql3 := i2.len
                have hq0 : 0 < q'.length := by have := i1.length_le; omega
                obtain ⟨gq2, cq2, hs1, hs2, _⟩ := hI.ps.q
                have HI := Lib.hid hI
                have HS1 := Lib.hid hs1
                have n0 := hs1.cell 0
                have n1 := hI.hx.cell 1
                have n2 := hI.hx.lt
                have n3 := hs1.lt
                simp only [List.getElem?_toArray, List.getElem?_cons_zero, List.getElem?_cons_succ] at n0 n1
                have bV := (Below.refl V.heap.size V).alloc (Nat.le_refl _) (.cells #[.int .i64 (xt : Int)] 3)
                have OW2 := Lib.hid (hs2.alloc (.cells #[.int .i64 (xt : Int)] 3))
                have OW0 := Lib.hid (owns_below hs2 bV)
                have HI2 := Lib.hid (hI.below bV)
                have HS2 := Lib.hid (hs1.below bV)
                have hVb := (hI.ps.b.alloc hI.ps.b.size (.cells #[.int .i64 (xt : Int)] 3)).size
                have hbase : w.heap.size + 1 + 1 + 1 + 1 + 1 + 1 ≤ (V.alloc (.cells #[.int .i64 (xt : Int)] 3)).heap.size := by have := (hI.ps.s.lt); have := hs1.lt; simp; omega
                clear hI hs1 hs2 bV
                simp only [putsL, List.foldl_cons, List.foldl_nil, Act.put, List.setIfInBounds_toArray, List.set_cons_succ]
                gi_wp2_with (gi_at_builtin; refine wpListIn_append_own _ rfl (.tmp 79) (.tmp 82) 42 rfl (w.heap.size + 1 + 1 + 1 + 1 + 1 + 1) 3 ii (.int .i64 0) 1 8 Tryz.underlying42 hi0 hi1 hi2 hi3 rfl (by decide) _ q'.length (q'.map fun v : Nat => Value.int .i64 (v : Int)) rfl OW2.out ⟨V.heap.size, 0, none⟩ 1 1 [.int .i64 (xt : Int)] rfl rfl (new_cellsL V _ _) (one_intsL [(xt : Int)]) (by unfold maxLen; omega) (by omega) hbase ?_)
                intro v' w4 ho hgr _
                obtain ⟨g5, c5, rfl⟩ := ownsRow_succ ho
                obtain ⟨k1, k2, k3, k4, k5, k6, k7, k8, k9⟩ := HI2.out.push hq0 HS2.out OW0.out hgr ho HGx.out
                have hq4 := HS2.out.grown hgr (fun e => own_ne OW0.out HS2.out (by decide) e)
                have n4 := hq4.cell 0
                have n5 := hq4.frozen 0
                have n6 := hq4.lt
                simp only [List.getElem?_toArray, List.getElem?_cons_zero] at n4
                have HPush := Lib.hid (And.intro k1 (And.intro k2 (And.intro k3 (And.intro k4 (And.intro k5 (And.intro k6 (And.intro k7 (And.intro k8 k9))))))))
                clear k1 k2 k3 k4 k5 k6 k7 k8 k9 hq4 ho hgr
                gi_wp2
                obtain ⟨k1, k2, k3, k4, k5, k6, k7, k8, k9⟩ := HPush.out
                refine ⟨k7, k8, q' ++ [xt], updF seen' xt true, updF by' xt ⟨xe, xt, xb, xs⟩, updF back' xt u, i1.trans (List.prefix_append _ _), ?_, k1, k2, k3, k4, k5, fun y hy => ?_, fun v hv hsv => ?_, k6, Nat.le_trans i11 k9⟩
                · obtain ⟨t, rfl⟩ := i1
                  exact HB2.out.more (k := k) (by rw [List.getElem?_append_left hkq]; exact HU.out) HRes.out hxN hsn
                · rcases List.mem_append.1 hy with hy | hy
                  · by_cases c : y.val.to = xt
                    · rw [c, updF_at]
                    · rw [updF_ne c]; exact i8 y hy
                  · have : y = ⟨⟨xe, xt, xb, xs⟩, hxm⟩ := by simpa using hy
                    rw [this]
                    exact updF_at
                · by_cases c : v = xt
                  · rw [c, updF_at]
                  · rw [updF_ne c]; exact i9 v hv hsv
end Go.Proofs.YtighfmgkoepfkaaGreat

namespace Go.Proofs.YtighfmgkoepfkaaGreat

theorem small_alike {es fs : List Eg} (ha : Alike fs es) (hs : Small es) (hb : InB fs) : Small fs := by
  refine ⟨by rw [alike_len ha]; exact hs.len, fun e he => ?_⟩
  obtain ⟨i, hi⟩ := List.mem_iff_getElem?.1 he
  obtain ⟨f, hf, e1⟩ := alike_at ha hi
  have h1 := hs.bd f (List.mem_of_getElem? hf)
  have h2 := hb e he
  have l1 : f.lo = e.lo := by rw [e1]
  have l2 : f.hi = e.hi := by rw [e1]
  omega
theorem small_edges {hs : List Hd} {ms : List Mv} (h : TV hs ms) : Small (edges hs ms) := by
  refine ⟨by rw [edges_len]; have := h.lenH; have := h.lenM; omega, fun e he => ?_⟩
  have hb := edges_inb h e he
  have key : ∀ lo hi : Int, okSp lo hi = true → 0 ≤ lo ∧ hi ≤ 65536 := fun lo hi q => by simp [okSp] at q; omega
  have kh : ∀ x : Hd, okHd x = true → okSp x.sl x.sh = true ∧ okSp x.el x.eh = true := fun x q => by simp [okHd] at q; exact ⟨q.1.1.2, q.1.2⟩
  have h2 : 0 ≤ e.lo ∧ e.hi ≤ 65536 := by
    unfold edges at he
    simp only [List.mem_append, List.mem_mapIdx, List.mem_map] at he
    rcases he with ⟨i, hi, rfl⟩ | ⟨i, hi, rfl⟩ | ⟨m, hm, rfl⟩
    · exact key _ _ (kh _ (h.hd _ (List.getElem_mem hi))).1
    · exact key _ _ (kh _ (h.hd _ (List.getElem_mem hi))).2
    · exact key _ _ (h.mv m hm).2.1
  omega
/-- The hops of a way: they are edges, and not wide. -/
theorem way_ok {es : List Eg} (hs : Small es) {but : Int} {a : Nat} : ∀ {l : List Hp}, Way es but a l → ∀ x ∈ l, x.e < es.length ∧ (x.sg = 1 ∨ x.sg = -1) ∧ 0 ≤ x.by_ ∧ x.by_ ≤ 10000000
  | [], _, x, hx => by cases hx
  | h :: l, hw, x, hx => by
    rcases List.mem_cons.1 hx with rfl | hx
    · obtain ⟨_, e, he, hp, h2⟩ := hw.1
      have hb := hs.bd e (List.mem_of_getElem? he)
      refine ⟨(List.getElem?_eq_some_iff.1 he).1, ?_, by omega, ?_⟩
      · rcases h2 with ⟨_, _, h, _⟩ | ⟨_, _, h, _⟩
        · exact .inl h
        · exact .inr h
      · rcases h2 with ⟨_, _, _, h⟩ | ⟨_, _, _, h⟩ <;> omega
    · exact way_ok hs hw.2 x hx
theorem way_small {es : List Eg} (hs : Small es) {but : Int} {a : Nat} {l : List Hp} (hw : Way es but a l) (hf : Fresh a l) {m : Int} (hm : 0 ≤ m) (hl : ∀ h ∈ l, m ≤ h.by_) : Small (pushL es l m) :=
  small_alike (alike_push l m es) hs (push_spec hm hw hf hl hs.inb).1

/-! ### Settling -/
/-- A step of settling: less is too much. -/
theorem settle_step {es : List Eg} (hs : Small es) {N a : Nat} (hN : a < N) (ha : 0 < sur es a) {l : List Hp} (hw : Way es (-1) a l) (hf : Fresh a l) (hb : sur es (wayEnd a l) < 0) :
    Small (pushL es l (room l (min (sur es a) (-sur es (wayEnd a l))))) ∧ Alike (pushL es l (room l (min (sur es a) (-sur es (wayEnd a l))))) es ∧ tot (pushL es l (room l (min (sur es a) (-sur es (wayEnd a l))))) N < tot es N := by
  have hm := room_pos (m := min (sur es a) (- sur es (wayEnd a l))) hw (by omega)
  have hle := room_le l (min (sur es a) (- sur es (wayEnd a l)))
  generalize hr : room l (min (sur es a) (- sur es (wayEnd a l))) = m at hm hle ⊢
  obtain ⟨_, p2, _⟩ := push_spec (m := m) (by omega) hw hf (fun h hh => hle.2 h hh) hs.inb
  have hne : a ≠ wayEnd a l := fun c => by rw [← c] at hb; omega
  exact ⟨way_small hs hw hf (by omega) hle.2, alike_push l m es, (tot_push hm hne (by omega) (by omega) p2 N).2 hN⟩
/-- The end of settling: nodes into which too much flows, and out of which no more can flow. -/
theorem settle_stuck {es : List Eg} {N a : Nat} {S : Nat → Bool} (ha : S a = true) (hp : 0 < sur es a) (hN : a < N) (h : ∀ v, v < N → S v = true → decide (sur es v < 0) = false) : 0 < sumS es S N :=
  (sumS_pos ha hp N fun v hv hS => by have := h v hv hS; simp at this; omega).2 hN

/-! ### Limits -/
/-- What a net of a course keeps. -/
structure Bal (es : List Eg) (N : Nat) : Prop where
  small : Small es
  zero : ∀ v, v < N → sur es v = 0
theorem lim_step {es : List Eg} {N at_ : Nat} (h : Bal es N) {e : Eg} (he : es[at_]? = some e) (gr : Bool) {l : List Hp} (hw : Way es at_ (if gr = true then e.b else e.a) l) (hf : Fresh (if gr = true then e.b else e.a) l)
    (hend : wayEnd (if gr = true then e.b else e.a) l = if gr = true then e.a else e.b) {r : Int} (hr : r = if gr = true then e.hi - e.fl else e.fl - e.lo) (hr0 : 0 < r) :
    0 < room l r ∧ room l r ≤ r ∧ (pushL es l (room l r))[at_]? = some e ∧ Bal (bump (pushL es l (room l r)) at_ ((if gr = true then 1 else -1) * room l r)) N ∧
    Alike (bump (pushL es l (room l r)) at_ ((if gr = true then 1 else -1) * room l r)) es ∧ (bump (pushL es l (room l r)) at_ ((if gr = true then 1 else -1) * room l r))[at_]? = some (e.more ((if gr = true then 1 else -1) * room l r)) := by
  have hm := room_pos (m := r) hw hr0
  obtain ⟨hle1, hle2⟩ := room_le l r
  generalize room l r = m at hm hle1 hle2 ⊢
  obtain ⟨p1, p2, p3⟩ := push_spec (m := m) (by omega) hw hf hle2 h.small.inb
  have hat := (p3 at_ rfl).trans he
  have hal : Alike (bump (pushL es l m) at_ ((if gr = true then 1 else -1) * m)) es := (alike_bump _ _ _).trans (alike_push l m es)
  have hnew : (bump (pushL es l m) at_ ((if gr = true then 1 else -1) * m))[at_]? = some (e.more ((if gr = true then 1 else -1) * m)) := by rw [bump_at, if_pos rfl, hat]; rfl
  have hbe := h.small.bd e (List.mem_of_getElem? he)
  refine ⟨hm, hle1, hat, ⟨small_alike hal h.small fun x hx => ?_, fun v hv => ?_⟩, hal, hnew⟩
  · obtain ⟨j, hj⟩ := List.mem_iff_getElem?.1 hx
    by_cases c : j = at_
    · subst c
      rw [hnew] at hj
      have := Option.some.inj hj
      subst this
      show e.lo ≤ e.fl + _ * m ∧ e.fl + _ * m ≤ e.hi
      cases gr
      · rw [if_neg (by decide)] at hr ⊢; omega
      · rw [if_pos rfl] at hr ⊢; omega
    · rw [bump_at, if_neg c] at hj
      exact p1 x (List.mem_of_getElem? hj)
  · rw [sur_bump _ _ _ _ e hat, p2 v, hend, h.zero v hv]
    cases gr
    · simp only [Bool.false_eq_true, if_false]
      have : ∀ c : Prop, ∀ [Decidable c], ind c (-1 * m) = - ind c m := fun c _ => by unfold ind; split <;> omega
      rw [this, this]; omega
    · simp only [if_true, Int.one_mul]; omega
end Go.Proofs.YtighfmgkoepfkaaGreat

namespace Go.Proofs.YtighfmgkoepfkaaGreat
open Go.RowKit

theorem encE_inj {x y : Eg} (h : ∀ (j : Nat) (v : Value), (encE x)[j]? = some v → (encE y)[j]? = some v) : x = y := by
  obtain ⟨a1, a2, a3, a4, a5, a6, a7, a8⟩ := x
  obtain ⟨b1, b2, b3, b4, b5, b6, b7, b8⟩ := y
  have h0 := h 0 _ rfl
  have h1 := h 1 _ rfl
  have h2 := h 2 _ rfl
  have h3 := h 3 _ rfl
  have h4 := h 4 _ rfl
  have h5 := h 5 _ rfl
  have h6 := h 6 _ rfl
  have h7 := h 7 _ rfl
  simp [encE] at h0 h1 h2 h3 h4 h5 h6 h7
  subst h0 h1 h2 h3 h4 h7
  have e6 : a6 = b6 := by omega
  have e7 : a7 = b7 := by omega
  subst e6 e7
  rfl
/-- A world tells what flows. -/
theorem Net.inj {w : World} {p base : Nat} {A : Option Addr} {c : Nat} {es es' : List Eg} {N : Nat} (h : Net w p base A c es N) (h' : Net w p base A c es' N) : es = es' := by
  have hl : es.length = es'.length := by
    have := h.blk.symm.trans h'.blk
    simpa using this
  apply List.ext_getElem hl
  intro i h1 h2
  obtain ⟨b, off, e1, l1⟩ := h.sat.at_ (by omega)
  obtain ⟨b', off', e2, l2⟩ := h'.sat.at_ (by omega)
  rw [e1] at e2
  have e3 : b = b' ∧ off = off' := by simpa using e2
  obtain ⟨rfl, rfl⟩ := e3
  refine encE_inj fun j v hj => ?_
  have q1 := l1.c i _ (List.getElem?_eq_getElem h1) j v hj
  have hj8 : j < 8 := by have := (List.getElem?_eq_some_iff.1 hj).1; rwa [encE_len] at this
  have hj2 : j < (encE es'[i]).length := by rw [encE_len]; exact hj8
  have q2 := l2.c i _ (List.getElem?_eq_getElem h2) j _ (List.getElem?_eq_getElem hj2)
  rw [q1] at q2
  rw [List.getElem?_eq_getElem hj2]
  exact q2.symm
theorem Net.eps {w : World} {p base : Nat} {A : Option Addr} {c : Nat} {es : List Eg} {N : Nat} (h : Net w p base A c es N) : Classical.epsilon (fun es' => Net w p base A c es' N) = es :=
  (Classical.epsilon_spec (p := fun es' => Net w p base A c es' N) ⟨es, h⟩).inj h

theorem settle1_any (p base : Nat) (A : Option Addr) (c : Nat) (es : List Eg) (N v B : Nat) (w : World) (hN : Net w p base A c es N) (hs : Small es) (_ : B < w.heap.size) (hc : w.cell? ⟨B, 0, none⟩ = some (.pointer (some ⟨p, 0, none⟩))) :
    Calls Tryz.prog 121 #[.int .i64 (v : Int), .pointer (some ⟨B, 0, none⟩)] w fun e w' => e = .returned (.bool (decide (sur es v < 0))) ∧ Below w.heap.size w w' := by
  have HC := Lib.hid (surplus_any p base A c es N v w hN hs)
  obtain ⟨b1, b2⟩ := hs.sur_bd v
  clear hN hs
  go_enter Tryz.func121, Tryz.ntmps121
  go_wp2_with fail
  refine HC.out.mono ?_; rintro e w' ⟨rfl, hb⟩
  clear HC
  generalize hse : sur es v = s at *
  have HSE := Lib.hid hse
  clear hse
  go_wp2
  go_ret
  exact ⟨ret_bool (by rw [HSE.out]), hb⟩
theorem enter_settle1 : ∀ args w, (callFunc 121 args).run Tryz.prog w = .ok (.enter 121 args) w := enters_of Tryz.func121 (by kernel_rfl) rfl

/-- What settle brings about. -/
def SettleOut (w : World) (p base : Nat) (A : Option Addr) (c : Nat) (es : List Eg) (N : Nat) (en : Ending) (w' : World) : Prop :=
  w.grownBy w' (Value.slice A es.length c).ownBlock ∧ ∃ es', Alike es' es ∧ Small es' ∧ Net w' p base A c es' N ∧
    ((en = .returned (.tuple #[.slice none 0 0, .bool true]) ∧ ∀ v, v < N → sur es' v ≤ 0) ∨
     (∃ g S, en = .returned (.tuple #[.slice (some ⟨g, 0, none⟩) N N, .bool false]) ∧ Blk w' g 4 (rowI N Value.bool S) ∧ w.heap.size ≤ g ∧ Shut es' (-1) S ∧ 0 < sumS es' S N))
set_option maxRecDepth 100000 in
set_option maxHeartbeats 6400000 in
theorem settle_any (p base : Nat) (A : Option Addr) (c : Nat) (es : List Eg) (N : Nat) (w : World) (h : Net w p base A c es N) (hs : Small es) (hin : InN es N) (hn : N ≤ 10) :
    Calls Tryz.prog 82 #[.pointer (some ⟨p, 0, none⟩)] w (SettleOut w p base A c es N) := by
  have HN := Lib.hid h
  have HS := Lib.hid hs
  have HIn := Lib.hid hin
  have hpl := h.plt
  have HOw := Lib.hid (fun r (hr : (Value.slice A es.length c).ownBlock = some r) => own_lt h.row hr)
  have hA := h.row
  clear h hs hin
  go_enter Tryz.func82, Tryz.ntmps82
  have B0 := (Below.refl w.heap.size w).alloc (Nat.le_refl _) (.cells #[.pointer (some ⟨p, 0, none⟩)] 141)
  have b0 := Blk.new w 141 #[.pointer (some ⟨p, 0, none⟩)]
  have HN0 := Lib.hid (HN.out.below B0)
  go_wp2_with fail
  generalize hW : w.alloc (.cells #[.pointer (some ⟨p, 0, none⟩)] 141) = W at *
  have HW := Lib.hid (below_grown (r := (Value.slice A es.length c).ownBlock) B0)
  have hBw := b0.lt
  clear hW B0
  go_loopw [4] (fun _ wr => ∃ es', Alike es' es ∧ Small es' ∧ Net wr p base A c es' N ∧ w.grownBy wr (Value.slice A es.length c).ownBlock ∧ Blk wr w.heap.size 141 #[.pointer (some ⟨p, 0, none⟩)]) (fun _ wr => tot (Classical.epsilon (fun es' => Net wr p base A c es' N)) N)
  case atStart => exact ⟨es, rfl, HS.out, HN0.out, HW.out, b0⟩
  case round =>
    obtain ⟨es1, hal, hs1, hn1, hg1, hb1⟩ := hrel
    rw [hn1.eps]
    have HAl := Lib.hid hal
    have HS1 := Lib.hid hs1
    have HN1 := Lib.hid hn1
    have HG1 := Lib.hid hg1
    have HB1 := Lib.hid hb1
    have p0 := hn1.blk.cell 0
    have q0 := hb1.cell 0
    simp only [List.getElem?_toArray, List.getElem?_cons_zero] at p0 q0
    have p1 := hn1.plt
    have q1 := hb1.lt
    clear hal hs1 hn1 hg1 hb1
    go_wp2
    obtain ⟨wo, rfl⟩ : ∃ wo : World, wo = wr := ⟨_, rfl⟩
    go_loopw [4, 15] (fun f i wx => ∃ k : Nat, k ≤ N ∧ i = .int .i64 (k : Int) ∧ f = .int .i64 (-1) ∧ (∀ v, v < k → sur es1 v ≤ 0) ∧ Below wo.heap.size wo wx) (fun _ i _ => N - (intOf i).toNat)
    case atStart => exact ⟨0, Nat.zero_le _, rfl, rfl, fun v hv => absurd hv (by omega), Below.refl _ _⟩
    case round =>
      obtain ⟨k, hk, rfl, rfl, hno, hb⟩ := hrel
      have HNo := Lib.hid hno
      clear hno
      have q2 := (hb.cell (p := ⟨w.heap.size, 0, none⟩) q1).trans q0
      have q3 := Nat.lt_of_lt_of_le q1 hb.size
      have HN2 := Lib.hid (HN1.out.below hb)
      have HB2 := Lib.hid (HB1.out.below hb)
      have HG2 := Lib.hid (grown_below HG1.out hb)
      by_cases hkN : k < N
      case neg =>
        go_wp2
        exact bodyPost_ret (v := .tuple #[.slice none 0 0, .bool true]) (by simp [results, Tryz.results82, go_sem]) rfl ⟨HG2.out, es1, HAl.out, HS1.out, HN2.out, .inl ⟨rfl, fun v hv => HNo.out v (by omega)⟩⟩
      case pos =>
        have HC := Lib.hid (surplus_any p base A c es1 N k wr HN2.out HS1.out)
        obtain ⟨s1, s2⟩ := HS1.out.sur_bd k
        generalize hsk : sur es1 k = sk at *
        have HSk := Lib.hid hsk
        clear hsk
        by_cases hpos : 0 < sk
        case neg =>
          go_wp2_with fail
          refine HC.out.mono ?_; rintro e w1 ⟨rfl, hb1⟩
          go_wp2
          go_roundw
          case rel =>
            refine ⟨k + 1, by omega, by go_num, rfl, fun v hv => ?_, hb.trans (hb1.mono hb.size)⟩
            by_cases c : v = k
            · subst c; rw [HSk.out]; omega
            · exact HNo.out v (by omega)
          case measure => simp [intOf]; omega
        case pos =>
          go_wp2_with fail
          refine HC.out.mono ?_; rintro e w1 ⟨rfl, hb1⟩
          clear HC
          have HN3 := Lib.hid (HN2.out.below hb1)
          have HB3 := Lib.hid (HB2.out.below hb1)
          have HG3 := Lib.hid (grown_below HG2.out hb1)
          have q4 := (hb1.cell (p := ⟨w.heap.size, 0, none⟩) q3).trans q2
          have q5 := Nat.lt_of_lt_of_le q3 hb1.size
          clear HN1 HB1 HG1 HN2 HB2 HG2 q0 q1 q2 q3 p0 p1
          have HP := Lib.hid ((callsIn_wide (n := 3)).1 (path_in 0 p base A c es1 N k (-1) (fun v => decide (sur es1 v < 0)) 121 #[.pointer (some ⟨w.heap.size, 0, none⟩)] w1 HN3.out HS1.out (inN_alike HAl.out HIn.out) hkN hn enter_settle1 (fun W v hv hW => settle1_any p base A c es1 N v w.heap.size W (HN3.out.below hW) HS1.out (Nat.lt_of_lt_of_le q5 hW.size) ((hW.cell (p := ⟨w.heap.size, 0, none⟩) q5).trans q4))))
          go_wp2_with fail
          refine HP.out.mono ?_
          rintro e w2 ⟨hb2, ⟨H, n, hc, l, rfl, hl, hway, hfr, hneg, hlt, hn100, hfar⟩ | ⟨g, S, rfl, hg, hSk, hSn, hsh, hgw⟩⟩
          case inr =>
            have HStk := Lib.hid (settle_stuck hSk (by rw [HSk.out]; exact hpos) hkN hSn)
            clear hSn HP
            go_wp2
            exact bodyPost_ret (v := .tuple #[.slice (some ⟨g, 0, none⟩) N N, .bool false]) (by simp [results, Tryz.results82, go_sem]) rfl ⟨grown_below HG3.out hb2, es1, HAl.out, HS1.out, HN3.out.below hb2, .inr ⟨g, S, rfl, hg, Nat.le_trans HG3.out.size hgw, hsh, HStk.out⟩⟩
          case inl =>
            have hneg2 : sur es1 (wayEnd k l) < 0 := by simpa using hneg
            obtain ⟨x, t, rfl⟩ : ∃ x t, l = x :: t := by
              cases l with
              | nil => rw [show wayEnd k [] = k from rfl, HSk.out] at hneg2; omega
              | cons x t => exact ⟨x, t, rfl⟩
            have HStep := Lib.hid (settle_step HS1.out hkN (by rw [HSk.out]; exact hpos) hway hfr hneg2)
            have HWok := Lib.hid (way_ok HS1.out hway)
            have HL := Lib.hid hl
            have hln := hl.len
            have HN4 := Lib.hid (HN3.out.below hb2)
            have HB4 := Lib.hid (HB3.out.below hb2)
            have HG4 := Lib.hid (grown_below HG3.out hb2)
            have HFar := Lib.hid hfar
            have q6 := (hb2.cell (p := ⟨w.heap.size, 0, none⟩) q5).trans q4
            have q7 := Nat.lt_of_lt_of_le q5 hb2.size
            have HW1 := Lib.hid (show w.heap.size ≤ w1.heap.size from Nat.le_of_lt q5)
            obtain ⟨b, off, hH, hls⟩ := hl.at_ (by rw [← hln]; simp)
            subst hH
            have HLs := Lib.hid hls
            have hn0 : 0 < n := by rw [← hln]; simp
            have hend : wayEnd k (x :: t) = x.to := rfl
            rw [hend] at hneg2
            have hstep := HStep.out
            rw [hend] at hstep
            have HStep2 := Lib.hid hstep
            clear HP hl hway hfr hneg hlt hfar hln hls HN3 HB3 HG3 q4 q5 HStep hend hstep
            obtain ⟨s3, s4⟩ := HS1.out.sur_bd x.to
            go_wp2
            go_loopw [8, 39] (fun e i wx => ∃ j : Nat, i = .int .i64 (j : Int) ∧ e = .int .i64 (k : Int) ∧ Hid (j = 0) ∧ Below w2.heap.size w2 wx) (fun _ _ _ => 0)
            case atStart => exact ⟨0, rfl, rfl, Lib.hid rfl, Below.refl _ _⟩
            case round =>
              obtain ⟨j, rfl, rfl, hj0, hb3⟩ := hrel
              have hjn : j < n := by rw [hj0.out]; exact hn0
              obtain ⟨y0, y1, y2, y3⟩ := Hps.at_ (HLs.out.below hb3) (show (x :: t)[j]? = some x by rw [hj0.out]; rfl)
              have hlb := (HLs.out.below hb3).lt
              have q8 := (hb3.cell (p := ⟨w.heap.size, 0, none⟩) q7).trans q6
              have q9 := Nat.lt_of_lt_of_le q7 hb3.size
              have HN5 := Lib.hid (HN4.out.below hb3)
              have HB5 := Lib.hid (HB4.out.below hb3)
              have HG5 := Lib.hid (grown_below HG4.out hb3)
              have HL5 := Lib.hid (HL.out.below hb3)
              clear HN4 HB4 HG4 HL q6 q7
              generalize hxx : x.to = xt at *
              generalize hse : sur es1 xt = se at *
              have HSe := Lib.hid hse
              clear hse
              have HSa := Lib.hid (show ∀ W, Net W p base A c es1 N → Calls Tryz.prog 119 #[.pointer (some ⟨p, 0, none⟩), .int .i64 (k : Int)] W fun e w' => e = .returned (.int .i64 sk) ∧ Below W.heap.size W w' from fun W hW => by
                have := surplus_any p base A c es1 N k W hW HS1.out
                rw [HSk.out] at this
                exact this)
              have HSb := Lib.hid (show ∀ W, Net W p base A c es1 N → Calls Tryz.prog 119 #[.pointer (some ⟨p, 0, none⟩), .int .i64 (xt : Int)] W fun e w' => e = .returned (.int .i64 se) ∧ Below W.heap.size W w' from fun W hW => by
                have := surplus_any p base A c es1 N xt W hW HS1.out
                rw [HSe.out] at this
                exact this)
              obtain ⟨xe, xto, xb, xs⟩ := x
              dsimp only at *
              subst hxx
              have BV := (Below.refl wr.heap.size wr).alloc (Nat.le_refl _) (.cells #[.int .i64 (xe : Int), .int .i64 (xto : Int), .int .i64 xb, .int .i64 xs] 191)
              have HN6 := Lib.hid (HN5.out.below BV)
              have HB6 := Lib.hid (HB5.out.below BV)
              have HG6 := Lib.hid (grown_below HG5.out BV)
              have HL6 := Lib.hid (HL5.out.below BV)
              go_upto_region 19 with fail
              clear HN5 HB5 HG5 HL5 y0 y1 y2 y3 hlb q8 q9 BV
              generalize hV : wr.alloc (.cells #[.int .i64 (xe : Int), .int .i64 (xto : Int), .int .i64 xb, .int .i64 xs] 191) = V at *
              clear hV
              have q8 := HB6.out.cell 0
              simp only [List.getElem?_toArray, List.getElem?_cons_zero] at q8
              have q9 := HB6.out.lt
              have hw1 : IntKind.i64.wrap (-se) = -se := IntWalk.i64_in _ (by omega)
              obtain ⟨xc, xf⟩ := xcell (W := V)
              refine wp_region_quiet_tail 10 (by kernel_rfl) (by kernel_rfl) ?_
              simp only [List.take_succ_cons, List.take_zero, List.drop_succ_cons, List.drop_zero]
              repeat (first | go_big_quiet_step (first | (go_at_call 119; with_reducible refine calls_ext (HSa.out _ ?_); exact HN6.out.below (Ext.below _)) | (go_at_call 119; with_reducible refine calls_ext (HSb.out _ ?_); exact HN6.out.below (Ext.below _))) | quiet_step (first | (go_at_call 119; with_reducible refine calls_ext (HSa.out _ ?_); exact HN6.out.below (Ext.below _)) | (go_at_call 119; with_reducible refine calls_ext (HSb.out _ ?_); exact HN6.out.below (Ext.below _))))
              refine wpQuiet_nil ?_
              intro w4 hb4
              have HN7 := Lib.hid (HN6.out.below hb4)
              have HB7 := Lib.hid (HB6.out.below hb4)
              have HG7 := Lib.hid (grown_below HG6.out hb4)
              have HL7 := Lib.hid (HL6.out.below hb4)
              have HV7 := Lib.hid (show w1.heap.size ≤ b from HFar.out _ rfl)
              have HPu := Lib.hid (show ∀ m0 : Int, m0 = min sk (-se) → Calls Tryz.prog 122 #[.pointer (some ⟨p, 0, none⟩), .slice (some ⟨b, off, none⟩) n hc, .int .i64 m0] w4 fun e w' => e = .returned (.int .i64 (room (⟨xe, xto, xb, xs⟩ :: t) (min sk (-se)))) ∧ Net w' p base A c (pushL es1 (⟨xe, xto, xb, xs⟩ :: t) (room (⟨xe, xto, xb, xs⟩ :: t) (min sk (-se)))) N ∧ w4.grownBy w' (Value.slice A es1.length c).ownBlock from fun m0 hm => by
                subst hm
                exact push_any p base A c es1 N (some ⟨b, off, none⟩) n hc (⟨xe, xto, xb, xs⟩ :: t) _ w4 HN7.out HS1.out HL7.out (fun a ha e => by
                have ha' : a = ⟨b, off, none⟩ := (Option.some.inj ha).symm
                subst ha'
                have h1 := (HOw.out b (by rw [← alike_len HAl.out]; exact e.symm)).2
                have h2 := HV7.out
                have h3 := HW1.out
                omega) hn100 (by omega) (by omega) HWok.out)
              clear q8 q9 xc xf HSa HSb HN6 HB6 HG6 HL6 HLs
              go_wp2_with fail
              all_goals
                refine (HPu.out _ (by omega)).mono ?_
                rintro e w5 ⟨rfl, hn5, hg5⟩
                go_wp2
                go_roundw
                case rel =>
                  obtain ⟨r1, r2, r3⟩ := HStep2.out
                  rw [HSk.out] at r1 r2 r3
                  exact ⟨_, r2.trans HAl.out, r1, hn5, grown_trans HG7.out (by rw [← alike_len HAl.out]; exact hg5), HB7.out.grown hg5 (fun e => by have := (HOw.out _ (by rw [← alike_len HAl.out]; exact e)).2; omega)⟩
                case measure =>
                  rw [hn5.eps]
                  obtain ⟨r1, r2, r3⟩ := HStep2.out
                  rw [HSk.out] at r3
                  exact r3
end Go.Proofs.YtighfmgkoepfkaaGreat

namespace Go.Proofs.YtighfmgkoepfkaaGreat
open Go.RowKit

theorem encI_len (n : Int) : (encI n).length = 1 := rfl
theorem flatI (l : List Int) : l.flatMap encI = l.map (Value.int .i64) := by
  induction l with
  | nil => rfl
  | cons x t ih => rw [List.flatMap_cons, List.map_cons, ih]; rfl
theorem SAt.grown {α : Type} {enc : α → List Value} {k : Nat} {w w' : World} {A : Option Addr} {n : Nat} {l : List α} {r : Option Nat} (h : SAt enc k w A n l) (hg : w.grownBy w' r) (hr : ∀ a, A = some a → r ≠ some a.block) : SAt enc k w' A n l :=
  ⟨h.len, fun hn => let ⟨b, off, e, hk⟩ := h.at_ hn; ⟨b, off, e, hk.grown hg (hr _ e)⟩⟩
/-- A slice of numbers that lies from L on, below B. -/
def Done (wx : World) (L B : Nat) (v : Value) (l : List Int) : Prop := ∃ A n c, v = .slice A n c ∧ SAt encI 1 wx A n l ∧ n ≤ c ∧ ∀ a, A = some a → L ≤ a.block ∧ a.block < B
theorem Done.grown {w w' : World} {L B : Nat} {v : Value} {l : List Int} {r : Option Nat} (h : Done w L B v l) (hg : w.grownBy w' r) (hr : ∀ g, r = some g → g < L ∨ B ≤ g) : Done w' L B v l := by
  obtain ⟨A, n, c, e, hs, hc, hb⟩ := h
  exact ⟨A, n, c, e, hs.grown hg (fun a ha e => by have := hb a ha; have := hr _ e; omega), hc, hb⟩
theorem Done.below {w w' : World} {L B : Nat} {v : Value} {l : List Int} (h : Done w L B v l) (hb : Below w.heap.size w w') : Done w' L B v l :=
  h.grown (r := none) (below_grown hb) (fun g e => by cases e)
theorem Done.mono {w : World} {L B B' : Nat} {v : Value} {l : List Int} (h : Done w L B v l) (hB : B ≤ B') : Done w L B' v l := by
  obtain ⟨A, n, c, e, hs, hc, hb⟩ := h
  exact ⟨A, n, c, e, hs, hc, fun a ha => ⟨(hb a ha).1, Nat.lt_of_lt_of_le (hb a ha).2 hB⟩⟩
theorem Done.nil (w : World) (L B : Nat) : Done w L B (.slice none 0 0) [] := ⟨none, 0, 0, rfl, SAt.nil _ _ _ _, Nat.le_refl _, fun a h => by cases h⟩
theorem Done.row {w : World} {L B n : Nat} {v : Value} {l : List Int} (hL : L ≤ B) (hn : l.length = n) (h : w.ownsRow B 3 1 v n (l.flatMap encI)) : Done w L w.heap.size v l := by
  obtain ⟨A, c, e, hs, _, hc⟩ := SAt_of_row encI_len hn h
  exact ⟨A, n, c, e, hs, hc, fun a ha => ⟨Nat.le_trans hL (own_lt h (g := a.block) (by rw [e, ha]; rfl)).1, (own_lt h (g := a.block) (by rw [e, ha]; rfl)).2⟩⟩
abbrev vCo (A1 : Option Addr) (n1 c1 : Nat) (A2 : Option Addr) (n2 c2 : Nat) (A3 : Option Addr) (n3 c3 : Nat) : Value := .agg #[.slice A1 n1 c1, .slice A2 n2 c2, .slice A3 n3 c3]
/-- A course as it lies, from block L on. -/
def CoAt (w : World) (L : Nat) (v : Value) (st en ma : List Int) : Prop := ∃ A1 n1 c1 A2 n2 c2 A3 n3 c3, v = vCo A1 n1 c1 A2 n2 c2 A3 n3 c3 ∧ SAt encI 1 w A1 n1 st ∧ SAt encI 1 w A2 n2 en ∧ SAt encI 1 w A3 n3 ma ∧ (n1 ≤ c1 ∧ n2 ≤ c2 ∧ n3 ≤ c3) ∧ (∀ a, A1 = some a → L ≤ a.block) ∧ (∀ a, A2 = some a → L ≤ a.block) ∧ ∀ a, A3 = some a → L ≤ a.block
theorem CoAt.grown {w w' : World} {L : Nat} {v : Value} {st en ma : List Int} {r : Option Nat} (h : CoAt w L v st en ma) (hg : w.grownBy w' r) (hr : ∀ g, r = some g → g < L) : CoAt w' L v st en ma := by
  obtain ⟨A1, n1, c1, A2, n2, c2, A3, n3, c3, e, h1, h2, h3, h4, h5, h6, h7⟩ := h
  exact ⟨A1, n1, c1, A2, n2, c2, A3, n3, c3, e, h1.grown hg (fun a ha e => by have := h5 a ha; have := hr _ e; omega), h2.grown hg (fun a ha e => by have := h6 a ha; have := hr _ e; omega), h3.grown hg (fun a ha e => by have := h7 a ha; have := hr _ e; omega), h4, h5, h6, h7⟩
theorem CoAt.below {w w' : World} {L : Nat} {v : Value} {st en ma : List Int} (h : CoAt w L v st en ma) (hb : Below w.heap.size w w') : CoAt w' L v st en ma :=
  h.grown (r := none) (below_grown hb) (fun g e => by cases e)
theorem CoAt.weak {w : World} {L L' : Nat} {v : Value} {st en ma : List Int} (h : CoAt w L v st en ma) (hL : L' ≤ L) : CoAt w L' v st en ma := by
  obtain ⟨A1, n1, c1, A2, n2, c2, A3, n3, c3, e, h1, h2, h3, h4, h5, h6, h7⟩ := h
  exact ⟨A1, n1, c1, A2, n2, c2, A3, n3, c3, e, h1, h2, h3, h4, fun a ha => Nat.le_trans hL (h5 a ha), fun a ha => Nat.le_trans hL (h6 a ha), fun a ha => Nat.le_trans hL (h7 a ha)⟩
theorem CoAt.of_done {w : World} {L B : Nat} {v0 v1 v2 : Value} {st en ma : List Int} (h0 : Done w L B v0 st) (h1 : Done w L B v1 en) (h2 : Done w L B v2 ma) : CoAt w L (.agg #[v0, v1, v2]) st en ma := by
  obtain ⟨A1, n1, c1, rfl, a1, b1, d1⟩ := h0
  obtain ⟨A2, n2, c2, rfl, a2, b2, d2⟩ := h1
  obtain ⟨A3, n3, c3, rfl, a3, b3, d3⟩ := h2
  exact ⟨A1, n1, c1, A2, n2, c2, A3, n3, c3, rfl, a1, a2, a3, ⟨b1, b2, b3⟩, fun a h => (d1 a h).1, fun a h => (d2 a h).1, fun a h => (d3 a h).1⟩

/-- The course while it is gathered: the first k of the numbers. -/
inductive Gath (wx : World) (L B : Nat) (N0 : Nat) (fls : List Int) (k : Nat) : Value → Value → Value → Prop where
  | a {v0 : Value} (hk : k ≤ N0) (h : wx.ownsRow B 3 1 v0 k ((fls.take k).flatMap encI)) : Gath wx L B N0 fls k v0 (.slice none 0 0) (.slice none 0 0)
  | b {v0 v1 : Value} (hk : N0 ≤ k) (hk2 : k ≤ 2 * N0) (h0 : Done wx L B v0 (fls.take N0)) (h : wx.ownsRow B 3 1 v1 (k - N0) (((fls.drop N0).take (k - N0)).flatMap encI)) : Gath wx L B N0 fls k v0 v1 (.slice none 0 0)
  | c {v0 v1 v2 : Value} (hk : 2 * N0 ≤ k) (h0 : Done wx L B v0 (fls.take N0)) (h1 : Done wx L B v1 ((fls.drop N0).take N0)) (h : wx.ownsRow B 3 1 v2 (k - 2 * N0) (((fls.drop (2 * N0)).take (k - 2 * N0)).flatMap encI)) : Gath wx L B N0 fls k v0 v1 v2
/-- Which of the three grows next. -/
theorem Gath.next {wx : World} {L B N0 k : Nat} {fls : List Int} {v0 v1 v2 : Value} (h : Gath wx L B N0 fls k v0 v1 v2) (hL : L ≤ B) (hB : B ≤ wx.heap.size) (hl : 2 * N0 ≤ fls.length) (hkl : k ≤ fls.length) :
    (k < N0 ∧ wx.ownsRow B 3 1 v0 k ((fls.take k).flatMap encI) ∧ v1 = .slice none 0 0 ∧ v2 = .slice none 0 0) ∨
    ((N0 ≤ k ∧ k < 2 * N0) ∧ ∃ B', B ≤ B' ∧ B' ≤ wx.heap.size ∧ Done wx L B' v0 (fls.take N0) ∧ wx.ownsRow B' 3 1 v1 (k - N0) (((fls.drop N0).take (k - N0)).flatMap encI) ∧ v2 = .slice none 0 0) ∨
    (2 * N0 ≤ k ∧ ∃ B', B ≤ B' ∧ B' ≤ wx.heap.size ∧ Done wx L B' v0 (fls.take N0) ∧ Done wx L B' v1 ((fls.drop N0).take N0) ∧ wx.ownsRow B' 3 1 v2 (k - 2 * N0) (((fls.drop (2 * N0)).take (k - 2 * N0)).flatMap encI)) := by
  cases h with
  | a hk h =>
    by_cases c : k < N0
    · exact .inl ⟨c, h, rfl, rfl⟩
    · have e : k = N0 := by omega
      subst e
      have hd := Done.row hL (by rw [List.length_take]; omega) h
      by_cases c2 : k < 2 * k
      · refine .inr (.inl ⟨⟨Nat.le_refl _, c2⟩, wx.heap.size, hB, Nat.le_refl _, hd, ?_, rfl⟩)
        rw [Nat.sub_self, List.take_zero]; exact World.ownsRow_nil _ _ _ _
      · have e0 : k = 0 := by omega
        subst e0
        refine .inr (.inr ⟨by omega, wx.heap.size, hB, Nat.le_refl _, hd, ?_, ?_⟩)
        · rw [List.take_zero]; exact Done.nil _ _ _
        · simpa using World.ownsRow_nil _ _ _ _
  | b hk hk2 h0 h =>
    by_cases c : k < 2 * N0
    · exact .inr (.inl ⟨⟨hk, c⟩, B, Nat.le_refl _, hB, h0, h, rfl⟩)
    · have e : k = 2 * N0 := by omega
      subst e
      have e2 : 2 * N0 - N0 = N0 := by omega
      rw [e2] at h
      have hd := Done.row hL (by rw [List.length_take, List.length_drop]; omega) h
      refine .inr (.inr ⟨Nat.le_refl _, wx.heap.size, hB, Nat.le_refl _, h0.mono hB, hd, ?_⟩)
      rw [Nat.sub_self, List.take_zero]; exact World.ownsRow_nil _ _ _ _
  | c hk h0 h1 h => exact .inr (.inr ⟨hk, B, Nat.le_refl _, hB, h0, h1, h⟩)

set_option maxRecDepth 100000 in
set_option maxHeartbeats 6400000 in
theorem course_any (p base : Nat) (A : Option Addr) (c : Nat) (es : List Eg) (N N0 : Nat) (w : World) (h : Net w p base A c es N) (hs : Small es) (hN : N = N0 + 1) (hl : 2 * N0 ≤ es.length) (hN9 : N0 ≤ 9) :
    Calls Tryz.prog 83 #[.pointer (some ⟨p, 0, none⟩)] w fun e w' => ∃ v, e = .returned v ∧ CoAt w' w.heap.size v ((es.take N0).map Eg.fl) (((es.drop N0).take N0).map Eg.fl) ((es.drop (2 * N0)).map Eg.fl) ∧ Below w.heap.size w w' := by
  have HN := Lib.hid h
  have HS := Lib.hid hs
  have hel := hs.len
  have p0 := h.blk.cell 0
  have p1 := h.blk.cell 1
  simp only [List.getElem?_toArray, List.getElem?_cons_zero, List.getElem?_cons_succ] at p0 p1
  have hpl := h.plt
  have hM : (N : Int) - 1 = (N0 : Int) := by omega
  have hM2 : (0 : Int) ≤ (N : Int) ∧ (N : Int) ≤ 10 := by omega
  obtain ⟨ii, hi0, hi1, hi2, hi3⟩ := info_parts info_int
  generalize hfl : es.map Eg.fl = fls
  have HFl := Lib.hid hfl
  have HFn := Lib.hid (show fls.length = es.length by rw [← hfl, List.length_map])
  clear h hs hfl
  generalize hne : es.length = ne at *
  have HNe := Lib.hid hne
  clear hne
  have B0 := ((Below.refl w.heap.size w).alloc (Nat.le_refl _) (.cells #[.slice none 0 0, .slice none 0 0, .slice none 0 0] 68)).alloc (by simp) (.cells #[.slice none 0 0, .slice none 0 0, .slice none 0 0] 68)
  have r0 := (Blk.new w 68 #[.slice none 0 0, .slice none 0 0, .slice none 0 0]).alloc (.cells #[.slice none 0 0, .slice none 0 0, .slice none 0 0] 68)
  have c0 := Blk.at_new (W := w.alloc (.cells #[.slice none 0 0, .slice none 0 0, .slice none 0 0] 68)) (g := w.heap.size + 1) 68 #[.slice none 0 0, .slice none 0 0, .slice none 0 0] (by simp)
  go_enter Tryz.func83, Tryz.ntmps83
  go_wp2
  generalize hW : (w.alloc (.cells #[.slice none 0 0, .slice none 0 0, .slice none 0 0] 68)).alloc (.cells #[.slice none 0 0, .slice none 0 0, .slice none 0 0] 68) = W at *
  clear hW
  go_loopw [17] (fun i wx => ∃ (k B : Nat) (v0 v1 v2 : Value), k ≤ ne ∧ i = .int .i64 (k : Int) ∧ Blk wx w.heap.size 68 #[.slice none 0 0, .slice none 0 0, .slice none 0 0] ∧ Blk wx (w.heap.size + 1) 68 #[v0, v1, v2] ∧ w.heap.size + 2 ≤ B ∧ B ≤ wx.heap.size ∧ Below w.heap.size w wx ∧ Gath wx (w.heap.size + 2) B N0 fls k v0 v1 v2) (fun i _ => ne - (intOf i).toNat)
  case atStart => exact ⟨0, w.heap.size + 2, _, _, _, Nat.zero_le _, rfl, r0, c0, by omega, c0.lt, B0, .a (Nat.zero_le _) (by simpa using World.ownsRow_nil _ _ _ _)⟩
  case round =>
    obtain ⟨k, B, v0, v1, v2, hk, rfl, rb, cb, hB1, hB2, Br, hga⟩ := hrel
    have hnx := hga.next hB1 hB2 (by rw [HFn.out]; exact hl) (by rw [HFn.out]; exact hk)
    have HNx := Lib.hid hnx
    have HR := Lib.hid rb
    have HCb := Lib.hid cb
    clear hga hnx
    by_cases hkn : k < ne
    case neg =>
      rcases HNx.out with ⟨c1, _⟩ | ⟨⟨c1, c2⟩, _⟩ | ⟨c1, B', hB3, hB4, d0, d1, ow⟩
      · omega
      · omega
      · have hkk : k = ne := by omega
        subst hkk
        have D0 := Lib.hid (d0.mono hB4)
        have D1 := Lib.hid (d1.mono hB4)
        have D2 := Lib.hid (Done.row (show w.heap.size + 2 ≤ B' from Nat.le_trans hB1 hB3) (by rw [List.length_take, List.length_drop, HFn.out]; omega) ow)
        obtain ⟨A1, n1, c1', rfl, _⟩ := id d0
        obtain ⟨A2, n2, c2', rfl, _⟩ := id d1
        obtain ⟨A3, c3', rfl⟩ := owns_slice ow
        have q0 := cb.cell 0
        have q1 := cb.cell 1
        have q2 := cb.cell 2
        have s0 := rb.cell 0
        have s1 := rb.cell 1
        have s2 := rb.cell 2
        have f0 := rb.frozen 0
        have f1 := rb.frozen 1
        have f2 := rb.frozen 2
        simp only [List.getElem?_toArray, List.getElem?_cons_zero, List.getElem?_cons_succ] at q0 q1 q2 s0 s1 s2
        have l0 := cb.lt
        have l1 := rb.lt
        have HB := Lib.hid Br
        clear d0 d1 ow rb cb
        go_wp2
        have BF : Below w.heap.size w (((wr.setCell ⟨w.heap.size, 0, none⟩ (.slice A1 n1 c1')).setCell ⟨w.heap.size, 1, none⟩ (.slice A2 n2 c2')).setCell ⟨w.heap.size, 2, none⟩ (.slice A3 (k - 2 * N0) c3')) := ((HB.out.setCell (p := ⟨w.heap.size, 0, none⟩) (Nat.le_refl _) _).setCell (p := ⟨w.heap.size, 1, none⟩) (Nat.le_refl _) _).setCell (p := ⟨w.heap.size, 2, none⟩) (Nat.le_refl _) _
        have hfin : Blk (((wr.setCell ⟨w.heap.size, 0, none⟩ (.slice A1 n1 c1')).setCell ⟨w.heap.size, 1, none⟩ (.slice A2 n2 c2')).setCell ⟨w.heap.size, 2, none⟩ (.slice A3 (k - 2 * N0) c3')) w.heap.size 68 #[.slice A1 n1 c1', .slice A2 n2 c2', .slice A3 (k - 2 * N0) c3'] := by
          have := ((HR.out.set_ 0 (.slice A1 n1 c1')).set_ 1 (.slice A2 n2 c2')).set_ 2 (.slice A3 (k - 2 * N0) c3')
          simpa using this
        have y0 := hfin.cell 0
        have y1 := hfin.cell 1
        have y2 := hfin.cell 2
        simp only [List.getElem?_toArray, List.getElem?_cons_zero, List.getElem?_cons_succ] at y0 y1 y2
        refine bodyPost_ret (v := vCo A1 n1 c1' A2 n2 c2' A3 (k - 2 * N0) c3') (by simp [results, Tryz.results83, go_sem, y0, y1, y2]) rfl ⟨_, rfl, ?_, BF⟩
        have hgF : wr.grownBy (((wr.setCell ⟨w.heap.size, 0, none⟩ (.slice A1 n1 c1')).setCell ⟨w.heap.size, 1, none⟩ (.slice A2 n2 c2')).setCell ⟨w.heap.size, 2, none⟩ (.slice A3 (k - 2 * N0) c3')) (some w.heap.size) := grown_trans (grown_trans (grownBy_set _ _ 0 _) (grownBy_set _ _ 1 _)) (grownBy_set _ _ 2 _)
        have hne' : ∀ g, some w.heap.size = some g → g < w.heap.size + 2 ∨ wr.heap.size ≤ g := fun g hg => .inl (by have e2 : w.heap.size = g := Option.some.inj hg; omega)
        have hco := CoAt.of_done (D0.out.grown hgF hne') (D1.out.grown hgF hne') (D2.out.grown hgF hne')
        have e0 : fls.take N0 = (es.take N0).map Eg.fl := by rw [← HFl.out, List.map_take]
        have e1 : (fls.drop N0).take N0 = ((es.drop N0).take N0).map Eg.fl := by rw [← HFl.out, List.map_take, List.map_drop]
        have e2 : (fls.drop (2 * N0)).take (k - 2 * N0) = (es.drop (2 * N0)).map Eg.fl := by
          rw [List.take_of_length_le (by rw [List.length_drop, HFn.out]; exact Nat.le_refl _), ← HFl.out, List.map_drop]
        rw [e0, e1, e2] at hco
        exact hco.weak (by omega)
    case pos =>
      have hkl : k < es.length := by rw [HNe.out]; exact hkn
      have hn := HN.out.below Br
      obtain ⟨g, rfl, hg1, hg2⟩ := hn.form (by rw [HNe.out]; omega)
      obtain ⟨g', off', e2, hrow⟩ := hn.sat.at_ (by rw [HNe.out]; omega)
      have e3 : g = g' ∧ 0 = off' := by simpa using e2
      obtain ⟨rfl, rfl⟩ := e3
      obtain ⟨z0, z1, z2, z3, z4, z5, z6, z7⟩ := Egs.at_ hrow (List.getElem?_eq_getElem hkl)
      simp only [Nat.zero_add] at z0 z1 z2 z3 z4 z5 z6 z7
      have HAt := Lib.hid (show fls[k]? = some (es[k]).fl by rw [← HFl.out, List.getElem?_map, List.getElem?_eq_getElem hkl]; rfl)
      clear hn hrow e2
      generalize es[k] = x at *
      obtain ⟨xi, xf, xt, xl, xh, xa, xb, fl⟩ := x
      dsimp only at *
      have bq := (Below.refl wr.heap.size wr).alloc (Nat.le_refl _) (.cells #[.int .i64 xi, .int .i64 xf, .int .i64 xt, .int .i64 xl, .int .i64 xh, .int .i64 (xa : Int), .int .i64 (xb : Int), .int .i64 fl] 186)
      have bq2 := bq.alloc (by simp) (.cells #[.int .i64 fl] 3)
      have HBq := Lib.hid bq2
      have HB := Lib.hid (Br.trans (bq2.mono Br.size))
      have hsz := Br.size
      have hpl3 : p < wr.heap.size := by omega
      rcases HNx.out with ⟨c1, ow, rfl, rfl⟩ | ⟨⟨c1, c2⟩, B', hB3, hB4, d0, ow, rfl⟩ | ⟨c1, B', hB3, hB4, d0, d1, ow⟩
      · obtain ⟨Ao, co, rfl⟩ := owns_slice ow
        have OW := Lib.hid ((ow.alloc (.cells #[.int .i64 xi, .int .i64 xf, .int .i64 xt, .int .i64 xl, .int .i64 xh, .int .i64 (xa : Int), .int .i64 (xb : Int), .int .i64 fl] 186)).alloc (.cells #[.int .i64 fl] 3))
        have HLT := Lib.hid (fun (r : Nat) hr => own_lt (g := r) ow hr)
        have HCb2 := Lib.hid ((HCb.out.alloc (.cells #[.int .i64 xi, .int .i64 xf, .int .i64 xt, .int .i64 xl, .int .i64 xh, .int .i64 (xa : Int), .int .i64 (xb : Int), .int .i64 fl] 186)).alloc (.cells #[.int .i64 fl] 3))
        have HR2 := Lib.hid ((HR.out.alloc (.cells #[.int .i64 xi, .int .i64 xf, .int .i64 xt, .int .i64 xl, .int .i64 xh, .int .i64 (xa : Int), .int .i64 (xb : Int), .int .i64 fl] 186)).alloc (.cells #[.int .i64 fl] 3))
        have q0 := HCb.out.cell 0
        simp only [List.getElem?_toArray, List.getElem?_cons_zero] at q0
        have l0 := HCb.out.lt
        have t1 : ((k : Int) < (N0 : Int)) := by omega
        clear ow rb cb Br
        go_wp2_with (at_builtin; go_loud (refine wpList_append_own _ rfl (.tmp 34) (.tmp 37) 42 rfl B 3 ii (.int .i64 0) 1 8 Tryz.underlying42 hi0 hi1 hi2 hi3 rfl (by decide) _ k ((fls.take k).flatMap encI) rfl OW.out ⟨wr.heap.size + 1, 0, none⟩ 1 1 [.int .i64 fl] rfl rfl (fun j u h => by match j, h with | 0, h => (simp at h; subst h; exact (Blk.at_new (W := wr.alloc _) (g := wr.heap.size + 1) _ _ (by simp)).cell 0)) (one_intsL [fl]) (by unfold maxLen; omega) (by omega) (by simp; omega) ?_))
        intro v' w4 ho hgr _
        obtain ⟨g5, c5, rfl⟩ := ownsRow_succ ho
        have HO := Lib.hid ho
        have hcb4 := HCb2.out.grown hgr (fun e => by have := HLT.out _ e; omega)
        have HCb4 := Lib.hid hcb4
        have HR4 := Lib.hid (HR2.out.grown hgr (fun e => by have := HLT.out _ e; omega))
        have HB4 := Lib.hid (HB.out.grown hgr HB.out.size (fun r hr => by have := HLT.out _ hr; omega))
        have hsz4 : B ≤ w4.heap.size := Nat.le_trans (by simp; omega) hgr.size
        have q4 := hcb4.cell 0
        have f4 := hcb4.frozen 0
        simp only [List.getElem?_toArray, List.getElem?_cons_zero] at q4
        have l4 := hcb4.lt
        clear hcb4 hgr ho q0 l0
        go_wp2
        go_roundw
        case rel =>
          refine ⟨k + 1, B, (.slice (some ⟨g5, 0, none⟩) (k + 1) c5), (.slice none 0 0), (.slice none 0 0), by omega, by go_num, HR4.out.far (p := ⟨w.heap.size + 1, 0, none⟩) (by simp) _, by simpa using HCb4.out.set_ 0 (.slice (some ⟨g5, 0, none⟩) (k + 1) c5), by omega, by simpa [World.setCell] using hsz4, HB4.out.setCell (p := ⟨w.heap.size + 1, 0, none⟩) (by simp) _, ?_⟩
          have ho2 := owns_grown HO.out (grownBy_set w4 (w.heap.size + 1) 0 (.slice (some ⟨g5, 0, none⟩) (k + 1) c5)) (fun g hg e => by have e1 : g5 = g := Option.some.inj hg; have e2 : w.heap.size + 1 = g := Option.some.inj e; have := (own_lt HO.out (g := g5) rfl).1; omega)
          have ht : fls.take (k + 1) = fls.take k ++ [fl] := by rw [List.take_add_one, HAt.out]; rfl
          have ho3 : (w4.setCell ⟨w.heap.size + 1, 0, none⟩ (.slice (some ⟨g5, 0, none⟩) (k + 1) c5)).ownsRow B 3 1 (.slice (some ⟨g5, 0, none⟩) (k + 1) c5) (k + 1) ((fls.take (k + 1)).flatMap encI) := by rw [ht, List.flatMap_append]; exact ho2
          exact .a (by omega) ho3
        case measure => simp [intOf]; omega
      · obtain ⟨A0, n0, c0', e0, ds0⟩ := id d0
        obtain ⟨Ao, co, rfl⟩ := owns_slice ow
        subst e0
        have HD0 := Lib.hid (d0.below HBq.out)
        have OW := Lib.hid ((ow.alloc (.cells #[.int .i64 xi, .int .i64 xf, .int .i64 xt, .int .i64 xl, .int .i64 xh, .int .i64 (xa : Int), .int .i64 (xb : Int), .int .i64 fl] 186)).alloc (.cells #[.int .i64 fl] 3))
        have HLT := Lib.hid (fun (r : Nat) hr => own_lt (g := r) ow hr)
        have HCb2 := Lib.hid ((HCb.out.alloc (.cells #[.int .i64 xi, .int .i64 xf, .int .i64 xt, .int .i64 xl, .int .i64 xh, .int .i64 (xa : Int), .int .i64 (xb : Int), .int .i64 fl] 186)).alloc (.cells #[.int .i64 fl] 3))
        have HR2 := Lib.hid ((HR.out.alloc (.cells #[.int .i64 xi, .int .i64 xf, .int .i64 xt, .int .i64 xl, .int .i64 xh, .int .i64 (xa : Int), .int .i64 (xb : Int), .int .i64 fl] 186)).alloc (.cells #[.int .i64 fl] 3))
        have q0 := HCb.out.cell 1
        simp only [List.getElem?_toArray, List.getElem?_cons_zero, List.getElem?_cons_succ] at q0
        have l0 := HCb.out.lt
        have t1 : ¬ ((k : Int) < (N0 : Int)) := by omega
        have t2 : ((k : Int) < 2 * (N0 : Int)) := by omega
        clear ow rb cb Br d0 ds0
        go_wp2_with (at_builtin; go_loud (refine wpList_append_own _ rfl (.tmp 46) (.tmp 49) 42 rfl B' 3 ii (.int .i64 0) 1 8 Tryz.underlying42 hi0 hi1 hi2 hi3 rfl (by decide) _ (k - N0) (((fls.drop N0).take (k - N0)).flatMap encI) rfl OW.out ⟨wr.heap.size + 1, 0, none⟩ 1 1 [.int .i64 fl] rfl rfl (fun j u h => by match j, h with | 0, h => (simp at h; subst h; exact (Blk.at_new (W := wr.alloc _) (g := wr.heap.size + 1) _ _ (by simp)).cell 0)) (one_intsL [fl]) (by unfold maxLen; omega) (by omega) (by simp; omega) ?_))
        intro v' w4 ho hgr _
        obtain ⟨g5, c5, rfl⟩ := ownsRow_succ ho
        have HO := Lib.hid ho
        have hcb4 := HCb2.out.grown hgr (fun e => by have := HLT.out _ e; omega)
        have HCb4 := Lib.hid hcb4
        have HR4 := Lib.hid (HR2.out.grown hgr (fun e => by have := HLT.out _ e; omega))
        have HB4 := Lib.hid (HB.out.grown hgr HB.out.size (fun r hr => by have := HLT.out _ hr; omega))
        have HD04 := Lib.hid (HD0.out.grown hgr (fun g hg => .inr (HLT.out _ hg).1))
        have hsz4 : B' ≤ w4.heap.size := Nat.le_trans (by simp; omega) hgr.size
        have q4 := hcb4.cell 1
        have f4 := hcb4.frozen 1
        simp only [List.getElem?_toArray, List.getElem?_cons_zero, List.getElem?_cons_succ] at q4
        have l4 := hcb4.lt
        clear hcb4 hgr ho q0 l0
        go_wp2
        go_roundw
        case rel =>
          refine ⟨k + 1, B', (.slice A0 n0 c0'), (.slice (some ⟨g5, 0, none⟩) ((k - N0) + 1) c5), (.slice none 0 0), by omega, by go_num, HR4.out.far (p := ⟨w.heap.size + 1, 1, none⟩) (by simp) _, by simpa using HCb4.out.set_ 1 (.slice (some ⟨g5, 0, none⟩) ((k - N0) + 1) c5), by omega, by simpa [World.setCell] using hsz4, HB4.out.setCell (p := ⟨w.heap.size + 1, 1, none⟩) (by simp) _, ?_⟩
          have ho2 := owns_grown HO.out (grownBy_set w4 (w.heap.size + 1) 1 (.slice (some ⟨g5, 0, none⟩) ((k - N0) + 1) c5)) (fun g hg e => by have e1 : g5 = g := Option.some.inj hg; have e2 : w.heap.size + 1 = g := Option.some.inj e; have := (own_lt HO.out (g := g5) rfl).1; omega)
          have ht : (fls.drop N0).take (k - N0 + 1) = (fls.drop N0).take (k - N0) ++ [fl] := by rw [List.take_add_one, List.getElem?_drop, show N0 + (k - N0) = k by omega, HAt.out]; rfl
          have ho3 : (w4.setCell ⟨w.heap.size + 1, 1, none⟩ (.slice (some ⟨g5, 0, none⟩) ((k - N0) + 1) c5)).ownsRow B' 3 1 (.slice (some ⟨g5, 0, none⟩) ((k - N0) + 1) c5) ((k - N0) + 1) (((fls.drop N0).take (k - N0 + 1)).flatMap encI) := by rw [ht, List.flatMap_append]; exact ho2
          rw [show k - N0 + 1 = k + 1 - N0 by omega] at ho3 ⊢
          exact .b (by omega) (by omega) (HD04.out.grown (grownBy_set w4 (w.heap.size + 1) 1 _) (fun g hg => .inl (by have e2 : w.heap.size + 1 = g := Option.some.inj hg; omega))) ho3
        case measure => simp [intOf]; omega
      · obtain ⟨A0, n0, c0', e0, ds0⟩ := id d0
        obtain ⟨A1, n1, c1', e1, ds1⟩ := id d1
        obtain ⟨Ao, co, rfl⟩ := owns_slice ow
        subst e0
        subst e1
        have HD0 := Lib.hid (d0.below HBq.out)
        have HD1 := Lib.hid (d1.below HBq.out)
        have OW := Lib.hid ((ow.alloc (.cells #[.int .i64 xi, .int .i64 xf, .int .i64 xt, .int .i64 xl, .int .i64 xh, .int .i64 (xa : Int), .int .i64 (xb : Int), .int .i64 fl] 186)).alloc (.cells #[.int .i64 fl] 3))
        have HLT := Lib.hid (fun (r : Nat) hr => own_lt (g := r) ow hr)
        have HCb2 := Lib.hid ((HCb.out.alloc (.cells #[.int .i64 xi, .int .i64 xf, .int .i64 xt, .int .i64 xl, .int .i64 xh, .int .i64 (xa : Int), .int .i64 (xb : Int), .int .i64 fl] 186)).alloc (.cells #[.int .i64 fl] 3))
        have HR2 := Lib.hid ((HR.out.alloc (.cells #[.int .i64 xi, .int .i64 xf, .int .i64 xt, .int .i64 xl, .int .i64 xh, .int .i64 (xa : Int), .int .i64 (xb : Int), .int .i64 fl] 186)).alloc (.cells #[.int .i64 fl] 3))
        have q0 := HCb.out.cell 2
        simp only [List.getElem?_toArray, List.getElem?_cons_zero, List.getElem?_cons_succ] at q0
        have l0 := HCb.out.lt
        have t1 : ¬ ((k : Int) < (N0 : Int)) := by omega
        have t2 : ¬ ((k : Int) < 2 * (N0 : Int)) := by omega
        clear ow rb cb Br d0 d1 ds0 ds1
        go_wp2_with (at_builtin; go_loud (refine wpList_append_own _ rfl (.tmp 23) (.tmp 26) 42 rfl B' 3 ii (.int .i64 0) 1 8 Tryz.underlying42 hi0 hi1 hi2 hi3 rfl (by decide) _ (k - 2 * N0) (((fls.drop (2 * N0)).take (k - 2 * N0)).flatMap encI) rfl OW.out ⟨wr.heap.size + 1, 0, none⟩ 1 1 [.int .i64 fl] rfl rfl (fun j u h => by match j, h with | 0, h => (simp at h; subst h; exact (Blk.at_new (W := wr.alloc _) (g := wr.heap.size + 1) _ _ (by simp)).cell 0)) (one_intsL [fl]) (by unfold maxLen; omega) (by omega) (by simp; omega) ?_))
        intro v' w4 ho hgr _
        obtain ⟨g5, c5, rfl⟩ := ownsRow_succ ho
        have HO := Lib.hid ho
        have hcb4 := HCb2.out.grown hgr (fun e => by have := HLT.out _ e; omega)
        have HCb4 := Lib.hid hcb4
        have HR4 := Lib.hid (HR2.out.grown hgr (fun e => by have := HLT.out _ e; omega))
        have HB4 := Lib.hid (HB.out.grown hgr HB.out.size (fun r hr => by have := HLT.out _ hr; omega))
        have HD04 := Lib.hid (HD0.out.grown hgr (fun g hg => .inr (HLT.out _ hg).1))
        have HD14 := Lib.hid (HD1.out.grown hgr (fun g hg => .inr (HLT.out _ hg).1))
        have hsz4 : B' ≤ w4.heap.size := Nat.le_trans (by simp; omega) hgr.size
        have q4 := hcb4.cell 2
        have f4 := hcb4.frozen 2
        simp only [List.getElem?_toArray, List.getElem?_cons_zero, List.getElem?_cons_succ] at q4
        have l4 := hcb4.lt
        clear hcb4 hgr ho q0 l0
        go_wp2
        go_roundw
        case rel =>
          refine ⟨k + 1, B', (.slice A0 n0 c0'), (.slice A1 n1 c1'), (.slice (some ⟨g5, 0, none⟩) ((k - 2 * N0) + 1) c5), by omega, by go_num, HR4.out.far (p := ⟨w.heap.size + 1, 2, none⟩) (by simp) _, by simpa using HCb4.out.set_ 2 (.slice (some ⟨g5, 0, none⟩) ((k - 2 * N0) + 1) c5), by omega, by simpa [World.setCell] using hsz4, HB4.out.setCell (p := ⟨w.heap.size + 1, 2, none⟩) (by simp) _, ?_⟩
          have ho2 := owns_grown HO.out (grownBy_set w4 (w.heap.size + 1) 2 (.slice (some ⟨g5, 0, none⟩) ((k - 2 * N0) + 1) c5)) (fun g hg e => by have e1 : g5 = g := Option.some.inj hg; have e2 : w.heap.size + 1 = g := Option.some.inj e; have := (own_lt HO.out (g := g5) rfl).1; omega)
          have ht : (fls.drop (2 * N0)).take (k - 2 * N0 + 1) = (fls.drop (2 * N0)).take (k - 2 * N0) ++ [fl] := by rw [List.take_add_one, List.getElem?_drop, show 2 * N0 + (k - 2 * N0) = k by omega, HAt.out]; rfl
          have ho3 : (w4.setCell ⟨w.heap.size + 1, 2, none⟩ (.slice (some ⟨g5, 0, none⟩) ((k - 2 * N0) + 1) c5)).ownsRow B' 3 1 (.slice (some ⟨g5, 0, none⟩) ((k - 2 * N0) + 1) c5) ((k - 2 * N0) + 1) (((fls.drop (2 * N0)).take (k - 2 * N0 + 1)).flatMap encI) := by rw [ht, List.flatMap_append]; exact ho2
          rw [show k - 2 * N0 + 1 = k + 1 - 2 * N0 by omega] at ho3 ⊢
          exact .c (by omega) (HD04.out.grown (grownBy_set w4 (w.heap.size + 1) 2 _) (fun g hg => .inl (by have e2 : w.heap.size + 1 = g := Option.some.inj hg; omega))) (HD14.out.grown (grownBy_set w4 (w.heap.size + 1) 2 _) (fun g hg => .inl (by have e2 : w.heap.size + 1 = g := Option.some.inj hg; omega))) ho3
        case measure => simp [intOf]; omega
end Go.Proofs.YtighfmgkoepfkaaGreat
