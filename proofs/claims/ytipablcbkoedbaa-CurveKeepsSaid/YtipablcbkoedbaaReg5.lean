/- Two rows that the call owns, each appended to in a region that draws its order: the joint invariant; an append as a loud operation. -/
import Derived.Maps.AppendAt
import Derived.Test.YtipablcbkoedbaaReg4
import Derived.Test.YtipablcbkoedbaaC4
namespace Go.Proofs.Ytipablcbkoedbaa
open Go.RowKit Go

/-- append as a loud operation. -/
theorem loudAt_append {P : Program} {o : Oper} {a : Act} {w : World} {R : Value → World → Prop} (s x : Operand) (t : TypeId)
    (ho : o.op = .call { callee := .builtin .append, args := #[s, x], argTypes := #[t, t] })
    (base : Nat) (e : TypeId) (i : TypeInfo) (z : Value) (size bytes : Nat) (ht : P.underlying t = some (.slice e)) (hi : P.info? e = some i) (hz : i.zero = some z)
    (hsize : i.size = size) (hby : i.bytes = bytes) (hzs : z.cells.size = size) (hsz : 0 < size)
    (v : Value) (n : Nat) (xs : List Value) (hs : a.eval s = v) (hown : w.ownsRow base e size v n xs)
    (ad : Addr) (m c : Nat) (news : List Value) (hx : a.eval x = .slice (some ad) m c) (hl : news.length = m * size) (hnews : ∀ j u, news[j]? = some u → w.cell? (ad.add j) = some u) (h1 : ∀ u ∈ news, u.oneCell' = true)
    (h63 : n + m ≤ maxLen) (hbytes : (n + m) * bytes ≤ 140737488355328) (hbase : base ≤ w.heap.size)
    (h : ∀ v' w', w'.ownsRow base e size v' (n + m) (xs ++ news) → w.grownBy w' v.ownBlock → (v'.ownBlock = v.ownBlock ∨ v'.ownBlock = some w.heap.size) → R v' w') : loudAt P o a w R := by
  obtain ⟨v', w', hr, h2, h3, h4, h5⟩ := run_append_own_at (P := P) w base t o.type e i z size bytes ht hi hz hsize hby hzs hsz v n xs hown ad m c news hl hnews h1 h63 hbytes hbase
  unfold loudAt execOp
  simp only [ho, resolve, invoke, builtin, Sem.run_bind, Sem.run_pure, Result.andThen_ok, List.map_toArray, List.map_cons, List.map_nil, hs, hx, hr]
  exact h v' w' h2 h3 h5

theorem owns_grown {W W' : World} {B e size : Nat} {v : Value} {n : Nat} {xs : List Value} {row : Option Nat} (h : W.ownsRow B e size v n xs) (hg : W.grownBy W' row) (hne : ∀ g, v.ownBlock = some g → row ≠ some g) : W'.ownsRow B e size v n xs := by
  refine ⟨h.1, ?_⟩
  rcases h.2 with hn | ⟨g, cap, cur, rfl, hg', hgg, rest⟩
  · exact .inl hn
  · exact .inr ⟨g, cap, cur, rfl, hg', (hg.block g (Array.getElem?_eq_some_iff.1 hgg).1 (fun e => hne g rfl (by rw [← e]))).trans hgg, rest⟩

theorem Blk.grown {W W' : World} {g : Nat} {t : TypeId} {cs : Array Value} {row : Option Nat} (h : Blk W g t cs) (hg : W.grownBy W' row) (hne : row ≠ some g) : Blk W' g t cs :=
  (hg.block g h.lt (fun e => hne (by rw [← e]))).trans h

theorem own_lt {W : World} {B e size : Nat} {v : Value} {n : Nat} {xs : List Value} (h : W.ownsRow B e size v n xs) {g : Nat} (hg : v.ownBlock = some g) : B ≤ g ∧ g < W.heap.size := by
  have := h.lt g hg
  exact this

/-- Two rows, one new piece each: slots i, i' are the new pieces, j, j' the rows behind the append. -/
structure TwoRows (e size base : Nat) (k : Nat) (G : List Nat) (i j : Nat) (v : Value) (xs p : List Value) (i' j' : Nat) (u : Value) (ys q : List Value) (ls : Nat → Bool) (vs : Nat → Value) (W : World) : Prop where
  rl : W.ownsRow base e size (cond (ls j) (vs j) v) (k + cond (ls j) 1 0) (xs ++ cond (ls j) p [])
  rh : W.ownsRow base e size (cond (ls j') (vs j') u) (k + cond (ls j') 1 0) (ys ++ cond (ls j') q [])
  ol : ∀ g, (cond (ls j) (vs j) v).ownBlock = some g → g ∉ G ∧ (cond (ls j') (vs j') u).ownBlock ≠ some g
  oh : ∀ g, (cond (ls j') (vs j') u).ownBlock = some g → g ∉ G ∧ (cond (ls j) (vs j) v).ownBlock ≠ some g
  tl : ls i = true → ls j = false → ∃ g, vs i = .slice (some ⟨g, 0, none⟩) 1 1 ∧ Blk W g e p.toArray ∧ (cond (ls j') (vs j') u).ownBlock ≠ some g
  th : ls i' = true → ls j' = false → ∃ g, vs i' = .slice (some ⟨g, 0, none⟩) 1 1 ∧ Blk W g e q.toArray ∧ (cond (ls j) (vs j) v).ownBlock ≠ some g
  G_ : ∀ g ∈ G, g < W.heap.size

section
variable {e size base k : Nat} {G : List Nat} {i j i' j' : Nat} {v u : Value} {xs p ys q : List Value} {ls : Nat → Bool} {vs : Nat → Value} {W W' : World}
theorem TwoRows.swap (h : TwoRows e size base k G i j v xs p i' j' u ys q ls vs W) : TwoRows e size base k G i' j' u ys q i j v xs p ls vs W :=
  ⟨h.rh, h.rl, h.oh, h.ol, h.th, h.tl, h.G_⟩
theorem TwoRows.below (h : TwoRows e size base k G i j v xs p i' j' u ys q ls vs W) (hb : Below W.heap.size W W') : TwoRows e size base k G i j v xs p i' j' u ys q ls vs W' :=
  ⟨owns_below h.rl hb, owns_below h.rh hb, h.ol, h.oh, fun a b => let ⟨g, x, y, z⟩ := h.tl a b; ⟨g, x, y.below hb, z⟩, fun a b => let ⟨g, x, y, z⟩ := h.th a b; ⟨g, x, y.below hb, z⟩, fun g hg => Nat.lt_of_lt_of_le (h.G_ g hg) hb.size⟩
theorem TwoRows.lay (h : TwoRows e size base k G i j v xs p i' j' u ys q ls vs W) (hd : i ≠ j ∧ i ≠ i' ∧ i ≠ j') : TwoRows e size base k G i j v xs p i' j' u ys q (updB ls i) (upd vs i (.slice (some ⟨W.heap.size, 0, none⟩) 1 1)) (W.alloc (.cells p.toArray e)) := by
  obtain ⟨h1, h2, h3⟩ := hd
  have e1 : updB ls i j = ls j := by simp [updB, Ne.symm h1]
  have e2 : updB ls i j' = ls j' := by simp [updB, Ne.symm h3]
  have e3 : ∀ x, upd vs i x j = vs j := fun x => by simp [upd, Ne.symm h1]
  have e4 : ∀ x, upd vs i x j' = vs j' := fun x => by simp [upd, Ne.symm h3]
  refine ⟨?_, ?_, ?_, ?_, fun _ _ => ⟨W.heap.size, by simp [upd], Blk.new _ _ _, ?_⟩, fun a b => ?_, fun g hg => by have := h.G_ g hg; simp; omega⟩
  · rw [e1, e3]; exact h.rl.alloc _
  · rw [e2, e4]; exact h.rh.alloc _
  · rw [e1, e2, e3, e4]; exact h.ol
  · rw [e1, e2, e3, e4]; exact h.oh
  · rw [e2, e4]
    intro hh
    have := (own_lt h.rh hh).2
    omega
  · have a' : ls i' = true := by simpa [updB, Ne.symm h2] using a
    rw [e2] at b
    obtain ⟨g, x, y, z⟩ := h.th a' b
    exact ⟨g, by simp [upd, Ne.symm h2, x], y.alloc _, by rw [e1, e3]; exact z⟩
theorem TwoRows.app (h : TwoRows e size base k G i j v xs p i' j' u ys q ls vs W) (hd : i ≠ j ∧ i' ≠ j ∧ j ≠ j') (hj : ls j = false) (v' : Value)
    (ho : W'.ownsRow base e size v' (k + 1) (xs ++ p)) (hg : W.grownBy W' v.ownBlock) (hv : v'.ownBlock = v.ownBlock ∨ v'.ownBlock = some W.heap.size) :
    TwoRows e size base k G i j v xs p i' j' u ys q (updB ls j) (upd vs j v') W' := by
  obtain ⟨h1, h2, h3⟩ := hd
  have e1 : updB ls j j = true := by simp [updB]
  have e2 : updB ls j j' = ls j' := by simp [updB, Ne.symm h3]
  have e3 : ∀ x, upd vs j x j = x := fun x => by simp [upd]
  have e4 : ∀ x, upd vs j x j' = vs j' := fun x => by simp [upd, Ne.symm h3]
  have hl := h.rl
  have hol := h.ol
  have hoh := h.oh
  have hth := h.th
  simp only [hj, cond_false] at hl hol hoh hth
  have hnew : ∀ g, v'.ownBlock = some g → g < W.heap.size → v.ownBlock = some g := fun g hg' hlt => by
    rcases hv with hv | hv
    · rw [← hv]; exact hg'
    · rw [hv] at hg'
      have : W.heap.size = g := by simpa using hg'
      omega
  refine ⟨?_, ?_, ?_, ?_, fun a b => ?_, fun a b => ?_, fun g hg' => Nat.lt_of_lt_of_le (h.G_ g hg') hg.size⟩
  · rw [e1, e3]; exact ho
  · rw [e2, e4]; exact owns_grown h.rh hg (fun g hg' => (hoh g hg').2)
  · rw [e1, e2, e3, e4]
    intro g hg'
    by_cases hlt : g < W.heap.size
    · exact hol g (hnew g hg' hlt)
    · exact ⟨fun hm => hlt (h.G_ g hm), fun hh => hlt (own_lt h.rh hh).2⟩
  · rw [e1, e2, e3, e4]
    intro g hg'
    exact ⟨(hoh g hg').1, fun hh => (hoh g hg').2 (hnew g hh (own_lt h.rh hg').2)⟩
  · rw [e1] at b; cases b
  · have a' : ls i' = true := by simpa [updB, h2] using a
    rw [e2] at b
    obtain ⟨g, x, y, z⟩ := hth a' b
    exact ⟨g, by simp [upd, h2, x], y.grown hg z, by rw [e1, e3]; exact fun hh => z (hnew g hh y.lt)⟩
end
end Go.Proofs.Ytipablcbkoedbaa
