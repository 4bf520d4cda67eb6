/- The plain law of Over: the extremes over the corners are those over all integers. No program in sight. -/
import Derived.Test.YtipablcbkoedbaaC9
import Derived.Test.YtipablcbkoedbaaH3
namespace Go.Proofs.Ytipablcbkoedbaa
open Go.RowKit

/-! ### Comparisons of fractions -/
theorem mul3_le {a b c : Int × Int} (ha : 0 < a.2) (hb : 0 < b.2) (hc : 0 < c.2) (h1 : a.1 * b.2 ≤ b.1 * a.2) (h2 : b.1 * c.2 ≤ c.1 * b.2) : a.1 * c.2 ≤ c.1 * a.2 := by
  have e1 := Int.mul_le_mul_of_nonneg_right h1 (Int.le_of_lt hc)
  have e2 := Int.mul_le_mul_of_nonneg_right h2 (Int.le_of_lt ha)
  have e3 : a.1 * c.2 * b.2 ≤ c.1 * a.2 * b.2 := by
    have x1 : a.1 * b.2 * c.2 = a.1 * c.2 * b.2 := Int.mul_right_comm _ _ _
    have x2 : b.1 * a.2 * c.2 = b.1 * c.2 * a.2 := Int.mul_right_comm _ _ _
    have x3 : c.1 * b.2 * a.2 = c.1 * a.2 * b.2 := Int.mul_right_comm _ _ _
    omega
  exact Int.le_of_mul_le_mul_right e3 hb
theorem mul3_lt1 {a b c : Int × Int} (ha : 0 < a.2) (hb : 0 < b.2) (hc : 0 < c.2) (h1 : a.1 * b.2 < b.1 * a.2) (h2 : b.1 * c.2 ≤ c.1 * b.2) : a.1 * c.2 < c.1 * a.2 := by
  have e1 := Int.mul_lt_mul_of_pos_right h1 hc
  have e2 := Int.mul_le_mul_of_nonneg_right h2 (Int.le_of_lt ha)
  have e3 : a.1 * c.2 * b.2 < c.1 * a.2 * b.2 := by
    have x1 : a.1 * b.2 * c.2 = a.1 * c.2 * b.2 := Int.mul_right_comm _ _ _
    have x2 : b.1 * a.2 * c.2 = b.1 * c.2 * a.2 := Int.mul_right_comm _ _ _
    have x3 : c.1 * b.2 * a.2 = c.1 * a.2 * b.2 := Int.mul_right_comm _ _ _
    omega
  exact Int.lt_of_mul_lt_mul_right e3 (Int.le_of_lt hb)
theorem mul3_lt2 {a b c : Int × Int} (ha : 0 < a.2) (hb : 0 < b.2) (hc : 0 < c.2) (h1 : a.1 * b.2 ≤ b.1 * a.2) (h2 : b.1 * c.2 < c.1 * b.2) : a.1 * c.2 < c.1 * a.2 := by
  have e1 := Int.mul_le_mul_of_nonneg_right h1 (Int.le_of_lt hc)
  have e2 := Int.mul_lt_mul_of_pos_right h2 ha
  have e3 : a.1 * c.2 * b.2 < c.1 * a.2 * b.2 := by
    have x1 : a.1 * b.2 * c.2 = a.1 * c.2 * b.2 := Int.mul_right_comm _ _ _
    have x2 : b.1 * a.2 * c.2 = b.1 * c.2 * a.2 := Int.mul_right_comm _ _ _
    have x3 : c.1 * b.2 * a.2 = c.1 * a.2 * b.2 := Int.mul_right_comm _ _ _
    omega
  exact Int.lt_of_mul_lt_mul_right e3 (Int.le_of_lt hb)
theorem ltF_iff (a b : Int × Int) : ltF a b = true ↔ a.1 * b.2 < b.1 * a.2 := by
  unfold ltF ordF cmpI
  simp only [decide_eq_true_eq]
  split
  · simp; assumption
  · split <;> simp <;> omega
theorem gtF_iff (a b : Int × Int) : gtF a b = true ↔ b.1 * a.2 < a.1 * b.2 := by
  unfold gtF ordF cmpI
  simp only [decide_eq_true_eq]
  split
  · simp; omega
  · split <;> simp <;> omega
/-- A comparison of fractions with divisors greater than 0. -/
structure Cmp (R : Int × Int → Int × Int → Bool) : Prop where
  t1 : ∀ a b c : Int × Int, 0 < a.2 → 0 < b.2 → 0 < c.2 → R a b = true → R c b = false → R a c = true
  t2 : ∀ a b c : Int × Int, 0 < a.2 → 0 < b.2 → 0 < c.2 → R b a = false → R b c = true → R a c = true
  t3 : ∀ a b c : Int × Int, 0 < a.2 → 0 < b.2 → 0 < c.2 → R b a = false → R c b = false → R c a = false
  asy : ∀ a b : Int × Int, R a b = true → R b a = false
  irr : ∀ a : Int × Int, R a a = false
theorem f_iff {R : Bool} {p : Prop} (h : R = true ↔ p) : R = false ↔ ¬ p := by
  cases R <;> simp_all
theorem cmp_lt : Cmp ltF where
  t1 a b c ha hb hc h1 h2 := by
    rw [ltF_iff] at h1 ⊢; rw [f_iff (ltF_iff _ _)] at h2
    exact mul3_lt1 ha hb hc h1 (by omega)
  t2 a b c ha hb hc h1 h2 := by
    rw [ltF_iff] at h2 ⊢; rw [f_iff (ltF_iff _ _)] at h1
    exact mul3_lt2 ha hb hc (by omega) h2
  t3 a b c ha hb hc h1 h2 := by
    rw [f_iff (ltF_iff _ _)] at h1 h2 ⊢
    have := mul3_le ha hb hc (by omega) (by omega)
    omega
  asy a b h := by rw [ltF_iff] at h; rw [f_iff (ltF_iff _ _)]; omega
  irr a := by rw [f_iff (ltF_iff _ _)]; omega
theorem cmp_gt : Cmp gtF where
  t1 a b c ha hb hc h1 h2 := by
    rw [gtF_iff] at h1 ⊢; rw [f_iff (gtF_iff _ _)] at h2
    exact mul3_lt2 hc hb ha (by omega) h1
  t2 a b c ha hb hc h1 h2 := by
    rw [gtF_iff] at h2 ⊢; rw [f_iff (gtF_iff _ _)] at h1
    exact mul3_lt1 hc hb ha h2 (by omega)
  t3 a b c ha hb hc h1 h2 := by
    rw [f_iff (gtF_iff _ _)] at h1 h2 ⊢
    have := mul3_le hc hb ha (by omega) (by omega)
    omega
  asy a b h := by rw [gtF_iff] at h; rw [f_iff (gtF_iff _ _)]; omega
  irr a := by rw [f_iff (gtF_iff _ _)]; omega

/-! ### The first best one -/
theorem exGo_best {R : Int × Int → Int × Int → Bool} (hR : Cmp R) (zs : List (Int × Int)) (d : Int × Int) (hp : ∀ z ∈ zs, 0 < z.2) : ∀ k, 0 < k → k ≤ zs.length →
    ∃ j, j < k ∧ exGo R zs d k = (zs.getD j d, (j : Int)) ∧ ∀ i, i < k → R (zs.getD i d) (zs.getD j d) = false ∧ (i < j → R (zs.getD j d) (zs.getD i d) = true)
  | 0, h, _ => absurd h (by omega)
  | k + 1, _, hk => by
    by_cases h0 : k = 0
    · subst h0
      refine ⟨0, by omega, by rw [exGo_first _ _ _ _ (by simp [exGo])], fun i hi => ?_⟩
      have : i = 0 := by omega
      subst this
      exact ⟨hR.irr _, fun h => absurd h (by omega)⟩
    · obtain ⟨j, hj, he, hb⟩ := exGo_best hR zs d hp k (by omega) (by omega)
      have hpk := hp _ (getD_mem zs k d (by omega))
      have hpj := hp _ (getD_mem zs j d (by omega))
      by_cases hl : R (zs.getD k d) (zs.getD j d) = true
      · refine ⟨k, by omega, exGo_yes _ _ _ _ (by rw [he]; exact hl), fun i hi => ?_⟩
        by_cases hik : i = k
        · subst hik; exact ⟨hR.irr _, fun h => absurd h (by omega)⟩
        · have hbi := (hb i (by omega)).1
          have hpi := hp _ (getD_mem zs i d (by omega))
          have := hR.t1 _ _ _ hpk hpj hpi hl hbi
          exact ⟨hR.asy _ _ this, fun _ => this⟩
      · have hl' : R (zs.getD k d) (zs.getD j d) = false := by simpa using hl
        refine ⟨j, by omega, by rw [exGo_no _ _ _ _ (by rw [he]; dsimp only; omega) (by rw [he]; exact hl'), he], fun i hi => ?_⟩
        by_cases hik : i = k
        · subst hik; exact ⟨hl', fun h => absurd h (by omega)⟩
        · exact hb i (by omega)

/-- e is the best value of f at the numbers xs, at the first number with it. -/
structure Best (R : Int × Int → Int × Int → Bool) (f : Int → Int × Int) (xs : List Int) (e : Int) : Prop where
  mem : e ∈ xs
  all : ∀ x ∈ xs, R (f x) (f e) = false ∧ (x < e → R (f e) (f x) = true)
theorem Best.unique {R : Int × Int → Int × Int → Bool} {f : Int → Int × Int} {xs : List Int} {e e' : Int} (h : Best R f xs e) (h' : Best R f xs e') : e = e' := by
  have a := h.all e' h'.mem
  have b := h'.all e h.mem
  by_cases h1 : e < e'
  · have := b.2 h1; rw [a.1] at this; cases this
  · by_cases h2 : e' < e
    · have := a.2 h2; rw [b.1] at this; cases this
    · omega
/-- The best of a strictly increasing row. -/
theorem best_exGo {R : Int × Int → Int × Int → Bool} (hR : Cmp R) (f : Int → Int × Int) (xs : List Int) (hx : xs.Pairwise (· < ·)) (hp : ∀ x ∈ xs, 0 < (f x).2) (h0 : 0 < xs.length) :
    ∃ j, j < xs.length ∧ extr R (xs.map f) (0, 0) = (f (xs.getD j 0), (j : Int)) ∧ Best R f xs (xs.getD j 0) := by
  obtain ⟨j, hj, he, hb⟩ := exGo_best hR (xs.map f) (0, 0) (fun z hz => by obtain ⟨x, hx, rfl⟩ := List.mem_map.1 hz; exact hp x hx) (xs.map f).length (by simpa using h0) (Nat.le_refl _)
  have hj' : j < xs.length := by simpa using hj
  have hget : ∀ i, i < xs.length → (xs.map f).getD i (0, 0) = f (xs.getD i 0) := fun i hi => by simp [List.getD_eq_getElem?_getD, hi]
  refine ⟨j, hj', by unfold extr; rw [he, hget j hj'], getD_mem _ _ _ hj', fun x hx' => ?_⟩
  obtain ⟨i, hi, rfl⟩ := List.mem_iff_getElem.1 hx'
  have hbi := hb i (by simpa using hi)
  rw [hget i hi, hget j hj'] at hbi
  have hxi : xs.getD i 0 = xs[i] := by simp [List.getD_eq_getElem?_getD, hi]
  rw [hxi] at hbi
  refine ⟨hbi.1, fun hlt => hbi.2 ?_⟩
  by_cases hij : i < j
  · exact hij
  · exfalso
    by_cases e : i = j
    · subst e; rw [hxi] at hlt; omega
    · have := List.pairwise_iff_getElem.1 hx j i hj' hi (by omega)
      have hxj : xs.getD j 0 = xs[j] := by simp [List.getD_eq_getElem?_getD, hj']
      rw [hxj] at hlt
      omega

/-! ### Fewer numbers suffice -/
/-- Each number is one of the few, or no better than one of them ahead of it, or worse than one of them. -/
def Dom (R : Int × Int → Int × Int → Bool) (f : Int → Int × Int) (A : List Int) (x : Int) : Prop :=
  x ∈ A ∨ (∃ c ∈ A, c < x ∧ R (f x) (f c) = false) ∨ ∃ c ∈ A, R (f c) (f x) = true
theorem Best.more {R : Int × Int → Int × Int → Bool} (hR : Cmp R) {f : Int → Int × Int} {A B : List Int} {e : Int} (hp : ∀ x ∈ B, 0 < (f x).2) (hAB : ∀ x ∈ A, x ∈ B) (hd : ∀ x ∈ B, Dom R f A x) (h : Best R f A e) : Best R f B e := by
  have hpe := hp e (hAB e h.mem)
  refine ⟨hAB e h.mem, fun x hx => ?_⟩
  have hpx := hp x hx
  rcases hd x hx with hA | ⟨c, hc, hcx, hcn⟩ | ⟨c, hc, hcy⟩
  · exact h.all x hA
  · have hpc := hp c (hAB c hc)
    have hce := h.all c hc
    have h1 := hR.t3 (f e) (f c) (f x) hpe hpc hpx hce.1 hcn
    refine ⟨h1, fun hlt => ?_⟩
    exact hR.t1 (f e) (f c) (f x) hpe hpc hpx (hce.2 (by omega)) hcn
  · have hpc := hp c (hAB c hc)
    have hce := h.all c hc
    have h1 := hR.t2 (f e) (f c) (f x) hpe hpc hpx hce.1 hcy
    exact ⟨hR.asy _ _ h1, fun _ => h1⟩

/-- f is straight over c1, x, c2. -/
def Lin (f : Int → Int × Int) (c1 x c2 : Int) : Prop :=
  ∃ M l1 lx l2 : Int, 0 < M ∧ (f c1).1 * M = l1 * (f c1).2 ∧ (f x).1 * M = lx * (f x).2 ∧ (f c2).1 * M = l2 * (f c2).2 ∧ (lx - l1) * (c2 - x) = (l2 - lx) * (x - c1)
theorem lin_cmp {a b : Int × Int} {M p q : Int} (hM : 0 < M) (ha : 0 < a.2) (hb : 0 < b.2) (h1 : a.1 * M = p * a.2) (h2 : b.1 * M = q * b.2) : a.1 * b.2 < b.1 * a.2 ↔ p < q := by
  have e1 : a.1 * b.2 * M = p * (a.2 * b.2) := by rw [Int.mul_right_comm, h1, Int.mul_assoc]
  have e2 : b.1 * a.2 * M = q * (a.2 * b.2) := by rw [Int.mul_right_comm, h2, Int.mul_assoc, Int.mul_comm b.2]
  have hab : 0 < a.2 * b.2 := Int.mul_pos ha hb
  constructor
  · intro h
    have := Int.mul_lt_mul_of_pos_right h hM
    rw [e1, e2] at this
    exact Int.lt_of_mul_lt_mul_right this (Int.le_of_lt hab)
  · intro h
    have := Int.mul_lt_mul_of_pos_right h hab
    rw [← e1, ← e2] at this
    exact Int.lt_of_mul_lt_mul_right this (Int.le_of_lt hM)
theorem dom_lt {f : Int → Int × Int} {A : List Int} {c1 x c2 : Int} (h1 : c1 ∈ A) (h2 : c2 ∈ A) (h3 : c1 < x) (h4 : x < c2) (hl : Lin f c1 x c2) (p1 : 0 < (f c1).2) (px : 0 < (f x).2) (p2 : 0 < (f c2).2) : Dom ltF f A x := by
  obtain ⟨M, l1, lx, l2, hM, e1, ex, e2, hs⟩ := hl
  by_cases hc : l1 ≤ lx
  · refine .inr (.inl ⟨c1, h1, h3, ?_⟩)
    rw [f_iff (ltF_iff _ _), lin_cmp hM px p1 ex e1]
    omega
  · refine .inr (.inr ⟨c2, h2, ?_⟩)
    rw [ltF_iff, lin_cmp hM p2 px e2 ex]
    have hneg : (lx - l1) * (c2 - x) < 0 := Int.mul_neg_of_neg_of_pos (by omega) (by omega)
    rw [hs] at hneg
    by_cases h : l2 < lx
    · exact h
    · have := Int.mul_nonneg (show 0 ≤ l2 - lx by omega) (show 0 ≤ x - c1 by omega)
      omega
theorem dom_gt {f : Int → Int × Int} {A : List Int} {c1 x c2 : Int} (h1 : c1 ∈ A) (h2 : c2 ∈ A) (h3 : c1 < x) (h4 : x < c2) (hl : Lin f c1 x c2) (p1 : 0 < (f c1).2) (px : 0 < (f x).2) (p2 : 0 < (f c2).2) : Dom gtF f A x := by
  obtain ⟨M, l1, lx, l2, hM, e1, ex, e2, hs⟩ := hl
  by_cases hc : lx ≤ l1
  · refine .inr (.inl ⟨c1, h1, h3, ?_⟩)
    rw [f_iff (gtF_iff _ _), lin_cmp hM p1 px e1 ex]
    omega
  · refine .inr (.inr ⟨c2, h2, ?_⟩)
    rw [gtF_iff, lin_cmp hM px p2 ex e2]
    have hpos : 0 < (lx - l1) * (c2 - x) := Int.mul_pos (by omega) (by omega)
    rw [hs] at hpos
    by_cases h : lx < l2
    · exact h
    · have := Int.mul_nonneg (show 0 ≤ lx - l2 by omega) (show 0 ≤ x - c1 by omega)
      have e : (l2 - lx) * (x - c1) = -((lx - l2) * (x - c1)) := by rw [← Int.neg_mul]; congr 1; omega
      omega

/-! ### The corners -/
theorem compact_has {zs : List Int} : ∀ (i : Nat), i < zs.length → zs.getD i 0 ∈ Lib.compact zs
  | 0, h => by
    unfold Lib.compact Lib.compactUpTo
    refine List.mem_map.2 ⟨0, List.mem_filter.2 ⟨by simpa using h, by simp [Lib.keeps]⟩, ?_⟩
    simp [List.getD_eq_getElem?_getD, h]
  | i + 1, h => by
    by_cases he : zs.getD (i + 1) 0 = zs.getD i 0
    · rw [he]; exact compact_has i (by omega)
    · unfold Lib.compact Lib.compactUpTo
      have h1 : i < zs.length := by omega
      refine List.mem_map.2 ⟨i + 1, List.mem_filter.2 ⟨by simpa using h, ?_⟩, ?_⟩
      · simp only [Lib.keeps, decide_eq_true_eq]
        refine .inr fun hh => he ?_
        simpa [List.getD_eq_getElem?_getD, h, h1] using hh
      · simp [List.getD_eq_getElem?_getD, h]
theorem mem_compact {zs : List Int} {x : Int} (h : x ∈ zs) : x ∈ Lib.compact zs := by
  obtain ⟨i, hi, rfl⟩ := List.mem_iff_getElem.1 h
  have := compact_has i hi
  rwa [List.getD_eq_getElem?_getD, List.getElem?_eq_getElem hi] at this
theorem compact_inc {zs : List Int} (h : zs.Pairwise (· ≤ ·)) : (Lib.compact zs).Pairwise (· < ·) := by
  unfold Lib.compact Lib.compactUpTo
  rw [List.pairwise_map]
  have hr : ((List.range zs.length).filter (Lib.keeps zs.toArray)).Pairwise (· < ·) := List.Pairwise.filter _ List.pairwise_lt_range
  refine List.Pairwise.imp_of_mem ?_ hr
  intro a b ha hb hab
  have hb1 := (List.mem_filter.1 hb).1
  have hb2 := (List.mem_filter.1 hb).2
  have hbl : b < zs.length := by simpa using hb1
  simp only [Lib.keeps, decide_eq_true_eq] at hb2
  have hne := hb2.resolve_left (by omega)
  have h1 : zs[b - 1]'(by omega) ≤ zs[b] := List.pairwise_iff_getElem.1 h (b - 1) b (by omega) hbl (by omega)
  have h2 : zs[a]'(by omega) ≤ zs[b - 1]'(by omega) := by
    by_cases e : a = b - 1
    · subst e; exact Int.le_refl _
    · exact List.pairwise_iff_getElem.1 h a (b - 1) (by omega) (by omega) (by omega)
  have hal : a < zs.length := by omega
  have hb3 : b - 1 < zs.length := by omega
  have hne' : zs[b] ≠ zs[b - 1]'(by omega) := by simpa [hbl, hb3] using hne
  have : zs[a] < zs[b] := by omega
  simpa [hal, hbl] using this
theorem corner_inc (lo hi : Int) (cs : List CV) : (cornerL lo hi cs).Pairwise (· < ·) := by
  refine compact_inc ?_
  have := List.pairwise_mergeSort (le := fun x y : Int => decide (x ≤ y)) (fun a b c h1 h2 => by simp at *; omega) (fun a b => by simp; omega) (cornerXs lo hi cs)
  exact this.imp (fun h => by simpa using h)
theorem corner_has {lo hi x : Int} {cs : List CV} (h : x ∈ cornerXs lo hi cs) : x ∈ cornerL lo hi cs := mem_compact (List.mem_mergeSort.2 h)
theorem inXs_has {lo hi : Int} : ∀ {ks : List (Int × Int)} (i : Nat), i < ks.length → lo ≤ kx ks i → kx ks i ≤ hi → kx ks i ∈ inXs lo hi ks
  | [], i, h, _, _ => absurd h (by simp)
  | (x, y) :: ks, 0, _, h1, h2 => by
    have e : kx ((x, y) :: ks) 0 = x := rfl
    rw [e] at h1 h2 ⊢
    unfold inXs
    simp [h1, h2]
  | (x, y) :: ks, i + 1, h, h1, h2 => by
    have e : kx ((x, y) :: ks) (i + 1) = kx ks i := rfl
    rw [e] at h1 h2 ⊢
    have := inXs_has (ks := ks) i (by simpa using h) h1 h2
    unfold inXs
    split <;> simp [this]

/-! ### A curve is straight between its knots -/
theorem low_ratio (n d : Int) : lowN n d * d = n * lowD n d := by
  unfold lowN lowD
  have h1 : ((Nat.gcd n.natAbs d.natAbs : Nat) : Int) ∣ n := by rw [← Int.dvd_natAbs]; exact Int.ofNat_dvd.2 (Nat.gcd_dvd_left _ _)
  have h2 : ((Nat.gcd n.natAbs d.natAbs : Nat) : Int) ∣ d := by rw [← Int.dvd_natAbs]; exact Int.ofNat_dvd.2 (Nat.gcd_dvd_right _ _)
  generalize ((Nat.gcd n.natAbs d.natAbs : Nat) : Int) = g at *
  by_cases hg : g = 0
  · subst hg
    rw [Int.zero_dvd.1 h1, Int.zero_dvd.1 h2]; rfl
  · obtain ⟨a, rfl⟩ := h1
    obtain ⟨b, rfl⟩ := h2
    rw [Int.mul_ediv_cancel_left _ hg, Int.mul_ediv_cancel_left _ hg, Int.mul_left_comm, Int.mul_assoc]
def lineL (ks : List (Int × Int)) (i : Nat) (x : Int) : Int := ky ks i * (kx ks (i + 1) - kx ks i) + (ky ks (i + 1) - ky ks i) * (x - kx ks i)
theorem val_line {ks : List (Int × Int)} (hv : Valid ks) {i : Nat} (hi : i + 1 < ks.length) {x : Int} (h1 : kx ks i ≤ x) (h2 : x ≤ kx ks (i + 1)) : valN ks x * (kx ks (i + 1) - kx ks i) = lineL ks i x * valD ks x := by
  have h0 : kx ks 0 ≤ x := Int.le_trans (kx_mono hv i 0 (by omega) (by omega)) h1
  have hup : ∀ j, j < i → kx ks j < kx ks i := fun j hj => by
    have a := hv.up j (by omega)
    have b := kx_mono hv i (j + 1) (by omega) (by omega)
    omega
  by_cases he : kx ks i = x
  · have hva := (val_at hv (x := x) (i := i) (by omega) h0 (by omega) (fun j hj => by have := hup j hj; omega)).1 he
    rw [hva.1, hva.2]
    unfold lineL
    rw [he, Int.sub_self, Int.mul_zero, Int.add_zero, Int.mul_one]
  · have hva := val_at hv (x := x) (i := i + 1) hi h0 h2 (fun j hj => by
      by_cases e : j = i
      · subst e; omega
      · have := hup j (by omega); omega)
    by_cases he2 : kx ks (i + 1) = x
    · have hv1 := hva.1 he2
      rw [hv1.1, hv1.2]
      unfold lineL
      rw [he2, ← Int.add_mul, Int.mul_one]
      congr 1; omega
    · have hv1 := (hva.2 he2).2
      rw [hv1.1, hv1.2]
      unfold fvN fvD
      rw [show i + 1 - 1 = i by omega]
      exact low_ratio _ _
theorem lin_sub (p m a b c : Int) : p + m * (a - c) - (p + m * (b - c)) = m * (a - b) := by
  have h1 := Int.mul_sub m a c
  have h2 := Int.mul_sub m b c
  have h3 := Int.mul_sub m a b
  omega
theorem lin_val {ks : List (Int × Int)} (hv : Valid ks) {i : Nat} (hi : i + 1 < ks.length) {c1 x c2 : Int} (h1 : kx ks i ≤ c1) (h2 : c1 < x) (h3 : x < c2) (h4 : c2 ≤ kx ks (i + 1)) : Lin (fV ks) c1 x c2 := by
  have hu := hv.up i hi
  refine ⟨kx ks (i + 1) - kx ks i, lineL ks i c1, lineL ks i x, lineL ks i c2, by omega, val_line hv hi h1 (by omega), val_line hv hi (by omega) (by omega), val_line hv hi (by omega) h4, ?_⟩
  unfold lineL
  rw [lin_sub, lin_sub]
  rw [Int.mul_assoc, Int.mul_assoc, Int.mul_comm (x - c1)]
/-- A number of the span that is no corner lies inside of a piece. -/
theorem piece_in {ks : List (Int × Int)} (hv : Valid ks) {x : Int} (h0 : kx ks 0 ≤ x) (h1 : x ≤ kx ks (ks.length - 1)) (hn : ∀ i, i < ks.length → kx ks i ≠ x) : ∃ i, i + 1 < ks.length ∧ kx ks i < x ∧ x < kx ks (i + 1) := by
  have hp := hv.pos
  cases hpo : pieceOf ks x with
  | some i =>
    obtain ⟨a, b, c⟩ := pieceOf_in h0 hpo
    have d := hn i (by omega)
    have e := hn (i + 1) (by omega)
    exact ⟨i, by omega, by omega, by omega⟩
  | none =>
    exfalso
    unfold pieceOf at hpo
    rw [List.find?_eq_none] at hpo
    by_cases hl : 1 < ks.length
    · have := hpo (ks.length - 2) (by simp; omega)
      rw [show ks.length - 2 + 1 = ks.length - 1 by omega] at this
      simp at this; omega
    · have e : ks.length - 1 = 0 := by omega
      rw [e] at h1
      have := hn 0 hp
      omega
/-- All integers of a span. -/
def intsOf (lo hi : Int) : List Int := (List.range (hi + 1 - lo).toNat).map fun (j : Nat) => lo + (j : Int)
theorem mem_ints {lo hi x : Int} : x ∈ intsOf lo hi ↔ lo ≤ x ∧ x ≤ hi := by
  unfold intsOf
  rw [List.mem_map]
  constructor
  · rintro ⟨j, hj, rfl⟩
    have := List.mem_range.1 hj
    omega
  · intro h
    exact ⟨(x - lo).toNat, List.mem_range.2 (by omega), by omega⟩
theorem ints_inc (lo hi : Int) : (intsOf lo hi).Pairwise (· < ·) := by
  unfold intsOf
  rw [List.pairwise_map]
  exact List.pairwise_lt_range.imp fun h => by omega
theorem ints_at (lo hi : Int) (j : Nat) (h : j < (intsOf lo hi).length) : (intsOf lo hi).getD j 0 = lo + j := by
  unfold intsOf at *
  simp only [List.length_map, List.length_range] at h
  simp [List.getD_eq_getElem?_getD, h]
end Go.Proofs.Ytipablcbkoedbaa
