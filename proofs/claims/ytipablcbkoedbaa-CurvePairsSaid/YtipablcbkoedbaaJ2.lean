/- The plain law of Over, its end: the peak over the corners is the peak over all integers. -/
import Derived.Test.YtipablcbkoedbaaJ1
namespace Go.Proofs.Ytipablcbkoedbaa
open Go.RowKit

theorem exGo_spots (R : Int × Int → Int × Int → Bool) (f : Int → Int × Int) (xs : List Int) : ∀ k, k ≤ xs.length →
    (exGo (fun a b : Int × Int × Int => R a.2 b.2) (spots f xs) (0, 0, 0) k).2 = (exGo R (xs.map f) (0, 0) k).2 ∧
    (0 < k → ∃ j, j < k ∧ (exGo R (xs.map f) (0, 0) k).2 = (j : Int) ∧ (exGo (fun a b : Int × Int × Int => R a.2 b.2) (spots f xs) (0, 0, 0) k).1 = (xs.getD j 0, f (xs.getD j 0)) ∧ (exGo R (xs.map f) (0, 0) k).1 = f (xs.getD j 0))
  | 0, _ => ⟨rfl, fun h => absurd h (by omega)⟩
  | k + 1, hk => by
    obtain ⟨h1, h2⟩ := exGo_spots R f xs k (by omega)
    have hs : (spots f xs).getD k (0, 0, 0) = (xs.getD k 0, f (xs.getD k 0)) := by
      have hk' : k < xs.length := by omega
      simp [spots, List.getD_eq_getElem?_getD, hk']
    have hm : (xs.map f).getD k (0, 0) = f (xs.getD k 0) := by
      have hk' : k < xs.length := by omega
      simp [List.getD_eq_getElem?_getD, hk']
    by_cases h0 : k = 0
    · subst h0
      rw [exGo_first _ _ _ _ (by simp [exGo]), exGo_first _ _ _ _ (by simp [exGo]), hs, hm]
      exact ⟨rfl, fun _ => ⟨0, by omega, rfl, rfl, rfl⟩⟩
    · obtain ⟨j, hj, e1, e2, e3⟩ := h2 (by omega)
      by_cases hl : R (f (xs.getD k 0)) (f (xs.getD j 0)) = true
      · rw [exGo_yes (fun a b : Int × Int × Int => R a.2 b.2) _ _ _ (by rw [hs, e2]; exact hl), exGo_yes R _ _ _ (by rw [hm, e3]; exact hl), hs, hm]
        exact ⟨rfl, fun _ => ⟨k, by omega, rfl, rfl, rfl⟩⟩
      · have hl' : R (f (xs.getD k 0)) (f (xs.getD j 0)) = false := by simpa using hl
        rw [exGo_no (fun a b : Int × Int × Int => R a.2 b.2) _ _ _ (by rw [h1, e1]; omega) (by rw [hs, e2]; exact hl'), exGo_no R _ _ _ (by rw [e1]; omega) (by rw [hm, e3]; exact hl')]
        exact ⟨h1, fun _ => ⟨j, by omega, e1, e2, e3⟩⟩
/-- The best spot of an increasing row. -/
theorem best_spots {R : Int × Int → Int × Int → Bool} (hR : Cmp R) (f : Int → Int × Int) (xs : List Int) (hx : xs.Pairwise (· < ·)) (hp : ∀ x ∈ xs, 0 < (f x).2) (h0 : 0 < xs.length) :
    ∃ e, Best R f xs e ∧ (extr (fun a b : Int × Int × Int => R a.2 b.2) (spots f xs) (0, 0, 0)).1 = (e, f e) := by
  obtain ⟨j, hj, he, hb⟩ := best_exGo hR f xs hx hp h0
  obtain ⟨_, h2⟩ := exGo_spots R f xs xs.length (Nat.le_refl _)
  obtain ⟨j', hj', e1, e2, e3⟩ := h2 h0
  have el : (spots f xs).length = xs.length := by simp [spots]
  have el' : (xs.map f).length = xs.length := by simp
  unfold extr at he
  rw [el'] at he
  rw [he] at e1
  have : j = j' := by have : (j : Int) = j' := e1; omega
  subst this
  refine ⟨_, hb, ?_⟩
  unfold extr
  rw [el]
  exact e2

/-- The peak over all integers of a span. -/
def rpkV (f : Int → Int × Int) (lo hi : Int) : Pk :=
  ⟨(extr ltF ((intsOf lo hi).map f) (0, 0)).1.1, (extr ltF ((intsOf lo hi).map f) (0, 0)).1.2, (extr gtF ((intsOf lo hi).map f) (0, 0)).1.1, (extr gtF ((intsOf lo hi).map f) (0, 0)).1.2,
    lo + (extr ltF ((intsOf lo hi).map f) (0, 0)).2, lo + (extr gtF ((intsOf lo hi).map f) (0, 0)).2⟩
theorem pk_same {f : Int → Int × Int} {A : List Int} {lo hi : Int} (hlh : lo ≤ hi) (hA : A.Pairwise (· < ·)) (h0 : 0 < A.length) (hAm : ∀ x ∈ A, lo ≤ x ∧ x ≤ hi) (hp : ∀ x, lo ≤ x → x ≤ hi → 0 < (f x).2)
    (h1 : ∀ x, lo ≤ x → x ≤ hi → Dom ltF f A x) (h2 : ∀ x, lo ≤ x → x ≤ hi → Dom gtF f A x) : pkOf (spots f A) = rpkV f lo hi := by
  have hB0 : 0 < (intsOf lo hi).length := by simp [intsOf]; omega
  have hpA : ∀ x ∈ A, 0 < (f x).2 := fun x hx => hp x (hAm x hx).1 (hAm x hx).2
  have hpB : ∀ x ∈ intsOf lo hi, 0 < (f x).2 := fun x hx => hp x (mem_ints.1 hx).1 (mem_ints.1 hx).2
  have hAB : ∀ x ∈ A, x ∈ intsOf lo hi := fun x hx => mem_ints.2 (hAm x hx)
  obtain ⟨a, ha, ea⟩ := best_spots cmp_lt f A hA hpA h0
  obtain ⟨b, hb, eb⟩ := best_spots cmp_gt f A hA hpA h0
  obtain ⟨j, hj, ej, hbj⟩ := best_exGo cmp_lt f _ (ints_inc lo hi) hpB hB0
  obtain ⟨i, hi', ei, hbi⟩ := best_exGo cmp_gt f _ (ints_inc lo hi) hpB hB0
  have h3 := (Best.more cmp_lt hpB hAB (fun x hx => h1 x (mem_ints.1 hx).1 (mem_ints.1 hx).2) ha).unique hbj
  have h4 := (Best.more cmp_gt hpB hAB (fun x hx => h2 x (mem_ints.1 hx).1 (mem_ints.1 hx).2) hb).unique hbi
  rw [ints_at lo hi j hj] at h3 ej
  rw [ints_at lo hi i hi'] at h4 ei
  subst h3 h4
  unfold pkOf rpkV pkLo pkHi
  rw [ej, ei]
  have ea' : (extr ltS (spots f A) (0, 0, 0)).1 = (lo + (j : Int), f (lo + (j : Int))) := ea
  have eb' : (extr gtS (spots f A) (0, 0, 0)).1 = (lo + (i : Int), f (lo + (i : Int))) := eb
  rw [ea', eb']

theorem dom_val {ks : List (Int × Int)} (hv : Valid ks) {lo hi : Int} (h0 : kx ks 0 ≤ lo) (h1 : hi ≤ kx ks (ks.length - 1)) {cs : List CV} (hc : ∀ i, i < ks.length → lo ≤ kx ks i → kx ks i ≤ hi → kx ks i ∈ cornerL lo hi cs) {x : Int} (hx0 : lo ≤ x) (hx1 : x ≤ hi) :
    Dom ltF (fV ks) (cornerL lo hi cs) x ∧ Dom gtF (fV ks) (cornerL lo hi cs) x := by
  by_cases hA : x ∈ cornerL lo hi cs
  · exact ⟨.inl hA, .inl hA⟩
  have hlo : lo ∈ cornerL lo hi cs := corner_has (by simp [cornerXs])
  have hhi : hi ∈ cornerL lo hi cs := corner_has (by simp [cornerXs])
  have hxl : x ≠ lo := fun h => hA (h ▸ hlo)
  have hxh : x ≠ hi := fun h => hA (h ▸ hhi)
  obtain ⟨i, hi1, hi2, hi3⟩ := piece_in hv (x := x) (by omega) (by omega) (fun i hi e => hA (e ▸ hc i hi (by omega) (by omega)))
  have hc1 : max lo (kx ks i) ∈ cornerL lo hi cs := by
    by_cases h : kx ks i ≤ lo
    · rw [Int.max_eq_left h]; exact hlo
    · rw [Int.max_eq_right (by omega)]; exact hc i (by omega) (by omega) (by omega)
  have hc2 : min hi (kx ks (i + 1)) ∈ cornerL lo hi cs := by
    by_cases h : hi ≤ kx ks (i + 1)
    · rw [Int.min_eq_left h]; exact hhi
    · rw [Int.min_eq_right (by omega)]; exact hc (i + 1) hi1 (by omega) (by omega)
  have hl := lin_val hv hi1 (c1 := max lo (kx ks i)) (x := x) (c2 := min hi (kx ks (i + 1))) (by omega) (by omega) (by omega) (by omega)
  have p := fun y (hy : kx ks 0 ≤ y) => (show 0 < (fV ks y).2 from by have := (fV_frb hv hy).d1; omega)
  exact ⟨dom_lt hc1 hc2 (by omega) (by omega) hl (p _ (by omega)) (p _ (by omega)) (p _ (by omega)), dom_gt hc1 hc2 (by omega) (by omega) hl (p _ (by omega)) (p _ (by omega)) (p _ (by omega))⟩

/-- **Over by its corners is Over by all integers.** -/
theorem over_plain {ks : List (Int × Int)} {err lo hi : Int} (h : ovErr ks err lo hi = 0) : ovPk ks err lo hi = rpkV (fV ks) lo hi := by
  obtain ⟨hv, _, _, hlh, hlo, hhi⟩ := ov_valid h
  unfold ovPk
  rw [if_pos h]
  have hc : ∀ i, i < ks.length → lo ≤ kx ks i → kx ks i ≤ hi → kx ks i ∈ cornerL lo hi [cv0 ks 0] := fun i hi a b => corner_has (by
    unfold cornerXs inXss
    exact List.mem_cons_of_mem _ (List.mem_cons_of_mem _ (List.mem_append_left _ (inXs_has i hi a b))))
  unfold ovXs
  exact pk_same hlh (corner_inc _ _ _) (cornerL_pos _ _ _) (fun x hx => cornerL_mem hlh hx) (fun x a b => by have := (fV_frb hv (x := x) (by omega)).d1; omega)
    (fun x a b => (dom_val hv hlo hhi (cs := [cv0 ks 0]) hc a b).1) (fun x a b => (dom_val hv hlo hhi (cs := [cv0 ks 0]) hc a b).2)
end Go.Proofs.Ytipablcbkoedbaa
