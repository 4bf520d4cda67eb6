/- The plain law of Apart: the extremes of the difference over the corners are those over all integers; what a peak over all integers tells. -/
import Derived.Test.YtipablcbkoedbaaJ2
import Derived.Test.YtipablcbkoedbaaC9
import Derived.Test.YtipablcbkoedbaaH3
namespace Go.Proofs.Ytipablcbkoedbaa
open Go.RowKit

theorem cancel_mul {N D n E P Q : Int} (hD : 0 < D) (h : N * D = n * E) (h2 : n * P = Q * D) : N * P = Q * E := by
  have h3 : D * (N * P) = D * (Q * E) := by grind
  exact Int.eq_of_mul_eq_mul_left (by omega) h3
theorem cross_mul {a b c d M M' l l' : Int} (e1 : a * M = l * b) (e2 : c * M' = l' * d) : (a * d - c * b) * (M * M') = (l * M' - l' * M) * (b * d) := by grind
/-- The difference of two lines. -/
def lineD (ks ks' : List (Int × Int)) (i i' : Nat) (x : Int) : Int := lineL ks i x * (kx ks' (i' + 1) - kx ks' i') - lineL ks' i' x * (kx ks (i + 1) - kx ks i)
theorem df_line {ks ks' : List (Int × Int)} (hv : Valid ks) (hv' : Valid ks') {i i' : Nat} (hi : i + 1 < ks.length) (hi' : i' + 1 < ks'.length) {x : Int} (h1 : kx ks i ≤ x) (h2 : x ≤ kx ks (i + 1)) (h1' : kx ks' i' ≤ x) (h2' : x ≤ kx ks' (i' + 1)) :
    dfN ks ks' x * ((kx ks (i + 1) - kx ks i) * (kx ks' (i' + 1) - kx ks' i')) = lineD ks ks' i i' x * dfD ks ks' x := by
  have h0 : kx ks 0 ≤ x := Int.le_trans (kx_mono hv i 0 (by omega) (by omega)) h1
  have h0' : kx ks' 0 ≤ x := Int.le_trans (kx_mono hv' i' 0 (by omega) (by omega)) h1'
  have hb := (val_bd hv h0).2.2.1
  have hb' := (val_bd hv' h0').2.2.1
  have hD : 0 < valD ks x * valD ks' x := Int.mul_pos (by omega) (by omega)
  unfold lineD
  exact cancel_mul hD (low_ratio _ _) (cross_mul (val_line hv hi h1 h2) (val_line hv' hi' h1' h2'))
theorem lineD_sub (ks ks' : List (Int × Int)) (i i' : Nat) (c1 x c2 : Int) : (lineD ks ks' i i' x - lineD ks ks' i i' c1) * (c2 - x) = (lineD ks ks' i i' c2 - lineD ks ks' i i' x) * (x - c1) := by
  unfold lineD lineL
  grind
theorem lin_df {ks ks' : List (Int × Int)} (hv : Valid ks) (hv' : Valid ks') {i i' : Nat} (hi : i + 1 < ks.length) (hi' : i' + 1 < ks'.length) {c1 x c2 : Int} (h1 : kx ks i ≤ c1) (h1' : kx ks' i' ≤ c1) (h2 : c1 < x) (h3 : x < c2) (h4 : c2 ≤ kx ks (i + 1)) (h4' : c2 ≤ kx ks' (i' + 1)) : Lin (fD ks ks') c1 x c2 := by
  have hu := hv.up i hi
  have hu' := hv'.up i' hi'
  exact ⟨(kx ks (i + 1) - kx ks i) * (kx ks' (i' + 1) - kx ks' i'), lineD ks ks' i i' c1, lineD ks ks' i i' x, lineD ks ks' i i' c2, Int.mul_pos (by omega) (by omega),
    df_line hv hv' hi hi' h1 (by omega) h1' (by omega), df_line hv hv' hi hi' (by omega) (by omega) (by omega) (by omega), df_line hv hv' hi hi' (by omega) h4 (by omega) h4', lineD_sub ks ks' i i' c1 x c2⟩

theorem dom_df {ks ks' : List (Int × Int)} (hv : Valid ks) (hv' : Valid ks') {lo hi : Int} (h0 : kx ks 0 ≤ lo) (h1 : hi ≤ kx ks (ks.length - 1)) (h0' : kx ks' 0 ≤ lo) (h1' : hi ≤ kx ks' (ks'.length - 1)) {cs : List CV}
    (hc : ∀ i, i < ks.length → lo ≤ kx ks i → kx ks i ≤ hi → kx ks i ∈ cornerL lo hi cs) (hc' : ∀ i, i < ks'.length → lo ≤ kx ks' i → kx ks' i ≤ hi → kx ks' i ∈ cornerL lo hi cs) {x : Int} (hx0 : lo ≤ x) (hx1 : x ≤ hi) :
    Dom ltF (fD ks ks') (cornerL lo hi cs) x ∧ Dom gtF (fD ks ks') (cornerL lo hi cs) x := by
  by_cases hA : x ∈ cornerL lo hi cs
  · exact ⟨.inl hA, .inl hA⟩
  have hlo : lo ∈ cornerL lo hi cs := corner_has (by simp [cornerXs])
  have hhi : hi ∈ cornerL lo hi cs := corner_has (by simp [cornerXs])
  have hxl : x ≠ lo := fun h => hA (h ▸ hlo)
  have hxh : x ≠ hi := fun h => hA (h ▸ hhi)
  obtain ⟨i, hi1, hi2, hi3⟩ := piece_in hv (x := x) (by omega) (by omega) (fun i hi e => hA (e ▸ hc i hi (by omega) (by omega)))
  obtain ⟨i', hi1', hi2', hi3'⟩ := piece_in hv' (x := x) (by omega) (by omega) (fun i hi e => hA (e ▸ hc' i hi (by omega) (by omega)))
  have m1 : lo < x := by omega
  have m2 : x < hi := by omega
  have hc1 : ∃ c, c ∈ cornerL lo hi cs ∧ kx ks i ≤ c ∧ kx ks' i' ≤ c ∧ c < x ∧ lo ≤ c := by
    by_cases a : kx ks i ≤ lo
    · by_cases b : kx ks' i' ≤ lo
      · exact ⟨lo, hlo, a, b, m1, Int.le_refl _⟩
      · exact ⟨_, hc' i' (by omega) (by omega) (by omega), by omega, Int.le_refl _, hi2', by omega⟩
    · by_cases b : kx ks' i' ≤ kx ks i
      · exact ⟨_, hc i (by omega) (by omega) (by omega), Int.le_refl _, b, hi2, by omega⟩
      · exact ⟨_, hc' i' (by omega) (by omega) (by omega), by omega, Int.le_refl _, hi2', by omega⟩
  have hc2 : ∃ c, c ∈ cornerL lo hi cs ∧ c ≤ kx ks (i + 1) ∧ c ≤ kx ks' (i' + 1) ∧ x < c ∧ c ≤ hi := by
    by_cases a : hi ≤ kx ks (i + 1)
    · by_cases b : hi ≤ kx ks' (i' + 1)
      · exact ⟨hi, hhi, a, b, m2, Int.le_refl _⟩
      · exact ⟨_, hc' (i' + 1) hi1' (by omega) (by omega), by omega, Int.le_refl _, hi3', by omega⟩
    · by_cases b : kx ks (i + 1) ≤ kx ks' (i' + 1)
      · exact ⟨_, hc (i + 1) hi1 (by omega) (by omega), Int.le_refl _, b, hi3, by omega⟩
      · exact ⟨_, hc' (i' + 1) hi1' (by omega) (by omega), by omega, Int.le_refl _, hi3', by omega⟩
  obtain ⟨c1, m3, a1, b1, d1, f1⟩ := hc1
  obtain ⟨c2, m4, a2, b2, d2, f2⟩ := hc2
  have hl := lin_df hv hv' hi1 hi1' a1 b1 d1 d2 a2 b2
  have p := fun y (hy : kx ks 0 ≤ y) (hy' : kx ks' 0 ≤ y) => (show 0 < (fD ks ks' y).2 from by have := (fD_frb hv hv' hy hy').d1; omega)
  exact ⟨dom_lt m3 m4 d1 d2 hl (p _ (by omega) (by omega)) (p _ (by omega) (by omega)) (p _ (by omega) (by omega)), dom_gt m3 m4 d1 d2 hl (p _ (by omega) (by omega)) (p _ (by omega) (by omega)) (p _ (by omega) (by omega))⟩

/-- **Apart by its corners is Apart by all integers.** -/
theorem apart_plain {ks ks' : List (Int × Int)} {err err' lo hi : Int} (h : apErr ks ks' err err' lo hi = 0) : apPk ks ks' err err' lo hi = rpkV (fD ks ks') lo hi := by
  obtain ⟨hv, hv', _, _, _, _, hlh, hlo, hhi, hlo', hhi'⟩ := ap_valid h
  unfold apPk
  rw [if_pos h]
  have hc : ∀ i, i < ks.length → lo ≤ kx ks i → kx ks i ≤ hi → kx ks i ∈ cornerL lo hi [cv0 ks 0, cv0 ks' 0] := fun i hi a b => corner_has (by
    unfold cornerXs inXss
    exact List.mem_cons_of_mem _ (List.mem_cons_of_mem _ (List.mem_append_left _ (inXs_has i hi a b))))
  have hc' : ∀ i, i < ks'.length → lo ≤ kx ks' i → kx ks' i ≤ hi → kx ks' i ∈ cornerL lo hi [cv0 ks 0, cv0 ks' 0] := fun i hi a b => corner_has (by
    unfold cornerXs inXss inXss
    exact List.mem_cons_of_mem _ (List.mem_cons_of_mem _ (List.mem_append_right _ (List.mem_append_left _ (inXs_has i hi a b)))))
  unfold apXs
  exact pk_same hlh (corner_inc _ _ _) (cornerL_pos _ _ _) (fun x hx => cornerL_mem hlh hx) (fun x a b => by have := (fD_frb hv hv' (x := x) (by omega) (by omega)).d1; omega)
    (fun x a b => (dom_df hv hv' hlo hhi hlo' hhi' hc hc' a b).1) (fun x a b => (dom_df hv hv' hlo hhi hlo' hhi' hc hc' a b).2)

/-- What a peak over all integers tells. -/
structure PkOk (f : Int → Int × Int) (lo hi : Int) (p : Pk) : Prop where
  l1 : lo ≤ p.la
  l2 : p.la ≤ hi
  h1 : lo ≤ p.ha
  h2 : p.ha ≤ hi
  el : (p.ln, p.ld) = f p.la
  eh : (p.hn, p.hd) = f p.ha
  ll : ∀ x, lo ≤ x → x ≤ hi → ltF (f x) (p.ln, p.ld) = false
  hh : ∀ x, lo ≤ x → x ≤ hi → ltF (p.hn, p.hd) (f x) = false
theorem lt_gt (a b : Int × Int) : ltF a b = gtF b a := by
  rw [Bool.eq_iff_iff, ltF_iff, gtF_iff]
theorem rpk_ok {f : Int → Int × Int} {lo hi : Int} (hlh : lo ≤ hi) (hp : ∀ x, lo ≤ x → x ≤ hi → 0 < (f x).2) : PkOk f lo hi (rpkV f lo hi) := by
  have hB0 : 0 < (intsOf lo hi).length := by simp [intsOf]; omega
  have hpB : ∀ x ∈ intsOf lo hi, 0 < (f x).2 := fun x hx => hp x (mem_ints.1 hx).1 (mem_ints.1 hx).2
  have hlen : (intsOf lo hi).length = (hi + 1 - lo).toNat := by simp [intsOf]
  obtain ⟨j, hj, ej, hbj⟩ := best_exGo cmp_lt f _ (ints_inc lo hi) hpB hB0
  obtain ⟨i, hi', ei, hbi⟩ := best_exGo cmp_gt f _ (ints_inc lo hi) hpB hB0
  rw [ints_at lo hi j hj] at ej hbj
  rw [ints_at lo hi i hi'] at ei hbi
  unfold rpkV
  rw [ej, ei]
  rw [hlen] at hj hi'
  refine ⟨?_, ?_, ?_, ?_, rfl, rfl, fun x a b => (hbj.all x (mem_ints.2 ⟨a, b⟩)).1, fun x a b => ?_⟩
  · show lo ≤ lo + (j : Int); omega
  · show lo + (j : Int) ≤ hi; omega
  · show lo ≤ lo + (i : Int); omega
  · show lo + (i : Int) ≤ hi; omega
  · rw [lt_gt]; exact (hbi.all x (mem_ints.2 ⟨a, b⟩)).1
end Go.Proofs.Ytipablcbkoedbaa
