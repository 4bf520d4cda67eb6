/- The plain law of CurveTruth. No program in sight. -/
import Derived.Test.YtipablcbkoedbaaO1
import Derived.Test.YtipablcbkoedbaaO3
import Derived.Test.YtipablcbkoedbaaH8
import Derived.Test.YtipablcbkoedbaaR1
namespace Go.Proofs.Ytipablcbkoedbaa
open Go.RowKit

theorem check_three (ks : List (Int × Int)) (err : Int) : check ks err = 0 ∨ check ks err = 1 ∨ check ks err = 2 := by
  unfold check
  repeat' split
  all_goals first | exact .inl rfl | exact .inr (.inl rfl) | exact .inr (.inr rfl)
theorem checkAll_three : ∀ cs : List CV, checkAll cs = 0 ∨ checkAll cs = 1 ∨ checkAll cs = 2
  | [] => .inl rfl
  | c :: cs => by
    unfold checkAll
    split
    · exact checkAll_three cs
    · exact check_three _ _
theorem checkAll_each : ∀ cs : List CV, checkAll cs = 0 → ∀ i, i < cs.length → check (cvks cs i) (cverr cs i) = 0
  | [], _, i, h => absurd h (by simp)
  | c :: cs, h, i, hi => by
    unfold checkAll at h
    by_cases hc : check c.ks c.err = 0
    · rw [if_pos hc] at h
      cases i with
      | zero => exact hc
      | succ i => exact checkAll_each cs h i (by simpa using hi)
    · rw [if_neg hc] at h; exact absurd h hc
theorem sh_check {cs : List CV} {x : Int} (h : shErr cs x = 0) : checkAll cs = 0 := by
  unfold shErr at h
  split at h
  · omega
  split at h
  · exact absurd h (by assumption)
  rename_i hc
  simpa using hc
theorem sh_val {cs : List CV} {x : Int} (h : shErr cs x = 0) {i : Nat} (hi : i < cs.length) : valErr (cvks cs i) (cverr cs i) x = 0 := by
  have o := sh_zero h
  have c := checkAll_each cs (sh_check h) i hi
  have a := o.lo i hi
  have b := o.hi i hi
  unfold valErr domLo domHi
  rw [if_neg (by simp [c]), if_pos ⟨a, b⟩]
theorem bo_sh {cs : List CV} {x : Int} (h : boErr cs x = 0 ∨ boErr cs x = 9) : shErr cs x = 0 := by
  unfold boErr at h
  by_cases hs : shErr cs x = 0
  · exact hs
  · rw [if_pos hs] at h
    have : shErr cs x ≠ 9 := by
      unfold shErr
      have := checkAll_three cs
      repeat' split
      all_goals omega
    omega
theorem bo_le {cs : List CV} {x : Int} (h : shErr cs x = 0) : boErr cs x = if gtF (boLo cs x) (boHi cs x) = true then 9 else 0 := by
  unfold boErr
  rw [if_neg (by simp [h])]

theorem bLo_pos {cs : List CV} {x : Int} (h : shErr cs x = 0) : (∀ z ∈ cs.map (bLo x), 0 < z.2) ∧ ∀ z ∈ cs.map (bHi x), 0 < z.2 := by
  have o := sh_zero h
  have k : ∀ c ∈ cs, 0 < valD c.ks x := fun c hc => by
    obtain ⟨i, hi, rfl⟩ := List.mem_iff_getElem.1 hc
    have e : cs.getD i ⟨none, 0, 0, 0, []⟩ = cs[i] := by simp [List.getD_eq_getElem?_getD, hi]
    have a := (o.all i hi).1
    have b := o.lo i hi
    unfold cvks at a b
    rw [e] at a b
    have := (val_bd a b).2.2.1
    omega
  refine ⟨fun z hz => ?_, fun z hz => ?_⟩ <;> (obtain ⟨c, hc, rfl⟩ := List.mem_map.1 hz; exact k c hc)
/-- The greatest low end is one of them, and none is greater; and the least high end. -/
theorem bo_ext {cs : List CV} {x : Int} (h : shErr cs x = 0) : (∃ i, i < cs.length ∧ boLo cs x = bLo x (cs.getD i ⟨none, 0, 0, 0, []⟩)) ∧ (∃ i, i < cs.length ∧ boHi cs x = bHi x (cs.getD i ⟨none, 0, 0, 0, []⟩)) ∧
    (∀ i, i < cs.length → gtF (bLo x (cs.getD i ⟨none, 0, 0, 0, []⟩)) (boLo cs x) = false) ∧ ∀ i, i < cs.length → ltF (bHi x (cs.getD i ⟨none, 0, 0, 0, []⟩)) (boHi cs x) = false := by
  obtain ⟨p1, p2⟩ := bLo_pos h
  have h0 := (sh_zero h).pos
  obtain ⟨j, hj, e1, e2⟩ := exGo_best cmp_gt (cs.map (bLo x)) (0, 0) p1 (cs.map (bLo x)).length (by simpa using h0) (Nat.le_refl _)
  obtain ⟨i, hi, f1, f2⟩ := exGo_best cmp_lt (cs.map (bHi x)) (0, 0) p2 (cs.map (bHi x)).length (by simpa using h0) (Nat.le_refl _)
  have hj' : j < cs.length := by simpa using hj
  have hi' : i < cs.length := by simpa using hi
  have a : ∀ k, k < cs.length → (cs.map (bLo x)).getD k (0, 0) = bLo x (cs.getD k ⟨none, 0, 0, 0, []⟩) := fun k hk => by simp [List.getD_eq_getElem?_getD, hk]
  have b : ∀ k, k < cs.length → (cs.map (bHi x)).getD k (0, 0) = bHi x (cs.getD k ⟨none, 0, 0, 0, []⟩) := fun k hk => by simp [List.getD_eq_getElem?_getD, hk]
  have g1 : boLo cs x = bLo x (cs.getD j ⟨none, 0, 0, 0, []⟩) := by unfold boLo extr; rw [e1]; exact a j hj'
  have g2 : boHi cs x = bHi x (cs.getD i ⟨none, 0, 0, 0, []⟩) := by unfold boHi extr; rw [f1]; exact b i hi'
  refine ⟨⟨j, hj', g1⟩, ⟨i, hi', g2⟩, fun k hk => ?_, fun k hk => ?_⟩
  · have := (e2 k (by simpa using hk)).1
    rw [a k hk, a j hj'] at this
    rw [g1]; exact this
  · have := (f2 k (by simpa using hk)).1
    rw [b k hk, b i hi'] at this
    rw [g2]; exact this

/-- A number within the errors of all lies in Both. -/
theorem truth_in {cs : List CV} {x : Int} (h : shErr cs x = 0) {t : Int × Int} (ht : 0 < t.2) (hin : ∀ i, i < cs.length → ltF t (bLo x (cs.getD i ⟨none, 0, 0, 0, []⟩)) = false ∧ ltF (bHi x (cs.getD i ⟨none, 0, 0, 0, []⟩)) t = false) :
    boErr cs x = 0 ∧ ltF t (boV cs x).1 = false ∧ ltF (boV cs x).2 t = false := by
  obtain ⟨⟨j, hj, e1⟩, ⟨i, hi, e2⟩, _, _⟩ := bo_ext h
  have a := (hin j hj).1
  have b := (hin i hi).2
  rw [← e1] at a
  rw [← e2] at b
  obtain ⟨p1, p2⟩ := bLo_pos h
  have q1 : 0 < (boLo cs x).2 := by rw [e1]; exact p1 _ (List.mem_map.2 ⟨_, getD_mem cs j _ hj, rfl⟩)
  have q2 : 0 < (boHi cs x).2 := by rw [e2]; exact p2 _ (List.mem_map.2 ⟨_, getD_mem cs i _ hi, rfl⟩)
  have hg : gtF (boLo cs x) (boHi cs x) = false := by
    rw [← lt_gt]
    exact cmp_lt.t3 (boLo cs x) t (boHi cs x) q1 ht q2 a b
  have he : boErr cs x = 0 := by rw [bo_le h, hg]; rfl
  refine ⟨he, ?_⟩
  unfold boV
  rw [if_pos he]
  exact ⟨a, b⟩

theorem mul_le_iff {a b c : Int} (hc : 0 < c) : a * c < b * c ↔ a < b := ⟨fun h => Int.lt_of_mul_lt_mul_right h (Int.le_of_lt hc), fun h => Int.mul_lt_mul_of_pos_right h hc⟩
/-- Two curves clash at an integer exactly if Both of them does. -/
theorem clash_two {c0 c1 : CV} {x : Int} (h : shErr [c0, c1] x = 0) : (boErr [c0, c1] x = 0 ∨ boErr [c0, c1] x = 9) ∧
    (boErr [c0, c1] x = 9 ↔ ((c0.err + c1.err) * dfD c0.ks c1.ks x < dfN c0.ks c1.ks x ∨ (c0.err + c1.err) * dfD c0.ks c1.ks x < -dfN c0.ks c1.ks x)) := by
  have o := sh_zero h
  have v0 : Valid c0.ks := (o.all 0 (by simp)).1
  have v1 : Valid c1.ks := (o.all 1 (by simp)).1
  have e0 : 0 ≤ c0.err := (o.all 0 (by simp)).2.1
  have e1 : 0 ≤ c1.err := (o.all 1 (by simp)).2.1
  have l0 : kx c0.ks 0 ≤ x := o.lo 0 (by simp)
  have l1 : kx c1.ks 0 ≤ x := o.lo 1 (by simp)
  have d0 := (val_bd v0 l0).2.2.1
  have d1 := (val_bd v1 l1).2.2.1
  obtain ⟨_, _, _, _, hD, _⟩ := df_bd v0 v1 l0 l1
  have hE := (fD_frb v0 v1 l0 l1).d1
  have hr := low_ratio (valN c0.ks x * valD c1.ks x - valN c1.ks x * valD c0.ks x) (valD c0.ks x * valD c1.ks x)
  have hr' : dfN c0.ks c1.ks x * (valD c0.ks x * valD c1.ks x) = (valN c0.ks x * valD c1.ks x - valN c1.ks x * valD c0.ks x) * dfD c0.ks c1.ks x := hr
  clear hr
  have hE' : 1 ≤ dfD c0.ks c1.ks x := hE
  obtain ⟨⟨j, hj, g1⟩, ⟨i, hi, g2⟩, k1, k2⟩ := bo_ext h
  have a0 := k1 0 (by simp)
  have a1 := k1 1 (by simp)
  have b0 := k2 0 (by simp)
  have b1 := k2 1 (by simp)
  have q0 : [c0, c1].getD 0 ⟨none, 0, 0, 0, []⟩ = c0 := rfl
  have q1 : [c0, c1].getD 1 ⟨none, 0, 0, 0, []⟩ = c1 := rfl
  rw [q0] at a0 b0
  rw [q1] at a1 b1
  obtain ⟨p1, p2⟩ := bLo_pos h
  have s1 : 0 < (boLo [c0, c1] x).2 := by rw [g1]; exact p1 _ (List.mem_map.2 ⟨_, getD_mem [c0, c1] j _ hj, rfl⟩)
  have s2 : 0 < (boHi [c0, c1] x).2 := by rw [g2]; exact p2 _ (List.mem_map.2 ⟨_, getD_mem [c0, c1] i _ hi, rfl⟩)
  have m1 : gtF (bLo x c0) (bHi x c1) = true ↔ (c0.err + c1.err) * dfD c0.ks c1.ks x < dfN c0.ks c1.ks x := by
    rw [gtF_iff]
    unfold bLo bHi
    dsimp only
    generalize valN c0.ks x = n0 at *
    generalize valD c0.ks x = b0' at *
    generalize valN c1.ks x = n1 at *
    generalize valD c1.ks x = b1' at *
    generalize dfN c0.ks c1.ks x = N at *
    generalize dfD c0.ks c1.ks x = D at *
    rw [← mul_le_iff (a := (c0.err + c1.err) * D) (b := N) (c := b0' * b1') (by omega), ← mul_le_iff (c := D) (by omega)]
    have z : (n0 + -c0.err * b0') * b1' * D - (n1 + c1.err * b1') * b0' * D = N * (b0' * b1') - (c0.err + c1.err) * D * (b0' * b1') := by rw [hr']; grind
    omega
  have m2 : gtF (bLo x c1) (bHi x c0) = true ↔ (c0.err + c1.err) * dfD c0.ks c1.ks x < -dfN c0.ks c1.ks x := by
    rw [gtF_iff]
    unfold bLo bHi
    dsimp only
    generalize valN c0.ks x = n0 at *
    generalize valD c0.ks x = b0' at *
    generalize valN c1.ks x = n1 at *
    generalize valD c1.ks x = b1' at *
    generalize dfN c0.ks c1.ks x = N at *
    generalize dfD c0.ks c1.ks x = D at *
    rw [← mul_le_iff (a := (c0.err + c1.err) * D) (b := -N) (c := b0' * b1') (by omega), ← mul_le_iff (c := D) (by omega)]
    have z : (n1 + -c1.err * b1') * b0' * D - (n0 + c0.err * b0') * b1' * D = -N * (b0' * b1') - (c0.err + c1.err) * D * (b0' * b1') := by grind
    omega
  have own : ∀ c : CV, 0 ≤ c.err → 0 < valD c.ks x → gtF (bLo x c) (bHi x c) = false := fun c hc hd => by
    rw [f_iff (gtF_iff _ _)]
    unfold bLo bHi
    dsimp only
    have : 0 ≤ c.err * (valD c.ks x * valD c.ks x) := Int.mul_nonneg hc (Int.mul_nonneg (by omega) (by omega))
    have z : (valN c.ks x + c.err * valD c.ks x) * valD c.ks x - (valN c.ks x + -c.err * valD c.ks x) * valD c.ks x = 2 * (c.err * (valD c.ks x * valD c.ks x)) := by grind
    omega
  rw [bo_le h]
  refine ⟨by split <;> omega, ?_⟩
  rw [← m1, ← m2]
  constructor
  · intro hk
    have hg : gtF (boLo [c0, c1] x) (boHi [c0, c1] x) = true := by
      by_cases c : gtF (boLo [c0, c1] x) (boHi [c0, c1] x) = true
      · exact c
      · rw [if_neg c] at hk; omega
    rw [g1, g2] at hg
    have hj2 : j = 0 ∨ j = 1 := by have : j < 2 := hj; omega
    have hi2 : i = 0 ∨ i = 1 := by have : i < 2 := hi; omega
    rcases hj2 with rfl | rfl <;> rcases hi2 with rfl | rfl
    · rw [q0, own c0 e0 (by omega)] at hg; cases hg
    · exact .inl hg
    · exact .inr hg
    · rw [q1, own c1 e1 (by omega)] at hg; cases hg
  · intro hk
    have pa : 0 < (bLo x c0).2 := by show 0 < valD c0.ks x; omega
    have pb : 0 < (bLo x c1).2 := by show 0 < valD c1.ks x; omega
    have pc : 0 < (bHi x c0).2 := by show 0 < valD c0.ks x; omega
    have pd : 0 < (bHi x c1).2 := by show 0 < valD c1.ks x; omega
    rw [if_pos]
    rcases hk with hk | hk
    · exact cmp_gt.t1 _ _ _ s1 pd s2 (cmp_gt.t2 _ _ _ s1 pa pd a0 hk) (by rw [← lt_gt]; exact b1)
    · exact cmp_gt.t1 _ _ _ s1 pc s2 (cmp_gt.t2 _ _ _ s1 pb pc a1 hk) (by rw [← lt_gt]; exact b0)

theorem sh_take {c0 c1 : CV} {cs : List CV} {x : Int} (h : shErr (c0 :: c1 :: cs) x = 0) : shErr [c0, c1] x = 0 := by
  have o := sh_zero h
  have c := checkAll_each _ (sh_check h)
  have k0 : check c0.ks c0.err = 0 := c 0 (by simp)
  have k1 : check c1.ks c1.err = 0 := c 1 (by simp)
  have hc : checkAll [c0, c1] = 0 := by unfold checkAll; rw [if_pos k0]; unfold checkAll; rw [if_pos k1]; rfl
  have hs := (sh_iff (cs := [c0, c1]) (x := x) (checkAll_zero _ hc) (by simp)).2 fun i hi => by
    have hi2 : i = 0 ∨ i = 1 := by have : i < 2 := hi; omega
    rcases hi2 with rfl | rfl
    · exact ⟨o.lo 0 (by simp), o.hi 0 (by simp)⟩
    · exact ⟨o.lo 1 (by simp), o.hi 1 (by simp)⟩
  unfold shErr
  rw [if_neg (by simp), if_neg (by simp [hc]), if_neg (by simp), if_pos hs]
/-- Where two curves clash, Clash finds it, or one ahead of it. -/
theorem clash_first {c0 c1 : CV} {x : Int} (h : shErr [c0, c1] x = 0) (hc : boErr [c0, c1] x = 9) : twErr c0.ks c1.ks c0.err c1.err = 0 ∧ ∃ z, clX c0.ks c1.ks c0.err c1.err = some z ∧ z ≤ x := by
  have o := sh_zero h
  have c := checkAll_each _ (sh_check h)
  have k0 : check c0.ks c0.err = 0 := c 0 (by simp)
  have k1 : check c1.ks c1.err = 0 := c 1 (by simp)
  have ht : twErr c0.ks c1.ks c0.err c1.err = 0 := by unfold twErr; rw [if_pos k0]; exact k1
  refine ⟨ht, ?_⟩
  have a0 : domLo c0.ks ≤ x := o.lo 0 (by simp)
  have a1 : domLo c1.ks ≤ x := o.lo 1 (by simp)
  have b0 : x ≤ domHi c0.ks := o.hi 0 (by simp)
  have b1 : x ≤ domHi c1.ks := o.hi 1 (by simp)
  have x0 := o.x0
  have x1 := o.x1
  have hlo : twLo c0.ks c1.ks ≤ x := by unfold twLo; omega
  have hhi : x ≤ twHi c0.ks c1.ks := by unfold twHi; omega
  have hm : mtB c0.ks c1.ks c0.err c1.err x = false := by
    unfold mtB
    rw [decide_eq_false_iff_not]
    have := ((clash_two h).2.1 hc)
    omega
  unfold clX
  rw [if_pos ht]
  obtain ⟨s1, s2⟩ := clG_spec (p := mtB c0.ks c1.ks c0.err c1.err) (lo := twLo c0.ks c1.ks) (twHi c0.ks c1.ks + 1 - twLo c0.ks c1.ks).toNat
  cases hg : clG (mtB c0.ks c1.ks c0.err c1.err) (twLo c0.ks c1.ks) (twHi c0.ks c1.ks + 1 - twLo c0.ks c1.ks).toNat with
  | none =>
    have := s1 hg x hlo (by omega)
    rw [hm] at this; cases this
  | some z =>
    refine ⟨z, rfl, ?_⟩
    obtain ⟨_, _, _, d⟩ := s2 z hg
    by_cases k : z ≤ x
    · exact k
    · have := d x hlo (by omega)
      rw [hm] at this; cases this
end Go.Proofs.Ytipablcbkoedbaa
