/- CurveKeeps is proved: for every curve, another one, some X, a span and an integer: Refine, Thin and Cut have the same values, Refine and Thin are Same as the curve, Thin of Refine is Thin, and what Minus takes from Add has the values of the other curve. No condition. -/
import Derived.WalkKit
import Derived.WalkLawsBesides
import Derived.Deep.QuietTactic
import Derived.BigQuiet
import Derived.RegionTactic
import Derived.Lib.Hide
import Derived.Outline
import Derived.WalkSmall
import Derived.IntWalk
import Derived.Lib.SmallJoins
import Derived.Deep.DeepCutAuto
import Derived.Test.YtipablcbkoedbaaP15b
import Derived.Test.YtipablcbkoedbaaProg
import Derived.Test.YtipablcbkoedbaaF3
import Derived.Test.YtipablcbkoedbaaRow4
namespace Go.Proofs.Ytipablcbkoedbaa
open Go.RowKit Go.WideShapes Go.ChangeShapes Go.Joins

theorem keep_add {ks ks' : List (Int × Int)} {err err' : Int} (h : jnErr (fun a b => a + b) ks ks' err err' = 0) (x : Int) :
    valErr ks err x = valErr ks' err' x ∧ valErr ks err x = valErr (jnR (fun a b => a + b) ks ks' err err') (jnF (fun a b => a + b) ks ks' err err') x ∧
    (valErr ks err x = 0 → vN (jnR (fun a b => a + b) ks ks' err err') (jnF (fun a b => a + b) ks ks' err err') x * vD ks err x * vD ks' err' x = (vN ks err x * vD ks' err' x + vN ks' err' x * vD ks err x) * vD (jnR (fun a b => a + b) ks ks' err err') (jnF (fun a b => a + b) ks ks' err err') x ∧
      ((-131072000 ≤ vN ks err x ∧ vN ks err x ≤ 131072000) ∧ 1 ≤ vD ks err x ∧ vD ks err x ≤ 2000) ∧ ((-131072000 ≤ vN ks' err' x ∧ vN ks' err' x ≤ 131072000) ∧ 1 ≤ vD ks' err' x ∧ vD ks' err' x ≤ 2000) ∧
      ((-131072000 ≤ vN (jnR (fun a b => a + b) ks ks' err err') (jnF (fun a b => a + b) ks ks' err err') x ∧ vN (jnR (fun a b => a + b) ks ks' err err') (jnF (fun a b => a + b) ks ks' err err') x ≤ 131072000) ∧ 1 ≤ vD (jnR (fun a b => a + b) ks ks' err err') (jnF (fun a b => a + b) ks ks' err err') x ∧ vD (jnR (fun a b => a + b) ks ks' err err') (jnF (fun a b => a + b) ks ks' err err') x ≤ 2000)) ∧
    (jnErr (fun a b => a - b) (jnR (fun a b => a + b) ks ks' err err') ks' (jnF (fun a b => a + b) ks ks' err err') err' = 0 →
      vdT ks (jnR (fun a b => a - b) (jnR (fun a b => a + b) ks ks' err err') ks' (jnF (fun a b => a + b) ks ks' err err') err') err (jnF (fun a b => a - b) (jnR (fun a b => a + b) ks ks' err err') ks' (jnF (fun a b => a + b) ks ks' err err') err') x) := by
  obtain ⟨_, _, _, _, e1, e2⟩ := jn_zero h
  have hs := keep_sum h x
  rw [e1, e2]
  exact ⟨hs.ek, hs.es, fun hz => ⟨hs.eq hz, hs.bd hz _ _ (.inl ⟨rfl, rfl⟩), hs.bd hz _ _ (.inr (.inl ⟨rfl, rfl⟩)), hs.bd hz _ _ (.inr (.inr ⟨rfl, rfl⟩))⟩, fun h2 => keep_back h h2 x⟩

set_option maxRecDepth 100000 in
set_option maxHeartbeats 12800000 in
theorem curveKeeps_walk (A A' : Option Addr) (n cap n' cap' : Nat) (err err' : Int) (ks ks' : List (Int × Int)) (B : Option Addr) (m bc : Nat) (xs : List Int) (lo hi x : Int) (w : World) (h : CAt w A n ks) (hm : n ≤ 9223372036854775807) (h' : CAt w A' n' ks') (hm' : n' ≤ 9223372036854775807) (hi' : IAt w B m xs) (hmm : m ≤ 9223372036854775807) :
    Calls Try.prog 16 #[vCv A n cap err, vCv A' n' cap' err', .slice B m bc, vSpan lo hi, .int .i64 x] w fun e w' => e = .returned (.bool true) ∧ Below w.heap.size w w' := by
  have HH := Lib.hid head_any
  have HA := Lib.hid h
  have HA' := Lib.hid h'
  have HB := Lib.hid hi'
  by_cases hn : n ≤ 60
  case neg =>
    have HF := Lib.hid (fun W => calls_val (few_any A n cap err W hm) (v' := .bool false) (by rw [decide_eq_false hn]))
    clear h h' hi'
    generalize hW : ((w.alloc (.cells #[.slice A n cap, .int .i64 err] 24)).alloc (.cells #[.slice A' n' cap', .int .i64 err'] 24)).alloc (.cells #[.int .i64 lo, .int .i64 hi] 26) = W
    have B0 : Below w.heap.size w W := by rw [← hW]; exact ((((Below.refl w.heap.size w).alloc (Nat.le_refl _) _).alloc (by simp) _).alloc (by simp; omega) _)
    have x0_0 : Blk W w.heap.size 24 #[.slice A n cap, .int .i64 err] := by rw [← hW]; exact (((Blk.at_new _ _ rfl).alloc _).alloc _)
    have x1_0 : Blk W (w.heap.size + 1) 24 #[.slice A' n' cap', .int .i64 err'] := by rw [← hW]; exact ((Blk.at_new _ _ (by simp)).alloc _)
    have x3_0 : Blk W (w.heap.size + 2) 26 #[.int .i64 lo, .int .i64 hi] := by rw [← hW]; exact (Blk.at_new _ _ (by simp))
    have HWE := Lib.hid hW
    clear hW
    go_enter Try.func16, Try.ntmps16
    have B1 := B0
    go_wp2_with fail
    rw [HWE.out]
    refine (HH.out _).mono ?_; rintro e w1 ⟨rfl, hb1⟩
    have x0_1 := x0_0.below hb1
    have x1_1 := x1_0.below hb1
    have x3_1 := x3_0.below hb1
    clear x0_0 x1_0 x3_0
    have x0_1c0 := x0_1.cell 0
    have x0_1c1 := x0_1.cell 1
    simp only [List.getElem?_toArray, List.getElem?_cons_zero, List.getElem?_cons_succ] at x0_1c0 x0_1c1
    have x0_1l := x0_1.lt
    have x1_1c0 := x1_1.cell 0
    have x1_1c1 := x1_1.cell 1
    simp only [List.getElem?_toArray, List.getElem?_cons_zero, List.getElem?_cons_succ] at x1_1c0 x1_1c1
    have x1_1l := x1_1.lt
    have x3_1c0 := x3_1.cell 0
    have x3_1c1 := x3_1.cell 1
    simp only [List.getElem?_toArray, List.getElem?_cons_zero, List.getElem?_cons_succ] at x3_1c0 x3_1c1
    have x3_1l := x3_1.lt
    have B2 := B1.trans (hb1.mono B1.size)
    go_wp2_with fail
    refine (HF.out _).mono ?_; rintro e w2 ⟨rfl, hb2⟩
    clear x0_1c0 x0_1c1 x0_1l x1_1c0 x1_1c1 x1_1l x3_1c0 x3_1c1 x3_1l
    have x0_2 := x0_1.below hb2
    have x1_2 := x1_1.below hb2
    have x3_2 := x3_1.below hb2
    clear x0_1 x1_1 x3_1
    have x0_2c0 := x0_2.cell 0
    have x0_2c1 := x0_2.cell 1
    simp only [List.getElem?_toArray, List.getElem?_cons_zero, List.getElem?_cons_succ] at x0_2c0 x0_2c1
    have x0_2l := x0_2.lt
    have x1_2c0 := x1_2.cell 0
    have x1_2c1 := x1_2.cell 1
    simp only [List.getElem?_toArray, List.getElem?_cons_zero, List.getElem?_cons_succ] at x1_2c0 x1_2c1
    have x1_2l := x1_2.lt
    have x3_2c0 := x3_2.cell 0
    have x3_2c1 := x3_2.cell 1
    simp only [List.getElem?_toArray, List.getElem?_cons_zero, List.getElem?_cons_succ] at x3_2c0 x3_2c1
    have x3_2l := x3_2.lt
    go_wp2
    go_ret
    exact ⟨rfl, B2.trans (hb2.mono B2.size)⟩
  have HF := Lib.hid (fun W => calls_val (few_any A n cap err W hm) (v' := .bool true) (by rw [decide_eq_true hn]))
  by_cases hn' : n' ≤ 60
  case neg =>
    have HF' := Lib.hid (fun W => calls_val (few_any A' n' cap' err' W hm') (v' := .bool false) (by rw [decide_eq_false hn']))
    clear h h' hi'
    generalize hW : ((w.alloc (.cells #[.slice A n cap, .int .i64 err] 24)).alloc (.cells #[.slice A' n' cap', .int .i64 err'] 24)).alloc (.cells #[.int .i64 lo, .int .i64 hi] 26) = W
    have B0 : Below w.heap.size w W := by rw [← hW]; exact ((((Below.refl w.heap.size w).alloc (Nat.le_refl _) _).alloc (by simp) _).alloc (by simp; omega) _)
    have x0_0 : Blk W w.heap.size 24 #[.slice A n cap, .int .i64 err] := by rw [← hW]; exact (((Blk.at_new _ _ rfl).alloc _).alloc _)
    have x1_0 : Blk W (w.heap.size + 1) 24 #[.slice A' n' cap', .int .i64 err'] := by rw [← hW]; exact ((Blk.at_new _ _ (by simp)).alloc _)
    have x3_0 : Blk W (w.heap.size + 2) 26 #[.int .i64 lo, .int .i64 hi] := by rw [← hW]; exact (Blk.at_new _ _ (by simp))
    have HWE := Lib.hid hW
    clear hW
    go_enter Try.func16, Try.ntmps16
    have B1 := B0
    go_wp2_with fail
    rw [HWE.out]
    refine (HH.out _).mono ?_; rintro e w1 ⟨rfl, hb1⟩
    have x0_1 := x0_0.below hb1
    have x1_1 := x1_0.below hb1
    have x3_1 := x3_0.below hb1
    clear x0_0 x1_0 x3_0
    have x0_1c0 := x0_1.cell 0
    have x0_1c1 := x0_1.cell 1
    simp only [List.getElem?_toArray, List.getElem?_cons_zero, List.getElem?_cons_succ] at x0_1c0 x0_1c1
    have x0_1l := x0_1.lt
    have x1_1c0 := x1_1.cell 0
    have x1_1c1 := x1_1.cell 1
    simp only [List.getElem?_toArray, List.getElem?_cons_zero, List.getElem?_cons_succ] at x1_1c0 x1_1c1
    have x1_1l := x1_1.lt
    have x3_1c0 := x3_1.cell 0
    have x3_1c1 := x3_1.cell 1
    simp only [List.getElem?_toArray, List.getElem?_cons_zero, List.getElem?_cons_succ] at x3_1c0 x3_1c1
    have x3_1l := x3_1.lt
    have B2 := B1.trans (hb1.mono B1.size)
    go_wp2_with fail
    refine (HF.out _).mono ?_; rintro e w2 ⟨rfl, hb2⟩
    clear x0_1c0 x0_1c1 x0_1l x1_1c0 x1_1c1 x1_1l x3_1c0 x3_1c1 x3_1l
    have x0_2 := x0_1.below hb2
    have x1_2 := x1_1.below hb2
    have x3_2 := x3_1.below hb2
    clear x0_1 x1_1 x3_1
    have x0_2c0 := x0_2.cell 0
    have x0_2c1 := x0_2.cell 1
    simp only [List.getElem?_toArray, List.getElem?_cons_zero, List.getElem?_cons_succ] at x0_2c0 x0_2c1
    have x0_2l := x0_2.lt
    have x1_2c0 := x1_2.cell 0
    have x1_2c1 := x1_2.cell 1
    simp only [List.getElem?_toArray, List.getElem?_cons_zero, List.getElem?_cons_succ] at x1_2c0 x1_2c1
    have x1_2l := x1_2.lt
    have x3_2c0 := x3_2.cell 0
    have x3_2c1 := x3_2.cell 1
    simp only [List.getElem?_toArray, List.getElem?_cons_zero, List.getElem?_cons_succ] at x3_2c0 x3_2c1
    have x3_2l := x3_2.lt
    have B3 := B2.trans (hb2.mono B2.size)
    go_wp2_with fail
    refine (HF'.out _).mono ?_; rintro e w3 ⟨rfl, hb3⟩
    clear x0_2c0 x0_2c1 x0_2l x1_2c0 x1_2c1 x1_2l x3_2c0 x3_2c1 x3_2l
    have x0_3 := x0_2.below hb3
    have x1_3 := x1_2.below hb3
    have x3_3 := x3_2.below hb3
    clear x0_2 x1_2 x3_2
    have x0_3c0 := x0_3.cell 0
    have x0_3c1 := x0_3.cell 1
    simp only [List.getElem?_toArray, List.getElem?_cons_zero, List.getElem?_cons_succ] at x0_3c0 x0_3c1
    have x0_3l := x0_3.lt
    have x1_3c0 := x1_3.cell 0
    have x1_3c1 := x1_3.cell 1
    simp only [List.getElem?_toArray, List.getElem?_cons_zero, List.getElem?_cons_succ] at x1_3c0 x1_3c1
    have x1_3l := x1_3.lt
    have x3_3c0 := x3_3.cell 0
    have x3_3c1 := x3_3.cell 1
    simp only [List.getElem?_toArray, List.getElem?_cons_zero, List.getElem?_cons_succ] at x3_3c0 x3_3c1
    have x3_3l := x3_3.lt
    go_wp2
    go_ret
    exact ⟨rfl, B3.trans (hb3.mono B3.size)⟩
  have HF' := Lib.hid (fun W => calls_val (few_any A' n' cap' err' W hm') (v' := .bool true) (by rw [decide_eq_true hn']))
  by_cases hm8 : m ≤ 80
  case neg =>
    clear h h' hi'
    generalize hW : ((w.alloc (.cells #[.slice A n cap, .int .i64 err] 24)).alloc (.cells #[.slice A' n' cap', .int .i64 err'] 24)).alloc (.cells #[.int .i64 lo, .int .i64 hi] 26) = W
    have B0 : Below w.heap.size w W := by rw [← hW]; exact ((((Below.refl w.heap.size w).alloc (Nat.le_refl _) _).alloc (by simp) _).alloc (by simp; omega) _)
    have x0_0 : Blk W w.heap.size 24 #[.slice A n cap, .int .i64 err] := by rw [← hW]; exact (((Blk.at_new _ _ rfl).alloc _).alloc _)
    have x1_0 : Blk W (w.heap.size + 1) 24 #[.slice A' n' cap', .int .i64 err'] := by rw [← hW]; exact ((Blk.at_new _ _ (by simp)).alloc _)
    have x3_0 : Blk W (w.heap.size + 2) 26 #[.int .i64 lo, .int .i64 hi] := by rw [← hW]; exact (Blk.at_new _ _ (by simp))
    have HWE := Lib.hid hW
    clear hW
    go_enter Try.func16, Try.ntmps16
    have B1 := B0
    go_wp2_with fail
    rw [HWE.out]
    refine (HH.out _).mono ?_; rintro e w1 ⟨rfl, hb1⟩
    have x0_1 := x0_0.below hb1
    have x1_1 := x1_0.below hb1
    have x3_1 := x3_0.below hb1
    clear x0_0 x1_0 x3_0
    have x0_1c0 := x0_1.cell 0
    have x0_1c1 := x0_1.cell 1
    simp only [List.getElem?_toArray, List.getElem?_cons_zero, List.getElem?_cons_succ] at x0_1c0 x0_1c1
    have x0_1l := x0_1.lt
    have x1_1c0 := x1_1.cell 0
    have x1_1c1 := x1_1.cell 1
    simp only [List.getElem?_toArray, List.getElem?_cons_zero, List.getElem?_cons_succ] at x1_1c0 x1_1c1
    have x1_1l := x1_1.lt
    have x3_1c0 := x3_1.cell 0
    have x3_1c1 := x3_1.cell 1
    simp only [List.getElem?_toArray, List.getElem?_cons_zero, List.getElem?_cons_succ] at x3_1c0 x3_1c1
    have x3_1l := x3_1.lt
    have B2 := B1.trans (hb1.mono B1.size)
    go_wp2_with fail
    refine (HF.out _).mono ?_; rintro e w2 ⟨rfl, hb2⟩
    clear x0_1c0 x0_1c1 x0_1l x1_1c0 x1_1c1 x1_1l x3_1c0 x3_1c1 x3_1l
    have x0_2 := x0_1.below hb2
    have x1_2 := x1_1.below hb2
    have x3_2 := x3_1.below hb2
    clear x0_1 x1_1 x3_1
    have x0_2c0 := x0_2.cell 0
    have x0_2c1 := x0_2.cell 1
    simp only [List.getElem?_toArray, List.getElem?_cons_zero, List.getElem?_cons_succ] at x0_2c0 x0_2c1
    have x0_2l := x0_2.lt
    have x1_2c0 := x1_2.cell 0
    have x1_2c1 := x1_2.cell 1
    simp only [List.getElem?_toArray, List.getElem?_cons_zero, List.getElem?_cons_succ] at x1_2c0 x1_2c1
    have x1_2l := x1_2.lt
    have x3_2c0 := x3_2.cell 0
    have x3_2c1 := x3_2.cell 1
    simp only [List.getElem?_toArray, List.getElem?_cons_zero, List.getElem?_cons_succ] at x3_2c0 x3_2c1
    have x3_2l := x3_2.lt
    have B3 := B2.trans (hb2.mono B2.size)
    go_wp2_with fail
    refine (HF'.out _).mono ?_; rintro e w3 ⟨rfl, hb3⟩
    clear x0_2c0 x0_2c1 x0_2l x1_2c0 x1_2c1 x1_2l x3_2c0 x3_2c1 x3_2l
    have x0_3 := x0_2.below hb3
    have x1_3 := x1_2.below hb3
    have x3_3 := x3_2.below hb3
    clear x0_2 x1_2 x3_2
    have x0_3c0 := x0_3.cell 0
    have x0_3c1 := x0_3.cell 1
    simp only [List.getElem?_toArray, List.getElem?_cons_zero, List.getElem?_cons_succ] at x0_3c0 x0_3c1
    have x0_3l := x0_3.lt
    have x1_3c0 := x1_3.cell 0
    have x1_3c1 := x1_3.cell 1
    simp only [List.getElem?_toArray, List.getElem?_cons_zero, List.getElem?_cons_succ] at x1_3c0 x1_3c1
    have x1_3l := x1_3.lt
    have x3_3c0 := x3_3.cell 0
    have x3_3c1 := x3_3.cell 1
    simp only [List.getElem?_toArray, List.getElem?_cons_zero, List.getElem?_cons_succ] at x3_3c0 x3_3c1
    have x3_3l := x3_3.lt
    go_wp2
    go_ret
    exact ⟨rfl, B3.trans (hb3.mono B3.size)⟩
  have HTh0 := fun W (hW : CAt W A n ks) => Thin_any A n cap err ks W hW hm
  by_cases hc : check ks err = 0
  case neg =>
    have hc1 : (check ks err != 0) = true := by simpa using hc
    have HTh := Lib.hid HTh0
    clear h h' hi' HTh0 hc
    generalize check ks err = ce at *
    generalize tnR ks err = tr at *
    generalize tnF ks err = tf at *
    generalize hW : ((w.alloc (.cells #[.slice A n cap, .int .i64 err] 24)).alloc (.cells #[.slice A' n' cap', .int .i64 err'] 24)).alloc (.cells #[.int .i64 lo, .int .i64 hi] 26) = W
    have B0 : Below w.heap.size w W := by rw [← hW]; exact ((((Below.refl w.heap.size w).alloc (Nat.le_refl _) _).alloc (by simp) _).alloc (by simp; omega) _)
    have x0_0 : Blk W w.heap.size 24 #[.slice A n cap, .int .i64 err] := by rw [← hW]; exact (((Blk.at_new _ _ rfl).alloc _).alloc _)
    have x1_0 : Blk W (w.heap.size + 1) 24 #[.slice A' n' cap', .int .i64 err'] := by rw [← hW]; exact ((Blk.at_new _ _ (by simp)).alloc _)
    have x3_0 : Blk W (w.heap.size + 2) 26 #[.int .i64 lo, .int .i64 hi] := by rw [← hW]; exact (Blk.at_new _ _ (by simp))
    have HWE := Lib.hid hW
    clear hW
    go_enter Try.func16, Try.ntmps16
    have B1 := B0
    go_wp2_with fail
    rw [HWE.out]
    refine (HH.out _).mono ?_; rintro e w1 ⟨rfl, hb1⟩
    have x0_1 := x0_0.below hb1
    have x1_1 := x1_0.below hb1
    have x3_1 := x3_0.below hb1
    clear x0_0 x1_0 x3_0
    have x0_1c0 := x0_1.cell 0
    have x0_1c1 := x0_1.cell 1
    simp only [List.getElem?_toArray, List.getElem?_cons_zero, List.getElem?_cons_succ] at x0_1c0 x0_1c1
    have x0_1l := x0_1.lt
    have x1_1c0 := x1_1.cell 0
    have x1_1c1 := x1_1.cell 1
    simp only [List.getElem?_toArray, List.getElem?_cons_zero, List.getElem?_cons_succ] at x1_1c0 x1_1c1
    have x1_1l := x1_1.lt
    have x3_1c0 := x3_1.cell 0
    have x3_1c1 := x3_1.cell 1
    simp only [List.getElem?_toArray, List.getElem?_cons_zero, List.getElem?_cons_succ] at x3_1c0 x3_1c1
    have x3_1l := x3_1.lt
    have B2 := B1.trans (hb1.mono B1.size)
    go_wp2_with fail
    refine (HF.out _).mono ?_; rintro e w2 ⟨rfl, hb2⟩
    clear x0_1c0 x0_1c1 x0_1l x1_1c0 x1_1c1 x1_1l x3_1c0 x3_1c1 x3_1l
    have x0_2 := x0_1.below hb2
    have x1_2 := x1_1.below hb2
    have x3_2 := x3_1.below hb2
    clear x0_1 x1_1 x3_1
    have x0_2c0 := x0_2.cell 0
    have x0_2c1 := x0_2.cell 1
    simp only [List.getElem?_toArray, List.getElem?_cons_zero, List.getElem?_cons_succ] at x0_2c0 x0_2c1
    have x0_2l := x0_2.lt
    have x1_2c0 := x1_2.cell 0
    have x1_2c1 := x1_2.cell 1
    simp only [List.getElem?_toArray, List.getElem?_cons_zero, List.getElem?_cons_succ] at x1_2c0 x1_2c1
    have x1_2l := x1_2.lt
    have x3_2c0 := x3_2.cell 0
    have x3_2c1 := x3_2.cell 1
    simp only [List.getElem?_toArray, List.getElem?_cons_zero, List.getElem?_cons_succ] at x3_2c0 x3_2c1
    have x3_2l := x3_2.lt
    have B3 := B2.trans (hb2.mono B2.size)
    go_wp2_with fail
    refine (HF'.out _).mono ?_; rintro e w3 ⟨rfl, hb3⟩
    clear x0_2c0 x0_2c1 x0_2l x1_2c0 x1_2c1 x1_2l x3_2c0 x3_2c1 x3_2l
    have x0_3 := x0_2.below hb3
    have x1_3 := x1_2.below hb3
    have x3_3 := x3_2.below hb3
    clear x0_2 x1_2 x3_2
    have x0_3c0 := x0_3.cell 0
    have x0_3c1 := x0_3.cell 1
    simp only [List.getElem?_toArray, List.getElem?_cons_zero, List.getElem?_cons_succ] at x0_3c0 x0_3c1
    have x0_3l := x0_3.lt
    have x1_3c0 := x1_3.cell 0
    have x1_3c1 := x1_3.cell 1
    simp only [List.getElem?_toArray, List.getElem?_cons_zero, List.getElem?_cons_succ] at x1_3c0 x1_3c1
    have x1_3l := x1_3.lt
    have x3_3c0 := x3_3.cell 0
    have x3_3c1 := x3_3.cell 1
    simp only [List.getElem?_toArray, List.getElem?_cons_zero, List.getElem?_cons_succ] at x3_3c0 x3_3c1
    have x3_3l := x3_3.lt
    have B4 := B3.trans (hb3.mono B3.size)
    go_wp2_with fail
    refine (HTh.out _ (HA.out.below B4)).mono ?_; rintro e w4 ⟨A1, n1, cap1, rfl, hC1, hN1, _, hb4⟩
    clear x0_3c0 x0_3c1 x0_3l x1_3c0 x1_3c1 x1_3l x3_3c0 x3_3c1 x3_3l
    have x0_4 := x0_3.below hb4
    have x1_4 := x1_3.below hb4
    have x3_4 := x3_3.below hb4
    clear x0_3 x1_3 x3_3
    have x0_4c0 := x0_4.cell 0
    have x0_4c1 := x0_4.cell 1
    simp only [List.getElem?_toArray, List.getElem?_cons_zero, List.getElem?_cons_succ] at x0_4c0 x0_4c1
    have x0_4l := x0_4.lt
    have x1_4c0 := x1_4.cell 0
    have x1_4c1 := x1_4.cell 1
    simp only [List.getElem?_toArray, List.getElem?_cons_zero, List.getElem?_cons_succ] at x1_4c0 x1_4c1
    have x1_4l := x1_4.lt
    have x3_4c0 := x3_4.cell 0
    have x3_4c1 := x3_4.cell 1
    simp only [List.getElem?_toArray, List.getElem?_cons_zero, List.getElem?_cons_succ] at x3_4c0 x3_4c1
    have x3_4l := x3_4.lt
    clear hC1
    have B5 := B4.trans (hb4.mono B4.size)
    have B5a := B5.alloc B5.size (.cells #[.slice A1 n1 cap1, .int .i64 tf] 24)
    go_upto_if 55 with fail
    clear x0_4c0 x0_4c1 x0_4l x1_4c0 x1_4c1 x1_4l x3_4c0 x3_4c1 x3_4l
    have x0_5 := (x0_4.alloc (.cells #[.slice A1 n1 cap1, .int .i64 tf] 24))
    have x1_5 := (x1_4.alloc (.cells #[.slice A1 n1 cap1, .int .i64 tf] 24))
    have x3_5 := (x3_4.alloc (.cells #[.slice A1 n1 cap1, .int .i64 tf] 24))
    clear x0_4 x1_4 x3_4
    have t_5 := (Blk.new w4 24 #[.slice A1 n1 cap1, .int .i64 tf])
    generalize hV5 : w4.alloc (.cells #[.slice A1 n1 cap1, .int .i64 tf] 24) = V5 at *
    generalize hg5 : w4.heap.size = g5 at *
    clear hV5 hg5
    have x0_5c0 := x0_5.cell 0
    have x0_5c1 := x0_5.cell 1
    simp only [List.getElem?_toArray, List.getElem?_cons_zero, List.getElem?_cons_succ] at x0_5c0 x0_5c1
    have x0_5l := x0_5.lt
    have x1_5c0 := x1_5.cell 0
    have x1_5c1 := x1_5.cell 1
    simp only [List.getElem?_toArray, List.getElem?_cons_zero, List.getElem?_cons_succ] at x1_5c0 x1_5c1
    have x1_5l := x1_5.lt
    have x3_5c0 := x3_5.cell 0
    have x3_5c1 := x3_5.cell 1
    simp only [List.getElem?_toArray, List.getElem?_cons_zero, List.getElem?_cons_succ] at x3_5c0 x3_5c1
    have x3_5l := x3_5.lt
    have t_5c0 := t_5.cell 0
    have t_5c1 := t_5.cell 1
    simp only [List.getElem?_toArray, List.getElem?_cons_zero, List.getElem?_cons_succ] at t_5c0 t_5c1
    have t_5l := t_5.lt
    go_wp2
    go_ret
    exact ⟨rfl, B5a⟩
  rw [show tnR ks err = thL ks from if_pos hc, show tnF ks err = err from if_pos hc, hc] at HTh0
  have HTh := Lib.hid HTh0
  obtain ⟨hv, he0, he1⟩ := check_zero hc
  obtain ⟨_, htw, hsm, hvd⟩ := keep_thin hc x
  obtain ⟨_, _, _, hvt⟩ := thin_row hv
  have HSt := Lib.hid (fun W A1 n1 cap1 (hW : CAt W A n ks) (h1 : CAt W A1 n1 (thL ks)) (hn1 : n1 ≤ 1000) => calls_val (Same_any A A1 n cap n1 cap1 err err ks (thL ks) W hW hm h1 (by omega)) (v' := .tuple #[.bool true, .int .i64 0]) (by rw [hsm, htw]))
  have HVt := Lib.hid (fun W A1 n1 cap1 (hW : CAt W A n ks) (h1 : CAt W A1 n1 (thL ks)) (hn1 : n1 ≤ 1000) => valued_yes A A1 n cap n1 cap1 err err ks (thL ks) x W hW hm h1 (by omega) hvd)
  have HMt := Lib.hid (fun W b1 o1 n1 cap1 (h1 : CAt W (some ⟨b1, o1, none⟩) n1 (thL ks)) (hn1 : 0 < n1) => (show Calls Try.prog 71 #[vCv (some ⟨b1, o1, none⟩) n1 cap1 err] W fun e w' => e = .returned (.bool true) ∧ Below W.heap.size W w' from by
    obtain ⟨b', o', e, hk⟩ := h1.at_ hn1
    cases e
    exact matters_yes b1 o1 n1 cap1 err (thL ks) W hk h1.len hvt (fun i hi => keep_matters hv hi)))
  have HTp := Lib.hid hvt.pos
  have HRf := Lib.hid (fun W (hW : CAt W A n ks) (hX : IAt W B m xs) => Refine_any A n cap err ks B m bc xs W hW hm hX (by omega))
  have hkr := fun (h : rfErr ks err xs = 0) => keep_refine h hc x
  have HKr := Lib.hid hkr
  generalize thL ks = T at *
  generalize rfR ks err xs = R2 at *
  generalize rfF ks err xs = F2 at *
  generalize rfErr ks err xs = E2 at *
  have HCt := Lib.hid (fun W (hW : CAt W A n ks) => Cut_any A n cap err ks lo hi W hW hm)
  have hkc := fun (h : ctErr ks err lo hi = 0) => keep_cut h x
  have HKc := Lib.hid hkc
  generalize ctR ks err lo hi = R3 at *
  generalize ctF ks err lo hi = F3 at *
  generalize ctErr ks err lo hi = E3 at *
  have HAd := Lib.hid (fun W (hW : CAt W A n ks) (hW' : CAt W A' n' ks') => Add_any A A' n cap n' cap' err err' ks ks' W hW hm hW' hm')
  have hka := fun (h : jnErr (fun a b => a + b) ks ks' err err' = 0) => keep_add h x
  have HKa := Lib.hid hka
  generalize jnR (fun a b => a + b) ks ks' err err' = R4 at *
  generalize jnF (fun a b => a + b) ks ks' err err' = F4 at *
  generalize jnErr (fun a b => a + b) ks ks' err err' = E4 at *
  have HMi := Lib.hid (fun W A4 n4 cap4 (h4 : CAt W A4 n4 R4) (hn4 : n4 ≤ 1000) (hW' : CAt W A' n' ks') => Minus_any A4 A' n4 cap4 n' cap' F4 err' R4 ks' W h4 (by omega) hW' hm')
  generalize jnR (fun a b => a - b) R4 ks' F4 err' = R5 at *
  generalize jnF (fun a b => a - b) R4 ks' F4 err' = F5 at *
  generalize jnErr (fun a b => a - b) R4 ks' F4 err' = E5 at *
  have HVa := Lib.hid (fun W (hW : CAt W A n ks) => Value_any A n cap err ks x W hW hm)
  have HVb := Lib.hid (fun W (hW' : CAt W A' n' ks') => Value_any A' n' cap' err' ks' x W hW' hm')
  have HVs := Lib.hid (fun W A4 n4 cap4 (h4 : CAt W A4 n4 R4) (hn4 : n4 ≤ 1000) => Value_any A4 n4 cap4 F4 R4 x W h4 (by omega))
  generalize vN ks err x = n1_ at *
  generalize vN ks' err' x = n2_ at *
  generalize vN R4 F4 x = n3_ at *
  generalize vD ks err x = d1_ at *
  generalize vD ks' err' x = d2_ at *
  generalize vD R4 F4 x = d3_ at *
  generalize valErr ks err x = e1_ at *
  generalize valErr ks' err' x = e2_ at *
  generalize valErr R4 F4 x = e3_ at *
  clear h h' hi' HTh0 hc hv he0 he1 htw hsm hvd hvt hkr hkc hka
  generalize hW : ((w.alloc (.cells #[.slice A n cap, .int .i64 err] 24)).alloc (.cells #[.slice A' n' cap', .int .i64 err'] 24)).alloc (.cells #[.int .i64 lo, .int .i64 hi] 26) = W
  have B0 : Below w.heap.size w W := by rw [← hW]; exact ((((Below.refl w.heap.size w).alloc (Nat.le_refl _) _).alloc (by simp) _).alloc (by simp; omega) _)
  have x0_0 : Blk W w.heap.size 24 #[.slice A n cap, .int .i64 err] := by rw [← hW]; exact (((Blk.at_new _ _ rfl).alloc _).alloc _)
  have x1_0 : Blk W (w.heap.size + 1) 24 #[.slice A' n' cap', .int .i64 err'] := by rw [← hW]; exact ((Blk.at_new _ _ (by simp)).alloc _)
  have x3_0 : Blk W (w.heap.size + 2) 26 #[.int .i64 lo, .int .i64 hi] := by rw [← hW]; exact (Blk.at_new _ _ (by simp))
  have HWE := Lib.hid hW
  clear hW
  go_enter Try.func16, Try.ntmps16
  have B1 := B0
  go_wp2_with fail
  rw [HWE.out]
  refine (HH.out _).mono ?_; rintro e w1 ⟨rfl, hb1⟩
  have x0_1 := x0_0.below hb1
  have x1_1 := x1_0.below hb1
  have x3_1 := x3_0.below hb1
  clear x0_0 x1_0 x3_0
  have x0_1c0 := x0_1.cell 0
  have x0_1c1 := x0_1.cell 1
  simp only [List.getElem?_toArray, List.getElem?_cons_zero, List.getElem?_cons_succ] at x0_1c0 x0_1c1
  have x0_1l := x0_1.lt
  have x1_1c0 := x1_1.cell 0
  have x1_1c1 := x1_1.cell 1
  simp only [List.getElem?_toArray, List.getElem?_cons_zero, List.getElem?_cons_succ] at x1_1c0 x1_1c1
  have x1_1l := x1_1.lt
  have x3_1c0 := x3_1.cell 0
  have x3_1c1 := x3_1.cell 1
  simp only [List.getElem?_toArray, List.getElem?_cons_zero, List.getElem?_cons_succ] at x3_1c0 x3_1c1
  have x3_1l := x3_1.lt
  have B2 := B1.trans (hb1.mono B1.size)
  go_wp2_with fail
  refine (HF.out _).mono ?_; rintro e w2 ⟨rfl, hb2⟩
  clear x0_1c0 x0_1c1 x0_1l x1_1c0 x1_1c1 x1_1l x3_1c0 x3_1c1 x3_1l
  have x0_2 := x0_1.below hb2
  have x1_2 := x1_1.below hb2
  have x3_2 := x3_1.below hb2
  clear x0_1 x1_1 x3_1
  have x0_2c0 := x0_2.cell 0
  have x0_2c1 := x0_2.cell 1
  simp only [List.getElem?_toArray, List.getElem?_cons_zero, List.getElem?_cons_succ] at x0_2c0 x0_2c1
  have x0_2l := x0_2.lt
  have x1_2c0 := x1_2.cell 0
  have x1_2c1 := x1_2.cell 1
  simp only [List.getElem?_toArray, List.getElem?_cons_zero, List.getElem?_cons_succ] at x1_2c0 x1_2c1
  have x1_2l := x1_2.lt
  have x3_2c0 := x3_2.cell 0
  have x3_2c1 := x3_2.cell 1
  simp only [List.getElem?_toArray, List.getElem?_cons_zero, List.getElem?_cons_succ] at x3_2c0 x3_2c1
  have x3_2l := x3_2.lt
  have B3 := B2.trans (hb2.mono B2.size)
  go_wp2_with fail
  refine (HF'.out _).mono ?_; rintro e w3 ⟨rfl, hb3⟩
  clear x0_2c0 x0_2c1 x0_2l x1_2c0 x1_2c1 x1_2l x3_2c0 x3_2c1 x3_2l
  have x0_3 := x0_2.below hb3
  have x1_3 := x1_2.below hb3
  have x3_3 := x3_2.below hb3
  clear x0_2 x1_2 x3_2
  have x0_3c0 := x0_3.cell 0
  have x0_3c1 := x0_3.cell 1
  simp only [List.getElem?_toArray, List.getElem?_cons_zero, List.getElem?_cons_succ] at x0_3c0 x0_3c1
  have x0_3l := x0_3.lt
  have x1_3c0 := x1_3.cell 0
  have x1_3c1 := x1_3.cell 1
  simp only [List.getElem?_toArray, List.getElem?_cons_zero, List.getElem?_cons_succ] at x1_3c0 x1_3c1
  have x1_3l := x1_3.lt
  have x3_3c0 := x3_3.cell 0
  have x3_3c1 := x3_3.cell 1
  simp only [List.getElem?_toArray, List.getElem?_cons_zero, List.getElem?_cons_succ] at x3_3c0 x3_3c1
  have x3_3l := x3_3.lt
  have B4 := B3.trans (hb3.mono B3.size)
  go_wp2_with fail
  refine (HTh.out _ (HA.out.below B4)).mono ?_; rintro e w4 ⟨A1, n1, cap1, rfl, hC1, hN1, _, hb4⟩
  clear x0_3c0 x0_3c1 x0_3l x1_3c0 x1_3c1 x1_3l x3_3c0 x3_3c1 x3_3l
  have x0_4 := x0_3.below hb4
  have x1_4 := x1_3.below hb4
  have x3_4 := x3_3.below hb4
  clear x0_3 x1_3 x3_3
  have x0_4c0 := x0_4.cell 0
  have x0_4c1 := x0_4.cell 1
  simp only [List.getElem?_toArray, List.getElem?_cons_zero, List.getElem?_cons_succ] at x0_4c0 x0_4c1
  have x0_4l := x0_4.lt
  have x1_4c0 := x1_4.cell 0
  have x1_4c1 := x1_4.cell 1
  simp only [List.getElem?_toArray, List.getElem?_cons_zero, List.getElem?_cons_succ] at x1_4c0 x1_4c1
  have x1_4l := x1_4.lt
  have x3_4c0 := x3_4.cell 0
  have x3_4c1 := x3_4.cell 1
  simp only [List.getElem?_toArray, List.getElem?_cons_zero, List.getElem?_cons_succ] at x3_4c0 x3_4c1
  have x3_4l := x3_4.lt
  have hp1 : 0 < n1 := by have := hC1.len; have := HTp.out; omega
  obtain ⟨b1, o1, hA1, _⟩ := hC1.at_ hp1
  subst hA1
  have HC1 := Lib.hid hC1.len
  have ct_4 := hC1
  clear hC1
  have B5 := B4.trans (hb4.mono B4.size)
  have B5a := B5.alloc B5.size (.cells #[.slice (some ⟨b1, o1, none⟩) n1 cap1, .int .i64 err] 24)
  go_wp2_with fail
  refine (HSt.out _ _ _ _ (HA.out.below B5a) (ct_4.below ((Below.refl _ _).alloc (Nat.le_refl _) (.cells #[.slice (some ⟨b1, o1, none⟩) n1 cap1, .int .i64 err] 24))) hN1).mono ?_; rintro e w5 ⟨rfl, hb5⟩
  clear x0_4c0 x0_4c1 x0_4l x1_4c0 x1_4c1 x1_4l x3_4c0 x3_4c1 x3_4l
  have ct_5 := (ct_4.below ((Below.refl _ _).alloc (Nat.le_refl _) (.cells #[.slice (some ⟨b1, o1, none⟩) n1 cap1, .int .i64 err] 24))).below hb5
  clear ct_4
  have x0_5 := (x0_4.alloc (.cells #[.slice (some ⟨b1, o1, none⟩) n1 cap1, .int .i64 err] 24)).below hb5
  have x1_5 := (x1_4.alloc (.cells #[.slice (some ⟨b1, o1, none⟩) n1 cap1, .int .i64 err] 24)).below hb5
  have x3_5 := (x3_4.alloc (.cells #[.slice (some ⟨b1, o1, none⟩) n1 cap1, .int .i64 err] 24)).below hb5
  clear x0_4 x1_4 x3_4
  have t_5 := (Blk.new w4 24 #[.slice (some ⟨b1, o1, none⟩) n1 cap1, .int .i64 err]).below hb5
  have x0_5c0 := x0_5.cell 0
  have x0_5c1 := x0_5.cell 1
  simp only [List.getElem?_toArray, List.getElem?_cons_zero, List.getElem?_cons_succ] at x0_5c0 x0_5c1
  have x0_5l := x0_5.lt
  have x1_5c0 := x1_5.cell 0
  have x1_5c1 := x1_5.cell 1
  simp only [List.getElem?_toArray, List.getElem?_cons_zero, List.getElem?_cons_succ] at x1_5c0 x1_5c1
  have x1_5l := x1_5.lt
  have x3_5c0 := x3_5.cell 0
  have x3_5c1 := x3_5.cell 1
  simp only [List.getElem?_toArray, List.getElem?_cons_zero, List.getElem?_cons_succ] at x3_5c0 x3_5c1
  have x3_5l := x3_5.lt
  have t_5c0 := t_5.cell 0
  have t_5c1 := t_5.cell 1
  simp only [List.getElem?_toArray, List.getElem?_cons_zero, List.getElem?_cons_succ] at t_5c0 t_5c1
  have t_5l := t_5.lt
  have B6 := B5a.trans (hb5.mono B5a.size)
  go_wp2_with fail
  refine (HVt.out _ _ _ _ (HA.out.below B6) ct_5 hN1).mono ?_; rintro e w6 ⟨rfl, hb6⟩
  clear x0_5c0 x0_5c1 x0_5l x1_5c0 x1_5c1 x1_5l x3_5c0 x3_5c1 x3_5l t_5c0 t_5c1 t_5l
  have ct_6 := ct_5.below hb6
  clear ct_5
  have x0_6 := x0_5.below hb6
  have x1_6 := x1_5.below hb6
  have x3_6 := x3_5.below hb6
  have t_6 := t_5.below hb6
  clear x0_5 x1_5 x3_5 t_5
  have x0_6c0 := x0_6.cell 0
  have x0_6c1 := x0_6.cell 1
  simp only [List.getElem?_toArray, List.getElem?_cons_zero, List.getElem?_cons_succ] at x0_6c0 x0_6c1
  have x0_6l := x0_6.lt
  have x1_6c0 := x1_6.cell 0
  have x1_6c1 := x1_6.cell 1
  simp only [List.getElem?_toArray, List.getElem?_cons_zero, List.getElem?_cons_succ] at x1_6c0 x1_6c1
  have x1_6l := x1_6.lt
  have x3_6c0 := x3_6.cell 0
  have x3_6c1 := x3_6.cell 1
  simp only [List.getElem?_toArray, List.getElem?_cons_zero, List.getElem?_cons_succ] at x3_6c0 x3_6c1
  have x3_6l := x3_6.lt
  have t_6c0 := t_6.cell 0
  have t_6c1 := t_6.cell 1
  simp only [List.getElem?_toArray, List.getElem?_cons_zero, List.getElem?_cons_succ] at t_6c0 t_6c1
  have t_6l := t_6.lt
  have B7 := B6.trans (hb6.mono B6.size)
  go_wp2_with fail
  refine (HMt.out _ _ _ _ _ ct_6 hp1).mono ?_; rintro e w7 ⟨rfl, hb7⟩
  clear x0_6c0 x0_6c1 x0_6l x1_6c0 x1_6c1 x1_6l x3_6c0 x3_6c1 x3_6l t_6c0 t_6c1 t_6l
  have ct_7 := ct_6.below hb7
  clear ct_6
  have x0_7 := x0_6.below hb7
  have x1_7 := x1_6.below hb7
  have x3_7 := x3_6.below hb7
  have t_7 := t_6.below hb7
  clear x0_6 x1_6 x3_6 t_6
  have x0_7c0 := x0_7.cell 0
  have x0_7c1 := x0_7.cell 1
  simp only [List.getElem?_toArray, List.getElem?_cons_zero, List.getElem?_cons_succ] at x0_7c0 x0_7c1
  have x0_7l := x0_7.lt
  have x1_7c0 := x1_7.cell 0
  have x1_7c1 := x1_7.cell 1
  simp only [List.getElem?_toArray, List.getElem?_cons_zero, List.getElem?_cons_succ] at x1_7c0 x1_7c1
  have x1_7l := x1_7.lt
  have x3_7c0 := x3_7.cell 0
  have x3_7c1 := x3_7.cell 1
  simp only [List.getElem?_toArray, List.getElem?_cons_zero, List.getElem?_cons_succ] at x3_7c0 x3_7c1
  have x3_7l := x3_7.lt
  have t_7c0 := t_7.cell 0
  have t_7c1 := t_7.cell 1
  simp only [List.getElem?_toArray, List.getElem?_cons_zero, List.getElem?_cons_succ] at t_7c0 t_7c1
  have t_7l := t_7.lt
  have B8 := B7.trans (hb7.mono B7.size)
  go_wp2_with fail
  refine (HRf.out _ (HA.out.below B8) (HB.out.below B8)).mono ?_; rintro e w8 ⟨A2, n2, cap2, rfl, hC2, hN2, _, hb8⟩
  clear x0_7c0 x0_7c1 x0_7l x1_7c0 x1_7c1 x1_7l x3_7c0 x3_7c1 x3_7l t_7c0 t_7c1 t_7l
  have ct_8 := ct_7.below hb8
  clear ct_7
  have x0_8 := x0_7.below hb8
  have x1_8 := x1_7.below hb8
  have x3_8 := x3_7.below hb8
  have t_8 := t_7.below hb8
  clear x0_7 x1_7 x3_7 t_7
  have x0_8c0 := x0_8.cell 0
  have x0_8c1 := x0_8.cell 1
  simp only [List.getElem?_toArray, List.getElem?_cons_zero, List.getElem?_cons_succ] at x0_8c0 x0_8c1
  have x0_8l := x0_8.lt
  have x1_8c0 := x1_8.cell 0
  have x1_8c1 := x1_8.cell 1
  simp only [List.getElem?_toArray, List.getElem?_cons_zero, List.getElem?_cons_succ] at x1_8c0 x1_8c1
  have x1_8l := x1_8.lt
  have x3_8c0 := x3_8.cell 0
  have x3_8c1 := x3_8.cell 1
  simp only [List.getElem?_toArray, List.getElem?_cons_zero, List.getElem?_cons_succ] at x3_8c0 x3_8c1
  have x3_8l := x3_8.lt
  have t_8c0 := t_8.cell 0
  have t_8c1 := t_8.cell 1
  simp only [List.getElem?_toArray, List.getElem?_cons_zero, List.getElem?_cons_succ] at t_8c0 t_8c1
  have t_8l := t_8.lt
  have cr_8 := hC2
  clear hC2
  have B9 := B8.trans (hb8.mono B8.size)
  have B9a := B9.alloc B9.size (.cells #[.slice A2 n2 cap2, .int .i64 F2] 24)
  go_upto_if 88 with fail
  clear x0_8c0 x0_8c1 x0_8l x1_8c0 x1_8c1 x1_8l x3_8c0 x3_8c1 x3_8l t_8c0 t_8c1 t_8l
  have ct_9 := (ct_8.below ((Below.refl _ _).alloc (Nat.le_refl _) (.cells #[.slice A2 n2 cap2, .int .i64 F2] 24)))
  have cr_9 := (cr_8.below ((Below.refl _ _).alloc (Nat.le_refl _) (.cells #[.slice A2 n2 cap2, .int .i64 F2] 24)))
  clear ct_8 cr_8
  have x0_9 := (x0_8.alloc (.cells #[.slice A2 n2 cap2, .int .i64 F2] 24))
  have x1_9 := (x1_8.alloc (.cells #[.slice A2 n2 cap2, .int .i64 F2] 24))
  have x3_9 := (x3_8.alloc (.cells #[.slice A2 n2 cap2, .int .i64 F2] 24))
  have t_9 := (t_8.alloc (.cells #[.slice A2 n2 cap2, .int .i64 F2] 24))
  clear x0_8 x1_8 x3_8 t_8
  have r_9 := (Blk.new w8 24 #[.slice A2 n2 cap2, .int .i64 F2])
  generalize hV9 : w8.alloc (.cells #[.slice A2 n2 cap2, .int .i64 F2] 24) = V9 at *
  generalize hg9 : w8.heap.size = g9 at *
  clear hV9 hg9
  have x0_9c0 := x0_9.cell 0
  have x0_9c1 := x0_9.cell 1
  simp only [List.getElem?_toArray, List.getElem?_cons_zero, List.getElem?_cons_succ] at x0_9c0 x0_9c1
  have x0_9l := x0_9.lt
  have x1_9c0 := x1_9.cell 0
  have x1_9c1 := x1_9.cell 1
  simp only [List.getElem?_toArray, List.getElem?_cons_zero, List.getElem?_cons_succ] at x1_9c0 x1_9c1
  have x1_9l := x1_9.lt
  have x3_9c0 := x3_9.cell 0
  have x3_9c1 := x3_9.cell 1
  simp only [List.getElem?_toArray, List.getElem?_cons_zero, List.getElem?_cons_succ] at x3_9c0 x3_9c1
  have x3_9l := x3_9.lt
  have t_9c0 := t_9.cell 0
  have t_9c1 := t_9.cell 1
  simp only [List.getElem?_toArray, List.getElem?_cons_zero, List.getElem?_cons_succ] at t_9c0 t_9c1
  have t_9l := t_9.lt
  have r_9c0 := r_9.cell 0
  have r_9c1 := r_9.cell 1
  simp only [List.getElem?_toArray, List.getElem?_cons_zero, List.getElem?_cons_succ] at r_9c0 r_9c1
  have r_9l := r_9.lt
  go_cut [] (fun wx => Below w.heap.size w wx ∧ Blk wx w.heap.size 24 #[.slice A n cap, .int .i64 err] ∧ Blk wx (w.heap.size + 1) 24 #[.slice A' n' cap', .int .i64 err'] ∧ Blk wx (w.heap.size + 2) 26 #[.int .i64 lo, .int .i64 hi])
  case first =>
    by_cases hE2 : E2 = 0
    case pos =>
      obtain ⟨hcR, htw, hsm, hvd, htn⟩ := HKr.out hE2
      have HSr := Lib.hid (fun W (hW : CAt W A n ks) (h2 : CAt W A2 n2 R2) => calls_val (Same_any A A2 n cap n2 cap2 err F2 ks R2 W hW hm h2 (by omega)) (v' := .tuple #[.bool true, .int .i64 0]) (by rw [hsm, htw]))
      have hTr := (fun W (h2 : CAt W A2 n2 R2) => Thin_any A2 n2 cap2 F2 R2 W h2 (by omega))
      rw [hcR, htn] at hTr
      have HTr := Lib.hid hTr
      have HVr := Lib.hid (fun W (hW : CAt W A n ks) (h2 : CAt W A2 n2 R2) => valued_yes A A2 n cap n2 cap2 err F2 ks R2 x W hW hm h2 (by omega) hvd)
      have hz2 : (E2 == 0) = true := by simpa using hE2
      clear hcR htw hsm hvd htn hTr hE2
      generalize tnF R2 F2 = f3 at *
      have B10 := B9a
      go_wp2_with fail
      refine (HSr.out _ (HA.out.below B10) cr_9).mono ?_; rintro e w10 ⟨rfl, hb10⟩
      clear x0_9c0 x0_9c1 x0_9l x1_9c0 x1_9c1 x1_9l x3_9c0 x3_9c1 x3_9l t_9c0 t_9c1 t_9l r_9c0 r_9c1 r_9l
      have ct_10 := ct_9.below hb10
      have cr_10 := cr_9.below hb10
      clear ct_9 cr_9
      have x0_10 := x0_9.below hb10
      have x1_10 := x1_9.below hb10
      have x3_10 := x3_9.below hb10
      have t_10 := t_9.below hb10
      have r_10 := r_9.below hb10
      clear x0_9 x1_9 x3_9 t_9 r_9
      have x0_10c0 := x0_10.cell 0
      have x0_10c1 := x0_10.cell 1
      simp only [List.getElem?_toArray, List.getElem?_cons_zero, List.getElem?_cons_succ] at x0_10c0 x0_10c1
      have x0_10l := x0_10.lt
      have x1_10c0 := x1_10.cell 0
      have x1_10c1 := x1_10.cell 1
      simp only [List.getElem?_toArray, List.getElem?_cons_zero, List.getElem?_cons_succ] at x1_10c0 x1_10c1
      have x1_10l := x1_10.lt
      have x3_10c0 := x3_10.cell 0
      have x3_10c1 := x3_10.cell 1
      simp only [List.getElem?_toArray, List.getElem?_cons_zero, List.getElem?_cons_succ] at x3_10c0 x3_10c1
      have x3_10l := x3_10.lt
      have t_10c0 := t_10.cell 0
      have t_10c1 := t_10.cell 1
      simp only [List.getElem?_toArray, List.getElem?_cons_zero, List.getElem?_cons_succ] at t_10c0 t_10c1
      have t_10l := t_10.lt
      have r_10c0 := r_10.cell 0
      have r_10c1 := r_10.cell 1
      simp only [List.getElem?_toArray, List.getElem?_cons_zero, List.getElem?_cons_succ] at r_10c0 r_10c1
      have r_10l := r_10.lt
      have B11 := B10.trans (hb10.mono B10.size)
      go_wp2_with fail
      refine (HTr.out _ cr_10).mono ?_; rintro e w11 ⟨A3, n3, cap3, rfl, hC3, hN3, _, hb11⟩
      clear x0_10c0 x0_10c1 x0_10l x1_10c0 x1_10c1 x1_10l x3_10c0 x3_10c1 x3_10l t_10c0 t_10c1 t_10l r_10c0 r_10c1 r_10l
      have ct_11 := ct_10.below hb11
      have cr_11 := cr_10.below hb11
      clear ct_10 cr_10
      have x0_11 := x0_10.below hb11
      have x1_11 := x1_10.below hb11
      have x3_11 := x3_10.below hb11
      have t_11 := t_10.below hb11
      have r_11 := r_10.below hb11
      clear x0_10 x1_10 x3_10 t_10 r_10
      have x0_11c0 := x0_11.cell 0
      have x0_11c1 := x0_11.cell 1
      simp only [List.getElem?_toArray, List.getElem?_cons_zero, List.getElem?_cons_succ] at x0_11c0 x0_11c1
      have x0_11l := x0_11.lt
      have x1_11c0 := x1_11.cell 0
      have x1_11c1 := x1_11.cell 1
      simp only [List.getElem?_toArray, List.getElem?_cons_zero, List.getElem?_cons_succ] at x1_11c0 x1_11c1
      have x1_11l := x1_11.lt
      have x3_11c0 := x3_11.cell 0
      have x3_11c1 := x3_11.cell 1
      simp only [List.getElem?_toArray, List.getElem?_cons_zero, List.getElem?_cons_succ] at x3_11c0 x3_11c1
      have x3_11l := x3_11.lt
      have t_11c0 := t_11.cell 0
      have t_11c1 := t_11.cell 1
      simp only [List.getElem?_toArray, List.getElem?_cons_zero, List.getElem?_cons_succ] at t_11c0 t_11c1
      have t_11l := t_11.lt
      have r_11c0 := r_11.cell 0
      have r_11c1 := r_11.cell 1
      simp only [List.getElem?_toArray, List.getElem?_cons_zero, List.getElem?_cons_succ] at r_11c0 r_11c1
      have r_11l := r_11.lt
      have hn3 : n3 = n1 := by rw [← hC3.len, ← HC1.out]
      subst hn3
      clear hC3
      have B12 := B11.trans (hb11.mono B11.size)
      have B12a := B12.alloc B12.size (.cells #[.slice A3 n3 cap3, .int .i64 f3] 24)
      go_wp2_with fail
      refine (HVr.out _ (HA.out.below B12a) (cr_11.below ((Below.refl _ _).alloc (Nat.le_refl _) (.cells #[.slice A3 n3 cap3, .int .i64 f3] 24)))).mono ?_; rintro e w12 ⟨rfl, hb12⟩
      clear x0_11c0 x0_11c1 x0_11l x1_11c0 x1_11c1 x1_11l x3_11c0 x3_11c1 x3_11l t_11c0 t_11c1 t_11l r_11c0 r_11c1 r_11l
      have ct_12 := (ct_11.below ((Below.refl _ _).alloc (Nat.le_refl _) (.cells #[.slice A3 n3 cap3, .int .i64 f3] 24))).below hb12
      have cr_12 := (cr_11.below ((Below.refl _ _).alloc (Nat.le_refl _) (.cells #[.slice A3 n3 cap3, .int .i64 f3] 24))).below hb12
      clear ct_11 cr_11
      have x0_12 := (x0_11.alloc (.cells #[.slice A3 n3 cap3, .int .i64 f3] 24)).below hb12
      have x1_12 := (x1_11.alloc (.cells #[.slice A3 n3 cap3, .int .i64 f3] 24)).below hb12
      have x3_12 := (x3_11.alloc (.cells #[.slice A3 n3 cap3, .int .i64 f3] 24)).below hb12
      have t_12 := (t_11.alloc (.cells #[.slice A3 n3 cap3, .int .i64 f3] 24)).below hb12
      have r_12 := (r_11.alloc (.cells #[.slice A3 n3 cap3, .int .i64 f3] 24)).below hb12
      clear x0_11 x1_11 x3_11 t_11 r_11
      have q_12 := (Blk.new w11 24 #[.slice A3 n3 cap3, .int .i64 f3]).below hb12
      have x0_12c0 := x0_12.cell 0
      have x0_12c1 := x0_12.cell 1
      simp only [List.getElem?_toArray, List.getElem?_cons_zero, List.getElem?_cons_succ] at x0_12c0 x0_12c1
      have x0_12l := x0_12.lt
      have x1_12c0 := x1_12.cell 0
      have x1_12c1 := x1_12.cell 1
      simp only [List.getElem?_toArray, List.getElem?_cons_zero, List.getElem?_cons_succ] at x1_12c0 x1_12c1
      have x1_12l := x1_12.lt
      have x3_12c0 := x3_12.cell 0
      have x3_12c1 := x3_12.cell 1
      simp only [List.getElem?_toArray, List.getElem?_cons_zero, List.getElem?_cons_succ] at x3_12c0 x3_12c1
      have x3_12l := x3_12.lt
      have t_12c0 := t_12.cell 0
      have t_12c1 := t_12.cell 1
      simp only [List.getElem?_toArray, List.getElem?_cons_zero, List.getElem?_cons_succ] at t_12c0 t_12c1
      have t_12l := t_12.lt
      have r_12c0 := r_12.cell 0
      have r_12c1 := r_12.cell 1
      simp only [List.getElem?_toArray, List.getElem?_cons_zero, List.getElem?_cons_succ] at r_12c0 r_12c1
      have r_12l := r_12.lt
      have q_12c0 := q_12.cell 0
      have q_12c1 := q_12.cell 1
      simp only [List.getElem?_toArray, List.getElem?_cons_zero, List.getElem?_cons_succ] at q_12c0 q_12c1
      have q_12l := q_12.lt
      go_wp2
      go_meet
      exact ⟨(B12a.trans (hb12.mono B12a.size)), x0_12, x1_12, x3_12⟩
    case neg =>
      have hz2 : (E2 == 0) = false := by simpa using hE2
      go_wp2
      go_meet
      exact ⟨(B9a), x0_9, x1_9, x3_9⟩
  case rest =>
    have hcut10 := hcut
    clear hcut
    obtain ⟨Bc10, x0_10, x1_10, x3_10⟩ := hcut10
    have x0_10c0 := x0_10.cell 0
    have x0_10c1 := x0_10.cell 1
    simp only [List.getElem?_toArray, List.getElem?_cons_zero, List.getElem?_cons_succ] at x0_10c0 x0_10c1
    have x0_10l := x0_10.lt
    have x1_10c0 := x1_10.cell 0
    have x1_10c1 := x1_10.cell 1
    simp only [List.getElem?_toArray, List.getElem?_cons_zero, List.getElem?_cons_succ] at x1_10c0 x1_10c1
    have x1_10l := x1_10.lt
    have x3_10c0 := x3_10.cell 0
    have x3_10c1 := x3_10.cell 1
    simp only [List.getElem?_toArray, List.getElem?_cons_zero, List.getElem?_cons_succ] at x3_10c0 x3_10c1
    have x3_10l := x3_10.lt
    have B11 := Bc10
    go_wp2_with fail
    refine (HCt.out _ (HA.out.below B11)).mono ?_; rintro e w11 ⟨A4, n4, cap4, rfl, hC4, hN4, _, hb11⟩
    clear x0_10c0 x0_10c1 x0_10l x1_10c0 x1_10c1 x1_10l x3_10c0 x3_10c1 x3_10l
    have x0_11 := x0_10.below hb11
    have x1_11 := x1_10.below hb11
    have x3_11 := x3_10.below hb11
    clear x0_10 x1_10 x3_10
    have x0_11c0 := x0_11.cell 0
    have x0_11c1 := x0_11.cell 1
    simp only [List.getElem?_toArray, List.getElem?_cons_zero, List.getElem?_cons_succ] at x0_11c0 x0_11c1
    have x0_11l := x0_11.lt
    have x1_11c0 := x1_11.cell 0
    have x1_11c1 := x1_11.cell 1
    simp only [List.getElem?_toArray, List.getElem?_cons_zero, List.getElem?_cons_succ] at x1_11c0 x1_11c1
    have x1_11l := x1_11.lt
    have x3_11c0 := x3_11.cell 0
    have x3_11c1 := x3_11.cell 1
    simp only [List.getElem?_toArray, List.getElem?_cons_zero, List.getElem?_cons_succ] at x3_11c0 x3_11c1
    have x3_11l := x3_11.lt
    have cc_11 := hC4
    clear hC4
    have B12 := B11.trans (hb11.mono B11.size)
    have B12a := B12.alloc B12.size (.cells #[.slice A4 n4 cap4, .int .i64 F3] 24)
    go_upto_if 133 with fail
    clear x0_11c0 x0_11c1 x0_11l x1_11c0 x1_11c1 x1_11l x3_11c0 x3_11c1 x3_11l
    have cc_12 := (cc_11.below ((Below.refl _ _).alloc (Nat.le_refl _) (.cells #[.slice A4 n4 cap4, .int .i64 F3] 24)))
    clear cc_11
    have x0_12 := (x0_11.alloc (.cells #[.slice A4 n4 cap4, .int .i64 F3] 24))
    have x1_12 := (x1_11.alloc (.cells #[.slice A4 n4 cap4, .int .i64 F3] 24))
    have x3_12 := (x3_11.alloc (.cells #[.slice A4 n4 cap4, .int .i64 F3] 24))
    clear x0_11 x1_11 x3_11
    have c_12 := (Blk.new w11 24 #[.slice A4 n4 cap4, .int .i64 F3])
    generalize hV12 : w11.alloc (.cells #[.slice A4 n4 cap4, .int .i64 F3] 24) = V12 at *
    generalize hg12 : w11.heap.size = g12 at *
    clear hV12 hg12
    have x0_12c0 := x0_12.cell 0
    have x0_12c1 := x0_12.cell 1
    simp only [List.getElem?_toArray, List.getElem?_cons_zero, List.getElem?_cons_succ] at x0_12c0 x0_12c1
    have x0_12l := x0_12.lt
    have x1_12c0 := x1_12.cell 0
    have x1_12c1 := x1_12.cell 1
    simp only [List.getElem?_toArray, List.getElem?_cons_zero, List.getElem?_cons_succ] at x1_12c0 x1_12c1
    have x1_12l := x1_12.lt
    have x3_12c0 := x3_12.cell 0
    have x3_12c1 := x3_12.cell 1
    simp only [List.getElem?_toArray, List.getElem?_cons_zero, List.getElem?_cons_succ] at x3_12c0 x3_12c1
    have x3_12l := x3_12.lt
    have c_12c0 := c_12.cell 0
    have c_12c1 := c_12.cell 1
    simp only [List.getElem?_toArray, List.getElem?_cons_zero, List.getElem?_cons_succ] at c_12c0 c_12c1
    have c_12l := c_12.lt
    go_cut [] (fun wx => Below w.heap.size w wx ∧ Blk wx w.heap.size 24 #[.slice A n cap, .int .i64 err] ∧ Blk wx (w.heap.size + 1) 24 #[.slice A' n' cap', .int .i64 err'] ∧ Blk wx (w.heap.size + 2) 26 #[.int .i64 lo, .int .i64 hi])
    case first =>
      by_cases hE3 : E3 = 0
      case pos =>
        obtain ⟨hcR, hd0, hd1, hvd⟩ := HKc.out hE3
        have hDo := (fun W (h2 : CAt W A4 n4 R3) => Domain_any A4 n4 cap4 F3 R3 W h2 (by omega))
        rw [hcR, hd0, hd1] at hDo
        have HDo := Lib.hid hDo
        have HVc := Lib.hid (fun W (hW : CAt W A n ks) (h2 : CAt W A4 n4 R3) => valued_yes A A4 n cap n4 cap4 err F3 ks R3 x W hW hm h2 (by omega) hvd)
        have hz3 : (E3 == 0) = true := by simpa using hE3
        clear hcR hd0 hd1 hvd hDo hE3
        have B13 := B12a
        go_wp2_with fail
        refine (HDo.out _ cc_12).mono ?_; rintro e w13 ⟨rfl, hb13⟩
        clear x0_12c0 x0_12c1 x0_12l x1_12c0 x1_12c1 x1_12l x3_12c0 x3_12c1 x3_12l c_12c0 c_12c1 c_12l
        have cc_13 := cc_12.below hb13
        clear cc_12
        have x0_13 := x0_12.below hb13
        have x1_13 := x1_12.below hb13
        have x3_13 := x3_12.below hb13
        have c_13 := c_12.below hb13
        clear x0_12 x1_12 x3_12 c_12
        have x0_13c0 := x0_13.cell 0
        have x0_13c1 := x0_13.cell 1
        simp only [List.getElem?_toArray, List.getElem?_cons_zero, List.getElem?_cons_succ] at x0_13c0 x0_13c1
        have x0_13l := x0_13.lt
        have x1_13c0 := x1_13.cell 0
        have x1_13c1 := x1_13.cell 1
        simp only [List.getElem?_toArray, List.getElem?_cons_zero, List.getElem?_cons_succ] at x1_13c0 x1_13c1
        have x1_13l := x1_13.lt
        have x3_13c0 := x3_13.cell 0
        have x3_13c1 := x3_13.cell 1
        simp only [List.getElem?_toArray, List.getElem?_cons_zero, List.getElem?_cons_succ] at x3_13c0 x3_13c1
        have x3_13l := x3_13.lt
        have c_13c0 := c_13.cell 0
        have c_13c1 := c_13.cell 1
        simp only [List.getElem?_toArray, List.getElem?_cons_zero, List.getElem?_cons_succ] at c_13c0 c_13c1
        have c_13l := c_13.lt
        have B14 := B13.trans (hb13.mono B13.size)
        have B14a := B14.alloc B14.size (.cells #[.int .i64 lo, .int .i64 hi] 26)
        go_wp2_with fail
        refine (HVc.out _ (HA.out.below B14a) (cc_13.below ((Below.refl _ _).alloc (Nat.le_refl _) (.cells #[.int .i64 lo, .int .i64 hi] 26)))).mono ?_; rintro e w14 ⟨rfl, hb14⟩
        clear x0_13c0 x0_13c1 x0_13l x1_13c0 x1_13c1 x1_13l x3_13c0 x3_13c1 x3_13l c_13c0 c_13c1 c_13l
        have cc_14 := (cc_13.below ((Below.refl _ _).alloc (Nat.le_refl _) (.cells #[.int .i64 lo, .int .i64 hi] 26))).below hb14
        clear cc_13
        have x0_14 := (x0_13.alloc (.cells #[.int .i64 lo, .int .i64 hi] 26)).below hb14
        have x1_14 := (x1_13.alloc (.cells #[.int .i64 lo, .int .i64 hi] 26)).below hb14
        have x3_14 := (x3_13.alloc (.cells #[.int .i64 lo, .int .i64 hi] 26)).below hb14
        have c_14 := (c_13.alloc (.cells #[.int .i64 lo, .int .i64 hi] 26)).below hb14
        clear x0_13 x1_13 x3_13 c_13
        have d_14 := (Blk.new w13 26 #[.int .i64 lo, .int .i64 hi]).below hb14
        have x0_14c0 := x0_14.cell 0
        have x0_14c1 := x0_14.cell 1
        simp only [List.getElem?_toArray, List.getElem?_cons_zero, List.getElem?_cons_succ] at x0_14c0 x0_14c1
        have x0_14l := x0_14.lt
        have x1_14c0 := x1_14.cell 0
        have x1_14c1 := x1_14.cell 1
        simp only [List.getElem?_toArray, List.getElem?_cons_zero, List.getElem?_cons_succ] at x1_14c0 x1_14c1
        have x1_14l := x1_14.lt
        have x3_14c0 := x3_14.cell 0
        have x3_14c1 := x3_14.cell 1
        simp only [List.getElem?_toArray, List.getElem?_cons_zero, List.getElem?_cons_succ] at x3_14c0 x3_14c1
        have x3_14l := x3_14.lt
        have c_14c0 := c_14.cell 0
        have c_14c1 := c_14.cell 1
        simp only [List.getElem?_toArray, List.getElem?_cons_zero, List.getElem?_cons_succ] at c_14c0 c_14c1
        have c_14l := c_14.lt
        have d_14c0 := d_14.cell 0
        have d_14c1 := d_14.cell 1
        simp only [List.getElem?_toArray, List.getElem?_cons_zero, List.getElem?_cons_succ] at d_14c0 d_14c1
        have d_14l := d_14.lt
        go_wp2
        go_meet
        exact ⟨(B14a.trans (hb14.mono B14a.size)), x0_14, x1_14, x3_14⟩
      case neg =>
        have hz3 : (E3 == 0) = false := by simpa using hE3
        go_wp2
        go_meet
        exact ⟨(B12a), x0_12, x1_12, x3_12⟩
    case rest =>
      have hcut13 := hcut
      clear hcut
      obtain ⟨Bc13, x0_13, x1_13, x3_13⟩ := hcut13
      have x0_13c0 := x0_13.cell 0
      have x0_13c1 := x0_13.cell 1
      simp only [List.getElem?_toArray, List.getElem?_cons_zero, List.getElem?_cons_succ] at x0_13c0 x0_13c1
      have x0_13l := x0_13.lt
      have x1_13c0 := x1_13.cell 0
      have x1_13c1 := x1_13.cell 1
      simp only [List.getElem?_toArray, List.getElem?_cons_zero, List.getElem?_cons_succ] at x1_13c0 x1_13c1
      have x1_13l := x1_13.lt
      have x3_13c0 := x3_13.cell 0
      have x3_13c1 := x3_13.cell 1
      simp only [List.getElem?_toArray, List.getElem?_cons_zero, List.getElem?_cons_succ] at x3_13c0 x3_13c1
      have x3_13l := x3_13.lt
      have B14 := Bc13
      go_wp2_with fail
      refine (HAd.out _ (HA.out.below B14) (HA'.out.below B14)).mono ?_; rintro e w14 ⟨A5, n5, cap5, rfl, hC5, hN5, _, hb14⟩
      clear x0_13c0 x0_13c1 x0_13l x1_13c0 x1_13c1 x1_13l x3_13c0 x3_13c1 x3_13l
      have x0_14 := x0_13.below hb14
      have x1_14 := x1_13.below hb14
      have x3_14 := x3_13.below hb14
      clear x0_13 x1_13 x3_13
      have x0_14c0 := x0_14.cell 0
      have x0_14c1 := x0_14.cell 1
      simp only [List.getElem?_toArray, List.getElem?_cons_zero, List.getElem?_cons_succ] at x0_14c0 x0_14c1
      have x0_14l := x0_14.lt
      have x1_14c0 := x1_14.cell 0
      have x1_14c1 := x1_14.cell 1
      simp only [List.getElem?_toArray, List.getElem?_cons_zero, List.getElem?_cons_succ] at x1_14c0 x1_14c1
      have x1_14l := x1_14.lt
      have x3_14c0 := x3_14.cell 0
      have x3_14c1 := x3_14.cell 1
      simp only [List.getElem?_toArray, List.getElem?_cons_zero, List.getElem?_cons_succ] at x3_14c0 x3_14c1
      have x3_14l := x3_14.lt
      have cs_14 := hC5
      clear hC5
      by_cases hE4 : E4 = 0
      case neg =>
        have hz4 : (E4 != 0) = true := by simpa using hE4
        have B15 := B14.trans (hb14.mono B14.size)
        have B15a := B15.alloc B15.size (.cells #[.slice A5 n5 cap5, .int .i64 F4] 24)
        go_upto_if 160 with fail
        clear x0_14c0 x0_14c1 x0_14l x1_14c0 x1_14c1 x1_14l x3_14c0 x3_14c1 x3_14l
        have cs_15 := (cs_14.below ((Below.refl _ _).alloc (Nat.le_refl _) (.cells #[.slice A5 n5 cap5, .int .i64 F4] 24)))
        clear cs_14
        have x0_15 := (x0_14.alloc (.cells #[.slice A5 n5 cap5, .int .i64 F4] 24))
        have x1_15 := (x1_14.alloc (.cells #[.slice A5 n5 cap5, .int .i64 F4] 24))
        have x3_15 := (x3_14.alloc (.cells #[.slice A5 n5 cap5, .int .i64 F4] 24))
        clear x0_14 x1_14 x3_14
        have s_15 := (Blk.new w14 24 #[.slice A5 n5 cap5, .int .i64 F4])
        generalize hV15 : w14.alloc (.cells #[.slice A5 n5 cap5, .int .i64 F4] 24) = V15 at *
        generalize hg15 : w14.heap.size = g15 at *
        clear hV15 hg15
        have x0_15c0 := x0_15.cell 0
        have x0_15c1 := x0_15.cell 1
        simp only [List.getElem?_toArray, List.getElem?_cons_zero, List.getElem?_cons_succ] at x0_15c0 x0_15c1
        have x0_15l := x0_15.lt
        have x1_15c0 := x1_15.cell 0
        have x1_15c1 := x1_15.cell 1
        simp only [List.getElem?_toArray, List.getElem?_cons_zero, List.getElem?_cons_succ] at x1_15c0 x1_15c1
        have x1_15l := x1_15.lt
        have x3_15c0 := x3_15.cell 0
        have x3_15c1 := x3_15.cell 1
        simp only [List.getElem?_toArray, List.getElem?_cons_zero, List.getElem?_cons_succ] at x3_15c0 x3_15c1
        have x3_15l := x3_15.lt
        have s_15c0 := s_15.cell 0
        have s_15c1 := s_15.cell 1
        simp only [List.getElem?_toArray, List.getElem?_cons_zero, List.getElem?_cons_succ] at s_15c0 s_15c1
        have s_15l := s_15.lt
        go_wp2
        go_ret
        exact ⟨rfl, B15a⟩
      case pos =>
        obtain ⟨ha, hb_, hq, hbk⟩ := HKa.out hE4
        have hz4 : (E4 != 0) = false := by simpa using hE4
        have HQ := Lib.hid hq
        have HBk := Lib.hid hbk
        clear hE4 hq hbk
        subst ha hb_
        have B15 := B14.trans (hb14.mono B14.size)
        have B15a := B15.alloc B15.size (.cells #[.slice A5 n5 cap5, .int .i64 F4] 24)
        go_wp2_with fail
        refine (HMi.out _ _ _ _ (cs_14.below ((Below.refl _ _).alloc (Nat.le_refl _) (.cells #[.slice A5 n5 cap5, .int .i64 F4] 24))) hN5 (HA'.out.below B15a)).mono ?_; rintro e w15 ⟨A6, n6, cap6, rfl, hC6, hN6, _, hb15⟩
        clear x0_14c0 x0_14c1 x0_14l x1_14c0 x1_14c1 x1_14l x3_14c0 x3_14c1 x3_14l
        have cs_15 := (cs_14.below ((Below.refl _ _).alloc (Nat.le_refl _) (.cells #[.slice A5 n5 cap5, .int .i64 F4] 24))).below hb15
        clear cs_14
        have x0_15 := (x0_14.alloc (.cells #[.slice A5 n5 cap5, .int .i64 F4] 24)).below hb15
        have x1_15 := (x1_14.alloc (.cells #[.slice A5 n5 cap5, .int .i64 F4] 24)).below hb15
        have x3_15 := (x3_14.alloc (.cells #[.slice A5 n5 cap5, .int .i64 F4] 24)).below hb15
        clear x0_14 x1_14 x3_14
        have s_15 := (Blk.new w14 24 #[.slice A5 n5 cap5, .int .i64 F4]).below hb15
        have x0_15c0 := x0_15.cell 0
        have x0_15c1 := x0_15.cell 1
        simp only [List.getElem?_toArray, List.getElem?_cons_zero, List.getElem?_cons_succ] at x0_15c0 x0_15c1
        have x0_15l := x0_15.lt
        have x1_15c0 := x1_15.cell 0
        have x1_15c1 := x1_15.cell 1
        simp only [List.getElem?_toArray, List.getElem?_cons_zero, List.getElem?_cons_succ] at x1_15c0 x1_15c1
        have x1_15l := x1_15.lt
        have x3_15c0 := x3_15.cell 0
        have x3_15c1 := x3_15.cell 1
        simp only [List.getElem?_toArray, List.getElem?_cons_zero, List.getElem?_cons_succ] at x3_15c0 x3_15c1
        have x3_15l := x3_15.lt
        have s_15c0 := s_15.cell 0
        have s_15c1 := s_15.cell 1
        simp only [List.getElem?_toArray, List.getElem?_cons_zero, List.getElem?_cons_succ] at s_15c0 s_15c1
        have s_15l := s_15.lt
        have cb_15 := hC6
        clear hC6
        have B16 := B15a.trans (hb15.mono B15a.size)
        have B16a := B16.alloc B16.size (.cells #[.slice A6 n6 cap6, .int .i64 F5] 24)
        go_wp2_with fail
        refine (HVa.out _ (HA.out.below B16a)).mono ?_; rintro e w16 ⟨rfl, hb16⟩
        clear x0_15c0 x0_15c1 x0_15l x1_15c0 x1_15c1 x1_15l x3_15c0 x3_15c1 x3_15l s_15c0 s_15c1 s_15l
        have cs_16 := (cs_15.below ((Below.refl _ _).alloc (Nat.le_refl _) (.cells #[.slice A6 n6 cap6, .int .i64 F5] 24))).below hb16
        have cb_16 := (cb_15.below ((Below.refl _ _).alloc (Nat.le_refl _) (.cells #[.slice A6 n6 cap6, .int .i64 F5] 24))).below hb16
        clear cs_15 cb_15
        have x0_16 := (x0_15.alloc (.cells #[.slice A6 n6 cap6, .int .i64 F5] 24)).below hb16
        have x1_16 := (x1_15.alloc (.cells #[.slice A6 n6 cap6, .int .i64 F5] 24)).below hb16
        have x3_16 := (x3_15.alloc (.cells #[.slice A6 n6 cap6, .int .i64 F5] 24)).below hb16
        have s_16 := (s_15.alloc (.cells #[.slice A6 n6 cap6, .int .i64 F5] 24)).below hb16
        clear x0_15 x1_15 x3_15 s_15
        have b_16 := (Blk.new w15 24 #[.slice A6 n6 cap6, .int .i64 F5]).below hb16
        have x0_16c0 := x0_16.cell 0
        have x0_16c1 := x0_16.cell 1
        simp only [List.getElem?_toArray, List.getElem?_cons_zero, List.getElem?_cons_succ] at x0_16c0 x0_16c1
        have x0_16l := x0_16.lt
        have x1_16c0 := x1_16.cell 0
        have x1_16c1 := x1_16.cell 1
        simp only [List.getElem?_toArray, List.getElem?_cons_zero, List.getElem?_cons_succ] at x1_16c0 x1_16c1
        have x1_16l := x1_16.lt
        have x3_16c0 := x3_16.cell 0
        have x3_16c1 := x3_16.cell 1
        simp only [List.getElem?_toArray, List.getElem?_cons_zero, List.getElem?_cons_succ] at x3_16c0 x3_16c1
        have x3_16l := x3_16.lt
        have s_16c0 := s_16.cell 0
        have s_16c1 := s_16.cell 1
        simp only [List.getElem?_toArray, List.getElem?_cons_zero, List.getElem?_cons_succ] at s_16c0 s_16c1
        have s_16l := s_16.lt
        have b_16c0 := b_16.cell 0
        have b_16c1 := b_16.cell 1
        simp only [List.getElem?_toArray, List.getElem?_cons_zero, List.getElem?_cons_succ] at b_16c0 b_16c1
        have b_16l := b_16.lt
        have B17 := B16a.trans (hb16.mono B16a.size)
        have B17a := B17.alloc B17.size (.cells #[.int .i64 n1_, .int .i64 d1_] 30)
        go_wp2_with fail
        refine (HVb.out _ (HA'.out.below B17a)).mono ?_; rintro e w17 ⟨rfl, hb17⟩
        clear x0_16c0 x0_16c1 x0_16l x1_16c0 x1_16c1 x1_16l x3_16c0 x3_16c1 x3_16l s_16c0 s_16c1 s_16l b_16c0 b_16c1 b_16l
        have cs_17 := (cs_16.below ((Below.refl _ _).alloc (Nat.le_refl _) (.cells #[.int .i64 n1_, .int .i64 d1_] 30))).below hb17
        have cb_17 := (cb_16.below ((Below.refl _ _).alloc (Nat.le_refl _) (.cells #[.int .i64 n1_, .int .i64 d1_] 30))).below hb17
        clear cs_16 cb_16
        have x0_17 := (x0_16.alloc (.cells #[.int .i64 n1_, .int .i64 d1_] 30)).below hb17
        have x1_17 := (x1_16.alloc (.cells #[.int .i64 n1_, .int .i64 d1_] 30)).below hb17
        have x3_17 := (x3_16.alloc (.cells #[.int .i64 n1_, .int .i64 d1_] 30)).below hb17
        have s_17 := (s_16.alloc (.cells #[.int .i64 n1_, .int .i64 d1_] 30)).below hb17
        have b_17 := (b_16.alloc (.cells #[.int .i64 n1_, .int .i64 d1_] 30)).below hb17
        clear x0_16 x1_16 x3_16 s_16 b_16
        have va_17 := (Blk.new w16 30 #[.int .i64 n1_, .int .i64 d1_]).below hb17
        have x0_17c0 := x0_17.cell 0
        have x0_17c1 := x0_17.cell 1
        simp only [List.getElem?_toArray, List.getElem?_cons_zero, List.getElem?_cons_succ] at x0_17c0 x0_17c1
        have x0_17l := x0_17.lt
        have x1_17c0 := x1_17.cell 0
        have x1_17c1 := x1_17.cell 1
        simp only [List.getElem?_toArray, List.getElem?_cons_zero, List.getElem?_cons_succ] at x1_17c0 x1_17c1
        have x1_17l := x1_17.lt
        have x3_17c0 := x3_17.cell 0
        have x3_17c1 := x3_17.cell 1
        simp only [List.getElem?_toArray, List.getElem?_cons_zero, List.getElem?_cons_succ] at x3_17c0 x3_17c1
        have x3_17l := x3_17.lt
        have s_17c0 := s_17.cell 0
        have s_17c1 := s_17.cell 1
        simp only [List.getElem?_toArray, List.getElem?_cons_zero, List.getElem?_cons_succ] at s_17c0 s_17c1
        have s_17l := s_17.lt
        have b_17c0 := b_17.cell 0
        have b_17c1 := b_17.cell 1
        simp only [List.getElem?_toArray, List.getElem?_cons_zero, List.getElem?_cons_succ] at b_17c0 b_17c1
        have b_17l := b_17.lt
        have va_17c0 := va_17.cell 0
        have va_17c1 := va_17.cell 1
        simp only [List.getElem?_toArray, List.getElem?_cons_zero, List.getElem?_cons_succ] at va_17c0 va_17c1
        have va_17l := va_17.lt
        have B18 := B17a.trans (hb17.mono B17a.size)
        have B18a := B18.alloc B18.size (.cells #[.int .i64 n2_, .int .i64 d2_] 30)
        go_wp2_with fail
        refine (HVs.out _ _ _ _ (cs_17.below ((Below.refl _ _).alloc (Nat.le_refl _) (.cells #[.int .i64 n2_, .int .i64 d2_] 30))) hN5).mono ?_; rintro e w18 ⟨rfl, hb18⟩
        clear x0_17c0 x0_17c1 x0_17l x1_17c0 x1_17c1 x1_17l x3_17c0 x3_17c1 x3_17l s_17c0 s_17c1 s_17l b_17c0 b_17c1 b_17l va_17c0 va_17c1 va_17l
        have cs_18 := (cs_17.below ((Below.refl _ _).alloc (Nat.le_refl _) (.cells #[.int .i64 n2_, .int .i64 d2_] 30))).below hb18
        have cb_18 := (cb_17.below ((Below.refl _ _).alloc (Nat.le_refl _) (.cells #[.int .i64 n2_, .int .i64 d2_] 30))).below hb18
        clear cs_17 cb_17
        have x0_18 := (x0_17.alloc (.cells #[.int .i64 n2_, .int .i64 d2_] 30)).below hb18
        have x1_18 := (x1_17.alloc (.cells #[.int .i64 n2_, .int .i64 d2_] 30)).below hb18
        have x3_18 := (x3_17.alloc (.cells #[.int .i64 n2_, .int .i64 d2_] 30)).below hb18
        have s_18 := (s_17.alloc (.cells #[.int .i64 n2_, .int .i64 d2_] 30)).below hb18
        have b_18 := (b_17.alloc (.cells #[.int .i64 n2_, .int .i64 d2_] 30)).below hb18
        have va_18 := (va_17.alloc (.cells #[.int .i64 n2_, .int .i64 d2_] 30)).below hb18
        clear x0_17 x1_17 x3_17 s_17 b_17 va_17
        have vb_18 := (Blk.new w17 30 #[.int .i64 n2_, .int .i64 d2_]).below hb18
        have x0_18c0 := x0_18.cell 0
        have x0_18c1 := x0_18.cell 1
        simp only [List.getElem?_toArray, List.getElem?_cons_zero, List.getElem?_cons_succ] at x0_18c0 x0_18c1
        have x0_18l := x0_18.lt
        have x1_18c0 := x1_18.cell 0
        have x1_18c1 := x1_18.cell 1
        simp only [List.getElem?_toArray, List.getElem?_cons_zero, List.getElem?_cons_succ] at x1_18c0 x1_18c1
        have x1_18l := x1_18.lt
        have x3_18c0 := x3_18.cell 0
        have x3_18c1 := x3_18.cell 1
        simp only [List.getElem?_toArray, List.getElem?_cons_zero, List.getElem?_cons_succ] at x3_18c0 x3_18c1
        have x3_18l := x3_18.lt
        have s_18c0 := s_18.cell 0
        have s_18c1 := s_18.cell 1
        simp only [List.getElem?_toArray, List.getElem?_cons_zero, List.getElem?_cons_succ] at s_18c0 s_18c1
        have s_18l := s_18.lt
        have b_18c0 := b_18.cell 0
        have b_18c1 := b_18.cell 1
        simp only [List.getElem?_toArray, List.getElem?_cons_zero, List.getElem?_cons_succ] at b_18c0 b_18c1
        have b_18l := b_18.lt
        have va_18c0 := va_18.cell 0
        have va_18c1 := va_18.cell 1
        simp only [List.getElem?_toArray, List.getElem?_cons_zero, List.getElem?_cons_succ] at va_18c0 va_18c1
        have va_18l := va_18.lt
        have vb_18c0 := vb_18.cell 0
        have vb_18c1 := vb_18.cell 1
        simp only [List.getElem?_toArray, List.getElem?_cons_zero, List.getElem?_cons_succ] at vb_18c0 vb_18c1
        have vb_18l := vb_18.lt
        have B19 := B18a.trans (hb18.mono B18a.size)
        have B19a := B19.alloc B19.size (.cells #[.int .i64 n3_, .int .i64 d3_] 30)
        go_upto_region 28 with fail
        clear x0_18c0 x0_18c1 x0_18l x1_18c0 x1_18c1 x1_18l x3_18c0 x3_18c1 x3_18l s_18c0 s_18c1 s_18l b_18c0 b_18c1 b_18l va_18c0 va_18c1 va_18l vb_18c0 vb_18c1 vb_18l
        have cs_19 := (cs_18.below ((Below.refl _ _).alloc (Nat.le_refl _) (.cells #[.int .i64 n3_, .int .i64 d3_] 30)))
        have cb_19 := (cb_18.below ((Below.refl _ _).alloc (Nat.le_refl _) (.cells #[.int .i64 n3_, .int .i64 d3_] 30)))
        clear cs_18 cb_18
        have x0_19 := (x0_18.alloc (.cells #[.int .i64 n3_, .int .i64 d3_] 30))
        have x1_19 := (x1_18.alloc (.cells #[.int .i64 n3_, .int .i64 d3_] 30))
        have x3_19 := (x3_18.alloc (.cells #[.int .i64 n3_, .int .i64 d3_] 30))
        have s_19 := (s_18.alloc (.cells #[.int .i64 n3_, .int .i64 d3_] 30))
        have b_19 := (b_18.alloc (.cells #[.int .i64 n3_, .int .i64 d3_] 30))
        have va_19 := (va_18.alloc (.cells #[.int .i64 n3_, .int .i64 d3_] 30))
        have vb_19 := (vb_18.alloc (.cells #[.int .i64 n3_, .int .i64 d3_] 30))
        clear x0_18 x1_18 x3_18 s_18 b_18 va_18 vb_18
        have vs_19 := (Blk.new w18 30 #[.int .i64 n3_, .int .i64 d3_])
        generalize hV19 : w18.alloc (.cells #[.int .i64 n3_, .int .i64 d3_] 30) = V19 at *
        generalize hg19 : w18.heap.size = g19 at *
        clear hV19 hg19
        have x0_19c0 := x0_19.cell 0
        have x0_19c1 := x0_19.cell 1
        simp only [List.getElem?_toArray, List.getElem?_cons_zero, List.getElem?_cons_succ] at x0_19c0 x0_19c1
        have x0_19l := x0_19.lt
        have x1_19c0 := x1_19.cell 0
        have x1_19c1 := x1_19.cell 1
        simp only [List.getElem?_toArray, List.getElem?_cons_zero, List.getElem?_cons_succ] at x1_19c0 x1_19c1
        have x1_19l := x1_19.lt
        have x3_19c0 := x3_19.cell 0
        have x3_19c1 := x3_19.cell 1
        simp only [List.getElem?_toArray, List.getElem?_cons_zero, List.getElem?_cons_succ] at x3_19c0 x3_19c1
        have x3_19l := x3_19.lt
        have s_19c0 := s_19.cell 0
        have s_19c1 := s_19.cell 1
        simp only [List.getElem?_toArray, List.getElem?_cons_zero, List.getElem?_cons_succ] at s_19c0 s_19c1
        have s_19l := s_19.lt
        have b_19c0 := b_19.cell 0
        have b_19c1 := b_19.cell 1
        simp only [List.getElem?_toArray, List.getElem?_cons_zero, List.getElem?_cons_succ] at b_19c0 b_19c1
        have b_19l := b_19.lt
        have va_19c0 := va_19.cell 0
        have va_19c1 := va_19.cell 1
        simp only [List.getElem?_toArray, List.getElem?_cons_zero, List.getElem?_cons_succ] at va_19c0 va_19c1
        have va_19l := va_19.lt
        have vb_19c0 := vb_19.cell 0
        have vb_19c1 := vb_19.cell 1
        simp only [List.getElem?_toArray, List.getElem?_cons_zero, List.getElem?_cons_succ] at vb_19c0 vb_19c1
        have vb_19l := vb_19.lt
        have vs_19c0 := vs_19.cell 0
        have vs_19c1 := vs_19.cell 1
        simp only [List.getElem?_toArray, List.getElem?_cons_zero, List.getElem?_cons_succ] at vs_19c0 vs_19c1
        have vs_19l := vs_19.lt
        by_cases hE5 : E5 = 0
        case pos =>
          have hvd := HBk.out hE5
          have HVk := Lib.hid (fun W (hW : CAt W A n ks) (h2 : CAt W A6 n6 R5) => valued_yes A A6 n cap n6 cap6 err F5 ks R5 x W hW hm h2 (by omega) hvd)
          have hz5 : (E5 == 0) = true := by simpa using hE5
          clear hvd hE5
          have B20 := B19a
          go_wp2_with fail
          refine (HVk.out _ (HA.out.below B20) cb_19).mono ?_; rintro e w20 ⟨rfl, hb20⟩
          clear x0_19c0 x0_19c1 x0_19l x1_19c0 x1_19c1 x1_19l x3_19c0 x3_19c1 x3_19l s_19c0 s_19c1 s_19l b_19c0 b_19c1 b_19l va_19c0 va_19c1 va_19l vb_19c0 vb_19c1 vb_19l vs_19c0 vs_19c1 vs_19l
          have cs_20 := cs_19.below hb20
          have cb_20 := cb_19.below hb20
          clear cs_19 cb_19
          have x0_20 := x0_19.below hb20
          have x1_20 := x1_19.below hb20
          have x3_20 := x3_19.below hb20
          have s_20 := s_19.below hb20
          have b_20 := b_19.below hb20
          have va_20 := va_19.below hb20
          have vb_20 := vb_19.below hb20
          have vs_20 := vs_19.below hb20
          clear x0_19 x1_19 x3_19 s_19 b_19 va_19 vb_19 vs_19
          have x0_20c0 := x0_20.cell 0
          have x0_20c1 := x0_20.cell 1
          simp only [List.getElem?_toArray, List.getElem?_cons_zero, List.getElem?_cons_succ] at x0_20c0 x0_20c1
          have x0_20l := x0_20.lt
          have x1_20c0 := x1_20.cell 0
          have x1_20c1 := x1_20.cell 1
          simp only [List.getElem?_toArray, List.getElem?_cons_zero, List.getElem?_cons_succ] at x1_20c0 x1_20c1
          have x1_20l := x1_20.lt
          have x3_20c0 := x3_20.cell 0
          have x3_20c1 := x3_20.cell 1
          simp only [List.getElem?_toArray, List.getElem?_cons_zero, List.getElem?_cons_succ] at x3_20c0 x3_20c1
          have x3_20l := x3_20.lt
          have s_20c0 := s_20.cell 0
          have s_20c1 := s_20.cell 1
          simp only [List.getElem?_toArray, List.getElem?_cons_zero, List.getElem?_cons_succ] at s_20c0 s_20c1
          have s_20l := s_20.lt
          have b_20c0 := b_20.cell 0
          have b_20c1 := b_20.cell 1
          simp only [List.getElem?_toArray, List.getElem?_cons_zero, List.getElem?_cons_succ] at b_20c0 b_20c1
          have b_20l := b_20.lt
          have va_20c0 := va_20.cell 0
          have va_20c1 := va_20.cell 1
          simp only [List.getElem?_toArray, List.getElem?_cons_zero, List.getElem?_cons_succ] at va_20c0 va_20c1
          have va_20l := va_20.lt
          have vb_20c0 := vb_20.cell 0
          have vb_20c1 := vb_20.cell 1
          simp only [List.getElem?_toArray, List.getElem?_cons_zero, List.getElem?_cons_succ] at vb_20c0 vb_20c1
          have vb_20l := vb_20.lt
          have vs_20c0 := vs_20.cell 0
          have vs_20c1 := vs_20.cell 1
          simp only [List.getElem?_toArray, List.getElem?_cons_zero, List.getElem?_cons_succ] at vs_20c0 vs_20c1
          have vs_20l := vs_20.lt
          have BZ := B20.trans (hb20.mono B20.size)
          by_cases hv0 : e1_ = 0
          case pos =>
            obtain ⟨hq, ⟨⟨p1, p2⟩, p3, p4⟩, ⟨⟨q1, q2⟩, q3, q4⟩, ⟨r1, r2⟩, r3, r4⟩ := HQ.out hv0
            have m1 := mul_bd (x := n3_) (y := d1_) (A := 131072000) (B := 2000) (by omega) (by omega) (by omega) (by omega)
            have m2 := mul_bd (x := n3_ * d1_) (y := d2_) (A := 262144000000) (B := 2000) (by omega) (by omega) (by omega) (by omega)
            have m3 := mul_bd (x := n1_) (y := d2_) (A := 131072000) (B := 2000) (by omega) (by omega) (by omega) (by omega)
            have m4 := mul_bd (x := n2_) (y := d1_) (A := 131072000) (B := 2000) (by omega) (by omega) (by omega) (by omega)
            have m5 := mul_bd (x := n1_ * d2_ + n2_ * d1_) (y := d3_) (A := 524288000000) (B := 2000) (by omega) (by omega) (by omega) (by omega)
            have w1 : IntKind.i64.wrap (n3_ * d1_) = n3_ * d1_ := IntWalk.i64_in _ (by omega)
            have w2 : IntKind.i64.wrap (n3_ * d1_ * d2_) = n3_ * d1_ * d2_ := IntWalk.i64_in _ (by omega)
            have w3 : IntKind.i64.wrap (n1_ * d2_) = n1_ * d2_ := IntWalk.i64_in _ (by omega)
            have w4 : IntKind.i64.wrap (n2_ * d1_) = n2_ * d1_ := IntWalk.i64_in _ (by omega)
            have w5 : IntKind.i64.wrap (n1_ * d2_ + n2_ * d1_) = n1_ * d2_ + n2_ * d1_ := IntWalk.i64_in _ (by omega)
            have w6 : IntKind.i64.wrap ((n1_ * d2_ + n2_ * d1_) * d3_) = (n1_ * d2_ + n2_ * d1_) * d3_ := IntWalk.i64_in _ (by omega)
            have hqq : (n3_ * d1_ * d2_ == (n1_ * d2_ + n2_ * d1_) * d3_) = true := by simpa using hq
            have hv1 : (e1_ != 0) = false := by simpa using hv0
            clear hq hv0 p1 p2 p3 p4 q1 q2 q3 q4 r1 r2 r3 r4 m1 m2 m3 m4 m5
            go_wp2
            go_ret
            exact ⟨by simp, BZ⟩
          case neg =>
            have hv1 : (e1_ != 0) = true := by simpa using hv0
            clear hv0
            go_wp2
            go_ret
            exact ⟨by simp, BZ⟩
        case neg =>
          have hz5 : (E5 == 0) = false := by simpa using hE5
          clear hE5
          by_cases hv0 : e1_ = 0
          case pos =>
            obtain ⟨hq, ⟨⟨p1, p2⟩, p3, p4⟩, ⟨⟨q1, q2⟩, q3, q4⟩, ⟨r1, r2⟩, r3, r4⟩ := HQ.out hv0
            have m1 := mul_bd (x := n3_) (y := d1_) (A := 131072000) (B := 2000) (by omega) (by omega) (by omega) (by omega)
            have m2 := mul_bd (x := n3_ * d1_) (y := d2_) (A := 262144000000) (B := 2000) (by omega) (by omega) (by omega) (by omega)
            have m3 := mul_bd (x := n1_) (y := d2_) (A := 131072000) (B := 2000) (by omega) (by omega) (by omega) (by omega)
            have m4 := mul_bd (x := n2_) (y := d1_) (A := 131072000) (B := 2000) (by omega) (by omega) (by omega) (by omega)
            have m5 := mul_bd (x := n1_ * d2_ + n2_ * d1_) (y := d3_) (A := 524288000000) (B := 2000) (by omega) (by omega) (by omega) (by omega)
            have w1 : IntKind.i64.wrap (n3_ * d1_) = n3_ * d1_ := IntWalk.i64_in _ (by omega)
            have w2 : IntKind.i64.wrap (n3_ * d1_ * d2_) = n3_ * d1_ * d2_ := IntWalk.i64_in _ (by omega)
            have w3 : IntKind.i64.wrap (n1_ * d2_) = n1_ * d2_ := IntWalk.i64_in _ (by omega)
            have w4 : IntKind.i64.wrap (n2_ * d1_) = n2_ * d1_ := IntWalk.i64_in _ (by omega)
            have w5 : IntKind.i64.wrap (n1_ * d2_ + n2_ * d1_) = n1_ * d2_ + n2_ * d1_ := IntWalk.i64_in _ (by omega)
            have w6 : IntKind.i64.wrap ((n1_ * d2_ + n2_ * d1_) * d3_) = (n1_ * d2_ + n2_ * d1_) * d3_ := IntWalk.i64_in _ (by omega)
            have hqq : (n3_ * d1_ * d2_ == (n1_ * d2_ + n2_ * d1_) * d3_) = true := by simpa using hq
            have hv1 : (e1_ != 0) = false := by simpa using hv0
            clear hq hv0 p1 p2 p3 p4 q1 q2 q3 q4 r1 r2 r3 r4 m1 m2 m3 m4 m5
            go_wp2
            go_ret
            exact ⟨by simp, B19a⟩
          case neg =>
            have hv1 : (e1_ != 0) = true := by simpa using hv0
            clear hv0
            go_wp2
            go_ret
            exact ⟨by simp, B19a⟩

set_option maxRecDepth 100000 in
theorem curveKeeps_lifted (os : Os) (started : os.Started) (H : Type) (enc : TypeId × Value → H) :
    ReturnsInHanded Rows.curveKeepsRow.assume Try.checked os 16 .any (Rows.curveKeepsSpec.pre6 enc Try.prog Try.f16 Rows.curveKeepsRow.domain false) (Rows.curveKeepsSpec.post enc Try.prog Try.f16 false Rows.curveKeepsRow.fresh Rows.curveKeepsRow.handsOn Rows.curveKeepsRow.again) := by
  refine returnsInHanded_of_change (C := Try.checked) (by kernel_rfl) started (by kernel_rfl) Try.func16
    (ChangeSpec.witness6 (enc := enc) (C := Try.checked) false ⟨#[], #[vCv none 0 0 0, vCv none 0 0 0, .slice none 0 0, vSpan 0 0, .int .i64 0], []⟩ 8 (by kernel_rfl) (by kernel_rfl) (by kernel_rfl) (by kernel_rfl)) ?_
  intro W base args ds gs before hval0 hW hcnd _
  have hval : ∀ (j : Nat) t v, Try.f16.params[j]? = some t → args[j]? = some v → Value.okWide Try.prog W .any base t v := hval0
  have hW' := hW
  obtain ⟨p, q, hA0, hV, rfl, hfz, hnd⟩ := hW
  obtain ⟨rfl, rfl⟩ := trodVars_none hV
  have hA : DataW.TrodAll enc Try.prog W 0 (fun _ => true) true [24, 24, 93, 26, 3] args.toList ds p := hA0
  obtain ⟨v0, v1, v2, v3, v4, d0, d1, d2, d3, d4, p0, p1, p2, p3, p4, rfl, rfl, rfl, h0, h1, h2, h3, h4⟩ := trodAll_five hA
  obtain ⟨A, n, cap, err, ks, rfl, hC, hm, _, _, rfl⟩ := open_cv (hval 0 24 v0 rfl rfl) h0
  obtain ⟨A', n', cap', err', ks', rfl, hC', hm', _, _, rfl⟩ := open_cv (hval 1 24 v1 rfl rfl) h1
  obtain ⟨B, m, bc, xs, rfl, hI, hmm⟩ := open_is (hval 2 93 v2 rfl rfl) h2
  obtain ⟨lo, hi, rfl, hlo, hhi, _, rfl⟩ := open_sp (hval 3 26 v3 rfl rfl) h3
  obtain ⟨x, rfl, rfl, rfl, _⟩ := open_int Try.underlying3 (hval 4 3 v4 rfl rfl) h4
  refine (curveKeeps_walk A A' n cap n' cap' err err' ks ks' B m bc xs lo hi x W hC hm hC' hm' hI hmm).mono fun e W' ⟨he, hb⟩ => ⟨_, he, law_post laid_out (by kernel_rfl) rfl Try.underlying4 rfl hW' rfl rfl rfl hb⟩

theorem curveKeeps : Rows.CurveKeepsSaid :=
  OpenClaim.holds_of_wide 16 Try.f16 rfl rfl rfl rfl rfl rfl rfl ⟨rfl, rfl, rfl, rfl, rfl⟩ rfl rfl rfl rfl rfl (by kernel_rfl) Try.func16 (by kernel_rfl)
    (of_decide_eq_true (by kernel_rfl)) (by unfold Func.isWrapper; first | (rw [if_pos (by decide +kernel)]; kernel_rfl) | (rw [if_neg (by decide +kernel)]; exact ⟨rfl, rfl⟩))
    (fun os started H enc _ => curveKeeps_lifted os started H enc)
#print axioms curveKeeps

end Go.Proofs.Ytipablcbkoedbaa
