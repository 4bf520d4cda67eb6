/- Lowest, Compare: the program's and the reference's. -/
import Derived.WalkKit
import Derived.WalkLawsBesides
import Derived.Lib.Hide
import Derived.Outline
import Derived.WalkSmall
import Derived.Test.YtipablcbkoedbaaProg
import Derived.Test.YtipablcbkoedbaaF3
namespace Go.Proofs.Ytipablcbkoedbaa
open Go.RowKit

instance okFDec (n d : Int) : Decidable (okF n d) := by unfold okF; infer_instance
/-- In lowest terms, with a divisor greater than 0. -/
def sN (n d : Int) : Int := if d < 0 then lowN (-n) (-d) else lowN n d
def sD (n d : Int) : Int := if d < 0 then lowD (-n) (-d) else lowD n d
def lwErr (n d : Int) : Int := if d = 0 ∨ ¬ (-549755813888 ≤ n ∧ n ≤ 549755813888) ∨ ¬ (-549755813888 ≤ d ∧ d ≤ 549755813888) then 1 else if okF (sN n d) (sD n d) then 0 else 3
def lwN (n d : Int) : Int := if lwErr n d = 0 then sN n d else 0
def lwD (n d : Int) : Int := if lwErr n d = 0 then sD n d else 0
theorem lw_zero {n d e : Int} (h : lwErr n d = e) (he : e ≠ 0) : lwN n d = 0 ∧ lwD n d = 0 := by unfold lwN lwD; rw [h, if_neg he, if_neg he]; exact ⟨rfl, rfl⟩
theorem lw_nz {n d : Int} (h : lwErr n d = 0) : lwN n d = sN n d ∧ lwD n d = sD n d := by unfold lwN lwD; rw [h, if_pos rfl, if_pos rfl]; exact ⟨rfl, rfl⟩
abbrev lwOut (w : World) (n d : Int) (e : Ending) (w' : World) : Prop := e = .returned (.tuple #[vFrac (lwN n d) (lwD n d), .int .i64 (lwErr n d)]) ∧ Below w.heap.size w w'

theorem frac_s (n d : Int) (w : World) (h1 : -4611686018427387904 ≤ n) (h2 : n ≤ 4611686018427387904) (h3 : -4611686018427387904 ≤ d) (h4 : d ≤ 4611686018427387904) (h0 : d ≠ 0) :
    Calls Try.prog 100 #[.int .i64 n, .int .i64 d] w fun e w' => e = .returned (vFrac (sN n d) (sD n d)) ∧ Below w.heap.size w w' := by
  unfold sN sD
  by_cases h : d < 0
  · rw [if_pos h, if_pos h]; exact frac_neg n d w h1 h2 (by omega) h3
  · rw [if_neg h, if_neg h]; exact frac_pos n d w h1 h2 (by omega) h4

theorem Lowest_bad (n d : Int) (w : World) (h : d = 0 ∨ ¬ (-549755813888 ≤ n ∧ n ≤ 549755813888) ∨ ¬ (-549755813888 ≤ d ∧ d ≤ 549755813888)) : Calls Try.prog 40 #[.int .i64 n, .int .i64 d] w (lwOut w n d) := by
  have he : lwErr n d = 1 := by unfold lwErr; rw [if_pos h]
  have hz := lw_zero he (by omega)
  have HE := Lib.hid he
  have HZ := Lib.hid hz
  clear he hz
  have hret : ∀ {tm : Array Value}, True := fun {_} => trivial
  clear hret
  by_cases h0 : d = 0
  · subst h0
    clear h
    go_enter Try.func40, Try.ntmps40
    go_wp2
    refine bodyPost_ret (v := .tuple #[vFrac 0 0, .int .i64 1]) (by simp [results, Try.results40, go_sem]) rfl ⟨by rw [HE.out, HZ.out.1, HZ.out.2], (Below.refl _ _).alloc (Nat.le_refl _) _⟩
  have h01 : (d == 0) = false := by simpa using h0
  by_cases h1 : -549755813888 ≤ n ∧ n ≤ 549755813888
  · have h2 : ¬ (-549755813888 ≤ d ∧ d ≤ 549755813888) := by rcases h with h | h | h <;> first | contradiction | exact h
    have H1 := Lib.hid (fun W => within_yes n (-549755813888) 549755813888 W h1)
    have H2 := Lib.hid (fun W => within_no d (-549755813888) 549755813888 W h2)
    clear h h0 h1 h2
    go_enter Try.func40, Try.ntmps40
    go_wp2_with (go_at_call 98; first | (with_reducible refine (H1.out _).mono ?_; rintro e w' ⟨rfl, rfl⟩) | (with_reducible refine (H2.out _).mono ?_; rintro e w' ⟨rfl, rfl⟩))
    refine bodyPost_ret (v := .tuple #[vFrac 0 0, .int .i64 1]) (by simp [results, Try.results40, go_sem]) rfl ⟨by rw [HE.out, HZ.out.1, HZ.out.2], (Below.refl _ _).alloc (Nat.le_refl _) _⟩
  · have H1 := Lib.hid (fun W => within_no n (-549755813888) 549755813888 W h1)
    clear h h0 h1
    go_enter Try.func40, Try.ntmps40
    go_wp2_with (go_at_call 98; with_reducible refine (H1.out _).mono ?_; rintro e w' ⟨rfl, rfl⟩)
    refine bodyPost_ret (v := .tuple #[vFrac 0 0, .int .i64 1]) (by simp [results, Try.results40, go_sem]) rfl ⟨by rw [HE.out, HZ.out.1, HZ.out.2], (Below.refl _ _).alloc (Nat.le_refl _) _⟩
theorem Lowest_good (n d : Int) (w : World) (h0 : d ≠ 0) (h1 : -549755813888 ≤ n ∧ n ≤ 549755813888) (h2 : -549755813888 ≤ d ∧ d ≤ 549755813888) : Calls Try.prog 40 #[.int .i64 n, .int .i64 d] w (lwOut w n d) := by
  have he : lwErr n d = if okF (sN n d) (sD n d) then 0 else 3 := by unfold lwErr; rw [if_neg (by rintro (h | h | h) <;> contradiction)]
  have h01 : (d == 0) = false := by simpa using h0
  have H1 := Lib.hid (fun W => within_yes n (-549755813888) 549755813888 W h1)
  have H2 := Lib.hid (fun W => within_yes d (-549755813888) 549755813888 W h2)
  have HF := Lib.hid (fun W => frac_s n d W (by omega) (by omega) (by omega) (by omega) h0)
  by_cases hok : okF (sN n d) (sD n d)
  · rw [if_pos hok] at he
    have HZ := Lib.hid (lw_nz he)
    have HE := Lib.hid he
    have HV := Lib.hid (fun W => valid_yes _ _ W hok)
    clear he hok h0 h1 h2
    generalize sN n d = a at *
    generalize sD n d = b at *
    go_enter Try.func40, Try.ntmps40
    go_wp2_with fail
    refine (H1.out _).mono ?_; rintro e w' ⟨rfl, rfl⟩
    go_wp2_with fail
    refine (H2.out _).mono ?_; rintro e w' ⟨rfl, rfl⟩
    go_wp2_with fail
    refine (HF.out _).mono ?_; rintro e w1 ⟨rfl, hb1⟩
    have hr1 := (Blk.new w 30 #[.int .i64 0, .int .i64 0]).below hb1
    have hb2 := ((Below.refl w.heap.size w).alloc (Nat.le_refl _) (.cells #[.int .i64 0, .int .i64 0] 30)).trans (hb1.mono (by simp))
    have hb3 := hb2.alloc hb2.size (.cells #[.int .i64 a, .int .i64 b] 30)
    go_wp2_with (go_at_call 101; refine (HV.out _).mono ?_; rintro e w2 ⟨rfl, hb4⟩; have hr2 := (hr1.alloc (.cells #[.int .i64 a, .int .i64 b] 30)).below hb4; have hf2 := (Blk.new w1 30 #[.int .i64 a, .int .i64 b]).below hb4; have rc0 := hr2.cell 0; have rc1 := hr2.cell 1; have rf0 := hr2.frozen 0; have rf1 := hr2.frozen 1; have fc0 := hf2.cell 0; have fc1 := hf2.cell 1; have rl := hr2.lt; simp only [List.getElem?_toArray, List.getElem?_cons_zero, List.getElem?_cons_succ] at rc0 rc1 fc0 fc1; have hb5 := hb3.trans (hb4.mono hb3.size))
    have hF := (hr2.set_ 0 (.int .i64 a)).set_ 1 (.int .i64 b)
    have k0 := hF.cell 0
    have k1 := hF.cell 1
    simp only [List.setIfInBounds_toArray, List.set_cons_zero, List.set_cons_succ, List.getElem?_toArray, List.getElem?_cons_zero, List.getElem?_cons_succ] at k0 k1
    refine bodyPost_ret (v := .tuple #[vFrac a b, .int .i64 0]) (by simp [results, Try.results40, go_sem, k0, k1]) rfl ⟨by rw [HE.out, HZ.out.1, HZ.out.2], (hb5.setCell (p := ⟨w.heap.size, 0, none⟩) (Nat.le_refl _) _).setCell (p := ⟨w.heap.size, 1, none⟩) (Nat.le_refl _) _⟩
  · rw [if_neg hok] at he
    have HZ := Lib.hid (lw_zero he (by omega))
    have HE := Lib.hid he
    have HV := Lib.hid (fun W => valid_no _ _ W hok)
    clear he hok h0 h1 h2
    generalize sN n d = a at *
    generalize sD n d = b at *
    go_enter Try.func40, Try.ntmps40
    go_wp2_with fail
    refine (H1.out _).mono ?_; rintro e w' ⟨rfl, rfl⟩
    go_wp2_with fail
    refine (H2.out _).mono ?_; rintro e w' ⟨rfl, rfl⟩
    go_wp2_with fail
    refine (HF.out _).mono ?_; rintro e w1 ⟨rfl, hb1⟩
    have hr1 := (Blk.new w 30 #[.int .i64 0, .int .i64 0]).below hb1
    have hb2 := ((Below.refl w.heap.size w).alloc (Nat.le_refl _) (.cells #[.int .i64 0, .int .i64 0] 30)).trans (hb1.mono (by simp))
    have hb3 := hb2.alloc hb2.size (.cells #[.int .i64 a, .int .i64 b] 30)
    go_wp2_with (go_at_call 101; refine (HV.out _).mono ?_; rintro e w2 ⟨rfl, hb4⟩; have hr2 := (hr1.alloc (.cells #[.int .i64 a, .int .i64 b] 30)).below hb4; have rc0 := hr2.cell 0; have rc1 := hr2.cell 1; have rf0 := hr2.frozen 0; have rf1 := hr2.frozen 1; have rl := hr2.lt; simp only [List.getElem?_toArray, List.getElem?_cons_zero, List.getElem?_cons_succ] at rc0 rc1; have hb5 := hb3.trans (hb4.mono hb3.size))
    have hF := (hr2.set_ 0 (.int .i64 0)).set_ 1 (.int .i64 0)
    have k0 := hF.cell 0
    have k1 := hF.cell 1
    simp only [List.setIfInBounds_toArray, List.set_cons_zero, List.set_cons_succ, List.getElem?_toArray, List.getElem?_cons_zero, List.getElem?_cons_succ] at k0 k1
    refine bodyPost_ret (v := .tuple #[vFrac 0 0, .int .i64 3]) (by simp [results, Try.results40, go_sem, k0, k1]) rfl ⟨by rw [HE.out, HZ.out.1, HZ.out.2], (hb5.setCell (p := ⟨w.heap.size, 0, none⟩) (Nat.le_refl _) _).setCell (p := ⟨w.heap.size, 1, none⟩) (Nat.le_refl _) _⟩
theorem Lowest_any (n d : Int) (w : World) : Calls Try.prog 40 #[.int .i64 n, .int .i64 d] w (lwOut w n d) := by
  by_cases h : d = 0 ∨ ¬ (-549755813888 ≤ n ∧ n ≤ 549755813888) ∨ ¬ (-549755813888 ≤ d ∧ d ≤ 549755813888)
  · exact Lowest_bad n d w h
  · refine Lowest_good n d w (fun h0 => h (.inl h0)) ?_ ?_
    · by_cases h1 : -549755813888 ≤ n ∧ n ≤ 549755813888
      · exact h1
      · exact absurd (.inr (.inl h1)) h
    · by_cases h1 : -549755813888 ≤ d ∧ d ≤ 549755813888
      · exact h1
      · exact absurd (.inr (.inr h1)) h

theorem RLowest_bad (n d : Int) (w : World) (h : d = 0 ∨ ¬ (-549755813888 ≤ n ∧ n ≤ 549755813888) ∨ ¬ (-549755813888 ≤ d ∧ d ≤ 549755813888)) : Calls Try.prog 41 #[.int .i64 n, .int .i64 d] w (lwOut w n d) := by
  have he : lwErr n d = 1 := by unfold lwErr; rw [if_pos h]
  have hz := lw_zero he (by omega)
  have HE := Lib.hid he
  have HZ := Lib.hid hz
  clear he hz
  by_cases h0 : d = 0
  · subst h0
    clear h
    go_enter Try.func41, Try.ntmps41
    go_wp2
    refine bodyPost_ret (v := .tuple #[vFrac 0 0, .int .i64 1]) (by simp [results, Try.results41, go_sem]) rfl ⟨by rw [HE.out, HZ.out.1, HZ.out.2], (Below.refl _ _).alloc (Nat.le_refl _) _⟩
  have h01 : (d == 0) = false := by simpa using h0
  by_cases h1 : n < -549755813888
  · clear h
    go_enter Try.func41, Try.ntmps41
    go_wp2
    refine bodyPost_ret (v := .tuple #[vFrac 0 0, .int .i64 1]) (by simp [results, Try.results41, go_sem]) rfl ⟨by rw [HE.out, HZ.out.1, HZ.out.2], (Below.refl _ _).alloc (Nat.le_refl _) _⟩
  by_cases h2 : 549755813888 < n
  · clear h
    go_enter Try.func41, Try.ntmps41
    go_wp2
    refine bodyPost_ret (v := .tuple #[vFrac 0 0, .int .i64 1]) (by simp [results, Try.results41, go_sem]) rfl ⟨by rw [HE.out, HZ.out.1, HZ.out.2], (Below.refl _ _).alloc (Nat.le_refl _) _⟩
  by_cases h3 : d < -549755813888
  · clear h
    go_enter Try.func41, Try.ntmps41
    go_wp2
    refine bodyPost_ret (v := .tuple #[vFrac 0 0, .int .i64 1]) (by simp [results, Try.results41, go_sem]) rfl ⟨by rw [HE.out, HZ.out.1, HZ.out.2], (Below.refl _ _).alloc (Nat.le_refl _) _⟩
  have h4 : 549755813888 < d := by omega
  clear h
  go_enter Try.func41, Try.ntmps41
  go_wp2
  refine bodyPost_ret (v := .tuple #[vFrac 0 0, .int .i64 1]) (by simp [results, Try.results41, go_sem]) rfl ⟨by rw [HE.out, HZ.out.1, HZ.out.2], (Below.refl _ _).alloc (Nat.le_refl _) _⟩
theorem RLowest_good (n d : Int) (w : World) (h0 : d ≠ 0) (h1 : -549755813888 ≤ n ∧ n ≤ 549755813888) (h2 : -549755813888 ≤ d ∧ d ≤ 549755813888) : Calls Try.prog 41 #[.int .i64 n, .int .i64 d] w (lwOut w n d) := by
  have he : lwErr n d = if okF (sN n d) (sD n d) then 0 else 3 := by unfold lwErr; rw [if_neg (by rintro (h | h | h) <;> contradiction)]
  have h01 : (d == 0) = false := by simpa using h0
  obtain ⟨h1, h1'⟩ := h1
  obtain ⟨h2, h2'⟩ := h2
  by_cases hneg : d < 0
  · have HF := Lib.hid (fun W => Low_any (-n) (-d) W (by omega) (by omega) (by omega) (by omega))
    have hsn : sN n d = lowN (-n) (-d) := by unfold sN; rw [if_pos hneg]
    have hsd : sD n d = lowD (-n) (-d) := by unfold sD; rw [if_pos hneg]
    rw [hsn, hsd] at he
    by_cases hok : okF (lowN (-n) (-d)) (lowD (-n) (-d))
    · rw [if_pos hok] at he
      have HZ := Lib.hid (lw_nz he)
      have HE := Lib.hid he
      have HS := Lib.hid (And.intro hsn hsd)
      have HV := Lib.hid (fun W => Valid_yes _ _ W hok)
      clear he hok hsn hsd
      generalize lowN (-n) (-d) = a at *
      generalize lowD (-n) (-d) = b at *
      go_enter Try.func41, Try.ntmps41
      go_wp2_with fail
      refine (HF.out _).mono ?_; rintro e w1 ⟨rfl, hb1⟩
      have hr1 := (Blk.new w 30 #[.int .i64 0, .int .i64 0]).below hb1
      have hb2 := ((Below.refl w.heap.size w).alloc (Nat.le_refl _) (.cells #[.int .i64 0, .int .i64 0] 30)).trans (hb1.mono (by simp))
      have hb3 := hb2.alloc hb2.size (.cells #[.int .i64 a, .int .i64 b] 30)
      go_wp2_with (go_at_call 103; refine (HV.out _).mono ?_; rintro e w2 ⟨rfl, hb4⟩; have hr2 := (hr1.alloc (.cells #[.int .i64 a, .int .i64 b] 30)).below hb4; have hf2 := (Blk.new w1 30 #[.int .i64 a, .int .i64 b]).below hb4; have rc0 := hr2.cell 0; have rc1 := hr2.cell 1; have rf0 := hr2.frozen 0; have rf1 := hr2.frozen 1; have fc0 := hf2.cell 0; have fc1 := hf2.cell 1; have rl := hr2.lt; simp only [List.getElem?_toArray, List.getElem?_cons_zero, List.getElem?_cons_succ] at rc0 rc1 fc0 fc1; have hb5 := hb3.trans (hb4.mono hb3.size))
      have hF := (hr2.set_ 0 (.int .i64 a)).set_ 1 (.int .i64 b)
      have k0 := hF.cell 0
      have k1 := hF.cell 1
      simp only [List.setIfInBounds_toArray, List.set_cons_zero, List.set_cons_succ, List.getElem?_toArray, List.getElem?_cons_zero, List.getElem?_cons_succ] at k0 k1
      refine bodyPost_ret (v := .tuple #[vFrac a b, .int .i64 0]) (by simp [results, Try.results41, go_sem, k0, k1]) rfl ⟨by rw [HE.out, HZ.out.1, HZ.out.2, HS.out.1, HS.out.2], (hb5.setCell (p := ⟨w.heap.size, 0, none⟩) (Nat.le_refl _) _).setCell (p := ⟨w.heap.size, 1, none⟩) (Nat.le_refl _) _⟩
    · rw [if_neg hok] at he
      have HZ := Lib.hid (lw_zero he (by omega))
      have HE := Lib.hid he
      have HS := Lib.hid (And.intro hsn hsd)
      have HV := Lib.hid (fun W => Valid_no _ _ W hok)
      clear he hok hsn hsd
      generalize lowN (-n) (-d) = a at *
      generalize lowD (-n) (-d) = b at *
      go_enter Try.func41, Try.ntmps41
      go_wp2_with fail
      refine (HF.out _).mono ?_; rintro e w1 ⟨rfl, hb1⟩
      have hr1 := (Blk.new w 30 #[.int .i64 0, .int .i64 0]).below hb1
      have hb2 := ((Below.refl w.heap.size w).alloc (Nat.le_refl _) (.cells #[.int .i64 0, .int .i64 0] 30)).trans (hb1.mono (by simp))
      have hb3 := hb2.alloc hb2.size (.cells #[.int .i64 a, .int .i64 b] 30)
      go_wp2_with (go_at_call 103; refine (HV.out _).mono ?_; rintro e w2 ⟨rfl, hb4⟩; have hr2 := (hr1.alloc (.cells #[.int .i64 a, .int .i64 b] 30)).below hb4; have hf2 := (Blk.new w1 30 #[.int .i64 a, .int .i64 b]).below hb4; have rc0 := hr2.cell 0; have rc1 := hr2.cell 1; have rf0 := hr2.frozen 0; have rf1 := hr2.frozen 1; have fc0 := hf2.cell 0; have fc1 := hf2.cell 1; have rl := hr2.lt; simp only [List.getElem?_toArray, List.getElem?_cons_zero, List.getElem?_cons_succ] at rc0 rc1 fc0 fc1; have hb5 := hb3.trans (hb4.mono hb3.size))
      have hF := (hr2.set_ 0 (.int .i64 0)).set_ 1 (.int .i64 0)
      have k0 := hF.cell 0
      have k1 := hF.cell 1
      simp only [List.setIfInBounds_toArray, List.set_cons_zero, List.set_cons_succ, List.getElem?_toArray, List.getElem?_cons_zero, List.getElem?_cons_succ] at k0 k1
      refine bodyPost_ret (v := .tuple #[vFrac 0 0, .int .i64 3]) (by simp [results, Try.results41, go_sem, k0, k1]) rfl ⟨by rw [HE.out, HZ.out.1, HZ.out.2], (hb5.setCell (p := ⟨w.heap.size, 0, none⟩) (Nat.le_refl _) _).setCell (p := ⟨w.heap.size, 1, none⟩) (Nat.le_refl _) _⟩
  · have HF := Lib.hid (fun W => Low_any n d W (by omega) (by omega) (by omega) (by omega))
    have hsn : sN n d = lowN n d := by unfold sN; rw [if_neg hneg]
    have hsd : sD n d = lowD n d := by unfold sD; rw [if_neg hneg]
    rw [hsn, hsd] at he
    by_cases hok : okF (lowN n d) (lowD n d)
    · rw [if_pos hok] at he
      have HZ := Lib.hid (lw_nz he)
      have HE := Lib.hid he
      have HS := Lib.hid (And.intro hsn hsd)
      have HV := Lib.hid (fun W => Valid_yes _ _ W hok)
      clear he hok hsn hsd
      generalize lowN n d = a at *
      generalize lowD n d = b at *
      go_enter Try.func41, Try.ntmps41
      go_wp2_with fail
      refine (HF.out _).mono ?_; rintro e w1 ⟨rfl, hb1⟩
      have hr1 := (Blk.new w 30 #[.int .i64 0, .int .i64 0]).below hb1
      have hb2 := ((Below.refl w.heap.size w).alloc (Nat.le_refl _) (.cells #[.int .i64 0, .int .i64 0] 30)).trans (hb1.mono (by simp))
      have hb3 := hb2.alloc hb2.size (.cells #[.int .i64 a, .int .i64 b] 30)
      go_wp2_with (go_at_call 103; refine (HV.out _).mono ?_; rintro e w2 ⟨rfl, hb4⟩; have hr2 := (hr1.alloc (.cells #[.int .i64 a, .int .i64 b] 30)).below hb4; have hf2 := (Blk.new w1 30 #[.int .i64 a, .int .i64 b]).below hb4; have rc0 := hr2.cell 0; have rc1 := hr2.cell 1; have rf0 := hr2.frozen 0; have rf1 := hr2.frozen 1; have fc0 := hf2.cell 0; have fc1 := hf2.cell 1; have rl := hr2.lt; simp only [List.getElem?_toArray, List.getElem?_cons_zero, List.getElem?_cons_succ] at rc0 rc1 fc0 fc1; have hb5 := hb3.trans (hb4.mono hb3.size))
      have hF := (hr2.set_ 0 (.int .i64 a)).set_ 1 (.int .i64 b)
      have k0 := hF.cell 0
      have k1 := hF.cell 1
      simp only [List.setIfInBounds_toArray, List.set_cons_zero, List.set_cons_succ, List.getElem?_toArray, List.getElem?_cons_zero, List.getElem?_cons_succ] at k0 k1
      refine bodyPost_ret (v := .tuple #[vFrac a b, .int .i64 0]) (by simp [results, Try.results41, go_sem, k0, k1]) rfl ⟨by rw [HE.out, HZ.out.1, HZ.out.2, HS.out.1, HS.out.2], (hb5.setCell (p := ⟨w.heap.size, 0, none⟩) (Nat.le_refl _) _).setCell (p := ⟨w.heap.size, 1, none⟩) (Nat.le_refl _) _⟩
    · rw [if_neg hok] at he
      have HZ := Lib.hid (lw_zero he (by omega))
      have HE := Lib.hid he
      have HS := Lib.hid (And.intro hsn hsd)
      have HV := Lib.hid (fun W => Valid_no _ _ W hok)
      clear he hok hsn hsd
      generalize lowN n d = a at *
      generalize lowD n d = b at *
      go_enter Try.func41, Try.ntmps41
      go_wp2_with fail
      refine (HF.out _).mono ?_; rintro e w1 ⟨rfl, hb1⟩
      have hr1 := (Blk.new w 30 #[.int .i64 0, .int .i64 0]).below hb1
      have hb2 := ((Below.refl w.heap.size w).alloc (Nat.le_refl _) (.cells #[.int .i64 0, .int .i64 0] 30)).trans (hb1.mono (by simp))
      have hb3 := hb2.alloc hb2.size (.cells #[.int .i64 a, .int .i64 b] 30)
      go_wp2_with (go_at_call 103; refine (HV.out _).mono ?_; rintro e w2 ⟨rfl, hb4⟩; have hr2 := (hr1.alloc (.cells #[.int .i64 a, .int .i64 b] 30)).below hb4; have hf2 := (Blk.new w1 30 #[.int .i64 a, .int .i64 b]).below hb4; have rc0 := hr2.cell 0; have rc1 := hr2.cell 1; have rf0 := hr2.frozen 0; have rf1 := hr2.frozen 1; have fc0 := hf2.cell 0; have fc1 := hf2.cell 1; have rl := hr2.lt; simp only [List.getElem?_toArray, List.getElem?_cons_zero, List.getElem?_cons_succ] at rc0 rc1 fc0 fc1; have hb5 := hb3.trans (hb4.mono hb3.size))
      have hF := (hr2.set_ 0 (.int .i64 0)).set_ 1 (.int .i64 0)
      have k0 := hF.cell 0
      have k1 := hF.cell 1
      simp only [List.setIfInBounds_toArray, List.set_cons_zero, List.set_cons_succ, List.getElem?_toArray, List.getElem?_cons_zero, List.getElem?_cons_succ] at k0 k1
      refine bodyPost_ret (v := .tuple #[vFrac 0 0, .int .i64 3]) (by simp [results, Try.results41, go_sem, k0, k1]) rfl ⟨by rw [HE.out, HZ.out.1, HZ.out.2], (hb5.setCell (p := ⟨w.heap.size, 0, none⟩) (Nat.le_refl _) _).setCell (p := ⟨w.heap.size, 1, none⟩) (Nat.le_refl _) _⟩
theorem RLowest_any (n d : Int) (w : World) : Calls Try.prog 41 #[.int .i64 n, .int .i64 d] w (lwOut w n d) := by
  by_cases h : d = 0 ∨ ¬ (-549755813888 ≤ n ∧ n ≤ 549755813888) ∨ ¬ (-549755813888 ≤ d ∧ d ≤ 549755813888)
  · exact RLowest_bad n d w h
  · refine RLowest_good n d w (fun h0 => h (.inl h0)) ?_ ?_
    · by_cases h1 : -549755813888 ≤ n ∧ n ≤ 549755813888
      · exact h1
      · exact absurd (.inr (.inl h1)) h
    · by_cases h1 : -549755813888 ≤ d ∧ d ≤ 549755813888
      · exact h1
      · exact absurd (.inr (.inr h1)) h

/-! ### Compare -/
def cpErr (a b : Int × Int) : Int := if okF a.1 a.2 ∧ okF b.1 b.2 then 0 else 1
def cpV (a b : Int × Int) : Int := if okF a.1 a.2 ∧ okF b.1 b.2 then ordF a.1 a.2 b.1 b.2 else 0
abbrev cpOut (w : World) (a b : Int × Int) (e : Ending) (w' : World) : Prop := e = .returned (.tuple #[.int .i64 (cpV a b), .int .i64 (cpErr a b)]) ∧ Below w.heap.size w w'
theorem okF_frb {a : Int × Int} (h : okF a.1 a.2) : FrB a := ⟨h.2.2.1, h.2.2.2.1, h.1, h.2.1⟩
theorem Compare_any (a b : Int × Int) (w : World) : Calls Try.prog 42 #[vFrac a.1 a.2, vFrac b.1 b.2] w (cpOut w a b) := by
  have hbw := ((Below.refl w.heap.size w).alloc (Nat.le_refl _) (.cells #[.int .i64 a.1, .int .i64 a.2] 30)).alloc (by simp) (.cells #[.int .i64 b.1, .int .i64 b.2] 30)
  have hA := (Blk.at_new (W := w) 30 #[.int .i64 a.1, .int .i64 a.2] rfl).alloc (.cells #[.int .i64 b.1, .int .i64 b.2] 30)
  have hB := Blk.at_new (W := w.alloc (.cells #[.int .i64 a.1, .int .i64 a.2] 30)) 30 #[.int .i64 b.1, .int .i64 b.2] (g := w.heap.size + 1) (by simp)
  by_cases h1 : okF a.1 a.2
  case neg =>
    have HE := Lib.hid (show cpErr a b = 1 ∧ cpV a b = 0 by unfold cpErr cpV; rw [if_neg (fun h => h1 h.1), if_neg (fun h => h1 h.1)]; exact ⟨rfl, rfl⟩)
    have H1 := Lib.hid (fun W => valid_no _ _ W h1)
    clear h1
    generalize hx : a.1 = x at *
    generalize hy : a.2 = y at *
    clear hx hy
    go_enter Try.func42, Try.ntmps42
    go_wp2_with fail
    refine (H1.out _).mono ?_; rintro e w1 ⟨rfl, hb1⟩
    go_wp2
    go_ret2
    exact ⟨by rw [HE.out.1, HE.out.2]; rfl, hbw.trans (hb1.mono hbw.size)⟩
  have H1 := Lib.hid (fun W => valid_yes _ _ W h1)
  have hA' := fun W (hb : Below (w.alloc (.cells #[.int .i64 a.1, .int .i64 a.2] 30) |>.alloc (.cells #[.int .i64 b.1, .int .i64 b.2] 30)).heap.size (w.alloc (.cells #[.int .i64 a.1, .int .i64 a.2] 30) |>.alloc (.cells #[.int .i64 b.1, .int .i64 b.2] 30)) W) => hA.below hb
  by_cases h2 : okF b.1 b.2
  case neg =>
    have HE := Lib.hid (show cpErr a b = 1 ∧ cpV a b = 0 by unfold cpErr cpV; rw [if_neg (fun h => h2 h.2), if_neg (fun h => h2 h.2)]; exact ⟨rfl, rfl⟩)
    have H2 := Lib.hid (fun W => valid_no _ _ W h2)
    clear h1 h2 hA'
    generalize a.1 = x at *
    generalize a.2 = y at *
    generalize b.1 = u at *
    generalize b.2 = v at *
    go_enter Try.func42, Try.ntmps42
    go_wp2_with fail
    refine (H1.out _).mono ?_; rintro e w1 ⟨rfl, hb1⟩
    have hB1 := hB.below hb1
    have c0 := hB1.cell 0
    have c1 := hB1.cell 1
    have cl := hB1.lt
    simp only [List.getElem?_toArray, List.getElem?_cons_zero, List.getElem?_cons_succ] at c0 c1
    have hb2 := hbw.trans (hb1.mono hbw.size)
    go_wp2_with fail
    refine (H2.out _).mono ?_; rintro e w2 ⟨rfl, hb3⟩
    go_wp2
    go_ret2
    exact ⟨by rw [HE.out.1, HE.out.2]; rfl, hb2.trans (hb3.mono hb2.size)⟩
  have HE := Lib.hid (show cpErr a b = 0 ∧ cpV a b = ordF a.1 a.2 b.1 b.2 by unfold cpErr cpV; rw [if_pos ⟨h1, h2⟩, if_pos ⟨h1, h2⟩]; exact ⟨rfl, rfl⟩)
  have H2 := Lib.hid (fun W => valid_yes _ _ W h2)
  have ho : ∀ W, Calls Try.prog 91 #[vFrac a.1 a.2, vFrac b.1 b.2] W fun e w' => e = .returned (.int .i64 (ordF a.1 a.2 b.1 b.2)) ∧ Below W.heap.size W w' :=
    fun W => order_any a.1 a.2 b.1 b.2 W ((okF_frb h1).prod (okF_frb h2)).1 ((okF_frb h1).prod (okF_frb h2)).2 ((okF_frb h2).prod (okF_frb h1)).1 ((okF_frb h2).prod (okF_frb h1)).2
  have HO := Lib.hid ho
  clear ho h1 h2 hA'
  generalize ordF a.1 a.2 b.1 b.2 = o at *
  generalize a.1 = x at *
  generalize a.2 = y at *
  generalize b.1 = u at *
  generalize b.2 = v at *
  go_enter Try.func42, Try.ntmps42
  go_wp2_with fail
  refine (H1.out _).mono ?_; rintro e w1 ⟨rfl, hb1⟩
  have hB1 := hB.below hb1
  have hA1 := hA.below hb1
  have c0 := hB1.cell 0
  have c1 := hB1.cell 1
  have cl := hB1.lt
  simp only [List.getElem?_toArray, List.getElem?_cons_zero, List.getElem?_cons_succ] at c0 c1
  have hb2 := hbw.trans (hb1.mono hbw.size)
  go_wp2_with fail
  refine (H2.out _).mono ?_; rintro e w2 ⟨rfl, hb3⟩
  have hb4 := hb2.trans (hb3.mono hb2.size)
  have hB2 := hB1.below hb3
  have hA2 := hA1.below hb3
  have d0 := hB2.cell 0
  have d1 := hB2.cell 1
  have e0 := hA2.cell 0
  have e1 := hA2.cell 1
  simp only [List.getElem?_toArray, List.getElem?_cons_zero, List.getElem?_cons_succ] at d0 d1 e0 e1
  go_wp2_with (go_at_call 91; refine (HO.out _).mono ?_; rintro e w3 ⟨rfl, hb5⟩)
  go_ret2
  exact ⟨by rw [HE.out.1, HE.out.2]; rfl, hb4.trans (hb5.mono hb4.size)⟩
theorem RCompare_any (a b : Int × Int) (w : World) : Calls Try.prog 43 #[vFrac a.1 a.2, vFrac b.1 b.2] w (cpOut w a b) := by
  have hbw := ((Below.refl w.heap.size w).alloc (Nat.le_refl _) (.cells #[.int .i64 a.1, .int .i64 a.2] 30)).alloc (by simp) (.cells #[.int .i64 b.1, .int .i64 b.2] 30)
  have hA := (Blk.at_new (W := w) 30 #[.int .i64 a.1, .int .i64 a.2] rfl).alloc (.cells #[.int .i64 b.1, .int .i64 b.2] 30)
  have hB := Blk.at_new (W := w.alloc (.cells #[.int .i64 a.1, .int .i64 a.2] 30)) 30 #[.int .i64 b.1, .int .i64 b.2] (g := w.heap.size + 1) (by simp)
  by_cases h1 : okF a.1 a.2
  case neg =>
    have HE := Lib.hid (show cpErr a b = 1 ∧ cpV a b = 0 by unfold cpErr cpV; rw [if_neg (fun h => h1 h.1), if_neg (fun h => h1 h.1)]; exact ⟨rfl, rfl⟩)
    have H1 := Lib.hid (fun W => Valid_no _ _ W h1)
    clear h1
    generalize hx : a.1 = x at *
    generalize hy : a.2 = y at *
    clear hx hy
    go_enter Try.func43, Try.ntmps43
    go_wp2_with fail
    refine (H1.out _).mono ?_; rintro e w1 ⟨rfl, hb1⟩
    go_wp2
    go_ret2
    exact ⟨by rw [HE.out.1, HE.out.2]; rfl, hbw.trans (hb1.mono hbw.size)⟩
  have H1 := Lib.hid (fun W => Valid_yes _ _ W h1)
  have hA' := fun W (hb : Below (w.alloc (.cells #[.int .i64 a.1, .int .i64 a.2] 30) |>.alloc (.cells #[.int .i64 b.1, .int .i64 b.2] 30)).heap.size (w.alloc (.cells #[.int .i64 a.1, .int .i64 a.2] 30) |>.alloc (.cells #[.int .i64 b.1, .int .i64 b.2] 30)) W) => hA.below hb
  by_cases h2 : okF b.1 b.2
  case neg =>
    have HE := Lib.hid (show cpErr a b = 1 ∧ cpV a b = 0 by unfold cpErr cpV; rw [if_neg (fun h => h2 h.2), if_neg (fun h => h2 h.2)]; exact ⟨rfl, rfl⟩)
    have H2 := Lib.hid (fun W => Valid_no _ _ W h2)
    clear h1 h2 hA'
    generalize a.1 = x at *
    generalize a.2 = y at *
    generalize b.1 = u at *
    generalize b.2 = v at *
    go_enter Try.func43, Try.ntmps43
    go_wp2_with fail
    refine (H1.out _).mono ?_; rintro e w1 ⟨rfl, hb1⟩
    have hB1 := hB.below hb1
    have c0 := hB1.cell 0
    have c1 := hB1.cell 1
    have cl := hB1.lt
    simp only [List.getElem?_toArray, List.getElem?_cons_zero, List.getElem?_cons_succ] at c0 c1
    have hb2 := hbw.trans (hb1.mono hbw.size)
    go_wp2_with fail
    refine (H2.out _).mono ?_; rintro e w2 ⟨rfl, hb3⟩
    go_wp2
    go_ret2
    exact ⟨by rw [HE.out.1, HE.out.2]; rfl, hb2.trans (hb3.mono hb2.size)⟩
  have HE := Lib.hid (show cpErr a b = 0 ∧ cpV a b = ordF a.1 a.2 b.1 b.2 by unfold cpErr cpV; rw [if_pos ⟨h1, h2⟩, if_pos ⟨h1, h2⟩]; exact ⟨rfl, rfl⟩)
  have H2 := Lib.hid (fun W => Valid_yes _ _ W h2)
  have ho : ∀ W, Calls Try.prog 95 #[vFrac a.1 a.2, vFrac b.1 b.2] W fun e w' => e = .returned (.int .i64 (ordF a.1 a.2 b.1 b.2)) ∧ Below W.heap.size W w' :=
    fun W => Order_any a.1 a.2 b.1 b.2 W ((okF_frb h1).prod (okF_frb h2)).1 ((okF_frb h1).prod (okF_frb h2)).2 ((okF_frb h2).prod (okF_frb h1)).1 ((okF_frb h2).prod (okF_frb h1)).2
  have HO := Lib.hid ho
  clear ho h1 h2 hA'
  generalize ordF a.1 a.2 b.1 b.2 = o at *
  generalize a.1 = x at *
  generalize a.2 = y at *
  generalize b.1 = u at *
  generalize b.2 = v at *
  go_enter Try.func43, Try.ntmps43
  go_wp2_with fail
  refine (H1.out _).mono ?_; rintro e w1 ⟨rfl, hb1⟩
  have hB1 := hB.below hb1
  have hA1 := hA.below hb1
  have c0 := hB1.cell 0
  have c1 := hB1.cell 1
  have cl := hB1.lt
  simp only [List.getElem?_toArray, List.getElem?_cons_zero, List.getElem?_cons_succ] at c0 c1
  have hb2 := hbw.trans (hb1.mono hbw.size)
  go_wp2_with fail
  refine (H2.out _).mono ?_; rintro e w2 ⟨rfl, hb3⟩
  have hb4 := hb2.trans (hb3.mono hb2.size)
  have hB2 := hB1.below hb3
  have hA2 := hA1.below hb3
  have d0 := hB2.cell 0
  have d1 := hB2.cell 1
  have e0 := hA2.cell 0
  have e1 := hA2.cell 1
  simp only [List.getElem?_toArray, List.getElem?_cons_zero, List.getElem?_cons_succ] at d0 d1 e0 e1
  go_wp2_with (go_at_call 95; refine (HO.out _).mono ?_; rintro e w3 ⟨rfl, hb5⟩)
  go_ret2
  exact ⟨by rw [HE.out.1, HE.out.2]; rfl, hb4.trans (hb5.mono hb4.size)⟩
end Go.Proofs.Ytipablcbkoedbaa
