/- Contracts of the small arithmetic functions. -/
import Derived.WalkKit
import Derived.WalkLawsBesides
import Derived.Deep.QuietTactic
import Derived.BigQuiet
import Derived.RegionTactic
import Derived.Lib.Hide
import Derived.Outline
import Derived.WalkSmall
import Derived.Test.YtipablcbkoedbaaProg
import Derived.Test.YtipablcbkoedbaaReg
namespace Go.Proofs.Ytipablcbkoedbaa
open Go.RowKit

theorem ret_int {k : IntKind} {a b : Int} (h : a = b) : Ending.returned (.int k a) = .returned (.int k b) := by rw [h]
theorem ret_bool {a b : Bool} (h : a = b) : Ending.returned (.bool a) = .returned (.bool b) := by rw [h]

/-- Behind a call: what lay before lies as it lay. -/
theorem bcell {W w1 : World} (hb : Below W.heap.size W w1) : (∀ b o, b < W.heap.size → w1.cell? ⟨b, o, none⟩ = W.cell? ⟨b, o, none⟩) ∧ (∀ b o, b < W.heap.size → w1.frozen? ⟨b, o, none⟩ = W.frozen? ⟨b, o, none⟩) :=
  ⟨fun b o h => hb.cell (p := ⟨b, o, none⟩) h, fun b o h => hb.frozen (p := ⟨b, o, none⟩) h⟩

theorem within_any (n lo hi : Int) (w : World) :
    Calls Try.prog 98 #[.int .i64 n, .int .i64 lo, .int .i64 hi] w fun e w' => e = .returned (.bool (decide (lo ≤ n ∧ n ≤ hi))) ∧ w = w' := by
  by_cases h1 : lo ≤ n
  · by_cases h2 : n ≤ hi
    · go_enter Try.func98, Try.ntmps98
      go_wp2
      go_ret
      exact ⟨ret_bool (by simp; omega), rfl⟩
    · go_enter Try.func98, Try.ntmps98
      go_wp2
      go_ret
      exact ⟨ret_bool (by simp; omega), rfl⟩
  · go_enter Try.func98, Try.ntmps98
    go_wp2
    go_ret
    exact ⟨ret_bool (by simp; omega), rfl⟩

theorem size_any (n : Int) (w : World) (h1 : -4611686018427387904 ≤ n) (h2 : n ≤ 4611686018427387904) :
    Calls Try.prog 117 #[.int .i64 n] w fun e w' => e = .returned (.int .i64 (n.natAbs : Int)) ∧ w = w' := by
  go_enter Try.func117, Try.ntmps117
  go_wp2
  all_goals
    go_ret
    exact ⟨ret_int (by (try simp); omega), rfl⟩

theorem common_any (a b : Nat) (w : World) (h1 : a ≤ 4611686018427387904) (h2 : b ≤ 4611686018427387904) :
    Calls Try.prog 134 #[.int .i64 a, .int .i64 b] w fun e w' => e = .returned (.int .i64 (Nat.gcd a b : Int)) ∧ Below w.heap.size w w' := by
  go_enter Try.func134, Try.ntmps134
  go_wp2
  go_loopw [0, 1] (fun x y wr => ∃ p q : Nat, p ≤ 4611686018427387904 ∧ q ≤ 4611686018427387904 ∧ x = .int .i64 p ∧ y = .int .i64 q ∧ Nat.gcd p q = Nat.gcd a b ∧ Below w.heap.size w wr) (fun _ y _ => (intOf y).toNat)
  case atStart => exact ⟨a, b, h1, h2, rfl, rfl, rfl, Below.refl _ _⟩
  case round =>
    obtain ⟨p, q, hp, hq, rfl, rfl, hg, hb⟩ := hrel
    have H := Lib.hid hg
    clear hg
    by_cases h0 : 0 < q
    · have h3 : (((q : Nat) : Int) != 0) = true := by simp; omega
      go_wp2
      go_quiet (fail)
      go_wp2
      go_roundw
      case rel => exact ⟨q, p % q, hq, by have := Nat.mod_lt p h0; omega, rfl, rfl, by rw [← H.out, Nat.gcd_comm q (p % q), ← Nat.gcd_rec, Nat.gcd_comm], below_drewN hb _⟩
      case measure => have := Nat.mod_lt p h0; simp [intOf]; omega
    · have h3 : (((q : Nat) : Int) != 0) = false := by simp; omega
      have hq0 : q = 0 := by omega
      have hr := H.out
      rw [hq0, Nat.gcd_zero_right] at hr
      have HR := Lib.hid hr
      clear hr hq0 H
      go_wp2
      go_ret
      exact ⟨ret_int (by simp [HR.out]), hb⟩

/-- A fraction in lowest terms. -/
def lowN (n d : Int) : Int := n / (Nat.gcd n.natAbs d.natAbs : Int)
def lowD (n d : Int) : Int := d / (Nat.gcd n.natAbs d.natAbs : Int)
abbrev vFrac (n d : Int) : Value := .agg #[.int .i64 n, .int .i64 d]
theorem frac_pos (n d : Int) (w : World) (h1 : -4611686018427387904 ≤ n) (h2 : n ≤ 4611686018427387904) (h3 : 1 ≤ d) (h4 : d ≤ 4611686018427387904) :
    Calls Try.prog 100 #[.int .i64 n, .int .i64 d] w fun e w' => e = .returned (vFrac (lowN n d) (lowD n d)) ∧ Below w.heap.size w w' := by
  obtain ⟨D, rfl⟩ := Int.eq_ofNat_of_zero_le (show 0 ≤ d by omega)
  have hs := fun w => size_any n w h1 h2
  have hcm := fun w => common_any n.natAbs D w (by omega) (by omega)
  have Hs := Lib.hid hs
  have Hc := Lib.hid hcm
  clear hs hcm
  go_enter Try.func100, Try.ntmps100
  go_wp2_with fail
  refine (Hs.out _).mono ?_; rintro e w' ⟨rfl, rfl⟩
  go_wp2_with fail
  refine (Hc.out _).mono ?_; rintro e w1 ⟨rfl, hb⟩
  have hg : 0 < Nat.gcd n.natAbs D := Nat.gcd_pos_of_pos_right _ (by omega)
  have hd0 : (0 : Int) ≤ (D : Int) / (Nat.gcd n.natAbs D : Int) := Int.ediv_nonneg (by omega) (by omega)
  have hd1 : (D : Int) / (Nat.gcd n.natAbs D : Int) ≤ D := Int.ediv_le_self _ (by omega)
  have hq : n.tdiv (Nat.gcd n.natAbs D : Int) = lowN n D := by
    unfold lowN
    rw [Int.natAbs_natCast]
    exact Int.tdiv_eq_ediv_of_dvd (Int.dvd_natAbs.1 (Int.natCast_dvd_natCast.2 (Nat.gcd_dvd_left _ _)))
  have HQ := Lib.hid hq
  clear hq
  go_wp2
  refine wp_region_quiet_tail 7 (by kernel_rfl) (by kernel_rfl) ?_
  simp only [List.take_succ_cons, List.take_zero, List.drop_succ_cons, List.drop_zero]
  repeat (first | go_big_quiet_step (fail) | quiet_step (fail))
  refine wpQuiet_nil ?_
  intro w2 hb2
  have hb3 := hb.trans (hb2.mono hb.size)
  obtain ⟨hc, hf⟩ := bcell hb3
  go_wp2
  refine bodyPost_ret (v := vFrac (n.tdiv (Nat.gcd n.natAbs D : Int)) ((D : Int) / (Nat.gcd n.natAbs D : Int))) (by simp [results, Try.results100, go_sem, hc]) rfl ⟨?_, ?_⟩
  · rw [HQ.out]; rfl
  · exact ((((Below.refl _ _).alloc (Nat.le_refl _) _).trans (hb3.mono (by simp))).setCell (Nat.le_refl _) _).setCell (Nat.le_refl _) _
end Go.Proofs.Ytipablcbkoedbaa
