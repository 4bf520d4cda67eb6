/- sheaf. -/
import Derived.RangeFuncNested
import Derived.Shelf.Abstract
import Derived.RangeFuncBound
import Derived.RangeFuncCalls
import Derived.RangeFuncLeaves
import Derived.WalkKit
import Derived.OwnWalkIn
import Derived.TacticsInMore
import Derived.LoopNIn
import Derived.LoopIn
import Derived.WalkLawsBesides
import Derived.Deep.QuietTactic
import Derived.BigQuiet
import Derived.RegionTactic
import Derived.Lib.Hide
import Derived.Outline
import Derived.WalkSmall
import Derived.Test.YtipablcbkoedbaaProg
import Derived.Test.YtipablcbkoedbaaC7
namespace Go.Proofs.Ytipablcbkoedbaa
open Go.RowKit

/-- The error of a list of curves, and of an x. -/
def shErr (cs : List CV) (x : Int) : Int :=
  if 12 < cs.length then 2 else if checkAll cs ≠ 0 then checkAll cs else if cs.length = 0 then 5 else if shLo cs ≤ x ∧ x ≤ shHi cs then 0 else 3

theorem sheaf_any (A : Option Addr) (n cap : Nat) (cs : List CV) (x : Int) (w : World) (h : LAt w A n cs) (hm : n ≤ 9223372036854775807) :
    Calls Try.prog 87 #[.slice A n cap, .int .i64 x] w fun e w' => e = .returned (.int .i64 (shErr cs x)) ∧ Below w.heap.size w w' := by
  have hlen := h.len
  by_cases hn : 12 < n
  · have he : shErr cs x = 2 := by unfold shErr; rw [if_pos (by omega)]
    have HE := Lib.hid he
    clear he h
    go_enter Try.func87, Try.ntmps87
    go_wp2
    go_ret
    exact ⟨ret_int HE.out.symm, Below.refl _ _⟩
  have hC := fun W (hW : LAt W A n cs) => checked_any A n cap cs W hW hm
  have HC := Lib.hid hC
  have HA := Lib.hid h
  clear hC
  by_cases hz : checkAll cs = 0
  case neg =>
    have hz1 : (checkAll cs != 0) = true := by simpa using hz
    have he : shErr cs x = checkAll cs := by unfold shErr; rw [if_neg (by omega), if_pos hz]
    have HE := Lib.hid he
    clear he h hz
    go_enter Try.func87, Try.ntmps87
    go_wp2_with (go_at_call 104; refine (HC.out _ HA.out).mono ?_; rintro e w1 ⟨rfl, hb1⟩)
    go_ret
    exact ⟨ret_int HE.out.symm, hb1⟩
  have hz1 : (checkAll cs != 0) = false := by simp [hz]
  by_cases h0 : n = 0
  · have he : shErr cs x = 5 := by unfold shErr; rw [if_neg (by omega), if_neg (by simp [hz]), if_pos (by omega)]
    have HE := Lib.hid he
    have h01 : ((n : Int) == 0) = true := by simp; omega
    have HZ := Lib.hid hz
    clear he h hz
    subst h0
    go_enter Try.func87, Try.ntmps87
    go_wp2_with (go_at_call 104; refine (HC.out _ HA.out).mono ?_; rintro e w1 ⟨rfl, hb1⟩; rw [HZ.out])
    go_ret
    exact ⟨ret_int HE.out.symm, hb1⟩
  have h01 : ((n : Int) == 0) = false := by simp; omega
  have hS := fun W (hW : LAt W A n cs) => shared_any A n cap cs W hW hm (checkAll_zero cs hz)
  have HS := Lib.hid hS
  have HZ := Lib.hid hz
  by_cases hin : shLo cs ≤ x ∧ x ≤ shHi cs
  · have he : shErr cs x = 0 := by unfold shErr; rw [if_neg (by omega), if_neg (by simp [hz]), if_neg (by omega), if_pos hin]
    have HE := Lib.hid he
    have HI := Lib.hid hin
    clear he h hz hS hin hlen
    generalize shLo cs = sl at *
    generalize shHi cs = sh at *
    go_enter Try.func87, Try.ntmps87
    go_wp2_with (first
      | (go_at_call 104; refine (HC.out _ HA.out).mono ?_; rintro e w1 ⟨rfl, hb1⟩; rw [HZ.out])
      | (go_at_call 105; refine (HS.out _ (HA.out.below hb1)).mono ?_; rintro e w2 ⟨rfl, hb2⟩)
      | (go_at_call 98; refine (within_yes _ _ _ _ HI.out).mono ?_; rintro e w' ⟨rfl, rfl⟩))
    go_ret
    exact ⟨ret_int HE.out.symm, (hb1.trans (hb2.mono hb1.size)).alloc (Nat.le_trans hb1.size hb2.size) _⟩
  · have he : shErr cs x = 3 := by unfold shErr; rw [if_neg (by omega), if_neg (by simp [hz]), if_neg (by omega), if_neg hin]
    have HE := Lib.hid he
    have HI := Lib.hid hin
    clear he h hz hS hin hlen
    generalize shLo cs = sl at *
    generalize shHi cs = sh at *
    go_enter Try.func87, Try.ntmps87
    go_wp2_with (first
      | (go_at_call 104; refine (HC.out _ HA.out).mono ?_; rintro e w1 ⟨rfl, hb1⟩; rw [HZ.out])
      | (go_at_call 105; refine (HS.out _ (HA.out.below hb1)).mono ?_; rintro e w2 ⟨rfl, hb2⟩)
      | (go_at_call 98; refine (within_no _ _ _ _ HI.out).mono ?_; rintro e w' ⟨rfl, rfl⟩))
    go_ret
    exact ⟨ret_int HE.out.symm, (hb1.trans (hb2.mono hb1.size)).alloc (Nat.le_trans hb1.size hb2.size) _⟩
end Go.Proofs.Ytipablcbkoedbaa
