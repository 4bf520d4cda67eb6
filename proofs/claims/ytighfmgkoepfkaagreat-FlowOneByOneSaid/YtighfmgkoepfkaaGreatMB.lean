/- What is asked of something of a trade: the error, and the number. -/
import Derived.Test.YtighfmgkoepfkaaGreatMI
import Derived.Test.YtighfmgkoepfkaaGreatME
namespace Go.Proofs.YtighfmgkoepfkaaGreat
open Go.RowKit

theorem modify_at {α : Type} {l : List α} {i : Nat} (h : i < l.length) (f : α → α) : l.modify i f = l.set i (f l[i]) := by
  apply List.ext_getElem (by simp)
  intro k h1 h2
  rw [List.getElem_modify, List.getElem_set]
  split
  · rename_i e; subst e; rfl
  · rfl
theorem modify_set {α : Type} (l : List α) (i : Nat) (x : α) (f : α → α) : (l.set i x).modify i f = l.set i (f x) := by
  apply List.ext_getElem (by simp)
  intro k h1 h2
  rw [List.getElem_modify, List.getElem_set, List.getElem_set]
  split <;> rfl
def asE (hs : List Hd) (ms : List Mv) (kind id : Int) : Int := if plE hs ms kind id ≠ 0 then plE hs ms kind id else if agrL hs ms = true then 0 else 9
def asV (hs : List Hd) (ms : List Mv) (kind id : Int) (gr : Bool) : Int := if asE hs ms kind id = 0 then limN hs ms kind id gr else 0
theorem asE_zero {hs : List Hd} {ms : List Mv} {kind id : Int} (h : asE hs ms kind id = 0) : plE hs ms kind id = 0 ∧ agrL hs ms = true ∧ TV hs ms ∧ placeE hs ms kind id = 0 := by
  unfold asE at h
  by_cases c : plE hs ms kind id ≠ 0
  · rw [if_pos c] at h; exact absurd h c
  · rw [if_neg c] at h
    have hp : plE hs ms kind id = 0 := Classical.byContradiction c
    have ha : agrL hs ms = true := by
      cases q : agrL hs ms
      · rw [q] at h; cases h
      · rfl
    obtain ⟨a, b⟩ := plE_tv hp
    exact ⟨hp, ha, a, b⟩
theorem fits_len {hs : List Hd} {ms : List Mv} {st en ma : List Int} (h : fitsL hs ms st en ma = true) : st.length = hs.length ∧ en.length = hs.length ∧ ma.length = ms.length := (fitsL_prop.1 h).1
end Go.Proofs.YtighfmgkoepfkaaGreat
