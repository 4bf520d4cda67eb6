/- The reference: sheaf. -/
import Derived.RangeFuncNested
import Derived.Shelf.Abstract
import Derived.RangeFuncBound
import Derived.RangeFuncCalls
import Derived.RangeFuncLeaves
import Derived.WalkKit
import Derived.OwnWalkIn
import Derived.OwnWalk
import Derived.TacticsInMore
import Derived.LoopNIn
import Derived.LoopIn
import Derived.WalkLawsBesides
import Derived.Deep.QuietTactic
import Derived.BigQuiet
import Derived.RegionTactic
import Derived.Lib.Hide
import Derived.Outline
import Derived.WalkSmall
import Derived.Test.YtipablcbkoedbaaProg
import Derived.Test.YtipablcbkoedbaaH7
namespace Go.Proofs.Ytipablcbkoedbaa
open Go.RowKit

theorem shared_all : ∀ (cs : List CV) (lo hi x : Int), lo ≤ x → x ≤ hi → (∀ i, i < cs.length → domLo (cvks cs i) ≤ x ∧ x ≤ domHi (cvks cs i)) → (sharedFrom lo hi cs).1 ≤ x ∧ x ≤ (sharedFrom lo hi cs).2
  | [], lo, hi, x, h1, h2, _ => ⟨h1, h2⟩
  | c :: cs, lo, hi, x, h1, h2, h => by
    have h0 := h 0 (by simp)
    have e : cvks (c :: cs) 0 = c.ks := rfl
    rw [e] at h0
    exact shared_all cs _ _ x (by omega) (by omega) fun i hi' => h (i + 1) (by simpa using hi')
theorem sh_iff {cs : List CV} {x : Int} (hv : AllValid cs) (hp : 0 < cs.length) : (shLo cs ≤ x ∧ x ≤ shHi cs) ↔ ∀ i, i < cs.length → domLo (cvks cs i) ≤ x ∧ x ≤ domHi (cvks cs i) := by
  constructor
  · intro h i hi
    have := (shared_in cs 0 2000).2.2 i hi
    unfold shLo shHi at h
    omega
  · intro h
    obtain ⟨v, _, _⟩ := hv 0 hp
    have h0 := h 0 hp
    have hvp := v.pos
    have a := v.x0 0 hvp
    have b := v.x0 ((cvks cs 0).length - 1) (by omega)
    unfold domLo domHi at h0
    exact shared_all cs 0 2000 x (by omega) (by omega) h

set_option maxRecDepth 100000 in
set_option maxHeartbeats 1600000 in
theorem Rsheaf_any (A : Option Addr) (n cap : Nat) (cs : List CV) (x : Int) (w : World) (h : LAt w A n cs) (hm : n ≤ 9223372036854775807) :
    Calls Try.prog 93 #[.slice A n cap, .int .i64 x] w fun e w' => e = .returned (.int .i64 (shErr cs x)) ∧ Below w.heap.size w w' := by
  have hlen := h.len
  by_cases hn : 12 < n
  · have HE := Lib.hid (show shErr cs x = 2 by unfold shErr; rw [if_pos (by omega)])
    clear h
    go_enter Try.func93, Try.ntmps93
    go_wp2
    go_ret
    exact ⟨ret_int HE.out.symm, Below.refl _ _⟩
  have HE0 := Lib.hid (show shErr cs x = if checkAll cs ≠ 0 then checkAll cs else if cs.length = 0 then 5 else if shLo cs ≤ x ∧ x ≤ shHi cs then 0 else 3 by unfold shErr; rw [if_neg (by omega)])
  have HL := Lib.hid hlen
  have HA0 := Lib.hid h
  clear h hlen
  go_enter Try.func93, Try.ntmps93
  go_wp2_with fail
  go_loopw [5] (fun i wr => ∃ (k : Nat), k ≤ n ∧ i = .int .i64 k ∧ checkAll cs = checkAll (cs.drop k) ∧ Below w.heap.size w wr) (fun i _ => n - (intOf i).toNat)
  case atStart => exact ⟨0, Nat.zero_le _, rfl, rfl, Below.refl _ _⟩
  case round =>
    obtain ⟨k, hk, rfl, hch, hb⟩ := hrel
    have HCh := Lib.hid hch
    clear hch
    by_cases hkn : k < n
    · obtain ⟨b, off, hAe, hcs⟩ := HA0.out.at_ (by omega)
      subst hAe
      have hlt := hcs.lt
      have hcs' := hcs.below hb
      have hkl : k < cs.length := by rw [HL.out]; exact hkn
      have hs := hcs'.s k hkl
      have he := hcs'.e k hkl
      have hat := hcs'.at_ k hkl
      have HD := Lib.hid (checkAll_drop cs k hkl)
      have hcn := hcs.le k hkl
      clear hcs hcs' hkl
      generalize cvA cs k = cA at *
      generalize cvn cs k = cn at *
      generalize cvcap cs k = cc at *
      generalize cverr cs k = ce at *
      generalize cvks cs k = ck at *
      have HC := Lib.hid (RCheck_any cA cn cc ce ck wr hat hcn)
      clear hat
      by_cases hz : check ck ce = 0
      · have HD2 := Lib.hid (HD.out.trans (if_pos hz))
        rw [hz] at HC
        clear HD hz
        go_wp2_with fail
        refine HC.out.mono ?_; rintro e w1 ⟨rfl, hb1⟩
        have hb2 := hb.trans (hb1.mono hb.size)
        go_wp2
        go_roundw
        case rel => exact ⟨k + 1, by omega, by go_num, by rw [HCh.out, HD2.out], hb2⟩
        case measure => simp [intOf]; omega
      · have hz1 : (check ck ce != 0) = true := by simpa using hz
        have HD2 := Lib.hid (HD.out.trans (if_neg hz))
        have HZ := Lib.hid hz
        clear HD hz
        generalize check ck ce = e0 at *
        go_wp2_with fail
        refine HC.out.mono ?_; rintro e w1 ⟨rfl, hb1⟩
        have hb2 := hb.trans (hb1.mono hb.size)
        go_wp2
        go_ret
        exact ⟨ret_int (by rw [HE0.out, HCh.out, HD2.out, if_pos HZ.out]), hb2⟩
    · have hc0 : checkAll cs = 0 := by rw [HCh.out, List.drop_eq_nil_of_le (by rw [HL.out]; omega)]; rfl
      have HAll := Lib.hid (checkAll_zero cs hc0)
      have HE1 := Lib.hid (show shErr cs x = if cs.length = 0 then 5 else if shLo cs ≤ x ∧ x ≤ shHi cs then 0 else 3 by rw [HE0.out, if_neg (by simp [hc0])])
      have HB := Lib.hid hb
      clear hc0 hb HCh HE0
      go_wp2_with fail
      clear hk hkn
      go_loopw [7] (fun i wr => ∃ (k : Nat), k ≤ n ∧ i = .int .i64 k ∧ (∀ j, j < k → domLo (cvks cs j) ≤ x ∧ x ≤ domHi (cvks cs j)) ∧ Below w.heap.size w wr) (fun i _ => n - (intOf i).toNat)
      case atStart => exact ⟨0, Nat.zero_le _, rfl, fun j hj => absurd hj (by omega), HB.out⟩
      case round =>
       obtain ⟨k, hk, rfl, hin, hb⟩ := hrel
       have HIn := Lib.hid hin
       clear hin
       by_cases hkn : k < n
       · obtain ⟨b, off, hAe, hcs⟩ := HA0.out.at_ (by omega)
         subst hAe
         have hlt := hcs.lt
         have hcs' := hcs.below hb
         have hkl : k < cs.length := by rw [HL.out]; exact hkn
         have hs := hcs'.s k hkl
         have he := hcs'.e k hkl
         have hat := hcs'.at_ k hkl
         obtain ⟨hvk, hek1, hek2⟩ := HAll.out k hkl
         have hge := fun j (hj : j < k + 1) (hc : domLo (cvks cs k) ≤ x ∧ x ≤ domHi (cvks cs k)) => (show domLo (cvks cs j) ≤ x ∧ x ≤ domHi (cvks cs j) by
           by_cases e : j = k
           · subst e; exact hc
           · exact HIn.out j (by omega))
         have hno := fun (hc : ¬ (domLo (cvks cs k) ≤ x ∧ x ≤ domHi (cvks cs k))) => (show shErr cs x = 3 by
           rw [HE1.out, if_neg (by omega), if_neg (fun hh => hc ((sh_iff HAll.out (by omega)).1 hh k hkl))])
         have hcp := hvk.pos
         have hcle := hvk.le
         have hlk := hat.len
         obtain ⟨b', off', hAe', hkn'⟩ := hat.at_ (by omega)
         rw [hAe', ← hlk] at hs
         have HDm := Lib.hid (Rdomain_any b' off' (cvks cs k).length (cvcap cs k) (cverr cs k) (cvks cs k) wr hkn' rfl hcp (by omega))
         clear hcs hcs' hat hAe' hkn' hlk hvk hkl
         generalize cvcap cs k = cc at *
         generalize cverr cs k = ce at *
         by_cases hc : domLo (cvks cs k) ≤ x ∧ x ≤ domHi (cvks cs k)
         · have HI := Lib.hid (fun W => in_yes x _ _ W hc)
           have HGe := Lib.hid (fun j hj => hge j hj hc)
           clear hge hno hc
           generalize hdl : domLo (cvks cs k) = dl at *
           generalize hdh : domHi (cvks cs k) = dh at *
           generalize hll : (cvks cs k).length = ll at *
           clear hdl hdh hll
           go_wp2_with fail
           refine HDm.out.mono ?_; rintro e w1 ⟨rfl, hb1⟩
           go_wp2_with fail
           refine (HI.out _).mono ?_; rintro e w2 ⟨rfl, hb2⟩
           have hb3 := hb.trans (hb1.mono hb.size)
           have hb4 := hb3.trans (hb2.mono hb3.size)
           go_wp2
           go_roundw
           case rel => exact ⟨k + 1, by omega, by go_num, HGe.out, hb4⟩
           case measure => simp [intOf]; omega
         · have HI := Lib.hid (fun W => in_no x _ _ W hc)
           have HNo := Lib.hid (hno hc)
           clear hge hno hc
           generalize hdl : domLo (cvks cs k) = dl at *
           generalize hdh : domHi (cvks cs k) = dh at *
           generalize hll : (cvks cs k).length = ll at *
           clear hdl hdh hll
           go_wp2_with fail
           refine HDm.out.mono ?_; rintro e w1 ⟨rfl, hb1⟩
           go_wp2_with fail
           refine (HI.out _).mono ?_; rintro e w2 ⟨rfl, hb2⟩
           have hb3 := hb.trans (hb1.mono hb.size)
           have hb4 := hb3.trans (hb2.mono hb3.size)
           go_wp2
           go_ret
           exact ⟨ret_int HNo.out.symm, hb4⟩
       · by_cases h0 : n = 0
         · have HZ := Lib.hid (show shErr cs x = 5 by rw [HE1.out, if_pos (by rw [HL.out]; exact h0)])
           have h01 : ((n : Int) == 0) = true := by simp; omega
           go_wp2
           go_ret
           exact ⟨ret_int HZ.out.symm, hb⟩
         · have HZ := Lib.hid (show shErr cs x = 0 by
             rw [HE1.out, if_neg (by rw [HL.out]; exact h0), if_pos ((sh_iff HAll.out (by rw [HL.out]; omega)).2 fun i hi => HIn.out i (by have := HL.out; omega))])
           have h01 : ((n : Int) == 0) = false := by simp; omega
           go_wp2
           go_ret
           exact ⟨ret_int HZ.out.symm, hb⟩
end Go.Proofs.Ytipablcbkoedbaa
