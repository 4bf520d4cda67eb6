/- Apart. -/
import Derived.RangeFuncNested
import Derived.Shelf.Abstract
import Derived.RangeFuncBound
import Derived.RangeFuncCalls
import Derived.RangeFuncLeaves
import Derived.WalkKit
import Derived.OwnWalkIn
import Derived.TacticsInMore
import Derived.LoopNIn
import Derived.LoopIn
import Derived.WalkLawsBesides
import Derived.Deep.QuietTactic
import Derived.BigQuiet
import Derived.RegionTactic
import Derived.Lib.Hide
import Derived.Outline
import Derived.WalkSmall
import Derived.Test.YtipablcbkoedbaaProg
import Derived.OwnWalk
import Derived.Test.YtipablcbkoedbaaC8
namespace Go.Proofs.Ytipablcbkoedbaa
open Go.RowKit

/-- Apart's error, and its peak. -/
def apErr (ks ks' : List (Int × Int)) (err err' lo hi : Int) : Int := spanErr [cv0 ks err, cv0 ks' err'] lo hi
def apXs (ks ks' : List (Int × Int)) (lo hi : Int) : List Int := cornerL lo hi [cv0 ks 0, cv0 ks' 0]
def apPk (ks ks' : List (Int × Int)) (err err' lo hi : Int) : Pk := if apErr ks ks' err err' lo hi = 0 then pkOf (spots (fD ks ks') (apXs ks ks' lo hi)) else ⟨0, 0, 0, 0, 0, 0⟩

theorem ap_valid {ks ks' : List (Int × Int)} {err err' lo hi : Int} (h : apErr ks ks' err err' lo hi = 0) :
    Valid ks ∧ Valid ks' ∧ 0 ≤ err ∧ err ≤ 4000 ∧ 0 ≤ err' ∧ err' ≤ 4000 ∧ lo ≤ hi ∧ kx ks 0 ≤ lo ∧ hi ≤ kx ks (ks.length - 1) ∧ kx ks' 0 ≤ lo ∧ hi ≤ kx ks' (ks'.length - 1) := by
  obtain ⟨h1, h2, h3, h4⟩ := spanErr_zero h
  obtain ⟨v1, v2, v3⟩ := checkAll_zero _ h1 0 (by simp)
  obtain ⟨u1, u2, u3⟩ := checkAll_zero _ h1 1 (by simp)
  have e1 : max (max 0 (domLo ks)) (domLo ks') ≤ lo := h3
  have e2 : hi ≤ min (min 2000 (domHi ks)) (domHi ks') := h4
  unfold domLo at e1
  unfold domHi at e2
  exact ⟨v1, u1, v2, v3, u2, u3, h2, by omega, by omega, by omega, by omega⟩

set_option maxHeartbeats 1600000 in
theorem Apart_any (A A' : Option Addr) (n cap n' cap' : Nat) (err err' : Int) (ks ks' : List (Int × Int)) (lo hi : Int) (w : World) (h : CAt w A n ks) (hm : n ≤ 9223372036854775807) (h' : CAt w A' n' ks') (hm' : n' ≤ 9223372036854775807) :
    Calls Try.prog 51 #[vCv A n cap err, vCv A' n' cap' err', vSpan lo hi] w fun e w' => e = .returned (.tuple #[(apPk ks ks' err err' lo hi).v, .int .i64 (apErr ks ks' err err' lo hi)]) ∧ Below w.heap.size w w' := by
  have hS := fun W (hW : LAt W (some ⟨w.heap.size + 4, 0, none⟩) 2 [⟨A, n, cap, err, ks⟩, ⟨A', n', cap', err', ks'⟩]) => spanned_any (some ⟨w.heap.size + 4, 0, none⟩) 2 2 [⟨A, n, cap, err, ks⟩, ⟨A', n', cap', err', ks'⟩] lo hi W hW (by omega)
  have hSe : spanErr [⟨A, n, cap, err, ks⟩, ⟨A', n', cap', err', ks'⟩] lo hi = apErr ks ks' err err' lo hi := rfl
  rw [hSe] at hS
  have HS := Lib.hid hS
  clear hS hSe
  generalize hW : ((((w.alloc (.cells #[.slice A n cap, .int .i64 err] 24)).alloc (.cells #[.slice A' n' cap', .int .i64 err'] 24)).alloc (.cells #[.int .i64 lo, .int .i64 hi] 26)).alloc (.cells #[.int .i64 0, .int .i64 0, .int .i64 0, .int .i64 0, .int .i64 0, .int .i64 0] 40)).alloc (.cells #[.slice A n cap, .int .i64 err, .slice A' n' cap', .int .i64 err'] 24) = W
  have hbw : Below w.heap.size w W := by rw [← hW]; exact (((((Below.refl _ _).alloc (Nat.le_refl _) _).alloc (by simp) _).alloc (by simp; omega) _).alloc (by simp; omega) _).alloc (by simp; omega) _
  have hcb : Blk W w.heap.size 24 #[.slice A n cap, .int .i64 err] := by rw [← hW]; exact ((((Blk.at_new _ _ rfl).alloc _).alloc _).alloc _).alloc _
  have hcb' : Blk W (w.heap.size + 1) 24 #[.slice A' n' cap', .int .i64 err'] := by rw [← hW]; exact (((Blk.at_new _ _ (by simp)).alloc _).alloc _).alloc _
  have hsb : Blk W (w.heap.size + 2) 26 #[.int .i64 lo, .int .i64 hi] := by rw [← hW]; exact ((Blk.at_new _ _ (by simp)).alloc _).alloc _
  have hpb : Blk W (w.heap.size + 3) 40 #[.int .i64 0, .int .i64 0, .int .i64 0, .int .i64 0, .int .i64 0, .int .i64 0] := by rw [← hW]; exact (Blk.at_new _ _ (by simp)).alloc _
  have hlb : Blk W (w.heap.size + 4) 24 #[.slice A n cap, .int .i64 err, .slice A' n' cap', .int .i64 err'] := by rw [← hW]; exact Blk.at_new _ _ (by simp)
  have HWE := Lib.hid hW
  clear hW
  have hat := h.below hbw
  have hat' := h'.below hbw
  have HL := Lib.hid (lat_two hlb hat hm hat' hm')
  by_cases hz : apErr ks ks' err err' lo hi = 0
  case neg =>
    have hz1 : (apErr ks ks' err err' lo hi != 0) = true := by simpa using hz
    have hp : apPk ks ks' err err' lo hi = ⟨0, 0, 0, 0, 0, 0⟩ := by unfold apPk; rw [if_neg hz]
    have HP := Lib.hid hp
    clear hp hz hat h hat' h'
    generalize apErr ks ks' err err' lo hi = e0 at *
    go_enter Try.func51, Try.ntmps51
    go_wp2_with fail
    rw [HWE.out]
    refine (HS.out _ HL.out).mono ?_; rintro e w1 ⟨rfl, hb1⟩
    have hr1 := hpb.below hb1
    have hc0 := hr1.cell 0
    have hc1 := hr1.cell 1
    have hc2 := hr1.cell 2
    have hc3 := hr1.cell 3
    have hc4 := hr1.cell 4
    have hc5 := hr1.cell 5
    have hf0 := hr1.frozen 0
    have hf1 := hr1.frozen 1
    have hf2 := hr1.frozen 2
    have hf3 := hr1.frozen 3
    have hf4 := hr1.frozen 4
    have hf5 := hr1.frozen 5
    simp only [List.getElem?_toArray, List.getElem?_cons_zero, List.getElem?_cons_succ] at hc0 hc1 hc2 hc3 hc4 hc5
    have hb2 := hbw.trans (hb1.mono hbw.size)
    have hrl := hr1.lt
    go_wp2
    have hW' := (((((hb2.setCell (p := ⟨w.heap.size + 3, 0, none⟩) (by simp) (.int .i64 0)).setCell (p := ⟨w.heap.size + 3, 1, none⟩) (by simp) (.int .i64 0)).setCell (p := ⟨w.heap.size + 3, 2, none⟩) (by simp) (.int .i64 0)).setCell (p := ⟨w.heap.size + 3, 3, none⟩) (by simp) (.int .i64 0)).setCell (p := ⟨w.heap.size + 3, 4, none⟩) (by simp) (.int .i64 0)).setCell (p := ⟨w.heap.size + 3, 5, none⟩) (by simp) (.int .i64 0)
    exact bodyPost_ret (v := .tuple #[vPeak 0 0 0 0 0 0, .int .i64 e0]) (by simp [results, Try.results51, go_sem, hc0, hc1, hc2, hc3, hc4, hc5]) rfl ⟨by rw [HP.out]; rfl, hW'⟩
  have hz1 : (apErr ks ks' err err' lo hi != 0) = false := by simp [hz]
  obtain ⟨hv, hv', he1, he2, he1', he2', hlh, hlo, hhi, hlo', hhi'⟩ := ap_valid hz
  have hpos := hv.pos
  have hpos' := hv'.pos
  have hvle := hv.le
  have hvle' := hv'.le
  have hlen := h.len
  have hlen' := h'.len
  obtain ⟨b, off, hAe, hkn⟩ := h.at_ (by omega)
  obtain ⟨b', off', hAe', hkn'⟩ := h'.at_ (by omega)
  subst hAe
  subst hAe'
  have hAll : AllValid [⟨some ⟨b, off, none⟩, n, cap, err, ks⟩, ⟨some ⟨b', off', none⟩, n', cap', err', ks'⟩] := by
    intro i hi
    match i, hi with
    | 0, _ => exact ⟨hv, he1, he2⟩
    | 1, _ => exact ⟨hv', he1', he2'⟩
  have hTl : (cornerXs lo hi [⟨some ⟨b, off, none⟩, n, cap, err, ks⟩, ⟨some ⟨b', off', none⟩, n', cap', err', ks'⟩]).length ≤ 1000000 := by
    have := inXs_len lo hi ks
    have := inXs_len lo hi ks'
    simp [cornerXs, inXss]
    omega
  have hC := fun V (g : Nat) (hV : LAt V (some ⟨g, 0, none⟩) 2 [⟨some ⟨b, off, none⟩, n, cap, err, ks⟩, ⟨some ⟨b', off', none⟩, n', cap', err', ks'⟩]) => corners_any (some ⟨g, 0, none⟩) 2 2 [⟨some ⟨b, off, none⟩, n, cap, err, ks⟩, ⟨some ⟨b', off', none⟩, n', cap', err', ks'⟩] lo hi V hV (by omega) hAll hTl
  have hXe : cornerL lo hi [⟨some ⟨b, off, none⟩, n, cap, err, ks⟩, ⟨some ⟨b', off', none⟩, n', cap', err', ks'⟩] = apXs ks ks' lo hi := rfl
  rw [hXe] at hC
  have hXm : ∀ x ∈ apXs ks ks' lo hi, lo ≤ x ∧ x ≤ hi := fun x hx => cornerL_mem hlh hx
  have hXp : 0 < (apXs ks ks' lo hi).length := cornerL_pos _ _ _
  have hXl : (apXs ks ks' lo hi).length ≤ 1000000 := Nat.le_trans (cornerL_le lo hi [⟨some ⟨b, off, none⟩, n, cap, err, ks⟩, ⟨some ⟨b', off', none⟩, n', cap', err', ks'⟩]) hTl
  have hfr : ∀ x ∈ apXs ks ks' lo hi, FrB (fD ks ks' x) := fun x hx => fD_frb hv hv' (by have := hXm x hx; omega) (by have := hXm x hx; omega)
  have hpk : apPk ks ks' err err' lo hi = pkOf (spots (fD ks ks') (apXs ks ks' lo hi)) := by unfold apPk; rw [if_pos hz]
  have hx0 := hv.x0 0 hpos
  have hx1 := hv.x0 (ks.length - 1) (by omega)
  have hOv := fun (g : Nat) (c : Nat) (V : World) (hB : Blk V w.heap.size 24 #[.slice (some ⟨b, off, none⟩) n cap, .int .i64 err]) (hK : Kn V b off ks) (hB' : Blk V (w.heap.size + 1) 24 #[.slice (some ⟨b', off', none⟩) n' cap', .int .i64 err']) (hK' : Kn V b' off' ks') (hI : Is V g 0 (apXs ks ks' lo hi)) =>
    over_any 110 #[.pointer (some ⟨w.heap.size, 0, none⟩), .pointer (some ⟨w.heap.size + 1, 0, none⟩)] eg110 (fD ks ks') g 0 c (apXs ks ks' lo hi) V
      (fun U x hx hU => apart1_any U w.heap.size (w.heap.size + 1) b off n cap b' off' n' cap' err err' ks ks' x ((hU.block _ hB.lt).trans hB) (hK.below hU) hlen hv ((hU.block _ hB'.lt).trans hB') (hK'.below hU) hlen' hv' (by have := hXm x hx; omega) (by have := hXm x hx; omega) (by have := hXm x hx; omega) (by have := hXm x hx; omega)) hI hfr hXp hXl
  have HC := Lib.hid hC
  have HOv := Lib.hid hOv
  have HPk := Lib.hid hpk
  have HZ := Lib.hid hz
  have HK := Lib.hid (hkn.below hbw)
  have HK' := Lib.hid (hkn'.below hbw)
  have HAt := Lib.hid hat
  have HAt' := Lib.hid hat'
  clear hC hOv hpk hz hkn hat h hkn' hat' h' hfr hXm hXe hTl hAll hv hlen hlo hhi hv' hlen' hlo' hhi' hx0 hx1 he1 he2 he1' he2' hlh
  rw [HZ.out]
  rw [HZ.out] at HS hz1
  generalize hps : pkOf (spots (fD ks ks') (apXs ks ks' lo hi)) = ps at *
  have HPs := Lib.hid hps
  clear hps
  obtain ⟨ln, ld, hn', hd, la, ha⟩ := ps
  generalize apXs ks ks' lo hi = xs at *
  go_enter Try.func51, Try.ntmps51
  go_wp2_with fail
  rw [HWE.out]
  refine (HS.out _ HL.out).mono ?_; rintro e w1 ⟨rfl, hb1⟩
  have hc1 := hcb.below hb1
  have hd1 := hcb'.below hb1
  have hs1 := hsb.below hb1
  have hp1 := hpb.below hb1
  have hk0 := hc1.cell 0
  have hk1 := hc1.cell 1
  have hk2 := hd1.cell 0
  have hk3 := hd1.cell 1
  have hs0 := hs1.cell 0
  have hs2 := hs1.cell 1
  simp only [List.getElem?_toArray, List.getElem?_cons_zero, List.getElem?_cons_succ] at hk0 hk1 hk2 hk3 hs0 hs2
  have hcl := hc1.lt
  have hdl := hd1.lt
  have hsl := hs1.lt
  have hpl := hp1.lt
  have hlb2 := lat_two (Blk.new w1 24 #[.slice (some ⟨b, off, none⟩) n cap, .int .i64 err, .slice (some ⟨b', off', none⟩) n' cap', .int .i64 err']) ((HAt.out.below hb1).below ((Below.refl _ _).alloc (Nat.le_refl _) _)) hm ((HAt'.out.below hb1).below ((Below.refl _ _).alloc (Nat.le_refl _) _)) hm'
  have HL2 := Lib.hid hlb2
  clear hlb2
  go_wp2_with fail
  refine (HC.out _ _ HL2.out).mono ?_
  rintro e w2 ⟨⟨g, c, rfl, hown⟩, hb2⟩
  have hb12 := ((Below.refl w1.heap.size w1).alloc (Nat.le_refl _) (.cells #[.slice (some ⟨b, off, none⟩) n cap, .int .i64 err, .slice (some ⟨b', off', none⟩) n' cap', .int .i64 err'] 24)).trans (hb2.mono (by simp))
  have hc2 := hc1.below hb12
  have hd2 := hd1.below hb12
  have hp2 := hp1.below hb12
  have hI : Is w2 g 0 xs := by
    refine ⟨fun j hj => ?_, (hown.lt g rfl).2⟩
    rw [Nat.zero_add, hown.cellAt j (by omega), List.getElem?_map, List.getD_eq_getElem?_getD, List.getElem?_eq_getElem hj]
    rfl
  have HR := Lib.hid (HOv.out g c w2 hc2 ((HK.out.below hb1).below hb12) hd2 ((HK'.out.below hb1).below hb12) hI)
  have HB := Lib.hid (show Below w.heap.size w w2 from (hbw.trans (hb1.mono hbw.size)).trans (hb12.mono (by have := hbw.size; have := hb1.size; omega)))
  clear hown hI hb2 hk0 hk1 hk2 hk3 hs0 hs2
  have hcl2 := hc2.lt
  have hpl2 := hp2.lt
  go_wp2_with (go_at_call 80; refine HR.out.mono ?_; rintro e w3 ⟨he, hb3⟩; rw [show vPk (spots (fD ks ks') xs) = vPeak ln ld hn' hd la ha from (show vPk (spots (fD ks ks') xs) = (pkOf (spots (fD ks ks') xs)).v from rfl).trans (by rw [HPs.out]; rfl)] at he; subst he; have hp3 := hp2.below hb3; have hp3l := hp3.lt; have hf0 := hp3.frozen 0; have hf1 := hp3.frozen 1; have hf2 := hp3.frozen 2; have hf3 := hp3.frozen 3; have hf4 := hp3.frozen 4; have hf5 := hp3.frozen 5; have hc0 := hp3.cell 0; have hc1' := hp3.cell 1; have hc2' := hp3.cell 2; have hc3 := hp3.cell 3; have hc4 := hp3.cell 4; have hc5 := hp3.cell 5; simp only [List.getElem?_toArray, List.getElem?_cons_zero, List.getElem?_cons_succ] at hc0 hc1' hc2' hc3 hc4 hc5)
  have hbb := HB.out.trans (hb3.mono HB.out.size)
  have hF := (((((hp3.set_ 0 (.int .i64 ln)).set_ 1 (.int .i64 ld)).set_ 2 (.int .i64 hn')).set_ 3 (.int .i64 hd)).set_ 4 (.int .i64 la)).set_ 5 (.int .i64 ha)
  have hW := (((((hbb.setCell (p := ⟨w.heap.size + 3, 0, none⟩) (by simp) (.int .i64 ln)).setCell (p := ⟨w.heap.size + 3, 1, none⟩) (by simp) (.int .i64 ld)).setCell (p := ⟨w.heap.size + 3, 2, none⟩) (by simp) (.int .i64 hn')).setCell (p := ⟨w.heap.size + 3, 3, none⟩) (by simp) (.int .i64 hd)).setCell (p := ⟨w.heap.size + 3, 4, none⟩) (by simp) (.int .i64 la)).setCell (p := ⟨w.heap.size + 3, 5, none⟩) (by simp) (.int .i64 ha)
  have g0 := hF.cell 0
  have g1 := hF.cell 1
  have g2 := hF.cell 2
  have g3 := hF.cell 3
  have g4 := hF.cell 4
  have g5 := hF.cell 5
  simp only [List.setIfInBounds_toArray, List.set_cons_zero, List.set_cons_succ, List.getElem?_toArray, List.getElem?_cons_zero, List.getElem?_cons_succ] at g0 g1 g2 g3 g4 g5
  exact bodyPost_ret (v := .tuple #[vPeak ln ld hn' hd la ha, .int .i64 0]) (by simp [results, Try.results51, go_sem, g0, g1, g2, g3, g4, g5]) rfl ⟨by rw [HPk.out]; rfl, hW⟩
end Go.Proofs.Ytipablcbkoedbaa
