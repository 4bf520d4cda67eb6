/- Value, Domain, Values. -/
import Derived.WalkKit
import Derived.WalkLawsBesides
import Derived.Deep.QuietTactic
import Derived.BigQuiet
import Derived.RegionTactic
import Derived.Lib.Hide
import Derived.Outline
import Derived.WalkSmall
import Derived.Test.YtipablcbkoedbaaProg
import Derived.Test.YtipablcbkoedbaaReg
import Derived.Test.YtipablcbkoedbaaA1
import Derived.Test.YtipablcbkoedbaaA2
import Derived.Test.YtipablcbkoedbaaB1
import Derived.Test.YtipablcbkoedbaaB2
import Derived.Test.YtipablcbkoedbaaB3
import Derived.Test.YtipablcbkoedbaaB4
namespace Go.Proofs.Ytipablcbkoedbaa
open Go.RowKit




/-- The error of a value of a curve. -/
def valErr (ks : List (Int × Int)) (err x : Int) : Int := if check ks err ≠ 0 then check ks err else if domLo ks ≤ x ∧ x ≤ domHi ks then 0 else 3
def vN (ks : List (Int × Int)) (err x : Int) : Int := if valErr ks err x = 0 then valN ks x else 0
def vD (ks : List (Int × Int)) (err x : Int) : Int := if valErr ks err x = 0 then valD ks x else 0

theorem Value_any (A : Option Addr) (n cap : Nat) (err : Int) (ks : List (Int × Int)) (x : Int) (w : World) (h : CAt w A n ks) (hm : n ≤ 9223372036854775807) :
    Calls Try.prog 34 #[vCv A n cap err, .int .i64 x] w fun e w' => e = .returned (.tuple #[vFrac (vN ks err x) (vD ks err x), .int .i64 (valErr ks err x)]) ∧ Below w.heap.size w w' := by
  have hC := fun W (hW : CAt W A n ks) => Check_any A n cap err ks W hW hm
  have HC := Lib.hid hC
  clear hC
  generalize hW : (w.alloc (.cells #[.slice A n cap, .int .i64 err] 24)).alloc (.cells #[.int .i64 0, .int .i64 0] 30) = W
  have hbw : Below w.heap.size w W := by rw [← hW]; exact ((Below.refl _ _).alloc (Nat.le_refl _) _).alloc (by simp) _
  have hcb : Blk W w.heap.size 24 #[.slice A n cap, .int .i64 err] := by rw [← hW]; exact (Blk.at_new _ _ rfl).alloc _
  have hrb : Blk W (w.heap.size + 1) 30 #[.int .i64 0, .int .i64 0] := by rw [← hW]; exact Blk.at_new _ _ (by simp)
  have HWE := Lib.hid hW
  clear hW
  by_cases hz : check ks err = 0
  case neg =>
    have hz1 : (check ks err != 0) = true := by simpa using hz
    have he : valErr ks err x = check ks err := by unfold valErr; rw [if_pos hz]
    have hn0 : vN ks err x = 0 := by unfold vN; rw [he, if_neg hz]
    have hd0 : vD ks err x = 0 := by unfold vD; rw [he, if_neg hz]
    have HE := Lib.hid he
    have HN := Lib.hid hn0
    have HD := Lib.hid hd0
    have HA := Lib.hid (h.below hbw)
    clear he hn0 hd0 hz h
    go_enter Try.func34, Try.ntmps34
    go_wp2_with fail
    rw [HWE.out]
    refine (HC.out _ HA.out).mono ?_; rintro e w1 ⟨rfl, hb1⟩
    have hr1 := hrb.below hb1
    have hc0 := hr1.cell 0
    have hc1 := hr1.cell 1
    have hf0 := hr1.frozen 0
    have hf1 := hr1.frozen 1
    simp only [List.getElem?_toArray, List.getElem?_cons_zero, List.getElem?_cons_succ] at hc0 hc1
    have hb2 := hbw.trans (hb1.mono hbw.size)
    go_wp2
    exact bodyPost_ret (v := .tuple #[vFrac 0 0, .int .i64 (check ks err)]) (by simp [results, Try.results34, go_sem, hc0, hc1]) rfl ⟨by rw [HE.out, HN.out, HD.out], (hb2.setCell (p := ⟨w.heap.size + 1, 0, none⟩) (by simp) _).setCell (p := ⟨w.heap.size + 1, 1, none⟩) (by simp) _⟩
  have hz1 : (check ks err != 0) = false := by simp [hz]
  obtain ⟨hv, hE1, hE2⟩ := check_zero hz
  have hpos := hv.pos
  have hvle := hv.le
  have hlen := h.len
  obtain ⟨b, off, hAe, hkn⟩ := h.at_ (by omega)
  subst hAe
  have hD := fun W (hW : Kn W b off ks) => domain_any b off n cap err ks W hW hlen (by omega) (by omega)
  have HDo := Lib.hid hD
  clear hD
  have hx0 := hv.x0 0 hpos
  have hx1 := hv.x0 (ks.length - 1) (by omega)
  obtain ⟨hx0a, hx0b⟩ := hx0
  obtain ⟨hx1a, hx1b⟩ := hx1
  have HA := Lib.hid (h.below hbw)
  have HK := Lib.hid (hkn.below hbw)
  by_cases hin : domLo ks ≤ x ∧ x ≤ domHi ks
  · have he : valErr ks err x = 0 := by unfold valErr; rw [if_neg (by simp [hz]), if_pos hin]
    have hn0 : vN ks err x = valN ks x := by unfold vN; rw [he, if_pos rfl]
    have hd0 : vD ks err x = valD ks x := by unfold vD; rw [he, if_pos rfl]
    have HE := Lib.hid he
    have HN := Lib.hid hn0
    have HD := Lib.hid hd0
    have hVal := fun W (hW : Kn W b off ks) => value_any b off cap err ks x W hW hv (by unfold domLo domHi at hin; omega) (by unfold domLo domHi at hin; omega)
    rw [hlen] at hVal
    have HV := Lib.hid hVal
    have HI := Lib.hid hin
    clear he hn0 hd0 hz h hVal hin hkn hlen hv
    unfold domLo domHi at *
    go_enter Try.func34, Try.ntmps34
    go_wp2_with fail
    rw [HWE.out]
    refine (HC.out _ HA.out).mono ?_; rintro e w1 ⟨rfl, hb1⟩
    have hc1 := hcb.below hb1
    have hk0 := hc1.cell 0
    have hk1 := hc1.cell 1
    simp only [List.getElem?_toArray, List.getElem?_cons_zero, List.getElem?_cons_succ] at hk0 hk1
    go_wp2_with fail
    refine (HDo.out _ (HK.out.below hb1)).mono ?_; rintro e w2 ⟨rfl, hb2⟩
    have hb3 := hb1.trans (hb2.mono hb1.size)
    have hc2 := hcb.below hb3
    have hk0 := hc2.cell 0
    have hk1 := hc2.cell 1
    simp only [List.getElem?_toArray, List.getElem?_cons_zero, List.getElem?_cons_succ] at hk0 hk1
    have hsz := hc2.lt
    go_wp2_with (go_at_call 98; refine (within_yes _ _ _ _ HI.out).mono ?_; rintro e w' ⟨rfl, rfl⟩)
    refine (HV.out _ ((HK.out.below hb3).below ((Below.refl _ _).alloc (Nat.le_refl _) _))).mono ?_; rintro e w4 ⟨rfl, hb4⟩
    have hb5 := (hb3.alloc hb3.size (.cells #[.int .i64 (kx ks 0), .int .i64 (kx ks (ks.length - 1))] 26)).trans (hb4.mono (by simp; have := hb3.size; omega))
    have hr1 := hrb.below hb5
    have hc0 := hr1.cell 0
    have hc1 := hr1.cell 1
    have hf0 := hr1.frozen 0
    have hf1 := hr1.frozen 1
    simp only [List.getElem?_toArray, List.getElem?_cons_zero, List.getElem?_cons_succ] at hc0 hc1
    have hb2 := hbw.trans (hb5.mono hbw.size)
    go_wp2
    exact bodyPost_ret (v := .tuple #[vFrac (valN ks x) (valD ks x), .int .i64 0]) (by simp [results, Try.results34, go_sem, hc0, hc1]) rfl ⟨by rw [HE.out, HN.out, HD.out], (hb2.setCell (p := ⟨w.heap.size + 1, 0, none⟩) (by simp) _).setCell (p := ⟨w.heap.size + 1, 1, none⟩) (by simp) _⟩
  · have he : valErr ks err x = 3 := by unfold valErr; rw [if_neg (by simp [hz]), if_neg hin]
    have hn0 : vN ks err x = 0 := by unfold vN; rw [he, if_neg (by omega)]
    have hd0 : vD ks err x = 0 := by unfold vD; rw [he, if_neg (by omega)]
    have HE := Lib.hid he
    have HN := Lib.hid hn0
    have HD := Lib.hid hd0
    have HI := Lib.hid hin
    clear he hn0 hd0 hz h hin hkn hlen hv
    unfold domLo domHi at *
    go_enter Try.func34, Try.ntmps34
    go_wp2_with fail
    rw [HWE.out]
    refine (HC.out _ HA.out).mono ?_; rintro e w1 ⟨rfl, hb1⟩
    have hc1 := hcb.below hb1
    have hk0 := hc1.cell 0
    have hk1 := hc1.cell 1
    simp only [List.getElem?_toArray, List.getElem?_cons_zero, List.getElem?_cons_succ] at hk0 hk1
    go_wp2_with fail
    refine (HDo.out _ (HK.out.below hb1)).mono ?_; rintro e w2 ⟨rfl, hb2⟩
    have hb3 := hb1.trans (hb2.mono hb1.size)
    have hr2 := hrb.below hb3
    have hc0 := hr2.cell 0
    have hc1 := hr2.cell 1
    have hf0 := hr2.frozen 0
    have hf1 := hr2.frozen 1
    simp only [List.getElem?_toArray, List.getElem?_cons_zero, List.getElem?_cons_succ] at hc0 hc1
    have hsz := hr2.lt
    have hb5 := hbw.trans (hb3.mono hbw.size)
    go_wp2_with (go_at_call 98; refine (within_no _ _ _ _ HI.out).mono ?_; rintro e w' ⟨rfl, rfl⟩)
    have hr3 := ((hr2.set_ 0 (.int .i64 0)).set_ 1 (.int .i64 0)).alloc (.cells #[.int .i64 (kx ks 0), .int .i64 (kx ks (ks.length - 1))] 26)
    have h30 := hr3.cell 0
    have h31 := hr3.cell 1
    simp only [List.setIfInBounds_toArray, List.set_cons_zero, List.set_cons_succ, List.getElem?_toArray, List.getElem?_cons_zero, List.getElem?_cons_succ] at h30 h31
    exact bodyPost_ret (v := .tuple #[vFrac 0 0, .int .i64 3]) (by simp [results, Try.results34, go_sem, h30, h31]) rfl ⟨by rw [HE.out, HN.out, HD.out], ((hb5.setCell (p := ⟨w.heap.size + 1, 0, none⟩) (by simp) _).setCell (p := ⟨w.heap.size + 1, 1, none⟩) (by simp) _).alloc (by simp [World.setCell]; omega) _⟩
end Go.Proofs.Ytipablcbkoedbaa
