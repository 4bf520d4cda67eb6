/- The reference: where. -/
import Derived.WalkKit
import Derived.WalkLawsBesides
import Derived.Deep.QuietTactic
import Derived.BigQuiet
import Derived.RegionTactic
import Derived.Lib.Hide
import Derived.Outline
import Derived.WalkSmall
import Derived.Test.YtipablcbkoedbaaProg
import Derived.Test.YtipablcbkoedbaaH4
namespace Go.Proofs.Ytipablcbkoedbaa
open Go.RowKit

def upN (ks : List (Int × Int)) (y : Int) (i : Nat) : Int := kx ks i * (ky ks (i + 1) - ky ks i) + (y - ky ks i) * (kx ks (i + 1) - kx ks i)
def dnN (ks : List (Int × Int)) (y : Int) (i : Nat) : Int := kx ks i * (ky ks i - ky ks (i + 1)) + (ky ks i - y) * (kx ks (i + 1) - kx ks i)
theorem dnN_neg (ks : List (Int × Int)) (y : Int) (i : Nat) : -upN ks y i = dnN ks y i := by
  unfold upN dnN
  rw [Int.neg_add, ← Int.mul_neg, ← Int.neg_mul]
  congr 2 <;> omega
theorem onP_iff (ks : List (Int × Int)) (y : Int) (i : Nat) : onP ks y i = true ↔ min (ky ks i) (ky ks (i + 1)) ≤ y ∧ y ≤ max (ky ks i) (ky ks (i + 1)) := by unfold onP; simp
theorem whO_at {ks : List (Int × Int)} {y : Int} {i : Nat} (hi : i + 1 < ks.length) (h1 : ∀ j, j < i → onP ks y j = false) (h2 : onP ks y i = true) : whO ks y = some i := by
  unfold whO
  rw [List.find?_range_eq_some]
  exact ⟨h2, by simp; omega, fun j hj => by simp [h1 j hj]⟩
/-- What the reference finds at a knot is what the program finds. -/
theorem wh_hit {ks : List (Int × Int)} {y : Int} {k : Nat} (hk : k < ks.length) (hne : ∀ j, j < k → ky ks j ≠ y) (hof : ∀ j, j + 1 < k → onP ks y j = false) :
    (ky ks k = y → whF ks y = some (kx ks k, 1)) ∧
    (0 < k → ky ks (k - 1) < y → y < ky ks k → whF ks y = some (lowN (upN ks y (k - 1)) (ky ks k - ky ks (k - 1)), lowD (upN ks y (k - 1)) (ky ks k - ky ks (k - 1)))) ∧
    (0 < k → y < ky ks (k - 1) → ky ks k < y → whF ks y = some (lowN (dnN ks y (k - 1)) (ky ks (k - 1) - ky ks k), lowD (dnN ks y (k - 1)) (ky ks (k - 1) - ky ks k))) ∧
    (0 < k → ky ks k ≠ y → ¬ (ky ks (k - 1) < y ∧ y < ky ks k) → ¬ (y < ky ks (k - 1) ∧ ky ks k < y) → onP ks y (k - 1) = false) := by
  have hinv : 0 < k → onP ks y (k - 1) = true → whF ks y = some (invN ks y (k - 1), invD ks y (k - 1)) := fun h0 hon => by
    have := hne 0 h0
    unfold whF
    rw [if_neg (fun h => this h.symm), whO_at (i := k - 1) (by omega) (fun j hj => hof j (by omega)) hon]
  have hk1 : 0 < k → k - 1 + 1 = k := fun h => by omega
  refine ⟨fun hy => ?_, fun h0 h1 h2 => ?_, fun h0 h1 h2 => ?_, fun h0 h1 h2 h3 => ?_⟩
  · by_cases h0 : k = 0
    · subst h0
      unfold whF
      rw [if_pos hy.symm]
      have := low_one (kx ks 0)
      rw [this.1, this.2]
    · have hp : 0 < k := by omega
      have hn := hne (k - 1) (by omega)
      rw [hinv hp ((onP_iff _ _ _).2 (by rw [hk1 hp]; omega))]
      unfold invN invD
      rw [hk1 hp, hy, show kx ks (k - 1) * (y - ky ks (k - 1)) + (y - ky ks (k - 1)) * (kx ks k - kx ks (k - 1)) = kx ks k * (y - ky ks (k - 1)) by rw [Int.mul_comm (y - ky ks (k - 1)), ← Int.add_mul]; congr 1; omega]
      unfold frN frD
      by_cases hd : y - ky ks (k - 1) < 0
      · rw [if_pos hd, if_pos hd, ← Int.mul_neg]
        have := low_mul (y := kx ks k) (r := -(y - ky ks (k - 1))) (by omega)
        rw [this.1, this.2]
      · rw [if_neg hd, if_neg hd]
        have := low_mul (y := kx ks k) (r := y - ky ks (k - 1)) (by omega)
        rw [this.1, this.2]
  · rw [hinv h0 ((onP_iff _ _ _).2 (by rw [hk1 h0]; omega))]
    unfold invN invD frN frD
    rw [hk1 h0, if_neg (by omega), if_neg (by omega)]
    unfold upN
    rw [hk1 h0]
  · rw [hinv h0 ((onP_iff _ _ _).2 (by rw [hk1 h0]; omega))]
    unfold invN invD frN frD
    rw [hk1 h0, if_pos (by omega), if_pos (by omega)]
    have hd := dnN_neg ks y (k - 1)
    unfold upN at hd
    rw [hk1 h0] at hd
    rw [hd, show -(ky ks k - ky ks (k - 1)) = ky ks (k - 1) - ky ks k by omega]
  · cases hc : onP ks y (k - 1) with
    | false => rfl
    | true =>
      have := (onP_iff _ _ _).1 hc
      rw [hk1 h0] at this
      have := hne (k - 1) (by omega)
      omega
theorem wh_miss {ks : List (Int × Int)} {y : Int} (hpos : 0 < ks.length) (hne : ∀ j, j < ks.length → ky ks j ≠ y) (hof : ∀ j, j + 1 < ks.length → onP ks y j = false) : whF ks y = none := by
  unfold whF
  rw [if_neg (fun h => hne 0 hpos h.symm)]
  have : whO ks y = none := by
    unfold whO
    rw [List.find?_eq_none]
    intro j hj
    rw [hof j (by have := List.mem_range.1 hj; omega)]
    simp
  rw [this]
theorem wh_some {ks : List (Int × Int)} {y a b : Int} (h : whF ks y = some (a, b)) : whN ks y = a ∧ whD ks y = b ∧ (whF ks y).isSome = true := by unfold whN whD; rw [h]; exact ⟨rfl, rfl, rfl⟩
theorem wh_none {ks : List (Int × Int)} {y : Int} (h : whF ks y = none) : whN ks y = 0 ∧ whD ks y = 0 ∧ (whF ks y).isSome = false := by unfold whN whD; rw [h]; exact ⟨rfl, rfl, rfl⟩

set_option maxRecDepth 100000 in
set_option maxHeartbeats 3200000 in
theorem Rwhere_any (b off cap : Nat) (err : Int) (ks : List (Int × Int)) (y : Int) (w : World) (h : Kn w b off ks) (hv : Valid ks) :
    Calls Try.prog 77 #[vCv (some ⟨b, off, none⟩) ks.length cap err, .int .i64 y] w fun e w' => e = .returned (.tuple #[vFrac (whN ks y) (whD ks y), .bool (whF ks y).isSome]) ∧ Below w.heap.size w w' := by
  have hpos := hv.pos
  have hle := hv.le
  have hbw := ((Below.refl w.heap.size w).alloc (Nat.le_refl _) (.cells #[.slice (some ⟨b, off, none⟩) ks.length cap, .int .i64 err] 24)).alloc (by simp) (.cells #[.int .i64 0, .int .i64 0] 30)
  have hcb := (Blk.new w 24 #[.slice (some ⟨b, off, none⟩) ks.length cap, .int .i64 err]).alloc (.cells #[.int .i64 0, .int .i64 0] 30)
  have hrb := Blk.at_new (W := w.alloc (.cells #[.slice (some ⟨b, off, none⟩) ks.length cap, .int .i64 err] 24)) 30 #[.int .i64 0, .int .i64 0] (g := w.heap.size + 1) (by simp)
  have HKn := Lib.hid h
  have HV := Lib.hid hv
  clear h hv
  go_enter Try.func77, Try.ntmps77
  go_wp2
  generalize hWk : (w.alloc (.cells #[.slice (some ⟨b, off, none⟩) ks.length cap, .int .i64 err] 24)).alloc (.cells #[.int .i64 0, .int .i64 0] 30) = W at *
  clear hWk
  go_loopw [6] (fun i wr => ∃ (k : Nat), k ≤ ks.length ∧ i = .int .i64 k ∧ (∀ j, j < k → ky ks j ≠ y) ∧ (∀ j, j + 1 < k → onP ks y j = false) ∧
      Blk wr w.heap.size 24 #[.slice (some ⟨b, off, none⟩) ks.length cap, .int .i64 err] ∧ Blk wr (w.heap.size + 1) 30 #[.int .i64 0, .int .i64 0] ∧ Below w.heap.size w wr) (fun i _ => ks.length - (intOf i).toNat)
  case atStart => exact ⟨0, Nat.zero_le _, rfl, fun j hj => absurd hj (by omega), fun j hj => absurd hj (by omega), hcb, hrb, hbw⟩
  case round =>
    obtain ⟨k, hk, rfl, hne, hof, hrc, hrr, hb⟩ := hrel
    have HNe := Lib.hid hne
    have HOf := Lib.hid hof
    have HRc := Lib.hid hrc
    have HRr := Lib.hid hrr
    clear hne hof
    have cc0 := hrc.cell 0
    simp only [List.getElem?_toArray, List.getElem?_cons_zero] at cc0
    have ccl := hrc.lt
    have r0 := hrr.cell 0
    have r1 := hrr.cell 1
    have rf0 := hrr.frozen 0
    have rf1 := hrr.frozen 1
    have rl := hrr.lt
    simp only [List.getElem?_toArray, List.getElem?_cons_zero, List.getElem?_cons_succ] at r0 r1
    clear hrc hrr
    by_cases hkn : k < ks.length
    · have hK := HKn.out.below hb
      have hx1 := hK.x k hkn
      have hy1 := hK.y k hkn
      have hlb := hK.lt
      obtain ⟨w1, w2, w3, w4⟩ := wh_hit hkn HNe.out HOf.out
      have HW1 := Lib.hid w1
      have HW2 := Lib.hid w2
      have HW3 := Lib.hid w3
      have HW4 := Lib.hid w4
      have HHk := Lib.hid hkn
      obtain ⟨hyb1, hyb2⟩ := HV.out.y0 k hkn
      obtain ⟨hxb1, hxb2⟩ := HV.out.x0 k hkn
      clear w1 w2 w3 w4
      by_cases hy : ky ks k = y
      · have HR := Lib.hid (wh_some (HW1.out hy))
        have hyy : (ky ks k == y) = true := by simpa using hy
        clear hK HW1 HW2 HW3 HW4
        generalize kx ks k = xk at *
        generalize ky ks k = yk at *
        subst hy
        go_wp2
        have hz0 := hb.size
        have hF := (HRr.out.set_ 0 (.int .i64 xk)).set_ 1 (.int .i64 1)
        have hF := hF.alloc (.cells #[.int .i64 xk, .int .i64 yk] 108)
        have k0 := hF.cell 0
        have k1 := hF.cell 1
        simp only [List.setIfInBounds_toArray, List.set_cons_zero, List.set_cons_succ, List.getElem?_toArray, List.getElem?_cons_zero, List.getElem?_cons_succ] at k0 k1
        exact bodyPost_ret (v := .tuple #[vFrac xk 1, .bool true]) (by simp [results, Try.results77, go_sem, k0, k1]) rfl ⟨by rw [HR.out.1, HR.out.2.1, HR.out.2.2], ((hb.setCell (p := ⟨w.heap.size + 1, 0, none⟩) (by simp) _).setCell (p := ⟨w.heap.size + 1, 1, none⟩) (by simp) _).alloc (by simpa using hz0) _⟩
      have hyy : (ky ks k == y) = false := by simpa using hy
      by_cases hk0 : k = 0
      · have HNe2 := Lib.hid (show ∀ j, j < k + 1 → ky ks j ≠ y from fun j hj => by
          by_cases e : j = k
          · subst e; exact hy
          · exact HNe.out j (by omega))
        have hbk := hb.alloc hb.size (.cells #[.int .i64 (kx ks k), .int .i64 (ky ks k)] 108)
        have HC2 := Lib.hid (HRc.out.alloc (.cells #[.int .i64 (kx ks k), .int .i64 (ky ks k)] 108))
        have HR2 := Lib.hid (HRr.out.alloc (.cells #[.int .i64 (kx ks k), .int .i64 (ky ks k)] 108))
        clear hK HW1 HW2 HW3 HW4
        subst hk0
        simp only [Nat.zero_mul, Nat.add_zero] at hx1 hy1
        generalize kx ks 0 = xk at *
        generalize ky ks 0 = yk at *
        go_wp2
        go_roundw
        case rel => exact ⟨1, by omega, by go_num, HNe2.out, fun j hj => absurd hj (by omega), HC2.out, HR2.out, hbk⟩
        case measure => simp [intOf]; omega
      have hkp : 0 < k := by omega
      have hke : ((k : Int) - 1) = ((k - 1 : Nat) : Int) := by omega
      have hk00 : ((k : Int) == 0) = false := by simp; omega
      have hk3 : k - 1 < ks.length := by omega
      have hx0 := hK.x (k - 1) hk3
      have hy0 := hK.y (k - 1) hk3
      obtain ⟨hzb1, hzb2⟩ := HV.out.y0 (k - 1) hk3
      obtain ⟨hub1, hub2⟩ := HV.out.x0 (k - 1) hk3
      have hxu := HV.out.up (k - 1) (by omega)
      rw [show k - 1 + 1 = k by omega] at hxu
      have hUN : upN ks y (k - 1) = kx ks (k - 1) * (ky ks k - ky ks (k - 1)) + (y - ky ks (k - 1)) * (kx ks k - kx ks (k - 1)) := by unfold upN; rw [show k - 1 + 1 = k by omega]
      have hDN : dnN ks y (k - 1) = kx ks (k - 1) * (ky ks (k - 1) - ky ks k) + (ky ks (k - 1) - y) * (kx ks k - kx ks (k - 1)) := by unfold dnN; rw [show k - 1 + 1 = k by omega]
      rw [hUN] at HW2
      rw [hDN] at HW3
      by_cases hu : ky ks (k - 1) < y ∧ y < ky ks k
      · obtain ⟨hu1, hu2⟩ := hu
        have HR := Lib.hid (wh_some (HW2.out hkp hu1 hu2))
        obtain ⟨pp, qq⟩ := mul_bd (x := kx ks (k - 1)) (y := ky ks k - ky ks (k - 1)) (A := 2000) (B := 200000) (by omega) (by omega) (by omega) (by omega)
        obtain ⟨rr, ss⟩ := mul_bd (x := y - ky ks (k - 1)) (y := kx ks k - kx ks (k - 1)) (A := 200000) (B := 2000) (by omega) (by omega) (by omega) (by omega)
        have HL := Lib.hid (fun W => Low_any (kx ks (k - 1) * (ky ks k - ky ks (k - 1)) + (y - ky ks (k - 1)) * (kx ks k - kx ks (k - 1))) (ky ks k - ky ks (k - 1)) W (by omega) (by omega) (by omega) (by omega))
        clear hK HW1 HW2 HW3 HW4 hUN hDN
        generalize kx ks k = xk at *
        generalize ky ks k = yk at *
        generalize kx ks (k - 1) = xp at *
        generalize ky ks (k - 1) = yp at *
        have hb6 := (hb.alloc hb.size (.cells #[.int .i64 xk, .int .i64 yk] 108))
        have hb7 := hb6.alloc hb6.size (.cells #[.int .i64 xp, .int .i64 yp] 108)
        have HC2 := Lib.hid ((HRc.out.alloc (.cells #[.int .i64 xk, .int .i64 yk] 108)).alloc (.cells #[.int .i64 xp, .int .i64 yp] 108))
        have HR2 := Lib.hid ((HRr.out.alloc (.cells #[.int .i64 xk, .int .i64 yk] 108)).alloc (.cells #[.int .i64 xp, .int .i64 yp] 108))
        generalize lowN (xp * (yk - yp) + (y - yp) * (xk - xp)) (yk - yp) = ln at *
        generalize lowD (xp * (yk - yp) + (y - yp) * (xk - xp)) (yk - yp) = ld at *
        go_wp2_with (go_at_call 102; refine (HL.out _).mono ?_; rintro e w8 ⟨rfl, hb8⟩; have hr8 := HR2.out.below hb8; have s0 := hr8.cell 0; have s1 := hr8.cell 1; have sf0 := hr8.frozen 0; have sf1 := hr8.frozen 1; have sl := hr8.lt; simp only [List.getElem?_toArray, List.getElem?_cons_zero, List.getElem?_cons_succ] at s0 s1; have hb9 := hb7.trans (hb8.mono hb7.size))
        have hF := (hr8.set_ 0 (.int .i64 ln)).set_ 1 (.int .i64 ld)
        have k0 := hF.cell 0
        have k1 := hF.cell 1
        simp only [List.setIfInBounds_toArray, List.set_cons_zero, List.set_cons_succ, List.getElem?_toArray, List.getElem?_cons_zero, List.getElem?_cons_succ] at k0 k1
        exact bodyPost_ret (v := .tuple #[vFrac ln ld, .bool true]) (by simp [results, Try.results77, go_sem, k0, k1]) rfl ⟨by rw [HR.out.1, HR.out.2.1, HR.out.2.2], (hb9.setCell (p := ⟨w.heap.size + 1, 0, none⟩) (by simp) _).setCell (p := ⟨w.heap.size + 1, 1, none⟩) (by simp) _⟩
      by_cases hd : y < ky ks (k - 1) ∧ ky ks k < y
      · obtain ⟨hd1, hd2⟩ := hd
        have HR := Lib.hid (wh_some (HW3.out hkp hd1 hd2))
        obtain ⟨pp, qq⟩ := mul_bd (x := kx ks (k - 1)) (y := ky ks (k - 1) - ky ks k) (A := 2000) (B := 200000) (by omega) (by omega) (by omega) (by omega)
        obtain ⟨rr, ss⟩ := mul_bd (x := ky ks (k - 1) - y) (y := kx ks k - kx ks (k - 1)) (A := 200000) (B := 2000) (by omega) (by omega) (by omega) (by omega)
        have HL := Lib.hid (fun W => Low_any (kx ks (k - 1) * (ky ks (k - 1) - ky ks k) + (ky ks (k - 1) - y) * (kx ks k - kx ks (k - 1))) (ky ks (k - 1) - ky ks k) W (by omega) (by omega) (by omega) (by omega))
        clear hK HW1 HW2 HW3 HW4 hUN hDN
        generalize kx ks k = xk at *
        generalize ky ks k = yk at *
        generalize kx ks (k - 1) = xp at *
        generalize ky ks (k - 1) = yp at *
        have hb6 := (hb.alloc hb.size (.cells #[.int .i64 xk, .int .i64 yk] 108))
        have hb7 := hb6.alloc hb6.size (.cells #[.int .i64 xp, .int .i64 yp] 108)
        have HC2 := Lib.hid ((HRc.out.alloc (.cells #[.int .i64 xk, .int .i64 yk] 108)).alloc (.cells #[.int .i64 xp, .int .i64 yp] 108))
        have HR2 := Lib.hid ((HRr.out.alloc (.cells #[.int .i64 xk, .int .i64 yk] 108)).alloc (.cells #[.int .i64 xp, .int .i64 yp] 108))
        generalize lowN (xp * (yp - yk) + (yp - y) * (xk - xp)) (yp - yk) = ln at *
        generalize lowD (xp * (yp - yk) + (yp - y) * (xk - xp)) (yp - yk) = ld at *
        go_wp2_with (go_at_call 102; refine (HL.out _).mono ?_; rintro e w8 ⟨rfl, hb8⟩; have hr8 := HR2.out.below hb8; have s0 := hr8.cell 0; have s1 := hr8.cell 1; have sf0 := hr8.frozen 0; have sf1 := hr8.frozen 1; have sl := hr8.lt; simp only [List.getElem?_toArray, List.getElem?_cons_zero, List.getElem?_cons_succ] at s0 s1; have hb9 := hb7.trans (hb8.mono hb7.size))
        have hF := (hr8.set_ 0 (.int .i64 ln)).set_ 1 (.int .i64 ld)
        have k0 := hF.cell 0
        have k1 := hF.cell 1
        simp only [List.setIfInBounds_toArray, List.set_cons_zero, List.set_cons_succ, List.getElem?_toArray, List.getElem?_cons_zero, List.getElem?_cons_succ] at k0 k1
        exact bodyPost_ret (v := .tuple #[vFrac ln ld, .bool true]) (by simp [results, Try.results77, go_sem, k0, k1]) rfl ⟨by rw [HR.out.1, HR.out.2.1, HR.out.2.2], (hb9.setCell (p := ⟨w.heap.size + 1, 0, none⟩) (by simp) _).setCell (p := ⟨w.heap.size + 1, 1, none⟩) (by simp) _⟩
      have HNe2 := Lib.hid (show ∀ j, j < k + 1 → ky ks j ≠ y from fun j hj => by
        by_cases e : j = k
        · subst e; exact hy
        · exact HNe.out j (by omega))
      have hon := HW4.out hkp hy hu hd
      have HOf2 := Lib.hid (show ∀ j, j + 1 < k + 1 → onP ks y j = false from fun j hj => by
        by_cases e : j = k - 1
        · subst e; exact hon
        · exact HOf.out j (by omega))
      clear hK HW1 HW2 HW3 HW4 hUN hDN hon
      generalize kx ks k = xk at *
      generalize ky ks k = yk at *
      generalize kx ks (k - 1) = xp at *
      generalize ky ks (k - 1) = yp at *
      have hb6 := (hb.alloc hb.size (.cells #[.int .i64 xk, .int .i64 yk] 108))
      have hb7 := hb6.alloc hb6.size (.cells #[.int .i64 xp, .int .i64 yp] 108)
      have HC2 := Lib.hid ((HRc.out.alloc (.cells #[.int .i64 xk, .int .i64 yk] 108)).alloc (.cells #[.int .i64 xp, .int .i64 yp] 108))
      have HR2 := Lib.hid ((HRr.out.alloc (.cells #[.int .i64 xk, .int .i64 yk] 108)).alloc (.cells #[.int .i64 xp, .int .i64 yp] 108))
      have hyl : yk < y ∨ y < yk := by omega
      by_cases a1 : yp < y
      · have a2 : ¬ y < yk := fun h => hu ⟨a1, h⟩
        have a3 : ¬ y < yp := by omega
        clear hu hd hyl
        go_wp2
        go_roundw
        case rel => exact ⟨k + 1, by omega, by go_num, HNe2.out, HOf2.out, HC2.out, HR2.out, hb7⟩
        case measure => simp [intOf]; omega
      · by_cases a3 : y < yp
        · have a4 : ¬ yk < y := fun h => hd ⟨a3, h⟩
          clear hu hd hyl
          go_wp2
          go_roundw
          case rel => exact ⟨k + 1, by omega, by go_num, HNe2.out, HOf2.out, HC2.out, HR2.out, hb7⟩
          case measure => simp [intOf]; omega
        · clear hu hd hyl
          go_wp2
          go_roundw
          case rel => exact ⟨k + 1, by omega, by go_num, HNe2.out, HOf2.out, HC2.out, HR2.out, hb7⟩
          case measure => simp [intOf]; omega
    · have hkk : k = ks.length := by omega
      subst hkk
      have HR := Lib.hid (wh_none (wh_miss hpos HNe.out HOf.out))
      go_wp2
      have hF := (HRr.out.set_ 0 (.int .i64 0)).set_ 1 (.int .i64 0)
      have k0 := hF.cell 0
      have k1 := hF.cell 1
      simp only [List.setIfInBounds_toArray, List.set_cons_zero, List.set_cons_succ, List.getElem?_toArray, List.getElem?_cons_zero, List.getElem?_cons_succ] at k0 k1
      exact bodyPost_ret (v := .tuple #[vFrac 0 0, .bool false]) (by simp [results, Try.results77, go_sem, k0, k1]) rfl ⟨by rw [HR.out.1, HR.out.2.1, HR.out.2.2], (hb.setCell (p := ⟨w.heap.size + 1, 0, none⟩) (by simp) _).setCell (p := ⟨w.heap.size + 1, 1, none⟩) (by simp) _⟩
end Go.Proofs.Ytipablcbkoedbaa
