/- The reference: domain, in, there, At, Value; Domain. -/
import Derived.WalkKit
import Derived.WalkLawsBesides
import Derived.Deep.QuietTactic
import Derived.BigQuiet
import Derived.RegionTactic
import Derived.Lib.Hide
import Derived.Outline
import Derived.WalkSmall
import Derived.Test.YtipablcbkoedbaaProg
import Derived.Test.YtipablcbkoedbaaH1
import Derived.Test.YtipablcbkoedbaaB5
namespace Go.Proofs.Ytipablcbkoedbaa
open Go.RowKit

theorem Rdomain_any (b off n cap : Nat) (err : Int) (ks : List (Int × Int)) (w : World) (h : Kn w b off ks) (hl : ks.length = n) (h0 : 0 < n) (hn : n ≤ 1000) :
    Calls Try.prog 78 #[vCv (some ⟨b, off, none⟩) n cap err] w fun e w' => e = .returned (vSpan (domLo ks) (domHi ks)) ∧ Below w.heap.size w w' := by
  subst hl
  have hlt := h.lt
  have hx := h.x 0 (by omega)
  have hy := h.x (ks.length - 1) (by omega)
  have hlen : ks.length - 1 < ks.length := by omega
  simp only [Nat.zero_mul, Nat.add_zero] at hx
  unfold domLo domHi
  go_enter Try.func78, Try.ntmps78
  go_wp2
  generalize hW0 : (w.alloc (.cells #[.slice (some ⟨b, off, none⟩) ks.length cap, .int .i64 err] 24)).alloc (.cells #[.int .i64 0, .int .i64 0] 26) = W0
  have hbw : Below w.heap.size w W0 := by rw [← hW0]; exact ((Below.refl _ _).alloc (Nat.le_refl _) _).alloc (by simp) _
  have hc0 : Blk W0 w.heap.size 24 #[.slice (some ⟨b, off, none⟩) ks.length cap, .int .i64 err] := by rw [← hW0]; exact (Blk.at_new _ _ rfl).alloc _
  have hr0 : Blk W0 (w.heap.size + 1) 26 #[.int .i64 0, .int .i64 0] := by rw [← hW0]; exact Blk.at_new _ _ (by simp)
  clear hW0
  have hlt1 := hc0.lt
  have hlt2 := hr0.lt
  have hlt3 : b < W0.heap.size := by omega
  have hcc := hc0.cell 0
  simp only [List.getElem?_toArray, List.getElem?_cons_zero] at hcc
  have hx' := (hbw.cell (p := ⟨b, off, none⟩) hlt).trans hx
  have hy' := (hbw.cell (p := ⟨b, off + (ks.length - 1) * 2, none⟩) hlt).trans hy
  clear hx hy
  obtain ⟨xc, xf⟩ := xcell (W := W0)
  refine wp_region_quiet_tail 15 (by kernel_rfl) (by kernel_rfl) ?_
  simp only [List.take_succ_cons, List.take_zero, List.drop_succ_cons, List.drop_zero]
  repeat (first | go_big_quiet_step (fail) | quiet_step (fail))
  refine wpQuiet_nil ?_
  intro w2 hb2
  have hr2 := hr0.below hb2
  have hrc := hr2.cell 0
  have hrd := hr2.cell 1
  have hrf := hr2.frozen 0
  have hrg := hr2.frozen 1
  simp only [List.getElem?_toArray, List.getElem?_cons_zero, List.getElem?_cons_succ] at hrc hrd
  have hb5 := hbw.trans (hb2.mono hbw.size)
  go_wp2
  exact bodyPost_ret (v := vSpan (kx ks 0) (kx ks (ks.length - 1))) (by simp [results, Try.results78, go_sem, hrc, hrd]) rfl ⟨rfl, (hb5.setCell (p := ⟨w.heap.size + 1, 0, none⟩) (by simp) _).setCell (p := ⟨w.heap.size + 1, 1, none⟩) (by simp) _⟩


theorem in_any (n lo hi : Int) (w : World) : Calls Try.prog 131 #[.int .i64 n, vSpan lo hi] w fun e w' => e = .returned (.bool (decide (lo ≤ n ∧ n ≤ hi))) ∧ Below w.heap.size w w' := by
  by_cases h1 : lo ≤ n
  · by_cases h2 : n ≤ hi
    · go_enter Try.func131, Try.ntmps131
      go_wp2
      go_ret
      exact ⟨ret_bool (by simp; omega), (Below.refl _ _).alloc (Nat.le_refl _) _⟩
    · go_enter Try.func131, Try.ntmps131
      go_wp2
      go_ret
      exact ⟨ret_bool (by simp; omega), (Below.refl _ _).alloc (Nat.le_refl _) _⟩
  · go_enter Try.func131, Try.ntmps131
    go_wp2
    go_ret
    exact ⟨ret_bool (by simp; omega), (Below.refl _ _).alloc (Nat.le_refl _) _⟩
theorem in_yes (n lo hi : Int) (w : World) (h : lo ≤ n ∧ n ≤ hi) : Calls Try.prog 131 #[.int .i64 n, vSpan lo hi] w fun e w' => e = .returned (.bool true) ∧ Below w.heap.size w w' :=
  (in_any n lo hi w).mono fun _ _ ⟨he, hw⟩ => ⟨by rw [he, decide_eq_true h], hw⟩
theorem in_no (n lo hi : Int) (w : World) (h : ¬ (lo ≤ n ∧ n ≤ hi)) : Calls Try.prog 131 #[.int .i64 n, vSpan lo hi] w fun e w' => e = .returned (.bool false) ∧ Below w.heap.size w w' :=
  (in_any n lo hi w).mono fun _ _ ⟨he, hw⟩ => ⟨by rw [he, decide_eq_false h], hw⟩

theorem there_any (A : Option Addr) (n cap : Nat) (err : Int) (ks : List (Int × Int)) (x : Int) (w : World) (h : CAt w A n ks) (hm : n ≤ 9223372036854775807) :
    Calls Try.prog 99 #[vCv A n cap err, .int .i64 x] w fun e w' => e = .returned (.int .i64 (valErr ks err x)) ∧ Below w.heap.size w w' := by
  have HC := Lib.hid (fun W (hW : CAt W A n ks) => RCheck_any A n cap err ks W hW hm)
  have hbw := (Below.refl w.heap.size w).alloc (Nat.le_refl _) (.cells #[.slice A n cap, .int .i64 err] 24)
  have hcb := Blk.new w 24 #[.slice A n cap, .int .i64 err]
  have HA := Lib.hid (h.below hbw)
  by_cases hz : check ks err = 0
  case neg =>
    have hz1 : (check ks err == 0) = false := by simpa using hz
    have HE := Lib.hid (show valErr ks err x = check ks err by unfold valErr; rw [if_pos hz])
    clear hz h
    generalize check ks err = ce at *
    go_enter Try.func99, Try.ntmps99
    go_wp2_with fail
    refine (HC.out _ HA.out).mono ?_; rintro e w1 ⟨rfl, hb1⟩
    have hb2 := hbw.trans (hb1.mono hbw.size)
    go_wp2
    go_ret
    exact ⟨ret_int HE.out.symm, hb2⟩
  have hz1 : (check ks err == 0) = true := by simp [hz]
  obtain ⟨hv, hE1, hE2⟩ := check_zero hz
  have hpos := hv.pos
  have hvle := hv.le
  have hlen := h.len
  obtain ⟨b, off, hAe, hkn⟩ := h.at_ (by omega)
  subst hAe
  have HDo := Lib.hid (fun W (hW : Kn W b off ks) => Rdomain_any b off n cap err ks W hW hlen (by omega) (by omega))
  have HK := Lib.hid (hkn.below hbw)
  rw [hz] at HC
  by_cases hin : domLo ks ≤ x ∧ x ≤ domHi ks
  · have HE := Lib.hid (show valErr ks err x = 0 by unfold valErr; rw [if_neg (by simp [hz]), if_pos hin])
    have HI := Lib.hid (fun W => in_yes x (domLo ks) (domHi ks) W hin)
    clear hz hz1 h hkn hlen hv hin
    generalize domLo ks = dl at *
    generalize domHi ks = dh at *
    go_enter Try.func99, Try.ntmps99
    go_wp2_with fail
    refine (HC.out _ HA.out).mono ?_; rintro e w1 ⟨rfl, hb1⟩
    have hc1 := hcb.below hb1
    have hk0 := hc1.cell 0
    have hk1 := hc1.cell 1
    simp only [List.getElem?_toArray, List.getElem?_cons_zero, List.getElem?_cons_succ] at hk0 hk1
    go_wp2_with fail
    refine (HDo.out _ (HK.out.below hb1)).mono ?_; rintro e w2 ⟨rfl, hb2⟩
    go_wp2_with fail
    refine (HI.out _).mono ?_; rintro e w3 ⟨rfl, hb3⟩
    have hb4 := (hbw.trans (hb1.mono hbw.size))
    have hb5 := hb4.trans (hb2.mono hb4.size)
    have hb6 := hb5.trans (hb3.mono hb5.size)
    go_wp2
    go_ret
    exact ⟨ret_int HE.out.symm, hb6⟩
  · have HE := Lib.hid (show valErr ks err x = 3 by unfold valErr; rw [if_neg (by simp [hz]), if_neg hin])
    have HI := Lib.hid (fun W => in_no x (domLo ks) (domHi ks) W hin)
    clear hz hz1 h hkn hlen hv hin
    generalize domLo ks = dl at *
    generalize domHi ks = dh at *
    go_enter Try.func99, Try.ntmps99
    go_wp2_with fail
    refine (HC.out _ HA.out).mono ?_; rintro e w1 ⟨rfl, hb1⟩
    have hc1 := hcb.below hb1
    have hk0 := hc1.cell 0
    have hk1 := hc1.cell 1
    simp only [List.getElem?_toArray, List.getElem?_cons_zero, List.getElem?_cons_succ] at hk0 hk1
    go_wp2_with fail
    refine (HDo.out _ (HK.out.below hb1)).mono ?_; rintro e w2 ⟨rfl, hb2⟩
    go_wp2_with fail
    refine (HI.out _).mono ?_; rintro e w3 ⟨rfl, hb3⟩
    have hb4 := (hbw.trans (hb1.mono hbw.size))
    have hb5 := hb4.trans (hb2.mono hb4.size)
    have hb6 := hb5.trans (hb3.mono hb5.size)
    go_wp2
    go_ret
    exact ⟨ret_int HE.out.symm, hb6⟩

/-! ### At -/
theorem low_mul {y r : Int} (hr : 1 ≤ r) : lowN (y * r) r = y ∧ lowD (y * r) r = 1 := by
  have hg : ((Nat.gcd (y * r).natAbs r.natAbs : Nat) : Int) = r := by
    rw [Int.natAbs_mul, Nat.gcd_mul_left_left]
    omega
  unfold lowN lowD
  rw [hg, Int.mul_ediv_cancel _ (by omega), Int.ediv_self (by omega)]
  exact ⟨rfl, rfl⟩
theorem low_one (y : Int) : lowN y 1 = y ∧ lowD y 1 = 1 := by
  have := low_mul (y := y) (r := 1) (by omega)
  rwa [Int.mul_one] at this
theorem pieceOf_at {ks : List (Int × Int)} {x : Int} {i : Nat} (hi : i + 1 < ks.length) (h1 : x ≤ kx ks (i + 1)) (h2 : ∀ j, j < i → kx ks (j + 1) < x) : pieceOf ks x = some i := by
  unfold pieceOf
  rw [List.find?_range_eq_some]
  refine ⟨by simpa using h1, by simp; omega, fun j hj => ?_⟩
  have := h2 j hj
  simp; omega
/-- The value at the first knot that is not left of x. -/
theorem val_at {ks : List (Int × Int)} (hv : Valid ks) {x : Int} {i : Nat} (hi : i < ks.length) (h0 : kx ks 0 ≤ x) (h1 : x ≤ kx ks i) (h2 : ∀ j, j < i → kx ks j < x) :
    (kx ks i = x → valN ks x = ky ks i ∧ valD ks x = 1) ∧ (kx ks i ≠ x → 0 < i ∧ valN ks x = fvN ks x (i - 1) ∧ valD ks x = fvD ks x (i - 1)) := by
  by_cases hi0 : i = 0
  · subst hi0
    have hx : kx ks 0 = x := by omega
    refine ⟨fun _ => ?_, fun h => absurd hx h⟩
    by_cases hl : 1 < ks.length
    · have hu := hv.up 0 hl
      have hp := pieceOf_at (x := x) (i := 0) hl (by omega) (fun j hj => absurd hj (by omega))
      unfold valN valD
      rw [hp]
      show fvN ks x 0 = _ ∧ fvD ks x 0 = _
      unfold fvN fvD
      rw [hx, Int.sub_self, Int.mul_zero, Int.add_zero]
      exact low_mul (by omega)
    · have hp : pieceOf ks x = none := by
        unfold pieceOf
        rw [show ks.length - 1 = 0 by omega]; rfl
      unfold valN valD
      rw [hp]
      show lowN (ky ks (ks.length - 1)) 1 = _ ∧ lowD (ky ks (ks.length - 1)) 1 = _
      rw [show ks.length - 1 = 0 by omega]
      exact low_one _
  · have hp := pieceOf_at (x := x) (i := i - 1) (by omega) (by rw [show i - 1 + 1 = i by omega]; exact h1) (fun j hj => h2 (j + 1) (by omega))
    have hv1 : valN ks x = fvN ks x (i - 1) ∧ valD ks x = fvD ks x (i - 1) := by unfold valN valD; rw [hp]; exact ⟨rfl, rfl⟩
    refine ⟨fun hx => ?_, fun _ => ⟨by omega, hv1⟩⟩
    rw [hv1.1, hv1.2]
    unfold fvN fvD
    rw [show i - 1 + 1 = i by omega, hx]
    have hu := h2 (i - 1) (by omega)
    rw [show ky ks (i - 1) * (x - kx ks (i - 1)) + (ky ks i - ky ks (i - 1)) * (x - kx ks (i - 1)) = ky ks i * (x - kx ks (i - 1)) by rw [← Int.add_mul]; congr 1; omega]
    exact low_mul (by omega)

set_option maxHeartbeats 1600000 in
theorem At_any (b off cap : Nat) (err : Int) (ks : List (Int × Int)) (x : Int) (w : World) (h : Kn w b off ks) (hv : Valid ks) (h0 : kx ks 0 ≤ x) (h1 : x ≤ kx ks (ks.length - 1)) :
    Calls Try.prog 85 #[vCv (some ⟨b, off, none⟩) ks.length cap err, .int .i64 x] w fun e w' => e = .returned (vFrac (valN ks x) (valD ks x)) ∧ Below w.heap.size w w' := by
  have hpos := hv.pos
  have hle := hv.le
  have hbw := ((Below.refl w.heap.size w).alloc (Nat.le_refl _) (.cells #[.slice (some ⟨b, off, none⟩) ks.length cap, .int .i64 err] 24)).alloc (by simp) (.cells #[.int .i64 0, .int .i64 0] 30)
  have hcb := (Blk.at_new (W := w) 24 #[.slice (some ⟨b, off, none⟩) ks.length cap, .int .i64 err] rfl).alloc (.cells #[.int .i64 0, .int .i64 0] 30)
  have hrb := Blk.at_new (W := w.alloc (.cells #[.slice (some ⟨b, off, none⟩) ks.length cap, .int .i64 err] 24)) 30 #[.int .i64 0, .int .i64 0] (g := w.heap.size + 1) (by simp)
  have HK := Lib.hid (h.below hbw)
  have HV := Lib.hid hv
  have HX := Lib.hid (And.intro h0 h1)
  clear h hv
  go_enter Try.func85, Try.ntmps85
  go_wp2
  generalize hWk : (w.alloc (.cells #[.slice (some ⟨b, off, none⟩) ks.length cap, .int .i64 err] 24)).alloc (.cells #[.int .i64 0, .int .i64 0] 30) = W at *
  clear hWk
  have cc0 := hcb.cell 0
  simp only [List.getElem?_toArray, List.getElem?_cons_zero] at cc0
  go_loopw [5] (fun i wr => ∃ (k : Nat), k < ks.length ∧ i = .int .i64 k ∧ (∀ j, j < k → kx ks j < x) ∧ wr = W) (fun i _ => ks.length - (intOf i).toNat)
  case atStart => exact ⟨0, hpos, rfl, fun j hj => absurd hj (by omega), rfl⟩
  case round =>
    obtain ⟨k, hk, rfl, hlow, rfl⟩ := hrel
    have kx0 := HK.out.x k hk
    have ky0 := HK.out.y k hk
    have hlb := HK.out.lt
    have HLow := Lib.hid hlow
    clear hlow
    by_cases hlt : kx ks k < x
    · have hk1 : k + 1 < ks.length := by
        by_cases he : k = ks.length - 1
        · subst he; omega
        · omega
      have HLow2 := Lib.hid (show ∀ j, j < k + 1 → kx ks j < x from fun j hj => by
        by_cases he : j = k
        · subst he; exact hlt
        · exact HLow.out j (by omega))
      generalize hxk : kx ks k = xk at *
      go_wp2
      go_roundw
      case rel => exact ⟨k + 1, hk1, by go_num, HLow2.out, by first | trivial | rfl⟩
      case measure => simp [intOf]; omega
    · have hva := val_at HV.out hk HX.out.1 (by omega) HLow.out
      have hcb' := hcb
      have hrb' := hrb
      have r0 := hrb.cell 0
      have r1 := hrb.cell 1
      have rf0 := hrb.frozen 0
      have rf1 := hrb.frozen 1
      have rl := hrb.lt
      have cl := hcb.lt
      simp only [List.getElem?_toArray, List.getElem?_cons_zero, List.getElem?_cons_succ] at r0 r1
      have hz0 := hbw.size
      by_cases heq : kx ks k = x
      · have HVa := Lib.hid (hva.1 heq)
        have heq1 : (kx ks k == x) = true := by simpa using heq
        clear hva HX hcb'
        generalize kx ks k = xk at *
        generalize ky ks k = yk at *
        subst heq
        go_wp2
        have hF := ((hrb'.set_ 0 (.int .i64 yk)).set_ 1 (.int .i64 1)).alloc (.cells #[.int .i64 xk, .int .i64 yk] 108)
        have k0 := hF.cell 0
        have k1 := hF.cell 1
        simp only [List.setIfInBounds_toArray, List.set_cons_zero, List.set_cons_succ, List.getElem?_toArray, List.getElem?_cons_zero, List.getElem?_cons_succ] at k0 k1
        exact bodyPost_ret (v := vFrac yk 1) (by simp [results, Try.results85, go_sem, k0, k1]) rfl ⟨by rw [HVa.out.1, HVa.out.2], ((hbw.setCell (p := ⟨w.heap.size + 1, 0, none⟩) (by simp) _).setCell (p := ⟨w.heap.size + 1, 1, none⟩) (by simp) _).alloc (by simpa using hz0) _⟩
      · obtain ⟨hkp, hv1, hv2⟩ := hva.2 heq
        have heq1 : (kx ks k == x) = false := by simpa using heq
        have hke : ((k : Int) - 1) = ((k - 1 : Nat) : Int) := by omega
        have hk3 : k - 1 < ks.length := by omega
        have kx1 := HK.out.x (k - 1) hk3
        have ky1 := HK.out.y (k - 1) hk3
        obtain ⟨b1, b2⟩ := HV.out.y0 k hk
        obtain ⟨b3, b4⟩ := HV.out.x0 k hk
        obtain ⟨b5, b6⟩ := HV.out.y0 (k - 1) hk3
        obtain ⟨b7, b8⟩ := HV.out.x0 (k - 1) hk3
        have b9 := HLow.out (k - 1) (by omega)
        unfold fvN at hv1
        unfold fvD at hv2
        rw [show k - 1 + 1 = k by omega] at hv1 hv2
        obtain ⟨pp, qq⟩ := mul_bd (x := ky ks (k - 1)) (y := kx ks k - kx ks (k - 1)) (A := 65536) (B := 2000) (by omega) (by omega) (by omega) (by omega)
        obtain ⟨rr, ss⟩ := mul_bd (x := ky ks k - ky ks (k - 1)) (y := x - kx ks (k - 1)) (A := 200000) (B := 2000) (by omega) (by omega) (by omega) (by omega)
        have HL := Lib.hid (fun W => Low_any (ky ks (k - 1) * (kx ks k - kx ks (k - 1)) + (ky ks k - ky ks (k - 1)) * (x - kx ks (k - 1))) (kx ks k - kx ks (k - 1)) W (by omega) (by omega) (by omega) (by omega))
        have HVa := Lib.hid (And.intro hv1 hv2)
        clear hva hv1 hv2 HX
        generalize kx ks k = xk at *
        generalize ky ks k = yk at *
        generalize kx ks (k - 1) = xp at *
        generalize ky ks (k - 1) = yp at *
        generalize lowN (yp * (xk - xp) + (yk - yp) * (x - xp)) (xk - xp) = ln at *
        generalize lowD (yp * (xk - xp) + (yk - yp) * (x - xp)) (xk - xp) = ld at *
        have hb6 := hbw.alloc hbw.size (.cells #[.int .i64 xk, .int .i64 yk] 108)
        have hb7 := hb6.alloc hb6.size (.cells #[.int .i64 xp, .int .i64 yp] 108)
        have HR2 := Lib.hid ((hrb'.alloc (.cells #[.int .i64 xk, .int .i64 yk] 108)).alloc (.cells #[.int .i64 xp, .int .i64 yp] 108))
        go_wp2_with (go_at_call 102; refine (HL.out _).mono ?_; rintro e w8 ⟨rfl, hb8⟩; have hr8 := HR2.out.below hb8; have s0 := hr8.cell 0; have s1 := hr8.cell 1; have sf0 := hr8.frozen 0; have sf1 := hr8.frozen 1; have sl := hr8.lt; simp only [List.getElem?_toArray, List.getElem?_cons_zero, List.getElem?_cons_succ] at s0 s1; have hb9 := hb7.trans (hb8.mono hb7.size))
        have hF := (hr8.set_ 0 (.int .i64 ln)).set_ 1 (.int .i64 ld)
        have k0 := hF.cell 0
        have k1 := hF.cell 1
        simp only [List.setIfInBounds_toArray, List.set_cons_zero, List.set_cons_succ, List.getElem?_toArray, List.getElem?_cons_zero, List.getElem?_cons_succ] at k0 k1
        exact bodyPost_ret (v := vFrac ln ld) (by simp [results, Try.results85, go_sem, k0, k1]) rfl ⟨by rw [HVa.out.1, HVa.out.2], (hb9.setCell (p := ⟨w.heap.size + 1, 0, none⟩) (by simp) _).setCell (p := ⟨w.heap.size + 1, 1, none⟩) (by simp) _⟩
end Go.Proofs.Ytipablcbkoedbaa
