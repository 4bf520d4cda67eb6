/- The reference: plus, Value; Values and Domain of both. -/
import Derived.WalkKit
import Derived.WalkLawsBesides
import Derived.Deep.QuietTactic
import Derived.BigQuiet
import Derived.RegionTactic
import Derived.Lib.Hide
import Derived.Outline
import Derived.WalkSmall
import Derived.Test.YtipablcbkoedbaaProg
import Derived.Test.YtipablcbkoedbaaH2
namespace Go.Proofs.Ytipablcbkoedbaa
open Go.RowKit

theorem low_cop {n d : Int} (hd : 1 ≤ d) : Nat.gcd (lowN n d).natAbs (lowD n d).natAbs = 1 := by
  have hg : 0 < Nat.gcd n.natAbs d.natAbs := Nat.gcd_pos_of_pos_right _ (by omega)
  unfold lowN lowD
  have h1 : ((Nat.gcd n.natAbs d.natAbs : Nat) : Int) ∣ n := by rw [← Int.dvd_natAbs]; exact Int.ofNat_dvd.2 (Nat.gcd_dvd_left _ _)
  have h2 : ((Nat.gcd n.natAbs d.natAbs : Nat) : Int) ∣ d := by rw [← Int.dvd_natAbs]; exact Int.ofNat_dvd.2 (Nat.gcd_dvd_right _ _)
  rw [Int.natAbs_ediv_of_dvd h1, Int.natAbs_ediv_of_dvd h2, Int.natAbs_natCast]
  exact Nat.gcd_div_gcd_div_gcd_of_pos_right (by omega)
theorem low_of_cop {n d : Int} (h : Nat.gcd n.natAbs d.natAbs = 1) : lowN n d = n ∧ lowD n d = d := by
  unfold lowN lowD; rw [h]; exact ⟨Int.ediv_one _, Int.ediv_one _⟩
theorem cop_plus {a b : Int} (n : Int) (h : Nat.gcd a.natAbs b.natAbs = 1) : Nat.gcd (a + n * b).natAbs b.natAbs = 1 := by
  have := Int.gcd_add_mul_right_left b a n
  unfold Int.gcd at this
  rw [this]; exact h
theorem val_cop {ks : List (Int × Int)} (hv : Valid ks) (x : Int) : Nat.gcd (valN ks x).natAbs (valD ks x).natAbs = 1 := by
  unfold valN valD
  cases hp : pieceOf ks x with
  | none => exact low_cop (by omega)
  | some i =>
    have hi : i + 1 < ks.length := by
      unfold pieceOf at hp
      have := (List.find?_range_eq_some.1 hp).2.1
      simp at this; omega
    show Nat.gcd (fvN ks x i).natAbs (fvD ks x i).natAbs = 1
    unfold fvN fvD
    exact low_cop (by have := hv.up i hi; omega)

theorem Rplus_any (a b n : Int) (w : World) (h1 : -4611686018427387904 ≤ n * b) (h2 : n * b ≤ 4611686018427387904) (h3 : -4611686018427387904 ≤ a + n * b) (h4 : a + n * b ≤ 4611686018427387904) (h5 : 1 ≤ b) (h6 : b ≤ 4611686018427387904) :
    Calls Try.prog 94 #[vFrac a b, .int .i64 n] w fun e w' => e = .returned (vFrac (lowN (a + n * b) b) (lowD (a + n * b) b)) ∧ Below w.heap.size w w' := by
  have HL := Lib.hid (fun W => Low_any (a + n * b) b W h3 h4 h5 h6)
  have hbw := ((Below.refl w.heap.size w).alloc (Nat.le_refl _) (.cells #[.int .i64 a, .int .i64 b] 30)).alloc (by simp) (.cells #[.int .i64 0, .int .i64 0] 30)
  have hrb := Blk.at_new (W := w.alloc (.cells #[.int .i64 a, .int .i64 b] 30)) 30 #[.int .i64 0, .int .i64 0] (g := w.heap.size + 1) (by simp)
  generalize lowN (a + n * b) b = p at *
  generalize lowD (a + n * b) b = q at *
  go_enter Try.func94, Try.ntmps94
  go_wp2_with (go_at_call 102; refine (HL.out _).mono ?_; rintro e w1 ⟨rfl, hb1⟩; have hr1 := hrb.below hb1; have rc0 := hr1.cell 0; have rc1 := hr1.cell 1; have rf0 := hr1.frozen 0; have rf1 := hr1.frozen 1; have rl := hr1.lt; simp only [List.getElem?_toArray, List.getElem?_cons_zero, List.getElem?_cons_succ] at rc0 rc1; have hb2 := hbw.trans (hb1.mono hbw.size))
  have hF := (hr1.set_ 0 (.int .i64 p)).set_ 1 (.int .i64 q)
  have k0 := hF.cell 0
  have k1 := hF.cell 1
  simp only [List.setIfInBounds_toArray, List.set_cons_zero, List.set_cons_succ, List.getElem?_toArray, List.getElem?_cons_zero, List.getElem?_cons_succ] at k0 k1
  exact bodyPost_ret (v := vFrac p q) (by simp [results, Try.results94, go_sem, k0, k1]) rfl ⟨rfl, (hb2.setCell (p := ⟨w.heap.size + 1, 0, none⟩) (by simp) _).setCell (p := ⟨w.heap.size + 1, 1, none⟩) (by simp) _⟩
/-- Of fractions in lowest terms it tells what the program's plus tells. -/
theorem Rplus_cop (a b n : Int) (w : World) (hc : Nat.gcd a.natAbs b.natAbs = 1) (h1 : -4611686018427387904 ≤ n * b) (h2 : n * b ≤ 4611686018427387904) (h3 : -4611686018427387904 ≤ a + n * b) (h4 : a + n * b ≤ 4611686018427387904) (h5 : 1 ≤ b) (h6 : b ≤ 4611686018427387904) :
    Calls Try.prog 94 #[vFrac a b, .int .i64 n] w fun e w' => e = .returned (vFrac (a + n * b) b) ∧ Below w.heap.size w w' := by
  have h := Rplus_any a b n w h1 h2 h3 h4 h5 h6
  obtain ⟨e1, e2⟩ := low_of_cop (cop_plus n hc)
  rwa [e1, e2] at h

theorem val_in {ks : List (Int × Int)} {err x : Int} (h : valErr ks err x = 0) : Valid ks ∧ 0 ≤ err ∧ err ≤ 4000 ∧ kx ks 0 ≤ x ∧ x ≤ kx ks (ks.length - 1) := by
  unfold valErr at h
  split at h
  · exact absurd h (by assumption)
  rename_i hz
  split at h
  · rename_i hin
    obtain ⟨hv, h1, h2⟩ := check_zero (by simpa using hz)
    exact ⟨hv, h1, h2, hin.1, hin.2⟩
  · omega
theorem RValue_any (A : Option Addr) (n cap : Nat) (err : Int) (ks : List (Int × Int)) (x : Int) (w : World) (h : CAt w A n ks) (hm : n ≤ 9223372036854775807) :
    Calls Try.prog 35 #[vCv A n cap err, .int .i64 x] w fun e w' => e = .returned (.tuple #[vFrac (vN ks err x) (vD ks err x), .int .i64 (valErr ks err x)]) ∧ Below w.heap.size w w' := by
  have HT := Lib.hid (fun W (hW : CAt W A n ks) => there_any A n cap err ks x W hW hm)
  generalize hW : (w.alloc (.cells #[.slice A n cap, .int .i64 err] 24)).alloc (.cells #[.int .i64 0, .int .i64 0] 30) = W
  have hbw : Below w.heap.size w W := by rw [← hW]; exact ((Below.refl _ _).alloc (Nat.le_refl _) _).alloc (by simp) _
  have hcb : Blk W w.heap.size 24 #[.slice A n cap, .int .i64 err] := by rw [← hW]; exact (Blk.at_new _ _ rfl).alloc _
  have hrb : Blk W (w.heap.size + 1) 30 #[.int .i64 0, .int .i64 0] := by rw [← hW]; exact Blk.at_new _ _ (by simp)
  have HWE := Lib.hid hW
  have HA := Lib.hid (h.below hbw)
  clear hW
  by_cases hz : valErr ks err x = 0
  case neg =>
    have hz1 : (valErr ks err x != 0) = true := by simpa using hz
    have hn0 : vN ks err x = 0 := by unfold vN; rw [if_neg hz]
    have hd0 : vD ks err x = 0 := by unfold vD; rw [if_neg hz]
    rw [hn0, hd0]
    clear hn0 hd0 hz h
    generalize valErr ks err x = ve at *
    go_enter Try.func35, Try.ntmps35
    go_wp2_with fail
    rw [HWE.out]
    refine (HT.out _ HA.out).mono ?_; rintro e w1 ⟨rfl, hb1⟩
    have hr1 := hrb.below hb1
    have rc0 := hr1.cell 0
    have rc1 := hr1.cell 1
    have rf0 := hr1.frozen 0
    have rf1 := hr1.frozen 1
    simp only [List.getElem?_toArray, List.getElem?_cons_zero, List.getElem?_cons_succ] at rc0 rc1
    have hb2 := hbw.trans (hb1.mono hbw.size)
    go_wp2
    exact bodyPost_ret (v := .tuple #[vFrac 0 0, .int .i64 ve]) (by simp [results, Try.results35, go_sem, rc0, rc1]) rfl ⟨rfl, (hb2.setCell (p := ⟨w.heap.size + 1, 0, none⟩) (by simp) _).setCell (p := ⟨w.heap.size + 1, 1, none⟩) (by simp) _⟩
  obtain ⟨hv, he1, he2, hlo, hhi⟩ := val_in hz
  have hpos := hv.pos
  have hlen := h.len
  obtain ⟨b, off, hAe, hkn⟩ := h.at_ (by omega)
  subst hAe hlen
  have HK := Lib.hid (hkn.below hbw)
  have HV := Lib.hid (fun W (hW : Kn W b off ks) => At_any b off cap err ks x W hW hv hlo hhi)
  have hn0 : vN ks err x = valN ks x := by unfold vN; rw [if_pos hz]
  have hd0 : vD ks err x = valD ks x := by unfold vD; rw [if_pos hz]
  rw [hz] at HT
  rw [hn0, hd0, hz]
  clear hn0 hd0 hz h hkn hlo hhi hv
  generalize valN ks x = p at *
  generalize valD ks x = q at *
  go_enter Try.func35, Try.ntmps35
  go_wp2_with fail
  rw [HWE.out]
  refine (HT.out _ HA.out).mono ?_; rintro e w1 ⟨rfl, hb1⟩
  have hc1 := hcb.below hb1
  have hk0 := hc1.cell 0
  have hk1 := hc1.cell 1
  simp only [List.getElem?_toArray, List.getElem?_cons_zero, List.getElem?_cons_succ] at hk0 hk1
  have hcl := hc1.lt
  go_wp2_with (go_at_call 85; refine (HV.out _ (HK.out.below hb1)).mono ?_; rintro e w2 ⟨rfl, hb2⟩; have hr2 := (hrb.below hb1).below hb2; have rc0 := hr2.cell 0; have rc1 := hr2.cell 1; have rf0 := hr2.frozen 0; have rf1 := hr2.frozen 1; have rl := hr2.lt; simp only [List.getElem?_toArray, List.getElem?_cons_zero, List.getElem?_cons_succ] at rc0 rc1)
  have hb3 := hbw.trans (hb1.mono hbw.size)
  have hb4 := hb3.trans (hb2.mono hb3.size)
  have hF := (hr2.set_ 0 (.int .i64 p)).set_ 1 (.int .i64 q)
  have k0 := hF.cell 0
  have k1 := hF.cell 1
  simp only [List.setIfInBounds_toArray, List.set_cons_zero, List.set_cons_succ, List.getElem?_toArray, List.getElem?_cons_zero, List.getElem?_cons_succ] at k0 k1
  exact bodyPost_ret (v := .tuple #[vFrac p q, .int .i64 0]) (by simp [results, Try.results35, go_sem, k0, k1]) rfl ⟨rfl, (hb4.setCell (p := ⟨w.heap.size + 1, 0, none⟩) (by simp) _).setCell (p := ⟨w.heap.size + 1, 1, none⟩) (by simp) _⟩

/-! ### Domain -/
def dmLo (ks : List (Int × Int)) (err : Int) : Int := if check ks err = 0 then domLo ks else 0
def dmHi (ks : List (Int × Int)) (err : Int) : Int := if check ks err = 0 then domHi ks else 0

theorem Domain_any (A : Option Addr) (n cap : Nat) (err : Int) (ks : List (Int × Int)) (w : World) (h : CAt w A n ks) (hm : n ≤ 9223372036854775807) :
    Calls Try.prog 32 #[vCv A n cap err] w fun e w' => e = .returned (.tuple #[vSpan (dmLo ks err) (dmHi ks err), .int .i64 (check ks err)]) ∧ Below w.heap.size w w' := by
  have HT := Lib.hid (fun W (hW : CAt W A n ks) => Check_any A n cap err ks W hW hm)
  generalize hW : (w.alloc (.cells #[.slice A n cap, .int .i64 err] 24)).alloc (.cells #[.int .i64 0, .int .i64 0] 26) = W
  have hbw : Below w.heap.size w W := by rw [← hW]; exact ((Below.refl _ _).alloc (Nat.le_refl _) _).alloc (by simp) _
  have hcb : Blk W w.heap.size 24 #[.slice A n cap, .int .i64 err] := by rw [← hW]; exact (Blk.at_new _ _ rfl).alloc _
  have hrb : Blk W (w.heap.size + 1) 26 #[.int .i64 0, .int .i64 0] := by rw [← hW]; exact Blk.at_new _ _ (by simp)
  have HWE := Lib.hid hW
  have HA := Lib.hid (h.below hbw)
  clear hW
  by_cases hz : check ks err = 0
  case neg =>
    have hz1 : (check ks err != 0) = true := by simpa using hz
    have hn0 : dmLo ks err = 0 := by unfold dmLo; rw [if_neg hz]
    have hd0 : dmHi ks err = 0 := by unfold dmHi; rw [if_neg hz]
    rw [hn0, hd0]
    clear hn0 hd0 hz h
    generalize check ks err = ve at *
    go_enter Try.func32, Try.ntmps32
    go_wp2_with fail
    rw [HWE.out]
    refine (HT.out _ HA.out).mono ?_; rintro e w1 ⟨rfl, hb1⟩
    have hr1 := hrb.below hb1
    have rc0 := hr1.cell 0
    have rc1 := hr1.cell 1
    have rf0 := hr1.frozen 0
    have rf1 := hr1.frozen 1
    simp only [List.getElem?_toArray, List.getElem?_cons_zero, List.getElem?_cons_succ] at rc0 rc1
    have hb2 := hbw.trans (hb1.mono hbw.size)
    go_wp2
    exact bodyPost_ret (v := .tuple #[vSpan 0 0, .int .i64 ve]) (by simp [results, Try.results32, go_sem, rc0, rc1]) rfl ⟨rfl, (hb2.setCell (p := ⟨w.heap.size + 1, 0, none⟩) (by simp) _).setCell (p := ⟨w.heap.size + 1, 1, none⟩) (by simp) _⟩
  obtain ⟨hv, he1, he2⟩ := check_zero hz
  have hpos := hv.pos
  have hvle := hv.le
  have hlen := h.len
  obtain ⟨b, off, hAe, hkn⟩ := h.at_ (by omega)
  subst hAe hlen
  have HK := Lib.hid (hkn.below hbw)
  have HV := Lib.hid (fun W (hW : Kn W b off ks) => domain_any b off ks.length cap err ks W hW rfl hpos (by omega))
  have hn0 : dmLo ks err = domLo ks := by unfold dmLo; rw [if_pos hz]
  have hd0 : dmHi ks err = domHi ks := by unfold dmHi; rw [if_pos hz]
  rw [hz] at HT
  rw [hn0, hd0, hz]
  clear hn0 hd0 hz h hkn hv
  generalize domLo ks = p at *
  generalize domHi ks = q at *
  go_enter Try.func32, Try.ntmps32
  go_wp2_with fail
  rw [HWE.out]
  refine (HT.out _ HA.out).mono ?_; rintro e w1 ⟨rfl, hb1⟩
  have hc1 := hcb.below hb1
  have hk0 := hc1.cell 0
  have hk1 := hc1.cell 1
  simp only [List.getElem?_toArray, List.getElem?_cons_zero, List.getElem?_cons_succ] at hk0 hk1
  have hcl := hc1.lt
  go_wp2_with (go_at_call 97; refine (HV.out _ (HK.out.below hb1)).mono ?_; rintro e w2 ⟨rfl, hb2⟩; have hr2 := (hrb.below hb1).below hb2; have rc0 := hr2.cell 0; have rc1 := hr2.cell 1; have rf0 := hr2.frozen 0; have rf1 := hr2.frozen 1; have rl := hr2.lt; simp only [List.getElem?_toArray, List.getElem?_cons_zero, List.getElem?_cons_succ] at rc0 rc1)
  have hb3 := hbw.trans (hb1.mono hbw.size)
  have hb4 := hb3.trans (hb2.mono hb3.size)
  have hF := (hr2.set_ 0 (.int .i64 p)).set_ 1 (.int .i64 q)
  have k0 := hF.cell 0
  have k1 := hF.cell 1
  simp only [List.setIfInBounds_toArray, List.set_cons_zero, List.set_cons_succ, List.getElem?_toArray, List.getElem?_cons_zero, List.getElem?_cons_succ] at k0 k1
  exact bodyPost_ret (v := .tuple #[vSpan p q, .int .i64 0]) (by simp [results, Try.results32, go_sem, k0, k1]) rfl ⟨rfl, (hb4.setCell (p := ⟨w.heap.size + 1, 0, none⟩) (by simp) _).setCell (p := ⟨w.heap.size + 1, 1, none⟩) (by simp) _⟩

theorem RDomain_any (A : Option Addr) (n cap : Nat) (err : Int) (ks : List (Int × Int)) (w : World) (h : CAt w A n ks) (hm : n ≤ 9223372036854775807) :
    Calls Try.prog 33 #[vCv A n cap err] w fun e w' => e = .returned (.tuple #[vSpan (dmLo ks err) (dmHi ks err), .int .i64 (check ks err)]) ∧ Below w.heap.size w w' := by
  have HT := Lib.hid (fun W (hW : CAt W A n ks) => RCheck_any A n cap err ks W hW hm)
  generalize hW : (w.alloc (.cells #[.slice A n cap, .int .i64 err] 24)).alloc (.cells #[.int .i64 0, .int .i64 0] 26) = W
  have hbw : Below w.heap.size w W := by rw [← hW]; exact ((Below.refl _ _).alloc (Nat.le_refl _) _).alloc (by simp) _
  have hcb : Blk W w.heap.size 24 #[.slice A n cap, .int .i64 err] := by rw [← hW]; exact (Blk.at_new _ _ rfl).alloc _
  have hrb : Blk W (w.heap.size + 1) 26 #[.int .i64 0, .int .i64 0] := by rw [← hW]; exact Blk.at_new _ _ (by simp)
  have HWE := Lib.hid hW
  have HA := Lib.hid (h.below hbw)
  clear hW
  by_cases hz : check ks err = 0
  case neg =>
    have hz1 : (check ks err != 0) = true := by simpa using hz
    have hn0 : dmLo ks err = 0 := by unfold dmLo; rw [if_neg hz]
    have hd0 : dmHi ks err = 0 := by unfold dmHi; rw [if_neg hz]
    rw [hn0, hd0]
    clear hn0 hd0 hz h
    generalize check ks err = ve at *
    go_enter Try.func33, Try.ntmps33
    go_wp2_with fail
    rw [HWE.out]
    refine (HT.out _ HA.out).mono ?_; rintro e w1 ⟨rfl, hb1⟩
    have hr1 := hrb.below hb1
    have rc0 := hr1.cell 0
    have rc1 := hr1.cell 1
    have rf0 := hr1.frozen 0
    have rf1 := hr1.frozen 1
    simp only [List.getElem?_toArray, List.getElem?_cons_zero, List.getElem?_cons_succ] at rc0 rc1
    have hb2 := hbw.trans (hb1.mono hbw.size)
    go_wp2
    exact bodyPost_ret (v := .tuple #[vSpan 0 0, .int .i64 ve]) (by simp [results, Try.results33, go_sem, rc0, rc1]) rfl ⟨rfl, (hb2.setCell (p := ⟨w.heap.size + 1, 0, none⟩) (by simp) _).setCell (p := ⟨w.heap.size + 1, 1, none⟩) (by simp) _⟩
  obtain ⟨hv, he1, he2⟩ := check_zero hz
  have hpos := hv.pos
  have hvle := hv.le
  have hlen := h.len
  obtain ⟨b, off, hAe, hkn⟩ := h.at_ (by omega)
  subst hAe hlen
  have HK := Lib.hid (hkn.below hbw)
  have HV := Lib.hid (fun W (hW : Kn W b off ks) => Rdomain_any b off ks.length cap err ks W hW rfl hpos (by omega))
  have hn0 : dmLo ks err = domLo ks := by unfold dmLo; rw [if_pos hz]
  have hd0 : dmHi ks err = domHi ks := by unfold dmHi; rw [if_pos hz]
  rw [hz] at HT
  rw [hn0, hd0, hz]
  clear hn0 hd0 hz h hkn hv
  generalize domLo ks = p at *
  generalize domHi ks = q at *
  go_enter Try.func33, Try.ntmps33
  go_wp2_with fail
  rw [HWE.out]
  refine (HT.out _ HA.out).mono ?_; rintro e w1 ⟨rfl, hb1⟩
  have hc1 := hcb.below hb1
  have hk0 := hc1.cell 0
  have hk1 := hc1.cell 1
  simp only [List.getElem?_toArray, List.getElem?_cons_zero, List.getElem?_cons_succ] at hk0 hk1
  have hcl := hc1.lt
  go_wp2_with (go_at_call 78; refine (HV.out _ (HK.out.below hb1)).mono ?_; rintro e w2 ⟨rfl, hb2⟩; have hr2 := (hrb.below hb1).below hb2; have rc0 := hr2.cell 0; have rc1 := hr2.cell 1; have rf0 := hr2.frozen 0; have rf1 := hr2.frozen 1; have rl := hr2.lt; simp only [List.getElem?_toArray, List.getElem?_cons_zero, List.getElem?_cons_succ] at rc0 rc1)
  have hb3 := hbw.trans (hb1.mono hbw.size)
  have hb4 := hb3.trans (hb2.mono hb3.size)
  have hF := (hr2.set_ 0 (.int .i64 p)).set_ 1 (.int .i64 q)
  have k0 := hF.cell 0
  have k1 := hF.cell 1
  simp only [List.setIfInBounds_toArray, List.set_cons_zero, List.set_cons_succ, List.getElem?_toArray, List.getElem?_cons_zero, List.getElem?_cons_succ] at k0 k1
  exact bodyPost_ret (v := .tuple #[vSpan p q, .int .i64 0]) (by simp [results, Try.results33, go_sem, k0, k1]) rfl ⟨rfl, (hb4.setCell (p := ⟨w.heap.size + 1, 0, none⟩) (by simp) _).setCell (p := ⟨w.heap.size + 1, 1, none⟩) (by simp) _⟩

/-! ### Values -/
def vsV (ks : List (Int × Int)) (err x : Int) : (Int × Int) × (Int × Int) :=
  if valErr ks err x = 0 then ((valN ks x + -err * valD ks x, valD ks x), (valN ks x + err * valD ks x, valD ks x)) else ((0, 0), (0, 0))

set_option maxHeartbeats 1600000 in
theorem Values_any (A : Option Addr) (n cap : Nat) (err : Int) (ks : List (Int × Int)) (x : Int) (w : World) (h : CAt w A n ks) (hm : n ≤ 9223372036854775807) :
    Calls Try.prog 36 #[vCv A n cap err, .int .i64 x] w fun e w' => e = .returned (.tuple #[vRc' (vsV ks err x), .int .i64 (valErr ks err x)]) ∧ Below w.heap.size w w' := by
  have HT := Lib.hid (fun W (hW : CAt W A n ks) => Value_any A n cap err ks x W hW hm)
  generalize hW : (w.alloc (.cells #[.slice A n cap, .int .i64 err] 24)).alloc (.cells #[.int .i64 0, .int .i64 0, .int .i64 0, .int .i64 0] 35) = W
  have hbw : Below w.heap.size w W := by rw [← hW]; exact ((Below.refl _ _).alloc (Nat.le_refl _) _).alloc (by simp) _
  have hcb : Blk W w.heap.size 24 #[.slice A n cap, .int .i64 err] := by rw [← hW]; exact (Blk.at_new _ _ rfl).alloc _
  have hrb : Blk W (w.heap.size + 1) 35 #[.int .i64 0, .int .i64 0, .int .i64 0, .int .i64 0] := by rw [← hW]; exact Blk.at_new _ _ (by simp)
  have HWE := Lib.hid hW
  have HA := Lib.hid (h.below hbw)
  clear hW
  by_cases hz : valErr ks err x = 0
  case neg =>
    have hz1 : (valErr ks err x != 0) = true := by simpa using hz
    have hs0 : vsV ks err x = ((0, 0), (0, 0)) := by unfold vsV; rw [if_neg hz]
    rw [hs0]
    clear hs0 hz h
    generalize valErr ks err x = ve at *
    generalize vN ks err x = p at *
    generalize vD ks err x = q at *
    go_enter Try.func36, Try.ntmps36
    go_wp2_with fail
    rw [HWE.out]
    refine (HT.out _ HA.out).mono ?_; rintro e w1 ⟨rfl, hb1⟩
    have hr1 := hrb.below hb1
    have rc0 := hr1.cell 0
    have rc1 := hr1.cell 1
    have rc2 := hr1.cell 2
    have rc3 := hr1.cell 3
    have rf0 := hr1.frozen 0
    have rf1 := hr1.frozen 1
    have rf2 := hr1.frozen 2
    have rf3 := hr1.frozen 3
    have rl := hr1.lt
    simp only [List.getElem?_toArray, List.getElem?_cons_zero, List.getElem?_cons_succ] at rc0 rc1 rc2 rc3
    have hb2 := hbw.trans (hb1.mono hbw.size)
    go_wp2
    have hF := (blk_set4 hr1 (.int .i64 0) (.int .i64 0) (.int .i64 0) (.int .i64 0)).alloc (.cells #[.int .i64 p, .int .i64 q] 30)
    have k0 := hF.cell 0
    have k1 := hF.cell 1
    have k2 := hF.cell 2
    have k3 := hF.cell 3
    simp only [List.getElem?_toArray, List.getElem?_cons_zero, List.getElem?_cons_succ] at k0 k1 k2 k3
    exact bodyPost_ret (v := .tuple #[vRange' 0 0 0 0, .int .i64 ve]) (by simp [results, Try.results36, go_sem, k0, k1, k2, k3]) rfl ⟨rfl, (below_set4 hb2 (by simp) _ _ _ _).alloc (by simpa using hb2.size) _⟩
  obtain ⟨hv, he1, he2, hlo, hhi⟩ := val_in hz
  have hn0 : vN ks err x = valN ks x := by unfold vN; rw [if_pos hz]
  have hd0 : vD ks err x = valD ks x := by unfold vD; rw [if_pos hz]
  have hs0 : vsV ks err x = ((valN ks x + -err * valD ks x, valD ks x), (valN ks x + err * valD ks x, valD ks x)) := by unfold vsV; rw [if_pos hz]
  rw [hn0, hd0, hz] at HT
  rw [hs0, hz]
  obtain ⟨vb1, vb2, vb3, vb4⟩ := val_bd hv hlo
  have hcop := val_cop hv x
  clear hn0 hd0 hz h hlo hhi hv hs0
  generalize valN ks x = p at *
  generalize valD ks x = q at *
  obtain ⟨pp, qq⟩ := mul_bd (x := -err) (y := q) (A := 4000) (B := 2000) (by omega) (by omega) (by omega) (by omega)
  obtain ⟨rr, ss⟩ := mul_bd (x := err) (y := q) (A := 4000) (B := 2000) (by omega) (by omega) (by omega) (by omega)
  have HPl := Lib.hid (fun W => plus_any p q (-err) W (by omega) (by omega) (by omega) (by omega))
  have HPh := Lib.hid (fun W => plus_any p q err W (by omega) (by omega) (by omega) (by omega))
  clear pp qq rr ss hcop vb1 vb2 vb3 vb4
  generalize p + -err * q = lo at *
  generalize p + err * q = hi at *
  go_enter Try.func36, Try.ntmps36
  go_wp2_with fail
  rw [HWE.out]
  refine (HT.out _ HA.out).mono ?_; rintro e w1 ⟨rfl, hb1⟩
  have hc1 := (hcb.below hb1).alloc (.cells #[.int .i64 p, .int .i64 q] 30)
  have hr1 := (hrb.below hb1).alloc (.cells #[.int .i64 p, .int .i64 q] 30)
  have hf1 := Blk.new w1 30 #[.int .i64 p, .int .i64 q]
  have hb2 := hbw.trans (hb1.mono hbw.size)
  have hb3 := hb2.alloc hb2.size (.cells #[.int .i64 p, .int .i64 q] 30)
  have ck1 := hc1.cell 1
  have ckl := hc1.lt
  have fk0 := hf1.cell 0
  have fk1 := hf1.cell 1
  have fkl := hf1.lt
  simp only [List.getElem?_toArray, List.getElem?_cons_zero, List.getElem?_cons_succ] at ck1 fk0 fk1
  go_wp2_with fail
  generalize hV : w1.alloc (.cells #[.int .i64 p, .int .i64 q] 30) = V at *
  generalize hg : w1.heap.size = g at *
  clear hV
  obtain ⟨xc, xf⟩ := xcell (W := V)
  refine wp_region_quiet_tail 10 (by kernel_rfl) (by kernel_rfl) ?_
  simp only [List.take_succ_cons, List.take_zero, List.drop_succ_cons, List.drop_zero]
  repeat (first | go_big_quiet_step (first | (go_at_call 88; with_reducible refine calls_ext (HPl.out _)) | (go_at_call 88; with_reducible refine calls_ext (HPh.out _))) | quiet_step (first | (go_at_call 88; with_reducible refine calls_ext (HPl.out _)) | (go_at_call 88; with_reducible refine calls_ext (HPh.out _))))
  refine wpQuiet_nil ?_
  intro w2 hb4
  have hr2 := hr1.below hb4
  have rc0 := hr2.cell 0
  have rc1 := hr2.cell 1
  have rc2 := hr2.cell 2
  have rc3 := hr2.cell 3
  have rf0 := hr2.frozen 0
  have rf1 := hr2.frozen 1
  have rf2 := hr2.frozen 2
  have rf3 := hr2.frozen 3
  have rl := hr2.lt
  simp only [List.getElem?_toArray, List.getElem?_cons_zero, List.getElem?_cons_succ] at rc0 rc1 rc2 rc3
  have hb5 := hb3.trans (hb4.mono hb3.size)
  clear xc xf ck1 fk0 fk1
  go_wp2
  have hF := blk_set4 hr2 (.int .i64 lo) (.int .i64 q) (.int .i64 hi) (.int .i64 q)
  have k0 := hF.cell 0
  have k1 := hF.cell 1
  have k2 := hF.cell 2
  have k3 := hF.cell 3
  simp only [List.getElem?_toArray, List.getElem?_cons_zero, List.getElem?_cons_succ] at k0 k1 k2 k3
  exact bodyPost_ret (v := .tuple #[vRange' lo q hi q, .int .i64 0]) (by simp [results, Try.results36, go_sem, k0, k1, k2, k3]) rfl ⟨rfl, below_set4 hb5 (by simp) _ _ _ _⟩

set_option maxHeartbeats 1600000 in
theorem RValues_any (A : Option Addr) (n cap : Nat) (err : Int) (ks : List (Int × Int)) (x : Int) (w : World) (h : CAt w A n ks) (hm : n ≤ 9223372036854775807) :
    Calls Try.prog 37 #[vCv A n cap err, .int .i64 x] w fun e w' => e = .returned (.tuple #[vRc' (vsV ks err x), .int .i64 (valErr ks err x)]) ∧ Below w.heap.size w w' := by
  have HT := Lib.hid (fun W (hW : CAt W A n ks) => RValue_any A n cap err ks x W hW hm)
  generalize hW : (w.alloc (.cells #[.slice A n cap, .int .i64 err] 24)).alloc (.cells #[.int .i64 0, .int .i64 0, .int .i64 0, .int .i64 0] 35) = W
  have hbw : Below w.heap.size w W := by rw [← hW]; exact ((Below.refl _ _).alloc (Nat.le_refl _) _).alloc (by simp) _
  have hcb : Blk W w.heap.size 24 #[.slice A n cap, .int .i64 err] := by rw [← hW]; exact (Blk.at_new _ _ rfl).alloc _
  have hrb : Blk W (w.heap.size + 1) 35 #[.int .i64 0, .int .i64 0, .int .i64 0, .int .i64 0] := by rw [← hW]; exact Blk.at_new _ _ (by simp)
  have HWE := Lib.hid hW
  have HA := Lib.hid (h.below hbw)
  clear hW
  by_cases hz : valErr ks err x = 0
  case neg =>
    have hz1 : (valErr ks err x != 0) = true := by simpa using hz
    have hs0 : vsV ks err x = ((0, 0), (0, 0)) := by unfold vsV; rw [if_neg hz]
    rw [hs0]
    clear hs0 hz h
    generalize valErr ks err x = ve at *
    generalize vN ks err x = p at *
    generalize vD ks err x = q at *
    go_enter Try.func37, Try.ntmps37
    go_wp2_with fail
    rw [HWE.out]
    refine (HT.out _ HA.out).mono ?_; rintro e w1 ⟨rfl, hb1⟩
    have hr1 := hrb.below hb1
    have rc0 := hr1.cell 0
    have rc1 := hr1.cell 1
    have rc2 := hr1.cell 2
    have rc3 := hr1.cell 3
    have rf0 := hr1.frozen 0
    have rf1 := hr1.frozen 1
    have rf2 := hr1.frozen 2
    have rf3 := hr1.frozen 3
    have rl := hr1.lt
    simp only [List.getElem?_toArray, List.getElem?_cons_zero, List.getElem?_cons_succ] at rc0 rc1 rc2 rc3
    have hb2 := hbw.trans (hb1.mono hbw.size)
    go_wp2
    have hF := (blk_set4 hr1 (.int .i64 0) (.int .i64 0) (.int .i64 0) (.int .i64 0)).alloc (.cells #[.int .i64 p, .int .i64 q] 30)
    have k0 := hF.cell 0
    have k1 := hF.cell 1
    have k2 := hF.cell 2
    have k3 := hF.cell 3
    simp only [List.getElem?_toArray, List.getElem?_cons_zero, List.getElem?_cons_succ] at k0 k1 k2 k3
    exact bodyPost_ret (v := .tuple #[vRange' 0 0 0 0, .int .i64 ve]) (by simp [results, Try.results37, go_sem, k0, k1, k2, k3]) rfl ⟨rfl, (below_set4 hb2 (by simp) _ _ _ _).alloc (by simpa using hb2.size) _⟩
  obtain ⟨hv, he1, he2, hlo, hhi⟩ := val_in hz
  have hn0 : vN ks err x = valN ks x := by unfold vN; rw [if_pos hz]
  have hd0 : vD ks err x = valD ks x := by unfold vD; rw [if_pos hz]
  have hs0 : vsV ks err x = ((valN ks x + -err * valD ks x, valD ks x), (valN ks x + err * valD ks x, valD ks x)) := by unfold vsV; rw [if_pos hz]
  rw [hn0, hd0, hz] at HT
  rw [hs0, hz]
  obtain ⟨vb1, vb2, vb3, vb4⟩ := val_bd hv hlo
  have hcop := val_cop hv x
  clear hn0 hd0 hz h hlo hhi hv hs0
  generalize valN ks x = p at *
  generalize valD ks x = q at *
  obtain ⟨pp, qq⟩ := mul_bd (x := -err) (y := q) (A := 4000) (B := 2000) (by omega) (by omega) (by omega) (by omega)
  obtain ⟨rr, ss⟩ := mul_bd (x := err) (y := q) (A := 4000) (B := 2000) (by omega) (by omega) (by omega) (by omega)
  have HPl := Lib.hid (fun W => Rplus_cop p q (-err) W hcop (by omega) (by omega) (by omega) (by omega) (by omega) (by omega))
  have HPh := Lib.hid (fun W => Rplus_cop p q err W hcop (by omega) (by omega) (by omega) (by omega) (by omega) (by omega))
  clear pp qq rr ss hcop vb1 vb2 vb3 vb4
  generalize p + -err * q = lo at *
  generalize p + err * q = hi at *
  go_enter Try.func37, Try.ntmps37
  go_wp2_with fail
  rw [HWE.out]
  refine (HT.out _ HA.out).mono ?_; rintro e w1 ⟨rfl, hb1⟩
  have hc1 := (hcb.below hb1).alloc (.cells #[.int .i64 p, .int .i64 q] 30)
  have hr1 := (hrb.below hb1).alloc (.cells #[.int .i64 p, .int .i64 q] 30)
  have hf1 := Blk.new w1 30 #[.int .i64 p, .int .i64 q]
  have hb2 := hbw.trans (hb1.mono hbw.size)
  have hb3 := hb2.alloc hb2.size (.cells #[.int .i64 p, .int .i64 q] 30)
  have ck1 := hc1.cell 1
  have ckl := hc1.lt
  have fk0 := hf1.cell 0
  have fk1 := hf1.cell 1
  have fkl := hf1.lt
  simp only [List.getElem?_toArray, List.getElem?_cons_zero, List.getElem?_cons_succ] at ck1 fk0 fk1
  go_wp2_with fail
  generalize hV : w1.alloc (.cells #[.int .i64 p, .int .i64 q] 30) = V at *
  generalize hg : w1.heap.size = g at *
  clear hV
  obtain ⟨xc, xf⟩ := xcell (W := V)
  refine wp_region_quiet_tail 10 (by kernel_rfl) (by kernel_rfl) ?_
  simp only [List.take_succ_cons, List.take_zero, List.drop_succ_cons, List.drop_zero]
  repeat (first | go_big_quiet_step (first | (go_at_call 94; with_reducible refine calls_ext (HPl.out _)) | (go_at_call 94; with_reducible refine calls_ext (HPh.out _))) | quiet_step (first | (go_at_call 94; with_reducible refine calls_ext (HPl.out _)) | (go_at_call 94; with_reducible refine calls_ext (HPh.out _))))
  refine wpQuiet_nil ?_
  intro w2 hb4
  have hr2 := hr1.below hb4
  have rc0 := hr2.cell 0
  have rc1 := hr2.cell 1
  have rc2 := hr2.cell 2
  have rc3 := hr2.cell 3
  have rf0 := hr2.frozen 0
  have rf1 := hr2.frozen 1
  have rf2 := hr2.frozen 2
  have rf3 := hr2.frozen 3
  have rl := hr2.lt
  simp only [List.getElem?_toArray, List.getElem?_cons_zero, List.getElem?_cons_succ] at rc0 rc1 rc2 rc3
  have hb5 := hb3.trans (hb4.mono hb3.size)
  clear xc xf ck1 fk0 fk1
  go_wp2
  have hF := blk_set4 hr2 (.int .i64 lo) (.int .i64 q) (.int .i64 hi) (.int .i64 q)
  have k0 := hF.cell 0
  have k1 := hF.cell 1
  have k2 := hF.cell 2
  have k3 := hF.cell 3
  simp only [List.getElem?_toArray, List.getElem?_cons_zero, List.getElem?_cons_succ] at k0 k1 k2 k3
  exact bodyPost_ret (v := .tuple #[vRange' lo q hi q, .int .i64 0]) (by simp [results, Try.results37, go_sem, k0, k1, k2, k3]) rfl ⟨rfl, below_set4 hb5 (by simp) _ _ _ _⟩

end Go.Proofs.Ytipablcbkoedbaa
