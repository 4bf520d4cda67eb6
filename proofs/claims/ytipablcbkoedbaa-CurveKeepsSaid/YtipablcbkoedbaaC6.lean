/- Over. -/
import Derived.WalkKit
import Derived.WalkLawsBesides
import Derived.Deep.QuietTactic
import Derived.BigQuiet
import Derived.RegionTactic
import Derived.Lib.Hide
import Derived.Outline
import Derived.WalkSmall
import Derived.OwnWalk
import Derived.Test.YtipablcbkoedbaaProg
import Derived.Test.YtipablcbkoedbaaReg
import Derived.Test.YtipablcbkoedbaaA1
import Derived.Test.YtipablcbkoedbaaA2
import Derived.Test.YtipablcbkoedbaaB1
import Derived.Test.YtipablcbkoedbaaB2
import Derived.Test.YtipablcbkoedbaaB3
import Derived.Test.YtipablcbkoedbaaB4
import Derived.Test.YtipablcbkoedbaaC1
import Derived.Test.YtipablcbkoedbaaC2
import Derived.Test.YtipablcbkoedbaaC3
import Derived.Test.YtipablcbkoedbaaC4
import Derived.Test.YtipablcbkoedbaaC5
namespace Go.Proofs.Ytipablcbkoedbaa
open Go.RowKit

theorem gcd_pos_of {n d : Int} (hd : 1 ≤ d) : (1 : Int) ≤ (Nat.gcd n.natAbs d.natAbs : Int) := by
  have : 0 < Nat.gcd n.natAbs d.natAbs := Nat.gcd_pos_of_pos_right _ (by omega)
  omega
theorem lowN_bd {n d M : Int} (hd : 1 ≤ d) (h1 : -M ≤ n) (h2 : n ≤ M) : -M ≤ lowN n d ∧ lowN n d ≤ M := by
  have hg := gcd_pos_of (n := n) hd
  unfold lowN
  generalize (Nat.gcd n.natAbs d.natAbs : Int) = g at *
  have hM : 0 ≤ M := by omega
  have hMg : M ≤ M * g := by
    have := Int.mul_le_mul_of_nonneg_left hg hM
    omega
  constructor
  · rw [Int.le_ediv_iff_mul_le (by omega)]
    rw [Int.neg_mul]; omega
  · exact Int.le_trans (Int.ediv_le_ediv (by omega) h2) (Int.ediv_le_of_le_mul (by omega) hMg)
theorem lowD_bd {n d D : Int} (hd : 1 ≤ d) (h2 : d ≤ D) : 1 ≤ lowD n d ∧ lowD n d ≤ D := by
  have hg := gcd_pos_of (n := n) hd
  have hdv : ((Nat.gcd n.natAbs d.natAbs : Nat) : Int) ∣ d := by
    rw [← Int.dvd_natAbs]
    exact Int.natCast_dvd_natCast.2 (Nat.gcd_dvd_right _ _)
  unfold lowD
  generalize (Nat.gcd n.natAbs d.natAbs : Int) = g at *
  obtain ⟨q, rfl⟩ := hdv
  rw [Int.mul_ediv_cancel_left _ (by omega)]
  have hq : 1 ≤ q := by
    by_cases h : 1 ≤ q
    · exact h
    · have : g * q ≤ g * 0 := Int.mul_le_mul_of_nonneg_left (by omega) (by omega)
      omega
  have : 1 * q ≤ g * q := Int.mul_le_mul_of_nonneg_right hg (by omega)
  exact ⟨hq, by omega⟩

/-- A value on a straight piece lies between its ends. -/
theorem line_bd {p q P Q x M : Int} (h1 : p ≤ x) (h2 : x ≤ q) (hp : -M ≤ P ∧ P ≤ M) (hq : -M ≤ Q ∧ Q ≤ M) :
    -(M * (q - p)) ≤ P * (q - p) + (Q - P) * (x - p) ∧ P * (q - p) + (Q - P) * (x - p) ≤ M * (q - p) := by
  have e : P * (q - p) + (Q - P) * (x - p) = P * (q - x) + Q * (x - p) := by
    simp only [Int.sub_mul, Int.mul_sub]; omega
  have e2 : M * (q - p) = M * (q - x) + M * (x - p) := by
    simp only [Int.mul_sub]; omega
  rw [e, e2]
  have a1 := Int.mul_le_mul_of_nonneg_right hp.1 (show 0 ≤ q - x by omega)
  have a2 := Int.mul_le_mul_of_nonneg_right hp.2 (show 0 ≤ q - x by omega)
  have b1 := Int.mul_le_mul_of_nonneg_right hq.1 (show 0 ≤ x - p by omega)
  have b2 := Int.mul_le_mul_of_nonneg_right hq.2 (show 0 ≤ x - p by omega)
  rw [Int.neg_mul] at a1 b1
  omega

theorem kx_mono {ks : List (Int × Int)} (hv : Valid ks) : ∀ (j i : Nat), i ≤ j → j < ks.length → kx ks i ≤ kx ks j
  | 0, i, h, _ => by have : i = 0 := by omega
                     subst this; exact Int.le_refl _
  | j + 1, i, h, hj => by
    by_cases e : i = j + 1
    · subst e; exact Int.le_refl _
    · have := kx_mono hv j i (by omega) (by omega)
      have := hv.up j (by omega)
      omega

/-- Where x lies: the piece that pieceOf finds. -/
theorem pieceOf_in {ks : List (Int × Int)} {x : Int} (h0 : kx ks 0 ≤ x) {i : Nat} (h : pieceOf ks x = some i) : i < ks.length - 1 ∧ kx ks i ≤ x ∧ x ≤ kx ks (i + 1) := by
  unfold pieceOf at h
  have h1 := List.find?_some h
  have h2 := List.mem_of_find?_eq_some h
  simp only [decide_eq_true_eq] at h1
  have h3 : i < ks.length - 1 := by simpa using h2
  refine ⟨h3, ?_, h1⟩
  by_cases hi : i = 0
  · subst hi; exact h0
  · rw [List.find?_range_eq_some] at h
    have := h.2.2 (i - 1) (by omega)
    simp only [Bool.not_eq_true', decide_eq_false_iff_not] at this
    rw [show i - 1 + 1 = i by omega] at this
    omega

theorem val_bd {ks : List (Int × Int)} (hv : Valid ks) {x : Int} (h0 : kx ks 0 ≤ x) : -131072000 ≤ valN ks x ∧ valN ks x ≤ 131072000 ∧ 1 ≤ valD ks x ∧ valD ks x ≤ 2000 := by
  have hp := hv.pos
  cases hpo : pieceOf ks x with
  | none =>
    unfold valN valD
    rw [hpo]
    obtain ⟨y1, y2⟩ := hv.y0 (ks.length - 1) (by omega)
    have a := lowN_bd (n := ky ks (ks.length - 1)) (d := 1) (M := 131072000) (by omega) (by omega) (by omega)
    have b := lowD_bd (n := ky ks (ks.length - 1)) (d := 1) (D := 2000) (by omega) (by omega)
    exact ⟨a.1, a.2, b.1, b.2⟩
  | some i =>
    obtain ⟨hi, hx1, hx2⟩ := pieceOf_in h0 hpo
    unfold valN valD
    rw [hpo]
    show -131072000 ≤ fvN ks x i ∧ fvN ks x i ≤ 131072000 ∧ 1 ≤ fvD ks x i ∧ fvD ks x i ≤ 2000
    unfold fvN fvD
    have hu := hv.up i (by omega)
    obtain ⟨xa, xb⟩ := hv.x0 i (by omega)
    obtain ⟨xc, xd⟩ := hv.x0 (i + 1) (by omega)
    obtain ⟨l1, l2⟩ := line_bd hx1 hx2 (hv.y0 i (by omega)) (hv.y0 (i + 1) (by omega))
    have hr : (65536 : Int) * (kx ks (i + 1) - kx ks i) ≤ 131072000 := by omega
    have a := lowN_bd (n := ky ks i * (kx ks (i + 1) - kx ks i) + (ky ks (i + 1) - ky ks i) * (x - kx ks i)) (d := kx ks (i + 1) - kx ks i) (M := 131072000) (by omega) (by omega) (by omega)
    have b := lowD_bd (n := ky ks i * (kx ks (i + 1) - kx ks i) + (ky ks (i + 1) - ky ks i) * (x - kx ks i)) (d := kx ks (i + 1) - kx ks i) (D := 2000) (by omega) (by omega)
    exact ⟨a.1, a.2, b.1, b.2⟩

abbrev fV (ks : List (Int × Int)) (x : Int) : Int × Int := (valN ks x, valD ks x)
theorem fV_frb {ks : List (Int × Int)} (hv : Valid ks) {x : Int} (h0 : kx ks 0 ≤ x) : FrB (fV ks x) := by
  obtain ⟨a, b, c, d⟩ := val_bd hv h0
  exact ⟨by show _ ≤ valN ks x; omega, by show valN ks x ≤ _; omega, c, by show valD ks x ≤ _; omega⟩

theorem compact_mem {zs : List Int} {x : Int} (h : x ∈ Lib.compact zs) : x ∈ zs := by
  unfold Lib.compact Lib.compactUpTo at h
  obtain ⟨i, hi, rfl⟩ := List.mem_map.1 h
  have hi2 : i < zs.length := by have := (List.mem_filter.1 hi).1; simpa using this
  rw [getElem!_pos zs.toArray i (by simpa using hi2)]
  simp
theorem inXs_mem {lo hi x : Int} : ∀ {ks : List (Int × Int)}, x ∈ inXs lo hi ks → lo ≤ x ∧ x ≤ hi
  | [], h => by simp [inXs] at h
  | k :: ks, h => by
    unfold inXs at h
    split at h
    · rcases List.mem_cons.1 h with rfl | h'
      · assumption
      · exact inXs_mem h'
    · exact inXs_mem h
theorem inXss_mem {lo hi x : Int} : ∀ {cs : List CV}, x ∈ inXss lo hi cs → lo ≤ x ∧ x ≤ hi
  | [], h => by simp [inXss] at h
  | c :: cs, h => by
    unfold inXss at h
    rcases List.mem_append.1 h with h' | h'
    · exact inXs_mem h'
    · exact inXss_mem h'
theorem cornerL_mem {lo hi x : Int} {cs : List CV} (hl : lo ≤ hi) (h : x ∈ cornerL lo hi cs) : lo ≤ x ∧ x ≤ hi := by
  have h1 := compact_mem h
  rw [List.mem_mergeSort] at h1
  unfold cornerXs at h1
  rcases List.mem_cons.1 h1 with rfl | h1
  · omega
  rcases List.mem_cons.1 h1 with rfl | h1
  · omega
  · exact inXss_mem h1
theorem inXs_len (lo hi : Int) : ∀ (ks : List (Int × Int)), (inXs lo hi ks).length ≤ ks.length
  | [] => by simp [inXs]
  | k :: ks => by
    unfold inXs
    have := inXs_len lo hi ks
    split <;> simp <;> omega
theorem compact_pos {zs : List Int} (h : 0 < zs.length) : 0 < (Lib.compact zs).length := by
  unfold Lib.compact Lib.compactUpTo
  rw [List.length_map, List.length_pos_iff_exists_mem]
  exact ⟨0, List.mem_filter.2 ⟨by simpa using h, by simp [Lib.keeps]⟩⟩
theorem cornerL_pos (lo hi : Int) (cs : List CV) : 0 < (cornerL lo hi cs).length := compact_pos (by simp [cornerXs])
theorem cornerL_le (lo hi : Int) (cs : List CV) : (cornerL lo hi cs).length ≤ (cornerXs lo hi cs).length := by
  have := Lib.compact_length_le ((cornerXs lo hi cs).mergeSort fun x y => decide (x ≤ y))
  simpa [cornerL] using this

theorem lat_one {W : World} {g : Nat} {t : TypeId} {A : Option Addr} {n cap : Nat} {err : Int} {ks : List (Int × Int)} (hb : Blk W g t #[.slice A n cap, .int .i64 err]) (h : CAt W A n ks) (hn : n ≤ 9223372036854775807) :
    LAt W (some ⟨g, 0, none⟩) 1 [⟨A, n, cap, err, ks⟩] := by
  refine ⟨rfl, fun _ => ⟨g, 0, rfl, hb.lt, ?_, ?_, ?_, ?_⟩⟩
  · intro i hi
    have : i = 0 := by simpa using hi
    subst this
    exact hb.cell 0
  · intro i hi
    have : i = 0 := by simpa using hi
    subst this
    exact hb.cell 1
  · intro i hi
    have : i = 0 := by simpa using hi
    subst this
    exact h
  · intro i hi
    have : i = 0 := by simpa using hi
    subst this
    exact hn
theorem lat_two {W : World} {g : Nat} {t : TypeId} {A A' : Option Addr} {n cap n' cap' : Nat} {err err' : Int} {ks ks' : List (Int × Int)} (hb : Blk W g t #[.slice A n cap, .int .i64 err, .slice A' n' cap', .int .i64 err']) (h : CAt W A n ks) (hn : n ≤ 9223372036854775807) (h' : CAt W A' n' ks') (hn' : n' ≤ 9223372036854775807) :
    LAt W (some ⟨g, 0, none⟩) 2 [⟨A, n, cap, err, ks⟩, ⟨A', n', cap', err', ks'⟩] := by
  refine ⟨rfl, fun _ => ⟨g, 0, rfl, hb.lt, ?_, ?_, ?_, ?_⟩⟩
  · intro i hi
    match i, hi with
    | 0, _ => exact hb.cell 0
    | 1, _ => exact hb.cell 2
  · intro i hi
    match i, hi with
    | 0, _ => exact hb.cell 1
    | 1, _ => exact hb.cell 3
  · intro i hi
    match i, hi with
    | 0, _ => exact h
    | 1, _ => exact h'
  · intro i hi
    match i, hi with
    | 0, _ => exact hn
    | 1, _ => exact hn'

/-- The literal in Over. -/
theorem over1_any (W : World) (g b off n cap : Nat) (err : Int) (ks : List (Int × Int)) (x : Int) (hb : Blk W g 24 #[.slice (some ⟨b, off, none⟩) n cap, .int .i64 err]) (h : Kn W b off ks) (hn : ks.length = n) (hv : Valid ks) (hx1 : 0 ≤ x) (hx2 : x ≤ 2000) :
    Calls Try.prog 82 #[.int .i64 x, .pointer (some ⟨g, 0, none⟩)] W fun e w' => e = .returned (vFrac (valN ks x) (valD ks x)) ∧ Below W.heap.size W w' := by
  subst hn
  have hV := fun V (hV : Kn V b off ks) => value_any b off cap err ks x V hV hv hx1 hx2
  have HV := Lib.hid hV
  have HK := Lib.hid h
  clear hV h
  have hc0 := hb.cell 0
  have hc1 := hb.cell 1
  have hlt := hb.lt
  simp only [List.getElem?_toArray, List.getElem?_cons_zero, List.getElem?_cons_succ] at hc0 hc1
  go_enter Try.func82, Try.ntmps82
  go_wp2_with fail
  refine (HV.out _ (HK.out.below ((Below.refl _ _).alloc (Nat.le_refl _) _))).mono ?_
  rintro e w1 ⟨rfl, hb1⟩
  have hr := (Blk.new W 30 #[.int .i64 0, .int .i64 0]).below hb1
  have g0 := hr.cell 0
  have g1 := hr.cell 1
  have f0 := hr.frozen 0
  have f1 := hr.frozen 1
  simp only [List.getElem?_toArray, List.getElem?_cons_zero, List.getElem?_cons_succ] at g0 g1
  have hb2 := ((Below.refl W.heap.size W).alloc (Nat.le_refl _) (.cells #[.int .i64 0, .int .i64 0] 30)).trans (hb1.mono (by simp))
  have hrl := hr.lt
  go_wp2
  exact bodyPost_ret (v := vFrac (valN ks x) (valD ks x)) (by simp [results, Try.results82, go_sem, g0, g1]) rfl ⟨rfl, (hb2.setCell (p := ⟨W.heap.size, 0, none⟩) (by simp) _).setCell (p := ⟨W.heap.size, 1, none⟩) (by simp) _⟩
theorem eg82 : ∀ args w, (callFunc 82 args).run Try.prog w = .ok (.enter 82 args) w := enters_of Try.func82 (by kernel_rfl) rfl
end Go.Proofs.Ytipablcbkoedbaa
