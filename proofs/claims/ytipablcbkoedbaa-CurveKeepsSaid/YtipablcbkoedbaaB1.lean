/- Curves in memory; Check, domain. -/
import Derived.WalkKit
import Derived.WalkLawsBesides
import Derived.Deep.QuietTactic
import Derived.BigQuiet
import Derived.RegionTactic
import Derived.Lib.Hide
import Derived.Outline
import Derived.WalkSmall
import Derived.Test.YtipablcbkoedbaaProg
import Derived.Test.YtipablcbkoedbaaReg
import Derived.Test.YtipablcbkoedbaaA1
import Derived.Test.YtipablcbkoedbaaA2
namespace Go.Proofs.Ytipablcbkoedbaa
open Go.RowKit

def kx (ks : List (Int × Int)) (i : Nat) : Int := (ks.getD i (0, 0)).1
def ky (ks : List (Int × Int)) (i : Nat) : Int := (ks.getD i (0, 0)).2

/-- The knots ks lie in block b, from off on. -/
structure Kn (w : World) (b off : Nat) (ks : List (Int × Int)) : Prop where
  lt : b < w.heap.size
  x : ∀ i, i < ks.length → w.cell? ⟨b, off + i * 2, none⟩ = some (.int .i64 (kx ks i))
  y : ∀ i, i < ks.length → w.cell? ⟨b, off + i * 2 + 1, none⟩ = some (.int .i64 (ky ks i))
theorem Kn.below {w w' : World} {b off : Nat} {ks : List (Int × Int)} (h : Kn w b off ks) (hb : Below w.heap.size w w') : Kn w' b off ks :=
  ⟨Nat.lt_of_lt_of_le h.lt hb.size, fun i hi => (hb.cell (p := ⟨b, _, none⟩) h.lt).trans (h.x i hi), fun i hi => (hb.cell (p := ⟨b, _, none⟩) h.lt).trans (h.y i hi)⟩

/-- A slice of knots reads as ks. -/
structure CAt (w : World) (A : Option Addr) (n : Nat) (ks : List (Int × Int)) : Prop where
  len : ks.length = n
  at_ : 0 < n → ∃ b off, A = some ⟨b, off, none⟩ ∧ Kn w b off ks
theorem CAt.below {w w' : World} {A : Option Addr} {n : Nat} {ks : List (Int × Int)} (h : CAt w A n ks) (hb : Below w.heap.size w w') : CAt w' A n ks :=
  ⟨h.len, fun hn => let ⟨b, off, e, hk⟩ := h.at_ hn; ⟨b, off, e, hk.below hb⟩⟩

abbrev vCv (A : Option Addr) (n cap : Nat) (err : Int) : Value := .agg #[.slice A n cap, .int .i64 err]
abbrev vSpan (lo hi : Int) : Value := .agg #[.int .i64 lo, .int .i64 hi]

/-- The knots stand by X, within the limits. -/
def okK (last : Int) : List (Int × Int) → Bool
  | [] => true
  | (x, y) :: t => decide (last + 1 ≤ x ∧ x ≤ 2000 ∧ -65536 ≤ y ∧ y ≤ 65536) && okK x t
/-- The first error of a curve. -/
def check (ks : List (Int × Int)) (err : Int) : Int :=
  if 40 < ks.length then 2 else if ks.length = 0 ∨ ¬ (0 ≤ err ∧ err ≤ 4000) then 1 else if okK (-1) ks = true then 0 else 1

theorem okK_drop (last : Int) (ks : List (Int × Int)) (k : Nat) (hk : k < ks.length) :
    okK last (ks.drop k) = (decide (last + 1 ≤ kx ks k ∧ kx ks k ≤ 2000 ∧ -65536 ≤ ky ks k ∧ ky ks k ≤ 65536) && okK (kx ks k) (ks.drop (k + 1))) := by
  rw [List.drop_eq_getElem_cons hk]
  have e : ks.getD k (0, 0) = ks[k] := by simp [List.getD_eq_getElem?_getD, hk]
  unfold kx ky
  rw [e]
  rfl

theorem Check_long (A : Option Addr) (n cap : Nat) (err : Int) (ks : List (Int × Int)) (w : World) (h : CAt w A n ks) (hn : 40 < n) (hm : n ≤ 9223372036854775807) :
    Calls Try.prog 38 #[vCv A n cap err] w fun e w' => e = .returned (.int .i64 (check ks err)) ∧ Below w.heap.size w w' := by
  have hc : check ks err = 2 := by unfold check; rw [if_pos (by rw [h.len]; exact hn)]
  have HC := Lib.hid hc
  clear hc h
  go_enter Try.func38, Try.ntmps38
  go_wp2
  go_ret
  exact ⟨ret_int HC.out.symm, (Below.refl _ _).alloc (Nat.le_refl _) _⟩

theorem Check_arg (A : Option Addr) (n cap : Nat) (err : Int) (ks : List (Int × Int)) (w : World) (h : CAt w A n ks) (hn : n ≤ 40) (h0 : n = 0 ∨ ¬ (0 ≤ err ∧ err ≤ 4000)) :
    Calls Try.prog 38 #[vCv A n cap err] w fun e w' => e = .returned (.int .i64 (check ks err)) ∧ Below w.heap.size w w' := by
  have hc : check ks err = 1 := by unfold check; rw [if_neg (by rw [h.len]; omega), if_pos (by rw [h.len]; exact h0)]
  have HC := Lib.hid hc
  clear hc h
  by_cases hz : n = 0
  · subst hz
    go_enter Try.func38, Try.ntmps38
    go_wp2
    go_ret
    exact ⟨ret_int HC.out.symm, (Below.refl _ _).alloc (Nat.le_refl _) _⟩
  · have h1 : ¬ (0 ≤ err ∧ err ≤ 4000) := h0.resolve_left hz
    have hz1 : 0 < n := by omega
    have hz2 : (((n : Nat) : Int) == 0) = false := by simpa using hz
    clear h0 hz
    have H1 := Lib.hid h1
    clear h1
    go_enter Try.func38, Try.ntmps38
    go_wp2_with (go_at_call 98; refine (within_no _ _ _ _ H1.out).mono ?_; rintro e w' ⟨rfl, rfl⟩)
    go_ret
    exact ⟨ret_int HC.out.symm, (Below.refl _ _).alloc (Nat.le_refl _) _⟩

theorem Check_loop (b off n cap : Nat) (err : Int) (ks : List (Int × Int)) (w : World) (h : Kn w b off ks) (hl : ks.length = n) (h0 : 0 < n) (hn : n ≤ 40) (he : 0 ≤ err ∧ err ≤ 4000) :
    Calls Try.prog 38 #[vCv (some ⟨b, off, none⟩) n cap err] w fun e w' => e = .returned (.int .i64 (check ks err)) ∧ Below w.heap.size w w' := by
  have hc : check ks err = if okK (-1) ks = true then 0 else 1 := by unfold check; rw [if_neg (by omega), if_neg (by omega)]
  have HC := Lib.hid hc
  clear hc
  have HE := Lib.hid he
  clear he
  have hlt := h.lt
  have HK := Lib.hid h
  clear h
  have HL := Lib.hid hl
  clear hl
  have hz2 : (((n : Nat) : Int) == 0) = false := by simp; omega
  go_enter Try.func38, Try.ntmps38
  go_wp2_with (go_at_call 98; refine (within_yes _ _ _ _ HE.out).mono ?_; rintro e w' ⟨rfl, rfl⟩)
  go_loopw [3, 25] (fun t i wr => ∃ (k : Nat) (last : Int), k ≤ n ∧ i = .int .i64 k ∧ t = .int .i64 last ∧ -1 ≤ last ∧ last ≤ 2000 ∧ okK (-1) ks = okK last (ks.drop k) ∧ Below w.heap.size w wr) (fun _ i _ => n - (intOf i).toNat)
  case atStart => exact ⟨0, -1, Nat.zero_le _, rfl, rfl, by omega, by omega, rfl, (Below.refl _ _).alloc (Nat.le_refl _) _⟩
  case round =>
    obtain ⟨k, last, hk, rfl, rfl, hl1, hl2, hok, hb⟩ := hrel
    have HO := Lib.hid hok
    clear hok
    by_cases hkn : k < n
    · have hx : wr.cell? ⟨b, off + k * 2, none⟩ = some (.int .i64 (kx ks k)) := (hb.cell (p := ⟨b, off + k * 2, none⟩) hlt).trans (HK.out.x k (by rw [HL.out]; exact hkn))
      have hy : wr.cell? ⟨b, off + k * 2 + 1, none⟩ = some (.int .i64 (ky ks k)) := (hb.cell (p := ⟨b, off + k * 2 + 1, none⟩) hlt).trans (HK.out.y k (by rw [HL.out]; exact hkn))
      have hd := okK_drop last ks k (by rw [HL.out]; exact hkn)
      have HD := Lib.hid hd
      clear hd
      by_cases hxo : last + 1 ≤ kx ks k ∧ kx ks k ≤ 2000
      · obtain ⟨hx1, hx2⟩ := hxo
        have HX := Lib.hid (show last + 1 ≤ kx ks k ∧ kx ks k ≤ 2000 from ⟨hx1, hx2⟩)
        by_cases hyo : -65536 ≤ ky ks k ∧ ky ks k ≤ 65536
        · have HY := Lib.hid hyo
          clear hyo
          go_wp2_with (first | (go_at_call 98; ((with_reducible refine (within_yes _ _ _ _ HX.out).mono ?_); rintro e w' ⟨rfl, rfl⟩)) | (go_at_call 98; ((with_reducible refine (within_yes _ _ _ _ HY.out).mono ?_); rintro e w' ⟨rfl, rfl⟩)))
          go_roundw
          case rel => exact ⟨k + 1, kx ks k, by omega, by go_num, rfl, by omega, by omega, by rw [HO.out, HD.out, decide_eq_true ⟨HX.out.1, HX.out.2, HY.out⟩, Bool.true_and], hb.alloc hb.size _⟩
          case measure => simp [intOf]; omega
        · have HY := Lib.hid hyo
          clear hyo
          go_wp2_with (first | (go_at_call 98; ((with_reducible refine (within_yes _ _ _ _ HX.out).mono ?_); rintro e w' ⟨rfl, rfl⟩)) | (go_at_call 98; ((with_reducible refine (within_no _ _ _ _ HY.out).mono ?_); rintro e w' ⟨rfl, rfl⟩)))
          go_ret
          exact ⟨ret_int (by rw [HC.out, HO.out, HD.out, decide_eq_false (fun h => HY.out ⟨h.2.2.1, h.2.2.2⟩), Bool.false_and]; rfl), hb.alloc hb.size _⟩
      · have HX := Lib.hid hxo
        clear hxo
        go_wp2_with (first | (go_at_call 98; ((with_reducible refine (within_no _ _ _ _ HX.out).mono ?_); rintro e w' ⟨rfl, rfl⟩)))
        go_ret
        exact ⟨ret_int (by rw [HC.out, HO.out, HD.out, decide_eq_false (fun h => HX.out ⟨h.1, h.2.1⟩), Bool.false_and]; rfl), hb.alloc hb.size _⟩
    · have HN : okK last (ks.drop k) = true := by rw [List.drop_eq_nil_of_le (by rw [HL.out]; omega)]; rfl
      have HN' := Lib.hid HN
      clear HN
      go_wp2
      go_ret
      exact ⟨ret_int (by rw [HC.out, HO.out, HN'.out]; rfl), hb⟩
end Go.Proofs.Ytipablcbkoedbaa
