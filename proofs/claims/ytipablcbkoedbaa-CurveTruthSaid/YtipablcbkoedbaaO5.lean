/- The law's own sheaf; fractions of Both are valid. -/
import Derived.WalkKit
import Derived.WalkLawsBesides
import Derived.OwnWalk
import Derived.Lib.Hide
import Derived.Outline
import Derived.WalkSmall
import Derived.Lib.SmallJoins
import Derived.Test.YtipablcbkoedbaaProg
import Derived.Test.YtipablcbkoedbaaI1
import Derived.Test.YtipablcbkoedbaaF3
import Derived.Test.YtipablcbkoedbaaRow3
import Derived.Test.YtipablcbkoedbaaO4
namespace Go.Proofs.Ytipablcbkoedbaa
open Go.RowKit Go.WideShapes Go.ChangeShapes Go.Joins Go.Deep

set_option maxHeartbeats 800000 in
theorem lawSheaf2_any (A : Option Addr) (n cap : Nat) (cs : List CV) (w : World) (h : LAt w A n cs) (hm : n ≤ 9223372036854775807) :
    Calls Try.prog 27 #[.slice A n cap] w fun e w' => ∃ bb : Bool, e = .returned (.bool bb) ∧ Below w.heap.size w w' := by
  have HL := Lib.hid h.len
  have HA0 := Lib.hid h
  clear h
  go_enter Try.func27, Try.ntmps27
  go_wp2_with fail
  go_loopw [3] (fun i wr => ∃ (k : Nat), k ≤ n ∧ i = .int .i64 k ∧ Below w.heap.size w wr) (fun i _ => n - (intOf i).toNat)
  case atStart => exact ⟨0, Nat.zero_le _, rfl, Below.refl _ _⟩
  case round =>
    obtain ⟨k, hk, rfl, hb⟩ := hrel
    by_cases hkn : k < n
    · obtain ⟨b, off, hAe, hcs⟩ := HA0.out.at_ (by omega)
      subst hAe
      have hkl : k < cs.length := by rw [HL.out]; exact hkn
      have hcs' := hcs.below hb
      have hs := hcs'.s k hkl
      have he := hcs'.e k hkl
      have hlb := hcs'.lt
      have hcn := hcs.le k hkl
      clear hcs hcs' hkl
      generalize cvA cs k = cA at *
      generalize cvn cs k = cn at *
      generalize cvcap cs k = cc at *
      generalize cverr cs k = ce at *
      by_cases h60 : cn ≤ 60
      · have HF := Lib.hid (fun W => calls_val (few_any cA cn cc ce W hcn) (v' := .bool true) (by rw [decide_eq_true h60]))
        go_wp2_with fail
        refine (HF.out _).mono ?_; rintro e w1 ⟨rfl, hb1⟩
        have hb2 := hb.trans (hb1.mono hb.size)
        go_wp2
        go_roundw
        case rel => exact ⟨k + 1, by omega, by go_num, hb2⟩
        case measure => simp [intOf]; omega
      · have HF := Lib.hid (fun W => calls_val (few_any cA cn cc ce W hcn) (v' := .bool false) (by rw [decide_eq_false h60]))
        go_wp2_with fail
        refine (HF.out _).mono ?_; rintro e w1 ⟨rfl, hb1⟩
        have hb2 := hb.trans (hb1.mono hb.size)
        go_wp2
        go_ret
        exact ⟨_, rfl, hb2⟩
    · have hkk : k = n := by omega
      subst hkk
      go_wp2
      go_ret
      exact ⟨_, rfl, hb⟩

theorem b_ok {c : CV} {x : Int} (hv : Valid c.ks) (h0 : kx c.ks 0 ≤ x) (n : Int) (h1 : -4000 ≤ n) (h2 : n ≤ 4000) : okF (valN c.ks x + n * valD c.ks x) (valD c.ks x) := by
  obtain ⟨a1, a2, a3, a4⟩ := val_bd hv h0
  have m := mul_bd (x := n) (y := valD c.ks x) (A := 4000) (B := 2000) (by omega) (by omega) (by omega) (by omega)
  exact ⟨by omega, by omega, by omega, by omega, cop_plus n (val_cop hv x)⟩
theorem sh_ok {cs : List CV} {x : Int} (h : shErr cs x = 0) {i : Nat} (hi : i < cs.length) : okF (bLo x (cs.getD i ⟨none, 0, 0, 0, []⟩)).1 (bLo x (cs.getD i ⟨none, 0, 0, 0, []⟩)).2 ∧ okF (bHi x (cs.getD i ⟨none, 0, 0, 0, []⟩)).1 (bHi x (cs.getD i ⟨none, 0, 0, 0, []⟩)).2 := by
  have o := sh_zero h
  obtain ⟨hv, e1, e2⟩ := o.all i hi
  have h0 := o.lo i hi
  unfold cverr at e1 e2
  exact ⟨b_ok hv h0 _ (by omega) (by omega), b_ok hv h0 _ (by omega) (by omega)⟩
theorem boV_ok {cs : List CV} {x : Int} (h : shErr cs x = 0) (hb : boErr cs x = 0) : okF (boV cs x).1.1 (boV cs x).1.2 ∧ okF (boV cs x).2.1 (boV cs x).2.2 := by
  obtain ⟨⟨j, hj, e1⟩, ⟨i, hi, e2⟩, _, _⟩ := bo_ext h
  unfold boV
  rw [if_pos hb, e1, e2]
  exact ⟨(sh_ok h hj).1, (sh_ok h hi).2⟩
theorem sh_vs {cs : List CV} {x : Int} (h : shErr cs x = 0) {i : Nat} (hi : i < cs.length) : vsV (cvks cs i) (cverr cs i) x = (bLo x (cs.getD i ⟨none, 0, 0, 0, []⟩), bHi x (cs.getD i ⟨none, 0, 0, 0, []⟩)) := by
  unfold vsV
  rw [if_pos (sh_val h hi)]
  rfl
section
variable {H : Type} {enc : TypeId × Value → H} {w : World} {base : Nat} {spare : Nat → Bool} {held : Bool}

theorem cvs_cap {v : Value} {d : DataW H} {p : List MemPlace} {A : Option Addr} {n cap : Nat} (hv : v = .slice A n cap) (h : DataW.Trod enc Try.prog w base spare held 45 v d p) : n ≤ cap := by
  subst hv
  obtain ⟨fuel, hf⟩ := h
  rcases open_slice Try.underlying45 hf with ⟨e0, _⟩ | ⟨a, len, cap', m, n', D, Pl, e0, hb, hl, hc, hm, _, hfi⟩
  · simp only [Value.cells, List.cons.injEq, and_true] at e0
    obtain ⟨rfl, rfl, rfl⟩ : A = none ∧ n = 0 ∧ cap = 0 := by simpa using e0
    exact Nat.le_refl _
  · obtain ⟨rfl, rfl, rfl⟩ : A = some a ∧ n = len ∧ cap = cap' := by simpa [Value.cells] using e0
    exact hl
end
end Go.Proofs.Ytipablcbkoedbaa
