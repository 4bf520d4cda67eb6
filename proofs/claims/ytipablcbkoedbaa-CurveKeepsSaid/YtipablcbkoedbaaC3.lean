/- The comparisons; peak. -/
import Derived.WalkKit
import Derived.WalkLawsBesides
import Derived.Deep.QuietTactic
import Derived.BigQuiet
import Derived.RegionTactic
import Derived.Lib.Hide
import Derived.Outline
import Derived.WalkSmall
import Derived.Test.YtipablcbkoedbaaProg
import Derived.Test.YtipablcbkoedbaaReg
import Derived.Test.YtipablcbkoedbaaA1
import Derived.Test.YtipablcbkoedbaaA2
import Derived.Test.YtipablcbkoedbaaB1
import Derived.Test.YtipablcbkoedbaaB2
import Derived.Test.YtipablcbkoedbaaB3
import Derived.Test.YtipablcbkoedbaaB4
import Derived.Test.YtipablcbkoedbaaC1
import Derived.Test.YtipablcbkoedbaaC2
namespace Go.Proofs.Ytipablcbkoedbaa
open Go.RowKit

/-- A fraction whose products with others stay small. -/
structure FrB (f : Int × Int) : Prop where
  n1 : -549755813888 ≤ f.1
  n2 : f.1 ≤ 549755813888
  d1 : 1 ≤ f.2
  d2 : f.2 ≤ 4194304

theorem FrB.prod {f g : Int × Int} (hf : FrB f) (hg : FrB g) : -4611686018427387904 ≤ f.1 * g.2 ∧ f.1 * g.2 ≤ 4611686018427387904 := by
  obtain ⟨h1, h2⟩ := mul_bd (x := f.1) (y := g.2) (A := 549755813888) (B := 4194304) hf.n1 hf.n2 (by have := hg.d1; omega) hg.d2
  exact ⟨by omega, by omega⟩

abbrev ltF (a b : Int × Int) : Bool := decide (ordF a.1 a.2 b.1 b.2 < 0)
abbrev gtF (a b : Int × Int) : Bool := decide (ordF a.1 a.2 b.1 b.2 > 0)
abbrev ltS (a b : Int × Int × Int) : Bool := ltF a.2 b.2
abbrev gtS (a b : Int × Int × Int) : Bool := gtF a.2 b.2

theorem order_frb (a b : Int × Int) (w : World) (ha : FrB a) (hb : FrB b) :
    Calls Try.prog 91 #[vFrac a.1 a.2, vFrac b.1 b.2] w fun e w' => e = .returned (.int .i64 (ordF a.1 a.2 b.1 b.2)) ∧ Below w.heap.size w w' :=
  order_any a.1 a.2 b.1 b.2 w (ha.prod hb).1 (ha.prod hb).2 (hb.prod ha).1 (hb.prod ha).2

theorem both1_any (a b : Int × Int) (w : World) (ha : FrB a) (hb : FrB b) :
    Calls Try.prog 90 #[vFrac a.1 a.2, vFrac b.1 b.2] w fun e w' => e = .returned (.bool (gtF a b)) ∧ Below w.heap.size w w' := by
  have HC := Lib.hid (fun W => order_frb a b W ha hb)
  clear ha hb
  unfold gtF
  generalize ordF a.1 a.2 b.1 b.2 = o at *
  go_enter Try.func90, Try.ntmps90
  go_wp2_with (go_at_call 91; refine (HC.out _).mono ?_; rintro e w1 ⟨rfl, hb1⟩)
  go_ret
  exact ⟨by simp, ((Below.refl _ _).alloc (Nat.le_refl _) _ |>.alloc (by simp) _).trans (hb1.mono (by simp; omega))⟩
theorem both2_any (a b : Int × Int) (w : World) (ha : FrB a) (hb : FrB b) :
    Calls Try.prog 92 #[vFrac a.1 a.2, vFrac b.1 b.2] w fun e w' => e = .returned (.bool (ltF a b)) ∧ Below w.heap.size w w' := by
  have HC := Lib.hid (fun W => order_frb a b W ha hb)
  clear ha hb
  unfold ltF
  generalize ordF a.1 a.2 b.1 b.2 = o at *
  go_enter Try.func92, Try.ntmps92
  go_wp2_with (go_at_call 91; refine (HC.out _).mono ?_; rintro e w1 ⟨rfl, hb1⟩)
  go_ret
  exact ⟨by simp, ((Below.refl _ _).alloc (Nat.le_refl _) _ |>.alloc (by simp) _).trans (hb1.mono (by simp; omega))⟩
theorem least1_any (a b : Int × Int) (w : World) (ha : FrB a) (hb : FrB b) :
    Calls Try.prog 96 #[vFrac a.1 a.2, vFrac b.1 b.2] w fun e w' => e = .returned (.bool (ltF a b)) ∧ Below w.heap.size w w' := by
  have HC := Lib.hid (fun W => order_frb a b W ha hb)
  clear ha hb
  unfold ltF
  generalize ordF a.1 a.2 b.1 b.2 = o at *
  go_enter Try.func96, Try.ntmps96
  go_wp2_with (go_at_call 91; refine (HC.out _).mono ?_; rintro e w1 ⟨rfl, hb1⟩)
  go_ret
  exact ⟨by simp, ((Below.refl _ _).alloc (Nat.le_refl _) _ |>.alloc (by simp) _).trans (hb1.mono (by simp; omega))⟩
theorem steepest1_any (a b : Int × Int) (w : World) (ha : FrB a) (hb : FrB b) :
    Calls Try.prog 109 #[vFrac a.1 a.2, vFrac b.1 b.2] w fun e w' => e = .returned (.bool (gtF a b)) ∧ Below w.heap.size w w' := by
  have HC := Lib.hid (fun W => order_frb a b W ha hb)
  clear ha hb
  unfold gtF
  generalize ordF a.1 a.2 b.1 b.2 = o at *
  go_enter Try.func109, Try.ntmps109
  go_wp2_with (go_at_call 91; refine (HC.out _).mono ?_; rintro e w1 ⟨rfl, hb1⟩)
  go_ret
  exact ⟨by simp, ((Below.refl _ _).alloc (Nat.le_refl _) _ |>.alloc (by simp) _).trans (hb1.mono (by simp; omega))⟩

theorem peak1_any (a b : Int × Int × Int) (w : World) (ha : FrB a.2) (hb : FrB b.2) :
    Calls Try.prog 144 #[vSpot a.1 a.2.1 a.2.2, vSpot b.1 b.2.1 b.2.2] w fun e w' => e = .returned (.bool (ltS a b)) ∧ Below w.heap.size w w' := by
  have HC := Lib.hid (fun W => order_frb a.2 b.2 W ha hb)
  clear ha hb
  unfold ltS ltF
  generalize ordF a.2.1 a.2.2 b.2.1 b.2.2 = o at *
  go_enter Try.func144, Try.ntmps144
  go_wp2_with (go_at_call 91; refine (HC.out _).mono ?_; rintro e w1 ⟨rfl, hb1⟩)
  go_ret
  exact ⟨by simp, ((Below.refl _ _).alloc (Nat.le_refl _) _ |>.alloc (by simp) _).trans (hb1.mono (by simp; omega))⟩
theorem peak2_any (a b : Int × Int × Int) (w : World) (ha : FrB a.2) (hb : FrB b.2) :
    Calls Try.prog 145 #[vSpot a.1 a.2.1 a.2.2, vSpot b.1 b.2.1 b.2.2] w fun e w' => e = .returned (.bool (gtS a b)) ∧ Below w.heap.size w w' := by
  have HC := Lib.hid (fun W => order_frb a.2 b.2 W ha hb)
  clear ha hb
  unfold gtS gtF
  generalize ordF a.2.1 a.2.2 b.2.1 b.2.2 = o at *
  go_enter Try.func145, Try.ntmps145
  go_wp2_with (go_at_call 91; refine (HC.out _).mono ?_; rintro e w1 ⟨rfl, hb1⟩)
  go_ret
  exact ⟨by simp, ((Below.refl _ _).alloc (Nat.le_refl _) _ |>.alloc (by simp) _).trans (hb1.mono (by simp; omega))⟩

abbrev vPeak (a b c d e f : Int) : Value := .agg #[.int .i64 a, .int .i64 b, .int .i64 c, .int .i64 d, .int .i64 e, .int .i64 f]
/-- The peak of a list of spots. -/
abbrev pkLo (zs : List (Int × Int × Int)) : Int × Int × Int := (extr ltS zs (0, 0, 0)).1
abbrev pkHi (zs : List (Int × Int × Int)) : Int × Int × Int := (extr gtS zs (0, 0, 0)).1
abbrev vPk (zs : List (Int × Int × Int)) : Value := vPeak (pkLo zs).2.1 (pkLo zs).2.2 (pkHi zs).2.1 (pkHi zs).2.2 (pkLo zs).1 (pkHi zs).1

theorem eg144 : ∀ args w, (callFunc 144 args).run Try.prog w = .ok (.enter 144 args) w := enters_of Try.func144 (by kernel_rfl) rfl
theorem eg145 : ∀ args w, (callFunc 145 args).run Try.prog w = .ok (.enter 145 args) w := enters_of Try.func145 (by kernel_rfl) rfl

theorem peak_any (b off cap : Nat) (zs : List (Int × Int × Int)) (w : World) (hF : Ss w b off zs) (hz : ∀ z ∈ zs, FrB z.2) (hn : zs.length ≤ 9223372036854775807) :
    Calls Try.prog 132 #[.slice (some ⟨b, off, none⟩) zs.length cap] w fun e w' => e = .returned (vPk zs) ∧ Below w.heap.size w w' := by
  have h1 := fun W (hW : Below w.heap.size w W) => extremeS_any 144 eg144 ltS b off cap zs W (fun W a b ha hb => peak1_any a b W (hz a ha) (hz b hb)) (hF.below hF.lt hW) hn
  have h2 := fun W (hW : Below w.heap.size w W) => extremeS_any 145 eg145 gtS b off cap zs W (fun W a b ha hb => peak2_any a b W (hz a ha) (hz b hb)) (hF.below hF.lt hW) hn
  have H1 := Lib.hid h1
  have H2 := Lib.hid h2
  clear h1 h2 hF hz
  unfold vPk pkLo pkHi
  generalize extr ltS zs (0, 0, 0) = lo at *
  generalize extr gtS zs (0, 0, 0) = hi at *
  obtain ⟨⟨lp, ln, ld⟩, la⟩ := lo
  obtain ⟨⟨hp, hn', hd⟩, ha⟩ := hi
  dsimp only at H1 H2 ⊢
  go_enter Try.func132, Try.ntmps132
  go_wp2_with fail
  refine (H1.out _ ((Below.refl _ _).alloc (Nat.le_refl _) _)).mono ?_
  rintro e w1 ⟨rfl, hb1⟩
  have hr1 := (Blk.new w 40 #[.int .i64 0, .int .i64 0, .int .i64 0, .int .i64 0, .int .i64 0, .int .i64 0]).below hb1
  have hb2 := ((Below.refl w.heap.size w).alloc (Nat.le_refl _) (.cells #[.int .i64 0, .int .i64 0, .int .i64 0, .int .i64 0, .int .i64 0, .int .i64 0] 40)).trans (hb1.mono (by simp))
  go_wp2_with fail
  refine (H2.out _ (hb2.alloc hb2.size _)).mono ?_
  rintro e w2 ⟨rfl, hb3⟩
  have hr2 := (hr1.alloc (.cells #[.int .i64 lp, .int .i64 ln, .int .i64 ld] 156)).below hb3
  have hl2 := (Blk.new w1 156 #[.int .i64 lp, .int .i64 ln, .int .i64 ld]).below hb3
  have hl20 := hl2.cell 0
  have hl21 := hl2.cell 1
  have hl22 := hl2.cell 2
  simp only [List.getElem?_toArray, List.getElem?_cons_zero, List.getElem?_cons_succ] at hl20 hl21 hl22
  have hl2lt := hl2.lt
  have hsz1 := hr1.lt
  have hsz2 := hr2.lt
  have hb4 := (hb2.alloc hb2.size (.cells #[.int .i64 lp, .int .i64 ln, .int .i64 ld] 156)).trans (hb3.mono (by simp; have := hb2.size; omega))
  have hf0 := hr2.frozen 0
  have hf1 := hr2.frozen 1
  have hf2 := hr2.frozen 2
  have hf3 := hr2.frozen 3
  have hf4 := hr2.frozen 4
  have hf5 := hr2.frozen 5
  have hc0 := hr2.cell 0
  have hc1 := hr2.cell 1
  have hc2 := hr2.cell 2
  have hc3 := hr2.cell 3
  have hc4 := hr2.cell 4
  have hc5 := hr2.cell 5
  simp only [List.getElem?_toArray, List.getElem?_cons_zero, List.getElem?_cons_succ] at hc0 hc1 hc2 hc3 hc4 hc5
  go_wp2
  have hF := (((((((hr2.set_ 0 (.int .i64 ln)).set_ 1 (.int .i64 ld)).set_ 2 (.int .i64 hn')).set_ 3 (.int .i64 hd)).set_ 4 (.int .i64 lp)).set_ 5 (.int .i64 hp)).alloc (.cells #[.int .i64 hp, .int .i64 hn', .int .i64 hd] 156))
  have hW := ((((((hb4.setCell (p := ⟨w.heap.size, 0, none⟩) (Nat.le_refl _) (.int .i64 ln)).setCell (p := ⟨w.heap.size, 1, none⟩) (Nat.le_refl _) (.int .i64 ld)).setCell (p := ⟨w.heap.size, 2, none⟩) (Nat.le_refl _) (.int .i64 hn')).setCell (p := ⟨w.heap.size, 3, none⟩) (Nat.le_refl _) (.int .i64 hd)).setCell (p := ⟨w.heap.size, 4, none⟩) (Nat.le_refl _) (.int .i64 lp)).setCell (p := ⟨w.heap.size, 5, none⟩) (Nat.le_refl _) (.int .i64 hp)).alloc (by simp [World.setCell]; have := hb4.size; omega) (.cells #[.int .i64 hp, .int .i64 hn', .int .i64 hd] 156)
  have g0 := hF.cell 0
  have g1 := hF.cell 1
  have g2 := hF.cell 2
  have g3 := hF.cell 3
  have g4 := hF.cell 4
  have g5 := hF.cell 5
  simp only [List.setIfInBounds_toArray, List.set_cons_zero, List.set_cons_succ, List.getElem?_toArray, List.getElem?_cons_zero, List.getElem?_cons_succ] at g0 g1 g2 g3 g4 g5
  exact bodyPost_ret (v := vPeak ln ld hn' hd lp hp) (by simp [results, Try.results132, go_sem, g0, g1, g2, g3, g4, g5]) rfl ⟨rfl, hW⟩
end Go.Proofs.Ytipablcbkoedbaa
