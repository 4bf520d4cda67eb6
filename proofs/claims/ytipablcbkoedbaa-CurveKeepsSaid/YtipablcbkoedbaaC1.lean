/- extreme at Frac and at spot, with whatever comparison; peak. -/
import Derived.WalkKit
import Derived.WalkLawsBesides
import Derived.Deep.QuietTactic
import Derived.BigQuiet
import Derived.RegionTactic
import Derived.Lib.Hide
import Derived.Outline
import Derived.WalkSmall
import Derived.Test.YtipablcbkoedbaaProg
import Derived.Test.YtipablcbkoedbaaReg
import Derived.Test.YtipablcbkoedbaaA1
import Derived.Test.YtipablcbkoedbaaA2
import Derived.Test.YtipablcbkoedbaaB1
import Derived.Test.YtipablcbkoedbaaB2
import Derived.Test.YtipablcbkoedbaaB3
import Derived.Test.YtipablcbkoedbaaB4
namespace Go.Proofs.Ytipablcbkoedbaa
open Go.RowKit

theorem getD_mem {α : Type} (zs : List α) (k : Nat) (d : α) (h : k < zs.length) : zs.getD k d ∈ zs := by
  have e : zs.getD k d = zs[k] := by simp [List.getD_eq_getElem?_getD, h]
  rw [e]; exact List.getElem_mem _

/-- The first best one of the first k, and its place. -/
def exGo {α : Type} (lt : α → α → Bool) (zs : List α) (d : α) : Nat → α × Int
  | 0 => (d, -1)
  | k + 1 => if (exGo lt zs d k).2 < 0 ∨ lt (zs.getD k d) (exGo lt zs d k).1 = true then (zs.getD k d, k) else exGo lt zs d k

theorem exGo_two {α : Type} (lt : α → α → Bool) (zs : List α) (d : α) : ∀ k, k ≤ zs.length → -1 ≤ (exGo lt zs d k).2 ∧ (exGo lt zs d k).2 < k ∧ (0 < k → 0 ≤ (exGo lt zs d k).2) ∧ (0 < k → (exGo lt zs d k).1 ∈ zs)
  | 0, _ => by simp [exGo]
  | k + 1, h => by
    obtain ⟨h1, h2, h3, h4⟩ := exGo_two lt zs d k (by omega)
    have hm : zs.getD k d ∈ zs := getD_mem zs k d (by omega)
    unfold exGo
    split
    · refine ⟨by show (-1 : Int) ≤ k; omega, by show (k : Int) < ((k + 1 : Nat) : Int); omega, fun _ => by show (0 : Int) ≤ k; omega, fun _ => hm⟩
    · rename_i hn
      refine ⟨h1, by omega, fun _ => ?_, fun _ => ?_⟩
      · by_cases hk : 0 < k
        · exact h3 hk
        · exact absurd (Or.inl (by omega)) hn
      · by_cases hk : 0 < k
        · exact h4 hk
        · exact absurd (Or.inl (by omega)) hn

theorem exGo_first {α : Type} (lt : α → α → Bool) (zs : List α) (d : α) (k : Nat) (h : (exGo lt zs d k).2 < 0) : exGo lt zs d (k + 1) = (zs.getD k d, (k : Int)) := by
  rw [exGo, if_pos (Or.inl h)]
theorem exGo_yes {α : Type} (lt : α → α → Bool) (zs : List α) (d : α) (k : Nat) (h : lt (zs.getD k d) (exGo lt zs d k).1 = true) : exGo lt zs d (k + 1) = (zs.getD k d, (k : Int)) := by
  rw [exGo, if_pos (Or.inr h)]
theorem exGo_no {α : Type} (lt : α → α → Bool) (zs : List α) (d : α) (k : Nat) (h0 : ¬ (exGo lt zs d k).2 < 0) (h : lt (zs.getD k d) (exGo lt zs d k).1 = false) : exGo lt zs d (k + 1) = exGo lt zs d k := by
  rw [exGo, if_neg (by rw [h]; simp only [h0, false_or, Bool.false_eq_true, not_false_iff])]
abbrev extr {α : Type} (lt : α → α → Bool) (zs : List α) (d : α) : α × Int := exGo lt zs d zs.length

/-- What is asked of a comparison that may lay blocks of its own. -/
def BetterF (g : Nat) (lt : Int × Int → Int × Int → Bool) (zs : List (Int × Int)) : Prop :=
  ∀ (W : World) (a b : Int × Int), a ∈ zs → b ∈ zs → Calls Try.prog g #[vFrac a.1 a.2, vFrac b.1 b.2] W fun e w' => e = .returned (.bool (lt a b)) ∧ Below W.heap.size W w'

/-- A row of fractions in memory. -/
structure Fs (w : World) (b off : Nat) (zs : List (Int × Int)) : Prop where
  n : ∀ j, j < zs.length → w.cell? ⟨b, off + j * 2, none⟩ = some (.int .i64 (zs.getD j (0, 0)).1)
  d : ∀ j, j < zs.length → w.cell? ⟨b, off + j * 2 + 1, none⟩ = some (.int .i64 (zs.getD j (0, 0)).2)
  lt : b < w.heap.size
theorem Fs.below {w W : World} {b off : Nat} {zs : List (Int × Int)} (h : Fs w b off zs) {n : Nat} (hn : b < n) (hb : Below n w W) : Fs W b off zs :=
  ⟨fun j hj => (hb.cell (p := ⟨b, off + j * 2, none⟩) hn).trans (h.n j hj), fun j hj => (hb.cell (p := ⟨b, off + j * 2 + 1, none⟩) hn).trans (h.d j hj), Nat.lt_of_lt_of_le h.lt hb.size⟩

set_option maxHeartbeats 1600000 in
theorem extremeF_any (g : Nat) (eg : ∀ args w, (callFunc g args).run Try.prog w = .ok (.enter g args) w) (lt : Int × Int → Int × Int → Bool) (b off cap : Nat) (zs : List (Int × Int)) (w : World) (hp : BetterF g lt zs) (hF : Fs w b off zs) (hn : zs.length ≤ 9223372036854775807) :
    Calls Try.prog 89 #[.slice (some ⟨b, off, none⟩) zs.length cap, .func (.func g) #[] #[]] w fun e w' => e = .returned (.tuple #[vFrac (extr lt zs (0, 0)).1.1 (extr lt zs (0, 0)).1.2, .int .i64 (extr lt zs (0, 0)).2]) ∧ Below w.heap.size w w' := by
  have hlt := hF.lt
  have HF := Lib.hid hF
  have HP := Lib.hid hp
  clear hF hp
  generalize hnn : zs.length = nn at *
  have HNN := Lib.hid hnn
  clear hnn
  go_enter Try.func89, Try.ntmps89
  go_wp2
  go_loopw [7, 12] (fun at' i wr => ∃ (k : Nat) (m : (Int × Int) × Int), k ≤ nn ∧ i = .int .i64 k ∧ at' = .int .i64 m.2 ∧ exGo lt zs (0, 0) k = m ∧ Blk wr w.heap.size 30 #[.int .i64 0, .int .i64 0] ∧ Blk wr (w.heap.size + 1) 30 #[.int .i64 m.1.1, .int .i64 m.1.2] ∧ Below w.heap.size w wr) (fun _ i _ => nn - (intOf i).toNat)
  case atStart => exact ⟨0, ((0, 0), -1), Nat.zero_le _, rfl, rfl, rfl, (Blk.at_new _ _ rfl).alloc _, Blk.at_new _ _ (by simp), ((Below.refl _ _).alloc (Nat.le_refl _) _).alloc (by simp) _⟩
  case round =>
    obtain ⟨k, ⟨⟨bn, bd⟩, at'⟩, hk, rfl, rfl, hm, hr0, hb0, hb⟩ := hrel
    have HM := Lib.hid hm
    have HT := Lib.hid (exGo_two lt zs (0, 0) k (by rw [HNN.out]; exact hk))
    have hat2 : at' < k := by have := HT.out.2.1; rw [HM.out] at this; exact this
    have hat3 : 0 < k → 0 ≤ at' := by have := HT.out.2.2.1; rw [HM.out] at this; exact this
    have hat4 : -1 ≤ at' := by have := HT.out.1; rw [HM.out] at this; exact this
    clear hm
    dsimp only at *
    have hlt1 := hb0.lt
    by_cases hkn : k < nn
    · have hkl : k < zs.length := by rw [HNN.out]; exact hkn
      have hFr := HF.out.below hlt hb
      have hn1 := hFr.n k hkl
      have hd1 := hFr.d k hkl
      have hmem : zs.getD k (0, 0) ∈ zs := getD_mem zs k _ hkl
      have HMem := Lib.hid hmem
      have HFst := Lib.hid (exGo_first lt zs (0, 0) k)
      have HYes := Lib.hid (exGo_yes lt zs (0, 0) k)
      have HNo := Lib.hid (exGo_no lt zs (0, 0) k)
      clear hmem hFr hkl
      generalize hz : zs.getD k (0, 0) = z at *
      have HZ := Lib.hid hz
      clear hz
      obtain ⟨zn, zd⟩ := z
      dsimp only at hn1 hd1
      have hbn := hb0.cell 0
      have hbd := hb0.cell 1
      have hbf := hb0.frozen 0
      have hbg := hb0.frozen 1
      simp only [List.getElem?_toArray, List.getElem?_cons_zero, List.getElem?_cons_succ] at hbn hbd
      have hltr : b < wr.heap.size := by have := hb.size; omega
      by_cases ha : at' < 0
      · have ha1 : decide (at' < 0) = true := by simp [ha]
        go_wp2_with fail
        go_roundw
        case rel =>
          refine ⟨k + 1, ((zn, zd), (k : Int)), by omega, by go_num, rfl, HFst.out (by rw [HM.out]; exact ha), ?_, ?_, ?_⟩
          · exact (((hr0.far (p := ⟨w.heap.size + 1, 0, none⟩) (by simp) _).far (p := ⟨w.heap.size + 1, 1, none⟩) (by simp) _).alloc _)
          · exact ((hb0.set_ 0 _).set_ 1 _).alloc _
          · exact ((hb.setCell (p := ⟨w.heap.size + 1, 0, none⟩) (by simp) _).setCell (p := ⟨w.heap.size + 1, 1, none⟩) (by simp) _).alloc (by simp [World.setCell]; have := hb.size; omega) _
        case measure => simp [intOf]; omega
      · have ha1 : decide (at' < 0) = false := by simp [ha]
        have hk0 : 0 < k := by omega
        have hcall := fun W => HP.out W (zn, zd) (bn, bd) HMem.out (by have := HT.out.2.2.2 hk0; rw [HM.out] at this; exact this)
        have HC := Lib.hid hcall
        clear hcall
        cases hq : lt (zn, zd) (bn, bd) with
        | true =>
          have HQ := Lib.hid hq
          clear hq
          go_wp2_with (go_at_fn g; refine (HC.out _).mono ?_; rintro e w1 ⟨rfl, hb1⟩; rw [HQ.out]; have hx := (Blk.new wr 30 #[.int .i64 zn, .int .i64 zd]).below hb1; have hxn := hx.cell 0; have hxd := hx.cell 1; have hr1 := (hr0.alloc (.cells #[.int .i64 zn, .int .i64 zd] 30)).below hb1; have hbb := (hb0.alloc (.cells #[.int .i64 zn, .int .i64 zd] 30)).below hb1; have hsz1 := hbb.lt; have hbf1 := hbb.frozen 0; have hbg1 := hbb.frozen 1; have hbn1 := hbb.cell 0; have hbd1 := hbb.cell 1; have hb2 := (hb.alloc hb.size (.cells #[.int .i64 zn, .int .i64 zd] 30)).trans (hb1.mono (by simp; have := hb.size; omega)); simp only [List.getElem?_toArray, List.getElem?_cons_zero, List.getElem?_cons_succ] at hxn hxd hbn1 hbd1)
          go_roundw
          case rel =>
            refine ⟨k + 1, ((zn, zd), (k : Int)), by omega, by go_num, rfl, ?_, ?_, ?_, ?_⟩
            · rw [HYes.out (by rw [HM.out]; exact HQ.out)]
            · exact (hr1.far (p := ⟨w.heap.size + 1, 0, none⟩) (by simp) _).far (p := ⟨w.heap.size + 1, 1, none⟩) (by simp) _
            · exact (hbb.set_ 0 _).set_ 1 _
            · exact (hb2.setCell (p := ⟨w.heap.size + 1, 0, none⟩) (by simp) _).setCell (p := ⟨w.heap.size + 1, 1, none⟩) (by simp) _
          case measure => simp [intOf]; omega
        | false =>
          have HQ := Lib.hid hq
          clear hq
          go_wp2_with (go_at_fn g; refine (HC.out _).mono ?_; rintro e w1 ⟨rfl, hb1⟩; rw [HQ.out])
          have hr1 := (hr0.alloc (.cells #[.int .i64 zn, .int .i64 zd] 30)).below hb1
          have hbb := (hb0.alloc (.cells #[.int .i64 zn, .int .i64 zd] 30)).below hb1
          have hb2 := (hb.alloc hb.size (.cells #[.int .i64 zn, .int .i64 zd] 30)).trans (hb1.mono (by simp; have := hb.size; omega))
          go_roundw
          case rel => exact ⟨k + 1, ((bn, bd), at'), by omega, by go_num, rfl, by rw [HNo.out (by rw [HM.out]; exact ha) (by rw [HM.out]; exact HQ.out), HM.out], hr1, hbb, hb2⟩
          case measure => simp [intOf]; omega
    · have hkk : k = nn := by omega
      subst hkk
      have hbn := hb0.cell 0
      have hbd := hb0.cell 1
      have hrn := hr0.cell 0
      have hrd := hr0.cell 1
      have hrf := hr0.frozen 0
      have hrg := hr0.frozen 1
      have hr1 := hr0.lt
      simp only [List.getElem?_toArray, List.getElem?_cons_zero, List.getElem?_cons_succ] at hbn hbd hrn hrd
      go_wp2
      refine bodyPost_ret (v := .tuple #[vFrac bn bd, .int .i64 at']) (by simp [results, Try.results89, go_sem, hrn, hrd]) rfl ⟨by unfold extr; rw [HNN.out, HM.out], (hb.setCell (p := ⟨w.heap.size, 0, none⟩) (Nat.le_refl _) _).setCell (p := ⟨w.heap.size, 1, none⟩) (Nat.le_refl _) _⟩
end Go.Proofs.Ytipablcbkoedbaa
