/- extreme at spot; peak. (Printed from XC1 by a script, then gone on with.) -/
import Derived.WalkKit
import Derived.WalkLawsBesides
import Derived.Deep.QuietTactic
import Derived.BigQuiet
import Derived.RegionTactic
import Derived.Lib.Hide
import Derived.Outline
import Derived.WalkSmall
import Derived.Test.YtipablcbkoedbaaProg
import Derived.Test.YtipablcbkoedbaaReg
import Derived.Test.YtipablcbkoedbaaA1
import Derived.Test.YtipablcbkoedbaaA2
import Derived.Test.YtipablcbkoedbaaB1
import Derived.Test.YtipablcbkoedbaaB2
import Derived.Test.YtipablcbkoedbaaB3
import Derived.Test.YtipablcbkoedbaaB4
import Derived.Test.YtipablcbkoedbaaC1
namespace Go.Proofs.Ytipablcbkoedbaa
open Go.RowKit

abbrev vSpot (p n d : Int) : Value := .agg #[.int .i64 p, .int .i64 n, .int .i64 d]

/-- What is asked of a comparison that may lay blocks of its own. -/
def BetterS (g : Nat) (lt : Int × Int × Int → Int × Int × Int → Bool) (zs : List (Int × Int × Int)) : Prop :=
  ∀ (W : World) (a b : Int × Int × Int), a ∈ zs → b ∈ zs → Calls Try.prog g #[vSpot a.1 a.2.1 a.2.2, vSpot b.1 b.2.1 b.2.2] W fun e w' => e = .returned (.bool (lt a b)) ∧ Below W.heap.size W w'

/-- A row of fractions in memory. -/
structure Ss (w : World) (b off : Nat) (zs : List (Int × Int × Int)) : Prop where
  p : ∀ j, j < zs.length → w.cell? ⟨b, off + j * 3, none⟩ = some (.int .i64 (zs.getD j (0, 0, 0)).1)
  n : ∀ j, j < zs.length → w.cell? ⟨b, off + j * 3 + 1, none⟩ = some (.int .i64 (zs.getD j (0, 0, 0)).2.1)
  d : ∀ j, j < zs.length → w.cell? ⟨b, off + j * 3 + 2, none⟩ = some (.int .i64 (zs.getD j (0, 0, 0)).2.2)
  lt : b < w.heap.size
theorem Ss.below {w W : World} {b off : Nat} {zs : List (Int × Int × Int)} (h : Ss w b off zs) {n : Nat} (hn : b < n) (hb : Below n w W) : Ss W b off zs :=
  ⟨fun j hj => (hb.cell (p := ⟨b, off + j * 3, none⟩) hn).trans (h.p j hj), fun j hj => (hb.cell (p := ⟨b, off + j * 3 + 1, none⟩) hn).trans (h.n j hj), fun j hj => (hb.cell (p := ⟨b, off + j * 3 + 2, none⟩) hn).trans (h.d j hj), Nat.lt_of_lt_of_le h.lt hb.size⟩

set_option maxHeartbeats 1600000 in
theorem extremeS_any (g : Nat) (eg : ∀ args w, (callFunc g args).run Try.prog w = .ok (.enter g args) w) (lt : Int × Int × Int → Int × Int × Int → Bool) (b off cap : Nat) (zs : List (Int × Int × Int)) (w : World) (hp : BetterS g lt zs) (hF : Ss w b off zs) (hn : zs.length ≤ 9223372036854775807) :
    Calls Try.prog 143 #[.slice (some ⟨b, off, none⟩) zs.length cap, .func (.func g) #[] #[]] w fun e w' => e = .returned (.tuple #[vSpot (extr lt zs (0, 0, 0)).1.1 (extr lt zs (0, 0, 0)).1.2.1 (extr lt zs (0, 0, 0)).1.2.2, .int .i64 (extr lt zs (0, 0, 0)).2]) ∧ Below w.heap.size w w' := by
  have hlt := hF.lt
  have HF := Lib.hid hF
  have HP := Lib.hid hp
  clear hF hp
  generalize hnn : zs.length = nn at *
  have HNN := Lib.hid hnn
  clear hnn
  go_enter Try.func143, Try.ntmps143
  go_wp2
  go_loopw [7, 12] (fun at' i wr => ∃ (k : Nat) (m : (Int × Int × Int) × Int), k ≤ nn ∧ i = .int .i64 k ∧ at' = .int .i64 m.2 ∧ exGo lt zs (0, 0, 0) k = m ∧ Blk wr w.heap.size 156 #[.int .i64 0, .int .i64 0, .int .i64 0] ∧ Blk wr (w.heap.size + 1) 156 #[.int .i64 m.1.1, .int .i64 m.1.2.1, .int .i64 m.1.2.2] ∧ Below w.heap.size w wr) (fun _ i _ => nn - (intOf i).toNat)
  case atStart => exact ⟨0, ((0, 0, 0), -1), Nat.zero_le _, rfl, rfl, rfl, (Blk.at_new _ _ rfl).alloc _, Blk.at_new _ _ (by simp), ((Below.refl _ _).alloc (Nat.le_refl _) _).alloc (by simp) _⟩
  case round =>
    obtain ⟨k, ⟨⟨bp, bn, bd⟩, at'⟩, hk, rfl, rfl, hm, hr0, hb0, hb⟩ := hrel
    have HM := Lib.hid hm
    have HT := Lib.hid (exGo_two lt zs (0, 0, 0) k (by rw [HNN.out]; exact hk))
    have hat2 : at' < k := by have := HT.out.2.1; rw [HM.out] at this; exact this
    have hat3 : 0 < k → 0 ≤ at' := by have := HT.out.2.2.1; rw [HM.out] at this; exact this
    have hat4 : -1 ≤ at' := by have := HT.out.1; rw [HM.out] at this; exact this
    clear hm
    dsimp only at *
    have hlt1 := hb0.lt
    by_cases hkn : k < nn
    · have hkl : k < zs.length := by rw [HNN.out]; exact hkn
      have hFr := HF.out.below hlt hb
      have hp1 := hFr.p k hkl
      have hn1 := hFr.n k hkl
      have hd1 := hFr.d k hkl
      have hmem : zs.getD k (0, 0, 0) ∈ zs := getD_mem zs k _ hkl
      have HMem := Lib.hid hmem
      have HFst := Lib.hid (exGo_first lt zs (0, 0, 0) k)
      have HYes := Lib.hid (exGo_yes lt zs (0, 0, 0) k)
      have HNo := Lib.hid (exGo_no lt zs (0, 0, 0) k)
      clear hmem hFr hkl
      generalize hz : zs.getD k (0, 0, 0) = z at *
      have HZ := Lib.hid hz
      clear hz
      obtain ⟨zp, zn, zd⟩ := z
      dsimp only at hp1 hn1 hd1
      have hbp := hb0.cell 0
      have hbn := hb0.cell 1
      have hbd := hb0.cell 2
      have hbf := hb0.frozen 0
      have hbg := hb0.frozen 1
      have hbh := hb0.frozen 2
      simp only [List.getElem?_toArray, List.getElem?_cons_zero, List.getElem?_cons_succ] at hbp hbn hbd
      have hltr : b < wr.heap.size := by have := hb.size; omega
      by_cases ha : at' < 0
      · have ha1 : decide (at' < 0) = true := by simp [ha]
        go_wp2_with fail
        go_roundw
        case rel =>
          refine ⟨k + 1, ((zp, zn, zd), (k : Int)), by omega, by go_num, rfl, HFst.out (by rw [HM.out]; exact ha), ?_, ?_, ?_⟩
          · exact ((((hr0.far (p := ⟨w.heap.size + 1, 0, none⟩) (by simp) _).far (p := ⟨w.heap.size + 1, 1, none⟩) (by simp) _).far (p := ⟨w.heap.size + 1, 2, none⟩) (by simp) _).alloc _)
          · exact (((hb0.set_ 0 _).set_ 1 _).set_ 2 _).alloc _
          · exact (((hb.setCell (p := ⟨w.heap.size + 1, 0, none⟩) (by simp) _).setCell (p := ⟨w.heap.size + 1, 1, none⟩) (by simp) _).setCell (p := ⟨w.heap.size + 1, 2, none⟩) (by simp) _).alloc (by simp [World.setCell]; have := hb.size; omega) _
        case measure => simp [intOf]; omega
      · have ha1 : decide (at' < 0) = false := by simp [ha]
        have hk0 : 0 < k := by omega
        have hcall := fun W => HP.out W (zp, zn, zd) (bp, bn, bd) HMem.out (by have := HT.out.2.2.2 hk0; rw [HM.out] at this; exact this)
        have HC := Lib.hid hcall
        clear hcall
        cases hq : lt (zp, zn, zd) (bp, bn, bd) with
        | true =>
          have HQ := Lib.hid hq
          clear hq
          go_wp2_with (go_at_fn g; refine (HC.out _).mono ?_; rintro e w1 ⟨rfl, hb1⟩; rw [HQ.out]; have hx := (Blk.new wr 156 #[.int .i64 zp, .int .i64 zn, .int .i64 zd]).below hb1; have hxp := hx.cell 0; have hxn := hx.cell 1; have hxd := hx.cell 2; have hr1 := (hr0.alloc (.cells #[.int .i64 zp, .int .i64 zn, .int .i64 zd] 156)).below hb1; have hbb := (hb0.alloc (.cells #[.int .i64 zp, .int .i64 zn, .int .i64 zd] 156)).below hb1; have hsz1 := hbb.lt; have hbf1 := hbb.frozen 0; have hbg1 := hbb.frozen 1; have hbh1 := hbb.frozen 2; have hbp1 := hbb.cell 0; have hbn1 := hbb.cell 1; have hbd1 := hbb.cell 2; have hb2 := (hb.alloc hb.size (.cells #[.int .i64 zp, .int .i64 zn, .int .i64 zd] 156)).trans (hb1.mono (by simp; have := hb.size; omega)); simp only [List.getElem?_toArray, List.getElem?_cons_zero, List.getElem?_cons_succ] at hxp hxn hxd hbp1 hbn1 hbd1)
          go_roundw
          case rel =>
            refine ⟨k + 1, ((zp, zn, zd), (k : Int)), by omega, by go_num, rfl, ?_, ?_, ?_, ?_⟩
            · rw [HYes.out (by rw [HM.out]; exact HQ.out)]
            · exact ((hr1.far (p := ⟨w.heap.size + 1, 0, none⟩) (by simp) _).far (p := ⟨w.heap.size + 1, 1, none⟩) (by simp) _).far (p := ⟨w.heap.size + 1, 2, none⟩) (by simp) _
            · exact ((hbb.set_ 0 _).set_ 1 _).set_ 2 _
            · exact ((hb2.setCell (p := ⟨w.heap.size + 1, 0, none⟩) (by simp) _).setCell (p := ⟨w.heap.size + 1, 1, none⟩) (by simp) _).setCell (p := ⟨w.heap.size + 1, 2, none⟩) (by simp) _
          case measure => simp [intOf]; omega
        | false =>
          have HQ := Lib.hid hq
          clear hq
          go_wp2_with (go_at_fn g; refine (HC.out _).mono ?_; rintro e w1 ⟨rfl, hb1⟩; rw [HQ.out])
          have hr1 := (hr0.alloc (.cells #[.int .i64 zp, .int .i64 zn, .int .i64 zd] 156)).below hb1
          have hbb := (hb0.alloc (.cells #[.int .i64 zp, .int .i64 zn, .int .i64 zd] 156)).below hb1
          have hb2 := (hb.alloc hb.size (.cells #[.int .i64 zp, .int .i64 zn, .int .i64 zd] 156)).trans (hb1.mono (by simp; have := hb.size; omega))
          go_roundw
          case rel => exact ⟨k + 1, ((bp, bn, bd), at'), by omega, by go_num, rfl, by rw [HNo.out (by rw [HM.out]; exact ha) (by rw [HM.out]; exact HQ.out), HM.out], hr1, hbb, hb2⟩
          case measure => simp [intOf]; omega
    · have hkk : k = nn := by omega
      subst hkk
      have hbp := hb0.cell 0
      have hbn := hb0.cell 1
      have hbd := hb0.cell 2
      have hrp := hr0.cell 0
      have hrn := hr0.cell 1
      have hrd := hr0.cell 2
      have hrf := hr0.frozen 0
      have hrg := hr0.frozen 1
      have hrh := hr0.frozen 2
      have hr1 := hr0.lt
      simp only [List.getElem?_toArray, List.getElem?_cons_zero, List.getElem?_cons_succ] at hbp hbn hbd hrp hrn hrd
      go_wp2
      refine bodyPost_ret (v := .tuple #[vSpot bp bn bd, .int .i64 at']) (by simp [results, Try.results143, go_sem, hrp, hrn, hrd]) rfl ⟨by unfold extr; rw [HNN.out, HM.out], ((hb.setCell (p := ⟨w.heap.size, 0, none⟩) (Nat.le_refl _) _).setCell (p := ⟨w.heap.size, 1, none⟩) (Nat.le_refl _) _).setCell (p := ⟨w.heap.size, 2, none⟩) (Nat.le_refl _) _⟩
end Go.Proofs.Ytipablcbkoedbaa
