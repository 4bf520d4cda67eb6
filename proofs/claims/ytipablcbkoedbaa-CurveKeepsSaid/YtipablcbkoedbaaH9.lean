/- The reference: Least. -/
import Derived.RangeFuncNested
import Derived.Shelf.Abstract
import Derived.RangeFuncBound
import Derived.RangeFuncCalls
import Derived.RangeFuncLeaves
import Derived.WalkKit
import Derived.OwnWalkIn
import Derived.OwnWalk
import Derived.TacticsInMore
import Derived.LoopNIn
import Derived.LoopIn
import Derived.WalkLawsBesides
import Derived.Deep.QuietTactic
import Derived.BigQuiet
import Derived.RegionTactic
import Derived.Lib.Hide
import Derived.Outline
import Derived.WalkSmall
import Derived.Test.YtipablcbkoedbaaProg
import Derived.Test.YtipablcbkoedbaaH8
import Derived.Test.YtipablcbkoedbaaReg6
namespace Go.Proofs.Ytipablcbkoedbaa
open Go.RowKit

theorem map_getD {β : Type} (f : CV → β) (cs : List CV) (k : Nat) (hk : k < cs.length) (d : β) : (cs.map f).getD k d = f (cs.getD k ⟨none, 0, 0, 0, []⟩) := by
  simp [List.getD_eq_getElem?_getD, hk]
abbrev vSteep (i a b e : Int) : Value := .agg #[.int .i64 i, .int .i64 a, .int .i64 b, .int .i64 e]

set_option maxRecDepth 100000 in
set_option maxHeartbeats 1600000 in
theorem RLeast_any (A : Option Addr) (n cap : Nat) (cs : List CV) (x : Int) (w : World) (h : LAt w A n cs) (hm : n ≤ 9223372036854775807) :
    Calls Try.prog 31 #[.slice A n cap, .int .i64 x] w fun e w' => e = .returned (vSteep (leB cs x).2 (leB cs x).1.1 (leB cs x).1.2 (shErr cs x)) ∧ Below w.heap.size w w' := by
  have HS := Lib.hid (fun W (hW : LAt W A n cs) => Rsheaf_any A n cap cs x W hW hm)
  have hbw := (Below.refl w.heap.size w).alloc (Nat.le_refl _) (.cells #[.int .i64 0, .int .i64 0, .int .i64 0, .int .i64 0] 51)
  have hrb := Blk.new w 51 #[.int .i64 0, .int .i64 0, .int .i64 0, .int .i64 0]
  have HA := Lib.hid (h.below hbw)
  by_cases hz : shErr cs x = 0
  case neg =>
    have hz1 : (shErr cs x != 0) = true := by simpa using hz
    have HE := Lib.hid (show leB cs x = ((0, 0), 0) by unfold leB; rw [if_neg hz])
    clear hz h
    generalize shErr cs x = se at *
    go_enter Try.func31, Try.ntmps31
    go_wp2_with fail
    refine (HS.out _ HA.out).mono ?_; rintro e w1 ⟨rfl, hb1⟩
    have hr1 := hrb.below hb1
    have rc0 := hr1.cell 0
    have rc1 := hr1.cell 1
    have rc2 := hr1.cell 2
    have rc3 := hr1.cell 3
    simp only [List.getElem?_toArray, List.getElem?_cons_zero, List.getElem?_cons_succ] at rc0 rc1 rc2 rc3
    have rf0 := hr1.frozen 0
    have rf1 := hr1.frozen 1
    have rf2 := hr1.frozen 2
    have rf3 := hr1.frozen 3
    have rl := hr1.lt
    have hb2 := hbw.trans (hb1.mono hbw.size)
    go_wp2
    have hF := blk_set4 hr1 (.int .i64 0) (.int .i64 0) (.int .i64 0) (.int .i64 se)
    have k0 := hF.cell 0
    have k1 := hF.cell 1
    have k2 := hF.cell 2
    have k3 := hF.cell 3
    simp only [List.getElem?_toArray, List.getElem?_cons_zero, List.getElem?_cons_succ] at k0 k1 k2 k3
    exact bodyPost_ret (v := vSteep 0 0 0 se) (by simp [results, Try.results31, go_sem, k0, k1, k2, k3]) rfl ⟨by rw [HE.out], below_set4 hb2 (Nat.le_refl _) _ _ _ _⟩
  have ho := sh_zero hz
  have HO := Lib.hid ho
  have hpos := ho.pos
  have hn0 : 0 < n := by have := h.len; omega
  have hn12 : n ≤ 12 := by have := ho.le; have := h.len; omega
  have HL := Lib.hid h.len
  have HB := Lib.hid (show leB cs x = exGo ltF (cs.map (cV x)) (0, 0) n by unfold leB; rw [if_pos hz]; unfold extr; rw [List.length_map, h.len])
  have hfr := cV_frb ho
  obtain ⟨b, off, hAe, hcs⟩ := h.at_ hn0
  subst hAe
  have HCs := Lib.hid hcs
  rw [hz] at HS
  rw [hz]
  have hlen2 : (cs.map (cV x)).length = n := by rw [List.length_map]; exact h.len
  have HFr := Lib.hid hfr
  have hbc : b < w.heap.size := hcs.lt
  clear hz h ho hcs hfr hpos
  go_enter Try.func31, Try.ntmps31
  go_wp2_with fail
  refine (HS.out _ HA.out).mono ?_; rintro e w1 ⟨rfl, hb1⟩
  have hr1 := hrb.below hb1
  have hb2 := hbw.trans (hb1.mono hbw.size)
  have hr1l := hr1.lt
  have hkl : 0 < cs.length := by rw [HL.out]; omega
  have hcs' := HCs.out.below hb2
  have hs := hcs'.s 0 hkl
  have he := hcs'.e 0 hkl
  have hcl := hcs'.lt
  have hat := hcs'.at_ 0 hkl
  obtain ⟨hvk, hek1, hek2⟩ := HO.out.all 0 hkl
  have hlo := HO.out.lo 0 hkl
  have hhi := HO.out.hi 0 hkl
  have hz : (cs.map (cV x)).getD 0 (0, 0) = (valN (cvks cs 0) x, valD (cvks cs 0) x) := map_getD (cV x) cs 0 hkl (0, 0)
  have HZ := Lib.hid hz
  obtain ⟨vb1, vb2, vb3, vb4⟩ := val_bd hvk hlo
  have hcop := val_cop hvk x
  have hlk := hat.len
  have hcp := hvk.pos
  obtain ⟨b', off', hAe', hkn'⟩ := HCs.out.at_ 0 hkl |>.at_ (by omega)
  rw [hAe', ← hlk] at hs
  clear hz hcs' hat
  generalize cvcap cs 0 = cc at *
  generalize cverr cs 0 = ce at *
  generalize cvks cs 0 = ck at *
  have HAt := Lib.hid (fun W (hW2 : Kn W b' off' ck) => At_any b' off' cc ce ck x W hW2 hvk hlo hhi)
  have HT := Lib.hid hkn'
  clear hkn' hvk hlo hhi hlk hAe' hkl
  generalize valN ck x = vn at *
  generalize valD ck x = vd at *
  simp only [Nat.zero_mul, Nat.add_zero] at hs he
  go_wp2_with fail
  refine (HAt.out _ (HT.out.below hb2)).mono ?_; rintro e w2 ⟨rfl, hb3⟩
  have hb4 := hb2.trans (hb3.mono hb2.size)
  have hb5 := hb4.alloc hb4.size (.cells #[.int .i64 0, .int .i64 vn, .int .i64 vd, .int .i64 0] 51)
  have HR2 := Lib.hid ((hr1.below hb3).alloc (.cells #[.int .i64 0, .int .i64 vn, .int .i64 vd, .int .i64 0] 51))
  have HG2 := Lib.hid (Blk.new w2 51 #[.int .i64 0, .int .i64 vn, .int .i64 vd, .int .i64 0])
  have HB5 := Lib.hid hb5
  have hex1 : exGo ltF (cs.map (cV x)) (0, 0) 1 = ((vn, vd), 0) := by
    rw [exGo_first _ _ _ _ (by simp [exGo]), HZ.out]; rfl
  have HX1 := Lib.hid hex1
  have hg2 : w.heap.size < w2.heap.size := (hr1.below hb3).lt
  clear hex1 hb5 hb4 hb3 hb2 hb1 hr1 hr1l hs he HAt HT HZ vb1 vb2 vb3 vb4 hcop hbw hrb hcl hek1 hek2 hcp
  go_wp2_with fail
  go_loopw [7] (fun i wr => ∃ (k : Nat) (bn bd bi : Int), 1 ≤ k ∧ k ≤ n ∧ i = .int .i64 k ∧ exGo ltF (cs.map (cV x)) (0, 0) k = ((bn, bd), bi) ∧ Blk wr w.heap.size 51 #[.int .i64 0, .int .i64 0, .int .i64 0, .int .i64 0] ∧
      Blk wr w2.heap.size 51 #[.int .i64 bi, .int .i64 bn, .int .i64 bd, .int .i64 0] ∧ Below w.heap.size w wr) (fun i _ => n - (intOf i).toNat)
  case atStart => exact ⟨1, vn, vd, 0, Nat.le_refl _, hn0, rfl, HX1.out, HR2.out, HG2.out, HB5.out⟩
  case round =>
    clear HX1 HR2 HG2 HB5
    obtain ⟨k, bn, bd, bi, hk1, hk2, rfl, hex, hrr, hgg, hb⟩ := hrel
    have HEx := Lib.hid hex
    have hbest := (exGo_two ltF (cs.map (cV x)) (0, 0) k (by omega)).2.2.2 (by omega)
    have hidx := (exGo_two ltF (cs.map (cV x)) (0, 0) k (by omega)).2.2.1 (by omega)
    rw [hex] at hbest hidx
    have hfb := HFr.out _ hbest
    have HFb := Lib.hid hfb
    have HIdx := Lib.hid hidx
    have HRr := Lib.hid hrr
    have HGg := Lib.hid hgg
    have ggl := hgg.lt
    clear hex hbest hidx hfb
    by_cases hkn : k < n
    · have hkl : k < cs.length := by rw [HL.out]; omega
      have hcs' := HCs.out.below hb
      have hs := hcs'.s k hkl
      have he := hcs'.e k hkl
      have hcl := hcs'.lt
      have hat := hcs'.at_ k hkl
      obtain ⟨hvk, hek1, hek2⟩ := HO.out.all k hkl
      have hlo := HO.out.lo k hkl
      have hhi := HO.out.hi k hkl
      have hz : (cs.map (cV x)).getD k (0, 0) = (valN (cvks cs k) x, valD (cvks cs k) x) := map_getD (cV x) cs k hkl (0, 0)
      have HZ := Lib.hid hz
      obtain ⟨vb1, vb2, vb3, vb4⟩ := val_bd hvk hlo
      have hcop := val_cop hvk x
      have hlk := hat.len
      have hcp := hvk.pos
      obtain ⟨b', off', hAe', hkn'⟩ := HCs.out.at_ k hkl |>.at_ (by omega)
      rw [hAe', ← hlk] at hs
      clear hz hcs' hat
      generalize cvcap cs k = cc at *
      generalize cverr cs k = ce at *
      generalize cvks cs k = ck at *
      have HAt := Lib.hid (fun W (hW2 : Kn W b' off' ck) => At_any b' off' cc ce ck x W hW2 hvk hlo hhi)
      have HT := Lib.hid hkn'
      clear hkn' hvk hlo hhi hlk hAe' hkl
      generalize valN ck x = vn at *
      generalize valD ck x = vd at *
      have hzz := HZ.out
      have hmem : (cs.map (cV x)).getD k (0, 0) ∈ cs.map (cV x) := getD_mem _ _ _ (by omega)
      have hzz2 : (cs.map (cV x)).getD k (0, 0) = (vn, vd) := hzz
      rw [hzz2] at hmem
      have hfv := HFr.out _ hmem
      have hord : ∀ W, Calls Try.prog 95 #[vFrac vn vd, vFrac bn bd] W fun e w' => e = .returned (.int .i64 (ordF vn vd bn bd)) ∧ Below W.heap.size W w' :=
        fun W => Order_any vn vd bn bd W (hfv.prod HFb.out).1 (hfv.prod HFb.out).2 (HFb.out.prod hfv).1 (HFb.out.prod hfv).2
      have HOrd := Lib.hid hord
      have hlt : ltF ((cs.map (cV x)).getD k (0, 0)) (bn, bd) = decide (ordF vn vd bn bd < 0) := by rw [hzz2]
      have HLt := Lib.hid hlt
      have HZ2 := Lib.hid hzz2
      clear hzz hmem hfv hord hlt hzz2 hcop vb1 vb2 vb3 vb4
      generalize ordF vn vd bn bd = o at *
      go_wp2_with fail
      refine (HAt.out _ (HT.out.below hb)).mono ?_; rintro e w3 ⟨rfl, hb3⟩
      have hb4 := hb.trans (hb3.mono hb.size)
      have hb5 := hb4.alloc hb4.size (.cells #[.int .i64 vn, .int .i64 vd] 30)
      have hg3 := (hgg.below hb3).alloc (.cells #[.int .i64 vn, .int .i64 vd] 30)
      have hr3 := (hrr.below hb3).alloc (.cells #[.int .i64 vn, .int .i64 vd] 30)
      have hf3 := Blk.new w3 30 #[.int .i64 vn, .int .i64 vd]
      have hg3' := hgg.below hb3
      have gc0 := hg3'.cell 0
      have gc1 := hg3'.cell 1
      have gc2 := hg3'.cell 2
      have gc3 := hg3'.cell 3
      simp only [List.getElem?_toArray, List.getElem?_cons_zero, List.getElem?_cons_succ] at gc0 gc1 gc2 gc3
      have gl := hg3'.lt
      go_wp2_with fail
      refine (HOrd.out _).mono ?_; rintro e w4 ⟨rfl, hb6⟩
      have hb7 := hb5.trans (hb6.mono hb5.size)
      have hg4 := hg3.below hb6
      have hr4 := hr3.below hb6
      have hf4 := hf3.below hb6
      have HG4 := Lib.hid hg4
      have HR4 := Lib.hid hr4
      clear gc0 gc1 gc2 gc3 gl hg3' hg3 hr3 hf3
      have gc0 := hg4.cell 0
      have gc1 := hg4.cell 1
      have gc2 := hg4.cell 2
      have gc3 := hg4.cell 3
      simp only [List.getElem?_toArray, List.getElem?_cons_zero, List.getElem?_cons_succ] at gc0 gc1 gc2 gc3
      have fc0 := hf4.cell 0
      have fc1 := hf4.cell 1
      simp only [List.getElem?_toArray, List.getElem?_cons_zero, List.getElem?_cons_succ] at fc0 fc1
      have gf0 := hg4.frozen 0
      have gf1 := hg4.frozen 1
      have gf2 := hg4.frozen 2
      have gf3 := hg4.frozen 3
      have gl := hg4.lt
      by_cases ho : o < 0
      · have HEx2 := Lib.hid (show exGo ltF (cs.map (cV x)) (0, 0) (k + 1) = ((vn, vd), (k : Int)) by
          rw [exGo_yes _ _ _ _ (by rw [HEx.out, HLt.out]; simpa using ho), HZ2.out])
        go_wp2
        have hS := blk_set4 HG4.out (.int .i64 k) (.int .i64 vn) (.int .i64 vd) (.int .i64 0)
        have hR := (((HR4.out.far (p := ⟨w2.heap.size, 0, none⟩) (by simp; omega) (.int .i64 k)).far (p := ⟨w2.heap.size, 1, none⟩) (by simp; omega) (.int .i64 vn)).far (p := ⟨w2.heap.size, 2, none⟩) (by simp; omega) (.int .i64 vd)).far (p := ⟨w2.heap.size, 3, none⟩) (by simp; omega) (.int .i64 0)
        have hbb := below_set4 hb7 (g := w2.heap.size) (by omega) (.int .i64 k) (.int .i64 vn) (.int .i64 vd) (.int .i64 0)
        go_roundw
        case rel => exact ⟨k + 1, vn, vd, k, by omega, by omega, by go_num, HEx2.out, hR, hS, hbb⟩
        case measure => simp [intOf]; omega
      · have HEx2 := Lib.hid (show exGo ltF (cs.map (cV x)) (0, 0) (k + 1) = ((bn, bd), bi) by
          rw [exGo_no _ _ _ _ (by rw [HEx.out]; have := HIdx.out; dsimp only; omega) (by rw [HEx.out, HLt.out]; simpa using ho), HEx.out])
        go_wp2
        go_roundw
        case rel => exact ⟨k + 1, bn, bd, bi, by omega, by omega, by go_num, HEx2.out, HR4.out, HG4.out, hb7⟩
        case measure => simp [intOf]; omega
    · have hkk : k = n := by omega
      subst hkk
      have HBe := Lib.hid (show leB cs x = ((bn, bd), bi) by rw [HB.out, HEx.out])
      have gc0 := hgg.cell 0
      have gc1 := hgg.cell 1
      have gc2 := hgg.cell 2
      have gc3 := hgg.cell 3
      simp only [List.getElem?_toArray, List.getElem?_cons_zero, List.getElem?_cons_succ] at gc0 gc1 gc2 gc3
      have rc0 := hrr.cell 0
      have rc1 := hrr.cell 1
      have rc2 := hrr.cell 2
      have rc3 := hrr.cell 3
      simp only [List.getElem?_toArray, List.getElem?_cons_zero, List.getElem?_cons_succ] at rc0 rc1 rc2 rc3
      have rf0 := hrr.frozen 0
      have rf1 := hrr.frozen 1
      have rf2 := hrr.frozen 2
      have rf3 := hrr.frozen 3
      go_wp2
      have hF := blk_set4 HRr.out (.int .i64 bi) (.int .i64 bn) (.int .i64 bd) (.int .i64 0)
      have k0 := hF.cell 0
      have k1 := hF.cell 1
      have k2 := hF.cell 2
      have k3 := hF.cell 3
      simp only [List.getElem?_toArray, List.getElem?_cons_zero, List.getElem?_cons_succ] at k0 k1 k2 k3
      exact bodyPost_ret (v := vSteep bi bn bd 0) (by simp [results, Try.results31, go_sem, k0, k1, k2, k3]) rfl ⟨by rw [HBe.out], below_set4 hb (Nat.le_refl _) _ _ _ _⟩
end Go.Proofs.Ytipablcbkoedbaa
