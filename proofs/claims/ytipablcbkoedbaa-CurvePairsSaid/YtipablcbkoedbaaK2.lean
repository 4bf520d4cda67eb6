/- The reference: Over; CheckOver of both. -/
import Derived.RangeFuncNested
import Derived.Shelf.Abstract
import Derived.RangeFuncBound
import Derived.RangeFuncCalls
import Derived.RangeFuncLeaves
import Derived.WalkKit
import Derived.OwnWalkIn
import Derived.OwnWalk
import Derived.TacticsInMore
import Derived.LoopNIn
import Derived.LoopIn
import Derived.WalkLawsBesides
import Derived.Deep.QuietTactic
import Derived.BigQuiet
import Derived.RegionTactic
import Derived.Lib.Hide
import Derived.Outline
import Derived.WalkSmall
import Derived.Test.YtipablcbkoedbaaProg
import Derived.Lib.SmallJoins
import Derived.Test.YtipablcbkoedbaaK1
import Derived.Test.YtipablcbkoedbaaJ2
namespace Go.Proofs.Ytipablcbkoedbaa
open Go.RowKit

theorem ints_map (f : Int → Int × Int) (lo hi : Int) : (intsOf lo hi).map f = (List.range (hi + 1 - lo).toNat).map fun (j : Nat) => f (lo + (j : Int)) := by
  unfold intsOf; rw [List.map_map]; rfl

set_option maxRecDepth 100000 in
set_option maxHeartbeats 3200000 in
theorem ROver_any (A : Option Addr) (n cap : Nat) (err : Int) (ks : List (Int × Int)) (lo hi : Int) (w : World) (h : CAt w A n ks) (hm : n ≤ 9223372036854775807) :
    Calls Try.prog 24 #[vCv A n cap err, vSpan lo hi] w fun e w' => e = .returned (.tuple #[(ovPk ks err lo hi).v, .int .i64 (ovErr ks err lo hi)]) ∧ Below w.heap.size w w' := by
  have hS := fun W (hW : LAt W (some ⟨w.heap.size + 3, 0, none⟩) 1 [⟨A, n, cap, err, ks⟩]) => Rover_any (some ⟨w.heap.size + 3, 0, none⟩) 1 1 [⟨A, n, cap, err, ks⟩] lo hi W hW (by omega) (by omega)
  have hSe : spanErr [⟨A, n, cap, err, ks⟩] lo hi = ovErr ks err lo hi := rfl
  rw [hSe] at hS
  have HS := Lib.hid hS
  clear hS hSe
  generalize hW : (((w.alloc (.cells #[.slice A n cap, .int .i64 err] 24)).alloc (.cells #[.int .i64 lo, .int .i64 hi] 26)).alloc (.cells #[.int .i64 0, .int .i64 0, .int .i64 0, .int .i64 0, .int .i64 0, .int .i64 0] 40)).alloc (.cells #[.slice A n cap, .int .i64 err] 24) = W
  have hbw : Below w.heap.size w W := by rw [← hW]; exact ((((Below.refl _ _).alloc (Nat.le_refl _) _).alloc (by simp) _).alloc (by simp; omega) _).alloc (by simp; omega) _
  have hcb : Blk W w.heap.size 24 #[.slice A n cap, .int .i64 err] := by rw [← hW]; exact (((Blk.at_new _ _ rfl).alloc _).alloc _).alloc _
  have hsb : Blk W (w.heap.size + 1) 26 #[.int .i64 lo, .int .i64 hi] := by rw [← hW]; exact ((Blk.at_new _ _ (by simp)).alloc _).alloc _
  have hpb : Blk W (w.heap.size + 2) 40 #[.int .i64 0, .int .i64 0, .int .i64 0, .int .i64 0, .int .i64 0, .int .i64 0] := by rw [← hW]; exact (Blk.at_new _ _ (by simp)).alloc _
  have hlb : Blk W (w.heap.size + 3) 24 #[.slice A n cap, .int .i64 err] := by rw [← hW]; exact Blk.at_new _ _ (by simp)
  have HWE := Lib.hid hW
  clear hW
  have hat := h.below hbw
  have HL := Lib.hid (lat_one hlb hat hm)
  by_cases hz : ovErr ks err lo hi = 0
  case neg =>
    have hz1 : (ovErr ks err lo hi != 0) = true := by simpa using hz
    have hp : ovPk ks err lo hi = ⟨0, 0, 0, 0, 0, 0⟩ := by unfold ovPk; rw [if_neg hz]
    have HP := Lib.hid hp
    clear hp hz hat h
    generalize ovErr ks err lo hi = e0 at *
    go_enter Try.func24, Try.ntmps24
    go_wp2_with fail
    rw [HWE.out]
    refine (HS.out _ HL.out).mono ?_; rintro e w1 ⟨rfl, hb1⟩
    have hr1 := hpb.below hb1
    have rc0 := hr1.cell 0
    have rc1 := hr1.cell 1
    have rc2 := hr1.cell 2
    have rc3 := hr1.cell 3
    have rc4 := hr1.cell 4
    have rc5 := hr1.cell 5
    simp only [List.getElem?_toArray, List.getElem?_cons_zero, List.getElem?_cons_succ] at rc0 rc1 rc2 rc3 rc4 rc5
    have rf0 := hr1.frozen 0
    have rf1 := hr1.frozen 1
    have rf2 := hr1.frozen 2
    have rf3 := hr1.frozen 3
    have rf4 := hr1.frozen 4
    have rf5 := hr1.frozen 5
    have hb2 := hbw.trans (hb1.mono hbw.size)
    have hrl := hr1.lt
    go_wp2
    have hF := blk_set6 hr1 (.int .i64 0) (.int .i64 0) (.int .i64 0) (.int .i64 0) (.int .i64 0) (.int .i64 0)
    have k0 := hF.cell 0
    have k1 := hF.cell 1
    have k2 := hF.cell 2
    have k3 := hF.cell 3
    have k4 := hF.cell 4
    have k5 := hF.cell 5
    simp only [List.getElem?_toArray, List.getElem?_cons_zero, List.getElem?_cons_succ] at k0 k1 k2 k3 k4 k5
    exact bodyPost_ret (v := .tuple #[vPeak 0 0 0 0 0 0, .int .i64 e0]) (by simp [results, Try.results24, go_sem, k0, k1, k2, k3, k4, k5]) rfl ⟨by rw [HP.out]; rfl, below_set6 hb2 (by omega) _ _ _ _ _ _⟩
  have hz1 : (ovErr ks err lo hi != 0) = false := by simp [hz]
  obtain ⟨hv, he1, he2, hlh, hlo, hhi⟩ := ov_valid hz
  have hpos := hv.pos
  have hlen := h.len
  obtain ⟨b, off, hAe, hkn⟩ := h.at_ (by omega)
  subst hAe
  subst hlen
  have hl0 := (hv.x0 0 hpos).1
  have hh0 := (hv.x0 (ks.length - 1) (by omega)).2
  have HPl := Lib.hid (over_plain hz)
  have HKn := Lib.hid hkn
  have HV := Lib.hid hv
  have HFrb := Lib.hid (fun (x : Int) (hx : lo ≤ x) => fV_frb hv (x := x) (by omega))
  obtain ⟨i0, hi0, hi1, hi2, hi3⟩ := info_parts info_frac
  have HI := Lib.hid (show Try.prog.info? 30 = some i0 ∧ i0.zero = some (vFrac 0 0) ∧ i0.size = 2 ∧ i0.bytes = 16 from ⟨hi0, hi1, hi2, hi3⟩)
  have HAt0 := Lib.hid (fun x (hx1 : lo ≤ x) (hx2 : x ≤ hi) W (hW : Kn W b off ks) => At_any b off cap err ks x W hW hv (by omega) (by omega))
  rw [hz] at HS
  rw [hz]
  clear hz hat h hkn hv hi0 hi1 hi2 hi3
  go_enter Try.func24, Try.ntmps24
  go_wp2_with fail
  rw [HWE.out]
  refine (HS.out _ HL.out).mono ?_; rintro e w1 ⟨rfl, hb1⟩
  have hc1 := hcb.below hb1
  have hs1 := hsb.below hb1
  have hp1 := hpb.below hb1
  have hb2 := hbw.trans (hb1.mono hbw.size)
  have HC1 := Lib.hid hc1
  have HS1 := Lib.hid hs1
  have HP1 := Lib.hid hp1
  have HB2 := Lib.hid hb2
  have sc0 := hs1.cell 0
  have sc1 := hs1.cell 1
  simp only [List.getElem?_toArray, List.getElem?_cons_zero, List.getElem?_cons_succ] at sc0 sc1
  have sl := hs1.lt
  go_wp2_with fail
  clear hc1 hs1 hp1 hb2 hb1 sc0 sc1 sl hcb hsb hpb hlb hbw
  go_loopw [7, 8] (fun v i wr => ∃ (m : Nat) (X : Int), X = lo + m ∧ m ≤ (hi + 1 - lo).toNat ∧ i = .int .i64 X ∧
      wr.ownsRow (w.heap.size + 3) 30 2 v m (((List.range m).map fun (j : Nat) => fV ks (lo + (j : Int))).flatMap encF) ∧
      Blk wr w.heap.size 24 #[.slice (some ⟨b, off, none⟩) ks.length cap, .int .i64 err] ∧ Blk wr (w.heap.size + 1) 26 #[.int .i64 lo, .int .i64 hi] ∧ Blk wr (w.heap.size + 2) 40 #[.int .i64 0, .int .i64 0, .int .i64 0, .int .i64 0, .int .i64 0, .int .i64 0] ∧ Below w.heap.size w wr) (fun _ i _ => (hi + 1 - intOf i).toNat)
  case atStart => exact ⟨0, lo, by omega, by omega, rfl, World.ownsRow_nil _ _ _ _, HC1.out, HS1.out, HP1.out, HB2.out⟩
  case round =>
    obtain ⟨m, X, hX, hmM, rfl, hown, hrc, hrs, hrp, hb⟩ := hrel
    have HOwn := Lib.hid hown
    have HRc := Lib.hid hrc
    have HRs := Lib.hid hrs
    have HRp := Lib.hid hrp
    have sc0 := hrs.cell 0
    have sc1 := hrs.cell 1
    simp only [List.getElem?_toArray, List.getElem?_cons_zero, List.getElem?_cons_succ] at sc0 sc1
    have cc0 := hrc.cell 0
    have cc1 := hrc.cell 1
    simp only [List.getElem?_toArray, List.getElem?_cons_zero, List.getElem?_cons_succ] at cc0 cc1
    have sl := hrs.lt
    have cl := hrc.lt
    have hszw := hb.size
    have hpsz := hrp.lt
    clear hown
    by_cases hxh : X ≤ hi
    · have hm1 : m < (hi + 1 - lo).toNat := by omega
      have hm2 : m ≤ 2001 := by omega
      have HAt := Lib.hid (HAt0.out X (by omega) hxh)
      have HXe := Lib.hid hX
      have HKr := Lib.hid (HKn.out.below hb)
      have HRow := Lib.hid (show ((List.range (m + 1)).map fun (j : Nat) => fV ks (lo + (j : Int))).flatMap encF = ((List.range m).map fun (j : Nat) => fV ks (lo + (j : Int))).flatMap encF ++ [.int .i64 (valN ks X), .int .i64 (valD ks X)] by
        rw [List.range_succ, List.map_append, List.flatMap_append, hX]; rfl)
      have hXa : 0 ≤ X := by omega
      have hXb : X ≤ 2000 := by omega
      clear hX
      generalize valN ks X = vn at *
      generalize valD ks X = vd at *
      go_wp2_with fail
      refine (HAt.out _ HKr.out).mono ?_; rintro e w2 ⟨rfl, hb3⟩
      have hbA := hb.trans (hb3.mono hb.size)
      have HOw := Lib.hid (owns_below HOwn.out hb3)
      have hc3 := HRc.out.below hb3
      have hs3 := HRs.out.below hb3
      have hp3 := HRp.out.below hb3
      have hpl3 := hp3.lt
      clear sc0 sc1 cc0 cc1 sl cl hrs hrc hrp
      generalize hacc : ((List.range m).map fun (j : Nat) => fV ks (lo + (j : Int))).flatMap encF = acc at *
      go_wp2_with (at_builtin; go_loud (refine wpList_append_own _ rfl (.tmp 25) (.tmp 29) 117 rfl (w.heap.size + 3) 30 i0 (vFrac 0 0) 2 16 Try.underlying117 HI.out.1 HI.out.2.1 HI.out.2.2.1 HI.out.2.2.2 rfl (by decide) _ m acc rfl (HOw.out.alloc _) ⟨w2.heap.size, 0, none⟩ 1 1 [.int .i64 vn, .int .i64 vd] rfl rfl (new_cells2 _ _ _ _) (one_ints2 _ _) (by unfold maxLen; omega) (by omega) (by simp; omega) ?_))
      intro v' w3 hown' hgrow hnn
      have hlt2 := fun (k : Nat) hk => own_lt (g := k) HOw.out hk
      have hB6 := (hbA.alloc hbA.size _).grown hgrow (Nat.le_trans hbA.size (by simp)) (fun k hk => by have := (hlt2 _ hk).1; omega)
      have hC6 := Blk.grown (hc3.alloc _) hgrow (fun e => by have := (hlt2 _ e).1; omega)
      have hS6 := Blk.grown (hs3.alloc _) hgrow (fun e => by have := (hlt2 _ e).1; omega)
      have hP6 := Blk.grown (hp3.alloc _) hgrow (fun e => by have := (hlt2 _ e).1; omega)
      have HN := Lib.hid hown'
      have HB6 := Lib.hid hB6
      have HC6 := Lib.hid hC6
      have HS6 := Lib.hid hS6
      have HP6 := Lib.hid hP6
      clear hown' hgrow hnn hlt2 hB6 hC6 hS6 hP6 hbA hc3 hs3 hp3 hb3
      go_wp2
      go_roundw
      case rel =>
        exact ⟨m + 1, X + 1, by have := HXe.out; omega, by omega, rfl, by rw [HRow.out]; exact HN.out, HC6.out, HS6.out, HP6.out, HB6.out⟩
      case measure => simp [intOf]; omega
    · have hmE : m = (hi + 1 - lo).toNat := by omega
      have hown := HOwn.out
      have hm0 : 0 < m := by omega
      obtain ⟨g, c, rfl⟩ := Joins.ownsRow_form hown hm0
      have hzl : ((List.range m).map fun (j : Nat) => fV ks (lo + (j : Int))).length = m := by simp
      have hF1 : Fs wr g 0 ((List.range m).map fun (j : Nat) => fV ks (lo + (j : Int))) := Fs_of_own (by rw [hzl]; exact hown)
      have hfr : ∀ z ∈ (List.range m).map fun (j : Nat) => fV ks (lo + (j : Int)), FrB z := fun z hz => by
        obtain ⟨j, _, rfl⟩ := List.mem_map.1 hz
        exact HFrb.out _ (by omega)
      have hpk := Rpeak_any lo g 0 c ((List.range m).map fun (j : Nat) => fV ks (lo + (j : Int))) wr hF1 hfr (by omega) (by omega) (by omega) (by omega)
      rw [hzl] at hpk
      have HmE := Lib.hid hmE
      have hpe : ovPk ks err lo hi = rpkV (fV ks) lo hi := HPl.out
      unfold rpkV at hpe
      rw [ints_map, ← hmE] at hpe
      have HPe := Lib.hid hpe
      have HPk := Lib.hid hpk
      clear hpk hpe hF1 hfr hown hzl HPl hmE hX
      generalize extr ltF ((List.range m).map fun (j : Nat) => fV ks (lo + (j : Int))) (0, 0) = m1 at *
      generalize extr gtF ((List.range m).map fun (j : Nat) => fV ks (lo + (j : Int))) (0, 0) = m2 at *
      obtain ⟨⟨ln, ld⟩, la⟩ := m1
      obtain ⟨⟨hn', hd⟩, ha⟩ := m2
      dsimp only at HPk HPe
      go_wp2_with fail
      refine HPk.out.mono ?_; rintro e w2 ⟨rfl, hb3⟩
      have hp3 := HRp.out.below hb3
      have hbA := hb.trans (hb3.mono hb.size)
      have rc0 := hp3.cell 0
      have rc1 := hp3.cell 1
      have rc2 := hp3.cell 2
      have rc3 := hp3.cell 3
      have rc4 := hp3.cell 4
      have rc5 := hp3.cell 5
      simp only [List.getElem?_toArray, List.getElem?_cons_zero, List.getElem?_cons_succ] at rc0 rc1 rc2 rc3 rc4 rc5
      have rf0 := hp3.frozen 0
      have rf1 := hp3.frozen 1
      have rf2 := hp3.frozen 2
      have rf3 := hp3.frozen 3
      have rf4 := hp3.frozen 4
      have rf5 := hp3.frozen 5
      have rl := hp3.lt
      go_wp2
      have hF := blk_set6 hp3 (.int .i64 ln) (.int .i64 ld) (.int .i64 hn') (.int .i64 hd) (.int .i64 (lo + la)) (.int .i64 (lo + ha))
      have k0 := hF.cell 0
      have k1 := hF.cell 1
      have k2 := hF.cell 2
      have k3 := hF.cell 3
      have k4 := hF.cell 4
      have k5 := hF.cell 5
      simp only [List.getElem?_toArray, List.getElem?_cons_zero, List.getElem?_cons_succ] at k0 k1 k2 k3 k4 k5
      exact bodyPost_ret (v := .tuple #[vPeak ln ld hn' hd (lo + la) (lo + ha), .int .i64 0]) (by simp [results, Try.results24, go_sem, k0, k1, k2, k3, k4, k5]) rfl ⟨by rw [HPe.out]; rfl, below_set6 hbA (by omega) _ _ _ _ _ _⟩

/-! ### CheckOver -/
def coErr (ks : List (Int × Int)) (err lo hi : Int) (p : Pk) : Int := if ovErr ks err lo hi ≠ 0 then ovErr ks err lo hi else if (p.ln == (ovPk ks err lo hi).ln && p.ld == (ovPk ks err lo hi).ld && p.hn == (ovPk ks err lo hi).hn && p.hd == (ovPk ks err lo hi).hd && p.la == (ovPk ks err lo hi).la && p.ha == (ovPk ks err lo hi).ha) then 0 else 8

set_option maxRecDepth 100000 in
set_option maxHeartbeats 1600000 in
theorem CheckOver_any (A : Option Addr) (n cap : Nat) (err : Int) (ks : List (Int × Int)) (lo hi : Int) (p : Pk) (w : World) (h : CAt w A n ks) (hm : n ≤ 9223372036854775807) :
    Calls Try.prog 25 #[vCv A n cap err, vSpan lo hi, p.v] w fun e w' => e = .returned (.int .i64 (coErr ks err lo hi p)) ∧ Below w.heap.size w w' := by
  have HO := Lib.hid (fun W (hW : CAt W A n ks) => Over_any A n cap err ks lo hi W hW hm)
  have HE := Lib.hid (show coErr ks err lo hi p = if ovErr ks err lo hi ≠ 0 then ovErr ks err lo hi else if (p.ln == (ovPk ks err lo hi).ln && p.ld == (ovPk ks err lo hi).ld && p.hn == (ovPk ks err lo hi).hn && p.hd == (ovPk ks err lo hi).hd && p.la == (ovPk ks err lo hi).la && p.ha == (ovPk ks err lo hi).ha) then 0 else 8 from rfl)
  generalize ovErr ks err lo hi = oe at *
  generalize ovPk ks err lo hi = ps at *
  obtain ⟨ln, ld, hn', hd, la, ha⟩ := ps
  obtain ⟨p1, p2, p3, p4, p5, p6⟩ := p
  dsimp only [Pk.v] at HO HE ⊢
  have hbw := (((Below.refl w.heap.size w).alloc (Nat.le_refl _) (.cells #[.slice A n cap, .int .i64 err] 24)).alloc (by simp) (.cells #[.int .i64 lo, .int .i64 hi] 26)).alloc (by simp; omega) (.cells #[.int .i64 p1, .int .i64 p2, .int .i64 p3, .int .i64 p4, .int .i64 p5, .int .i64 p6] 40)
  have hpb := Blk.at_new (W := ((w.alloc (.cells #[.slice A n cap, .int .i64 err] 24)).alloc (.cells #[.int .i64 lo, .int .i64 hi] 26))) 40 #[.int .i64 p1, .int .i64 p2, .int .i64 p3, .int .i64 p4, .int .i64 p5, .int .i64 p6] (g := w.heap.size + 2) (by simp)
  have HA := Lib.hid (h.below hbw)
  clear h
  generalize hW : ((w.alloc (.cells #[.slice A n cap, .int .i64 err] 24)).alloc (.cells #[.int .i64 lo, .int .i64 hi] 26)).alloc (.cells #[.int .i64 p1, .int .i64 p2, .int .i64 p3, .int .i64 p4, .int .i64 p5, .int .i64 p6] 40) = W at *
  have HWE := Lib.hid hW
  clear hW
  by_cases hz : oe = 0
  case neg =>
    have hz1 : (oe != 0) = true := by simpa using hz
    have HE2 := Lib.hid (HE.out.trans (if_pos hz))
    clear hz
    go_enter Try.func25, Try.ntmps25
    go_wp2_with fail
    rw [HWE.out]
    refine (HO.out _ HA.out).mono ?_; rintro e w1 ⟨rfl, hb1⟩
    have hb2 := hbw.trans (hb1.mono hbw.size)
    go_wp2
    go_ret
    exact ⟨ret_int HE2.out.symm, hb2.alloc hb2.size _⟩
  subst hz
  have HE2 := Lib.hid (HE.out.trans (if_neg (by simp)))
  by_cases hq : (p1 == ln && p2 == ld && p3 == hn' && p4 == hd && p5 == la && p6 == ha) = true
  · have HE3 := Lib.hid (HE2.out.trans (if_pos hq))
    simp only [Bool.and_eq_true, beq_iff_eq] at hq
    obtain ⟨⟨⟨⟨⟨rfl, rfl⟩, rfl⟩, rfl⟩, rfl⟩, rfl⟩ := hq
    clear HE HE2
    go_enter Try.func25, Try.ntmps25
    go_wp2_with fail
    rw [HWE.out]
    refine (HO.out _ HA.out).mono ?_; rintro e w1 ⟨rfl, hb1⟩
    have hb2 := hbw.trans (hb1.mono hbw.size)
    have hp1 := hpb.below hb1
    have pc0 := hp1.cell 0
    have pc1 := hp1.cell 1
    have pc2 := hp1.cell 2
    have pc3 := hp1.cell 3
    have pc4 := hp1.cell 4
    have pc5 := hp1.cell 5
    simp only [List.getElem?_toArray, List.getElem?_cons_zero, List.getElem?_cons_succ] at pc0 pc1 pc2 pc3 pc4 pc5
    have pl := hp1.lt
    go_wp2
    go_ret
    exact ⟨ret_int HE3.out.symm, hb2.alloc hb2.size _⟩
  · have hq' : (p1 == ln && p2 == ld && p3 == hn' && p4 == hd && p5 == la && p6 == ha) = false := by simpa using hq
    have HE3 := Lib.hid (HE2.out.trans (if_neg (by simpa using hq)))
    have HQ := Lib.hid hq'
    clear HE HE2 hq hq'
    go_enter Try.func25, Try.ntmps25
    go_wp2_with fail
    rw [HWE.out]
    refine (HO.out _ HA.out).mono ?_; rintro e w1 ⟨rfl, hb1⟩
    have hb2 := hbw.trans (hb1.mono hbw.size)
    have hp1 := hpb.below hb1
    have pc0 := hp1.cell 0
    have pc1 := hp1.cell 1
    have pc2 := hp1.cell 2
    have pc3 := hp1.cell 3
    have pc4 := hp1.cell 4
    have pc5 := hp1.cell 5
    simp only [List.getElem?_toArray, List.getElem?_cons_zero, List.getElem?_cons_succ] at pc0 pc1 pc2 pc3 pc4 pc5
    have pl := hp1.lt
    go_wp2
    all_goals first | (go_ret; exact ⟨ret_int HE3.out.symm, hb2.alloc hb2.size _⟩) | (exfalso; have hq := HQ.out; rename_i a1 a2 a3 a4 a5 a6; rw [a1, a2, a3, a4, a5, a6] at hq; simp at hq)

set_option maxRecDepth 100000 in
set_option maxHeartbeats 1600000 in
theorem RCheckOver_any (A : Option Addr) (n cap : Nat) (err : Int) (ks : List (Int × Int)) (lo hi : Int) (p : Pk) (w : World) (h : CAt w A n ks) (hm : n ≤ 9223372036854775807) :
    Calls Try.prog 26 #[vCv A n cap err, vSpan lo hi, p.v] w fun e w' => e = .returned (.int .i64 (coErr ks err lo hi p)) ∧ Below w.heap.size w w' := by
  have HO := Lib.hid (fun W (hW : CAt W A n ks) => ROver_any A n cap err ks lo hi W hW hm)
  have HE := Lib.hid (show coErr ks err lo hi p = if ovErr ks err lo hi ≠ 0 then ovErr ks err lo hi else if (p.ln == (ovPk ks err lo hi).ln && p.ld == (ovPk ks err lo hi).ld && p.hn == (ovPk ks err lo hi).hn && p.hd == (ovPk ks err lo hi).hd && p.la == (ovPk ks err lo hi).la && p.ha == (ovPk ks err lo hi).ha) then 0 else 8 from rfl)
  generalize ovErr ks err lo hi = oe at *
  generalize ovPk ks err lo hi = ps at *
  obtain ⟨ln, ld, hn', hd, la, ha⟩ := ps
  obtain ⟨p1, p2, p3, p4, p5, p6⟩ := p
  dsimp only [Pk.v] at HO HE ⊢
  have hbw := (((Below.refl w.heap.size w).alloc (Nat.le_refl _) (.cells #[.slice A n cap, .int .i64 err] 24)).alloc (by simp) (.cells #[.int .i64 lo, .int .i64 hi] 26)).alloc (by simp; omega) (.cells #[.int .i64 p1, .int .i64 p2, .int .i64 p3, .int .i64 p4, .int .i64 p5, .int .i64 p6] 40)
  have hpb := Blk.at_new (W := ((w.alloc (.cells #[.slice A n cap, .int .i64 err] 24)).alloc (.cells #[.int .i64 lo, .int .i64 hi] 26))) 40 #[.int .i64 p1, .int .i64 p2, .int .i64 p3, .int .i64 p4, .int .i64 p5, .int .i64 p6] (g := w.heap.size + 2) (by simp)
  have HA := Lib.hid (h.below hbw)
  clear h
  generalize hW : ((w.alloc (.cells #[.slice A n cap, .int .i64 err] 24)).alloc (.cells #[.int .i64 lo, .int .i64 hi] 26)).alloc (.cells #[.int .i64 p1, .int .i64 p2, .int .i64 p3, .int .i64 p4, .int .i64 p5, .int .i64 p6] 40) = W at *
  have HWE := Lib.hid hW
  clear hW
  by_cases hz : oe = 0
  case neg =>
    have hz1 : (oe != 0) = true := by simpa using hz
    have HE2 := Lib.hid (HE.out.trans (if_pos hz))
    clear hz
    go_enter Try.func26, Try.ntmps26
    go_wp2_with fail
    rw [HWE.out]
    refine (HO.out _ HA.out).mono ?_; rintro e w1 ⟨rfl, hb1⟩
    have hb2 := hbw.trans (hb1.mono hbw.size)
    go_wp2
    go_ret
    exact ⟨ret_int HE2.out.symm, hb2.alloc hb2.size _⟩
  subst hz
  have HE2 := Lib.hid (HE.out.trans (if_neg (by simp)))
  by_cases hq : (p1 == ln && p2 == ld && p3 == hn' && p4 == hd && p5 == la && p6 == ha) = true
  · have HE3 := Lib.hid (HE2.out.trans (if_pos hq))
    simp only [Bool.and_eq_true, beq_iff_eq] at hq
    obtain ⟨⟨⟨⟨⟨rfl, rfl⟩, rfl⟩, rfl⟩, rfl⟩, rfl⟩ := hq
    clear HE HE2
    go_enter Try.func26, Try.ntmps26
    go_wp2_with fail
    rw [HWE.out]
    refine (HO.out _ HA.out).mono ?_; rintro e w1 ⟨rfl, hb1⟩
    have hb2 := hbw.trans (hb1.mono hbw.size)
    have hp1 := hpb.below hb1
    have pc0 := hp1.cell 0
    have pc1 := hp1.cell 1
    have pc2 := hp1.cell 2
    have pc3 := hp1.cell 3
    have pc4 := hp1.cell 4
    have pc5 := hp1.cell 5
    simp only [List.getElem?_toArray, List.getElem?_cons_zero, List.getElem?_cons_succ] at pc0 pc1 pc2 pc3 pc4 pc5
    have pl := hp1.lt
    go_wp2
    go_ret
    exact ⟨ret_int HE3.out.symm, hb2.alloc hb2.size _⟩
  · have hq' : (p1 == ln && p2 == ld && p3 == hn' && p4 == hd && p5 == la && p6 == ha) = false := by simpa using hq
    have HE3 := Lib.hid (HE2.out.trans (if_neg (by simpa using hq)))
    have HQ := Lib.hid hq'
    clear HE HE2 hq hq'
    go_enter Try.func26, Try.ntmps26
    go_wp2_with fail
    rw [HWE.out]
    refine (HO.out _ HA.out).mono ?_; rintro e w1 ⟨rfl, hb1⟩
    have hb2 := hbw.trans (hb1.mono hbw.size)
    have hp1 := hpb.below hb1
    have pc0 := hp1.cell 0
    have pc1 := hp1.cell 1
    have pc2 := hp1.cell 2
    have pc3 := hp1.cell 3
    have pc4 := hp1.cell 4
    have pc5 := hp1.cell 5
    simp only [List.getElem?_toArray, List.getElem?_cons_zero, List.getElem?_cons_succ] at pc0 pc1 pc2 pc3 pc4 pc5
    have pl := hp1.lt
    go_wp2
    all_goals first | (go_ret; exact ⟨ret_int HE3.out.symm, hb2.alloc hb2.size _⟩) | (exfalso; have hq := HQ.out; rename_i a1 a2 a3 a4 a5 a6; rw [a1, a2, a3, a4, a5, a6] at hq; simp at hq)
end Go.Proofs.Ytipablcbkoedbaa
