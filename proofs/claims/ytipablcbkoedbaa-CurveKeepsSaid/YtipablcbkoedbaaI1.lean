/- The reference: Both. -/
import Derived.RangeFuncNested
import Derived.Shelf.Abstract
import Derived.RangeFuncBound
import Derived.RangeFuncCalls
import Derived.RangeFuncLeaves
import Derived.WalkKit
import Derived.OwnWalkIn
import Derived.OwnWalk
import Derived.TacticsInMore
import Derived.LoopNIn
import Derived.LoopIn
import Derived.WalkLawsBesides
import Derived.Deep.QuietTactic
import Derived.BigQuiet
import Derived.RegionTactic
import Derived.Lib.Hide
import Derived.Outline
import Derived.WalkSmall
import Derived.Test.YtipablcbkoedbaaProg
import Derived.Test.YtipablcbkoedbaaH9
namespace Go.Proofs.Ytipablcbkoedbaa
open Go.RowKit

theorem bo_frb {cs : List CV} {x : Int} (ho : ShOk cs x) : (∀ z ∈ cs.map (bLo x), FrB z) ∧ ∀ z ∈ cs.map (bHi x), FrB z := by
  constructor <;>
  · intro z hz
    obtain ⟨c, hc, rfl⟩ := List.mem_map.1 hz
    obtain ⟨i, hi', rfl⟩ := List.mem_iff_getElem.1 hc
    obtain ⟨a1, a2, a3⟩ := ho.all i hi'
    have e : cs.getD i ⟨none, 0, 0, 0, []⟩ = cs[i] := by simp [List.getD_eq_getElem?_getD, hi']
    have a0 := ho.lo i hi'
    unfold cvks cverr at *
    rw [e] at a0 a1 a2 a3
    first | exact (bLo_frb a1 a0 a2 a3).1 | exact (bLo_frb a1 a0 a2 a3).2

set_option maxRecDepth 100000 in
set_option maxHeartbeats 3200000 in
theorem RBoth_any (A : Option Addr) (n cap : Nat) (cs : List CV) (x : Int) (w : World) (h : LAt w A n cs) (hm : n ≤ 9223372036854775807) :
    Calls Try.prog 29 #[.slice A n cap, .int .i64 x] w fun e w' => e = .returned (.tuple #[vRc' (boV cs x), .int .i64 (boErr cs x)]) ∧ Below w.heap.size w w' := by
  have HS := Lib.hid (fun W (hW : LAt W A n cs) => Rsheaf_any A n cap cs x W hW hm)
  have hbw := (Below.refl w.heap.size w).alloc (Nat.le_refl _) (.cells #[.int .i64 0, .int .i64 0, .int .i64 0, .int .i64 0] 35)
  have hrb := Blk.new w 35 #[.int .i64 0, .int .i64 0, .int .i64 0, .int .i64 0]
  have HA := Lib.hid (h.below hbw)
  by_cases hz : shErr cs x = 0
  case neg =>
    have hz1 : (shErr cs x != 0) = true := by simpa using hz
    have he : boErr cs x = shErr cs x := by unfold boErr; rw [if_pos hz]
    have HE := Lib.hid he
    have HV := Lib.hid (bo_zero he hz)
    clear hz h he
    generalize shErr cs x = se at *
    go_enter Try.func29, Try.ntmps29
    go_wp2_with fail
    refine (HS.out _ HA.out).mono ?_; rintro e w1 ⟨rfl, hb1⟩
    have hr1 := hrb.below hb1
    have rc0 := hr1.cell 0
    have rc1 := hr1.cell 1
    have rc2 := hr1.cell 2
    have rc3 := hr1.cell 3
    simp only [List.getElem?_toArray, List.getElem?_cons_zero, List.getElem?_cons_succ] at rc0 rc1 rc2 rc3
    have rf0 := hr1.frozen 0
    have rf1 := hr1.frozen 1
    have rf2 := hr1.frozen 2
    have rf3 := hr1.frozen 3
    have rl := hr1.lt
    have hb2 := hbw.trans (hb1.mono hbw.size)
    go_wp2
    have hF := blk_set4 hr1 (.int .i64 0) (.int .i64 0) (.int .i64 0) (.int .i64 0)
    have k0 := hF.cell 0
    have k1 := hF.cell 1
    have k2 := hF.cell 2
    have k3 := hF.cell 3
    simp only [List.getElem?_toArray, List.getElem?_cons_zero, List.getElem?_cons_succ] at k0 k1 k2 k3
    exact bodyPost_ret (v := .tuple #[vRange' 0 0 0 0, .int .i64 se]) (by simp [results, Try.results29, go_sem, k0, k1, k2, k3]) rfl ⟨by rw [HE.out, HV.out], below_set4 hb2 (Nat.le_refl _) _ _ _ _⟩
  have ho := sh_zero hz
  have HO := Lib.hid ho
  have hpos := ho.pos
  have hn0 : 0 < n := by have := h.len; omega
  have hn12 : n ≤ 12 := by have := ho.le; have := h.len; omega
  have HL := Lib.hid h.len
  have HBl := Lib.hid (show boLo cs x = (exGo gtF (cs.map (bLo x)) (0, 0) n).1 by unfold boLo extr; rw [List.length_map, h.len])
  have HBh := Lib.hid (show boHi cs x = (exGo ltF (cs.map (bHi x)) (0, 0) n).1 by unfold boHi extr; rw [List.length_map, h.len])
  have HE := Lib.hid (show boErr cs x = if gtF (boLo cs x) (boHi cs x) = true then 9 else 0 by unfold boErr; rw [if_neg (by simp [hz])])
  obtain ⟨hfl, hfh⟩ := bo_frb ho
  have HFl := Lib.hid hfl
  have HFh := Lib.hid hfh
  obtain ⟨b, off, hAe, hcs⟩ := h.at_ hn0
  subst hAe
  have HCs := Lib.hid hcs
  rw [hz] at HS
  have hll : (cs.map (bLo x)).length = n := by rw [List.length_map]; exact h.len
  have hlh : (cs.map (bHi x)).length = n := by rw [List.length_map]; exact h.len
  clear hz h ho hcs hfl hfh hpos
  go_enter Try.func29, Try.ntmps29
  go_wp2_with fail
  refine (HS.out _ HA.out).mono ?_; rintro e w1 ⟨rfl, hb1⟩
  have hr1 := hrb.below hb1
  have hb2 := hbw.trans (hb1.mono hbw.size)
  have hr1l := hr1.lt
  have hkl : 0 < cs.length := by rw [HL.out]; omega
  have hcs' := HCs.out.below hb2
  have hs := hcs'.s 0 hkl
  have he := hcs'.e 0 hkl
  have hcl := hcs'.lt
  have hlk := (HCs.out.at_ 0 hkl).len
  obtain ⟨hvk, hek1, hek2⟩ := HO.out.all 0 hkl
  have hlo := HO.out.lo 0 hkl
  have hhi := HO.out.hi 0 hkl
  have hzl : (cs.map (bLo x)).getD 0 (0, 0) = (valN (cvks cs 0) x + -(cverr cs 0) * valD (cvks cs 0) x, valD (cvks cs 0) x) := (map_getD (bLo x) cs 0 hkl (0, 0))
  have hzh : (cs.map (bHi x)).getD 0 (0, 0) = (valN (cvks cs 0) x + cverr cs 0 * valD (cvks cs 0) x, valD (cvks cs 0) x) := (map_getD (bHi x) cs 0 hkl (0, 0))
  have HZl := Lib.hid hzl
  have HZh := Lib.hid hzh
  obtain ⟨vb1, vb2, vb3, vb4⟩ := val_bd hvk hlo
  have hcop := val_cop hvk x
  have hcp := hvk.pos
  obtain ⟨b', off', hAe', hkn'⟩ := HCs.out.at_ 0 hkl |>.at_ (by omega)
  rw [hAe', ← hlk] at hs
  clear hzl hzh hcs'
  generalize cvcap cs 0 = cc at *
  generalize cverr cs 0 = ce at *
  generalize cvks cs 0 = ck at *
  have HAt := Lib.hid (fun W (hW2 : Kn W b' off' ck) => At_any b' off' cc ce ck x W hW2 hvk hlo hhi)
  have HT := Lib.hid hkn'
  clear hkn' hvk hlo hhi hlk hAe' hkl
  generalize valN ck x = vn at *
  generalize valD ck x = vd at *
  obtain ⟨pp, qq⟩ := mul_bd (x := -ce) (y := vd) (A := 4000) (B := 2000) (by omega) (by omega) (by omega) (by omega)
  obtain ⟨rr, ss⟩ := mul_bd (x := ce) (y := vd) (A := 4000) (B := 2000) (by omega) (by omega) (by omega) (by omega)
  have HPl := Lib.hid (fun W => Rplus_cop vn vd (-ce) W hcop (by omega) (by omega) (by omega) (by omega) (by omega) (by omega))
  have HPh := Lib.hid (fun W => Rplus_cop vn vd ce W hcop (by omega) (by omega) (by omega) (by omega) (by omega) (by omega))
  clear pp qq rr ss hcop vb1 vb2 vb3 vb4 hcp
  generalize vn + -ce * vd = pn at *
  generalize vn + ce * vd = qn at *
  simp only [Nat.zero_mul, Nat.add_zero] at hs he
  go_wp2_with fail
  refine wp_region_new 23 22 7 35 #[.int .i64 0, .int .i64 0, .int .i64 0, .int .i64 0] (by kernel_rfl) (by kernel_rfl) ?_ ?_
  · intro a' v R hR o ho
    simp only [List.getElem?_cons_succ, List.getElem?_cons_zero, Option.some.injEq] at ho
    subst ho
    simpa [loudAt, loudUpon, go_sem, execOp] using hR
  apply Exists.intro
  refine ⟨?_, ?_⟩
  · intro V hV
    have c0 := (hV.cell (p := ⟨b, off, none⟩) hcl).trans hs
    have c1 := (hV.cell (p := ⟨b, off + 1, none⟩) hcl).trans he
    have HKW := Lib.hid (HT.out.below (hb2.trans (hV.mono hb2.size)))
    have hclV := Nat.lt_of_lt_of_le hcl hV.size
    obtain ⟨xc, xf⟩ := xcell (W := V)
    simp only [List.take_succ_cons, List.take_zero, qOf, isLoud, List.any_cons, List.any_nil, Nat.reduceBEq, Bool.or_false, Nat.reduceAdd, Bool.false_eq_true, if_true, if_false, beq_self_eq_true, Nat.zero_add]
    repeat (first | go_big_quiet_step (first | (go_at_call 85; with_reducible refine calls_ext (HAt.out _ ?_); exact HKW.out.below (Ext.below _)) | (go_at_call 94; with_reducible refine calls_ext (HPl.out _)) | (go_at_call 94; with_reducible refine calls_ext (HPh.out _))) | quiet_step (first | (go_at_call 85; with_reducible refine calls_ext (HAt.out _ ?_); exact HKW.out.below (Ext.below _)) | (go_at_call 94; with_reducible refine calls_ext (HPl.out _)) | (go_at_call 94; with_reducible refine calls_ext (HPh.out _))))
    exact wpQuiet_nil rfl
  intro gO v hgO hv hbO
  simp only [List.drop_succ_cons, List.drop_zero, Act.put, List.setIfInBounds_toArray, List.set_cons_succ, List.set_cons_zero]
  have oc0 := hbO.cell 0
  have oc1 := hbO.cell 1
  have oc2 := hbO.cell 2
  have oc3 := hbO.cell 3
  simp only [List.getElem?_toArray, List.getElem?_cons_zero, List.getElem?_cons_succ] at oc0 oc1 oc2 oc3
  have of0 := hbO.frozen 0
  have of1 := hbO.frozen 1
  have of2 := hbO.frozen 2
  have of3 := hbO.frozen 3
  have hx1 : exGo gtF (cs.map (bLo x)) (0, 0) 1 = ((pn, vd), 0) := by rw [exGo_first _ _ _ _ (by simp [exGo]), HZl.out]; rfl
  have hx2 : exGo ltF (cs.map (bHi x)) (0, 0) 1 = ((qn, vd), 0) := by rw [exGo_first _ _ _ _ (by simp [exGo]), HZh.out]; rfl
  have HX1 := Lib.hid hx1
  have HX2 := Lib.hid hx2
  have hgO1 : w.heap.size < gO := by omega
  have HO4 := Lib.hid (blk_set4 hbO (.int .i64 pn) (.int .i64 vd) (.int .i64 qn) (.int .i64 vd))
  have HR4 := Lib.hid (((((hr1.below hv).far (p := ⟨gO, 0, none⟩) (by simp; omega) (.int .i64 pn)).far (p := ⟨gO, 1, none⟩) (by simp; omega) (.int .i64 vd)).far (p := ⟨gO, 2, none⟩) (by simp; omega) (.int .i64 qn)).far (p := ⟨gO, 3, none⟩) (by simp; omega) (.int .i64 vd))
  have hb3 := hb2.trans (hv.mono hb2.size)
  have HB4 := Lib.hid (below_set4 hb3 (g := gO) (by omega) (.int .i64 pn) (.int .i64 vd) (.int .i64 qn) (.int .i64 vd))
  clear hx1 hx2
  go_wp2_with fail
  go_loopw [8] (fun i wr => ∃ (k : Nat) (ln ld li hn hd hi : Int), 1 ≤ k ∧ k ≤ n ∧ i = .int .i64 k ∧ exGo gtF (cs.map (bLo x)) (0, 0) k = ((ln, ld), li) ∧ exGo ltF (cs.map (bHi x)) (0, 0) k = ((hn, hd), hi) ∧
      Blk wr w.heap.size 35 #[.int .i64 0, .int .i64 0, .int .i64 0, .int .i64 0] ∧ Blk wr gO 35 #[.int .i64 ln, .int .i64 ld, .int .i64 hn, .int .i64 hd] ∧ Below w.heap.size w wr) (fun i _ => n - (intOf i).toNat)
  case atStart => exact ⟨1, pn, vd, 0, qn, vd, 0, Nat.le_refl _, hn0, rfl, HX1.out, HX2.out, HR4.out, HO4.out, HB4.out⟩
  case round =>
    clear HX1 HX2 HR4 HO4 HB4 hbO hv oc0 oc1 oc2 oc3 of0 of1 of2 of3
    obtain ⟨k, ln, ld, li, hn, hd, hi, hk1, hk2, rfl, hexl, hexh, hrr, hgg, hb⟩ := hrel
    have HExl := Lib.hid hexl
    have HExh := Lib.hid hexh
    have hbl := (exGo_two gtF (cs.map (bLo x)) (0, 0) k (by omega)).2.2.2 (by omega)
    have hbh := (exGo_two ltF (cs.map (bHi x)) (0, 0) k (by omega)).2.2.2 (by omega)
    have hil := (exGo_two gtF (cs.map (bLo x)) (0, 0) k (by omega)).2.2.1 (by omega)
    have hih := (exGo_two ltF (cs.map (bHi x)) (0, 0) k (by omega)).2.2.1 (by omega)
    rw [hexl] at hbl hil
    rw [hexh] at hbh hih
    have HGl := Lib.hid (HFl.out _ hbl)
    have HGh := Lib.hid (HFh.out _ hbh)
    have HIl := Lib.hid hil
    have HIh := Lib.hid hih
    have HRr := Lib.hid hrr
    have HGg := Lib.hid hgg
    clear hexl hexh hbl hbh hil hih
    by_cases hkn : k < n
    · have hkl : k < cs.length := by rw [HL.out]; omega
      have hcs' := HCs.out.below hb
      have hs := hcs'.s k hkl
      have he := hcs'.e k hkl
      have hcl := hcs'.lt
      have hlk := (HCs.out.at_ k hkl).len
      obtain ⟨hvk, hek1, hek2⟩ := HO.out.all k hkl
      have hlo := HO.out.lo k hkl
      have hhi := HO.out.hi k hkl
      have hzl : (cs.map (bLo x)).getD k (0, 0) = (valN (cvks cs k) x + -(cverr cs k) * valD (cvks cs k) x, valD (cvks cs k) x) := (map_getD (bLo x) cs k hkl (0, 0))
      have hzh : (cs.map (bHi x)).getD k (0, 0) = (valN (cvks cs k) x + cverr cs k * valD (cvks cs k) x, valD (cvks cs k) x) := (map_getD (bHi x) cs k hkl (0, 0))
      have HZl := Lib.hid hzl
      have HZh := Lib.hid hzh
      obtain ⟨vb1, vb2, vb3, vb4⟩ := val_bd hvk hlo
      have hcop := val_cop hvk x
      have hcp := hvk.pos
      obtain ⟨b', off', hAe', hkn'⟩ := HCs.out.at_ k hkl |>.at_ (by omega)
      rw [hAe', ← hlk] at hs
      clear hzl hzh hcs'
      generalize cvcap cs k = cc at *
      generalize cverr cs k = ce at *
      generalize cvks cs k = ck at *
      have HAt := Lib.hid (fun W (hW2 : Kn W b' off' ck) => At_any b' off' cc ce ck x W hW2 hvk hlo hhi)
      have HT := Lib.hid hkn'
      clear hkn' hvk hlo hhi hlk hAe' hkl
      generalize valN ck x = vn at *
      generalize valD ck x = vd at *
      obtain ⟨pp, qq⟩ := mul_bd (x := -ce) (y := vd) (A := 4000) (B := 2000) (by omega) (by omega) (by omega) (by omega)
      obtain ⟨rr, ss⟩ := mul_bd (x := ce) (y := vd) (A := 4000) (B := 2000) (by omega) (by omega) (by omega) (by omega)
      have HPl := Lib.hid (fun W => Rplus_cop vn vd (-ce) W hcop (by omega) (by omega) (by omega) (by omega) (by omega) (by omega))
      have HPh := Lib.hid (fun W => Rplus_cop vn vd ce W hcop (by omega) (by omega) (by omega) (by omega) (by omega) (by omega))
      clear pp qq rr ss hcop vb1 vb2 vb3 vb4 hcp
      generalize vn + -ce * vd = pn at *
      generalize vn + ce * vd = qn at *
      have hzl := HZl.out
      have hzh := HZh.out
      have hml : (cs.map (bLo x)).getD k (0, 0) ∈ cs.map (bLo x) := getD_mem _ _ _ (by omega)
      have hmh : (cs.map (bHi x)).getD k (0, 0) ∈ cs.map (bHi x) := getD_mem _ _ _ (by omega)
      rw [hzl] at hml
      rw [hzh] at hmh
      have hfl := HFl.out _ hml
      have hfh := HFh.out _ hmh
      have hol : ∀ W, Calls Try.prog 95 #[vFrac pn vd, vFrac ln ld] W fun e w' => e = .returned (.int .i64 (ordF pn vd ln ld)) ∧ Below W.heap.size W w' :=
        fun W => Order_any pn vd ln ld W (hfl.prod HGl.out).1 (hfl.prod HGl.out).2 (HGl.out.prod hfl).1 (HGl.out.prod hfl).2
      have hoh : ∀ W, Calls Try.prog 95 #[vFrac qn vd, vFrac hn hd] W fun e w' => e = .returned (.int .i64 (ordF qn vd hn hd)) ∧ Below W.heap.size W w' :=
        fun W => Order_any qn vd hn hd W (hfh.prod HGh.out).1 (hfh.prod HGh.out).2 (HGh.out.prod hfh).1 (HGh.out.prod hfh).2
      have HOl := Lib.hid hol
      have HOh := Lib.hid hoh
      have HLl := Lib.hid (show gtF ((cs.map (bLo x)).getD k (0, 0)) (ln, ld) = decide (ordF pn vd ln ld > 0) by rw [hzl])
      have HLh := Lib.hid (show ltF ((cs.map (bHi x)).getD k (0, 0)) (hn, hd) = decide (ordF qn vd hn hd < 0) by rw [hzh])
      clear hzl hzh hml hmh hfl hfh hol hoh
      generalize ordF pn vd ln ld = ol at *
      generalize ordF qn vd hn hd = oh at *
      go_wp2_with fail
      refine wp_region_new 14 13 9 30 #[.int .i64 0, .int .i64 0] (by kernel_rfl) (by kernel_rfl) ?_ ?_
      · intro a' v R hR o ho
        simp only [List.getElem?_cons_succ, List.getElem?_cons_zero, Option.some.injEq] at ho
        subst ho
        simpa [loudAt, loudUpon, go_sem, execOp] using hR
      apply Exists.intro
      refine ⟨?_, ?_⟩
      · intro V hV
        have c0 := (hV.cell (p := ⟨b, off + k * 2, none⟩) hcl).trans hs
        have c1 := (hV.cell (p := ⟨b, off + k * 2 + 1, none⟩) hcl).trans he
        have HKW := Lib.hid (HT.out.below (hb.trans (hV.mono hb.size)))
        have hclV := Nat.lt_of_lt_of_le hcl hV.size
        obtain ⟨xc, xf⟩ := xcell (W := V)
        simp only [List.take_succ_cons, List.take_zero, qOf, isLoud, List.any_cons, List.any_nil, Nat.reduceBEq, Bool.or_false, Nat.reduceAdd, Bool.false_eq_true, if_true, if_false, beq_self_eq_true, Nat.zero_add]
        repeat (first | go_big_quiet_step (first | (go_at_call 85; with_reducible refine calls_ext (HAt.out _ ?_); exact HKW.out.below (Ext.below _)) | (go_at_call 94; with_reducible refine calls_ext (HPl.out _)) | (go_at_call 94; with_reducible refine calls_ext (HPh.out _))) | quiet_step (first | (go_at_call 85; with_reducible refine calls_ext (HAt.out _ ?_); exact HKW.out.below (Ext.below _)) | (go_at_call 94; with_reducible refine calls_ext (HPl.out _)) | (go_at_call 94; with_reducible refine calls_ext (HPh.out _))))
        exact wpQuiet_nil rfl
      intro g9 v9 hg9 hv9 hb9
      simp only [List.drop_succ_cons, List.drop_zero, Act.put, List.setIfInBounds_toArray, List.set_cons_succ, List.set_cons_zero]
      have nc0 := hb9.cell 0
      have nc1 := hb9.cell 1
      simp only [List.getElem?_toArray, List.getElem?_cons_zero, List.getElem?_cons_succ] at nc0 nc1
      have nf0 := hb9.frozen 0
      have nf1 := hb9.frozen 1
      have hn9 := (hb9.set_ 0 (.int .i64 pn)).set_ 1 (.int .i64 vd)
      simp only [List.setIfInBounds_toArray, List.set_cons_zero, List.set_cons_succ] at hn9
      have hgl := hgg.lt
      have hrl := hrr.lt
      have hr9 := ((hrr.below hv9).far (p := ⟨g9, 0, none⟩) (by simp; omega) (.int .i64 pn)).far (p := ⟨g9, 1, none⟩) (by simp; omega) (.int .i64 vd)
      have hG9 := ((hgg.below hv9).far (p := ⟨g9, 0, none⟩) (by simp; omega) (.int .i64 pn)).far (p := ⟨g9, 1, none⟩) (by simp; omega) (.int .i64 vd)
      have hbv := (hv9.setCell (p := ⟨g9, 0, none⟩) hg9 (.int .i64 pn)).setCell (p := ⟨g9, 1, none⟩) hg9 (.int .i64 vd)
      go_wp2_with fail
      generalize hv9e : (v9.setCell ⟨g9, 0, none⟩ (.int .i64 pn)).setCell ⟨g9, 1, none⟩ (.int .i64 vd) = v10 at *
      clear hv9e nc0 nc1 nf0 nf1 hb9 hv9
      have hbB := hb.trans (hbv.mono hb.size)
      have hs2 := (hbv.cell (p := ⟨b, off + k * 2, none⟩) hcl).trans hs
      have he2 := (hbv.cell (p := ⟨b, off + k * 2 + 1, none⟩) hcl).trans he
      have hcl2 := Nat.lt_of_lt_of_le hcl hbv.size
      refine wp_region_new 13 12 10 30 #[.int .i64 0, .int .i64 0] (by kernel_rfl) (by kernel_rfl) ?_ ?_
      · intro a' v R hR o ho
        simp only [List.getElem?_cons_succ, List.getElem?_cons_zero, Option.some.injEq] at ho
        subst ho
        simpa [loudAt, loudUpon, go_sem, execOp] using hR
      apply Exists.intro
      refine ⟨?_, ?_⟩
      · intro V hV
        have c0 := (hV.cell (p := ⟨b, off + k * 2, none⟩) hcl2).trans hs2
        have c1 := (hV.cell (p := ⟨b, off + k * 2 + 1, none⟩) hcl2).trans he2
        have HKW := Lib.hid (HT.out.below (hbB.trans (hV.mono hbB.size)))
        have hclV := Nat.lt_of_lt_of_le hcl2 hV.size
        obtain ⟨xc, xf⟩ := xcell (W := V)
        simp only [List.take_succ_cons, List.take_zero, qOf, isLoud, List.any_cons, List.any_nil, Nat.reduceBEq, Bool.or_false, Nat.reduceAdd, Bool.false_eq_true, if_true, if_false, beq_self_eq_true, Nat.zero_add]
        repeat (first | go_big_quiet_step (first | (go_at_call 85; with_reducible refine calls_ext (HAt.out _ ?_); exact HKW.out.below (Ext.below _)) | (go_at_call 94; with_reducible refine calls_ext (HPl.out _)) | (go_at_call 94; with_reducible refine calls_ext (HPh.out _))) | quiet_step (first | (go_at_call 85; with_reducible refine calls_ext (HAt.out _ ?_); exact HKW.out.below (Ext.below _)) | (go_at_call 94; with_reducible refine calls_ext (HPl.out _)) | (go_at_call 94; with_reducible refine calls_ext (HPh.out _))))
        exact wpQuiet_nil rfl
      intro g10 v11 hg10 hv11 hb11
      simp only [List.drop_succ_cons, List.drop_zero, Act.put, List.setIfInBounds_toArray, List.set_cons_succ, List.set_cons_zero]
      have nc0 := hb11.cell 0
      have nc1 := hb11.cell 1
      simp only [List.getElem?_toArray, List.getElem?_cons_zero, List.getElem?_cons_succ] at nc0 nc1
      have nf0 := hb11.frozen 0
      have nf1 := hb11.frozen 1
      have hnL := hn9.lt
      have hgL := hG9.lt
      have hrL := hr9.lt
      have h10 := (hb11.set_ 0 (.int .i64 qn)).set_ 1 (.int .i64 vd)
      simp only [List.setIfInBounds_toArray, List.set_cons_zero, List.set_cons_succ] at h10
      have h9 := ((hn9.below hv11).far (p := ⟨g10, 0, none⟩) (by simp; omega) (.int .i64 qn)).far (p := ⟨g10, 1, none⟩) (by simp; omega) (.int .i64 vd)
      have hr10 := ((hr9.below hv11).far (p := ⟨g10, 0, none⟩) (by simp; omega) (.int .i64 qn)).far (p := ⟨g10, 1, none⟩) (by simp; omega) (.int .i64 vd)
      have hG10 := ((hG9.below hv11).far (p := ⟨g10, 0, none⟩) (by simp; omega) (.int .i64 qn)).far (p := ⟨g10, 1, none⟩) (by simp; omega) (.int .i64 vd)
      have hbW := hbB.trans (((hv11.setCell (p := ⟨g10, 0, none⟩) hg10 (.int .i64 qn)).setCell (p := ⟨g10, 1, none⟩) hg10 (.int .i64 vd)).mono hbB.size)
      have hgne : gO ≠ w.heap.size := by omega
      have e1 : ¬ g9 = g10 := by omega
      have e2 : ¬ gO = g10 := by omega
      have h9v := hn9.below hv11
      have hGv := hG9.below hv11
      have pc0 := h9v.cell 0
      have pc1 := h9v.cell 1
      simp only [List.getElem?_toArray, List.getElem?_cons_zero, List.getElem?_cons_succ] at pc0 pc1
      have oc0 := hGv.cell 0
      have oc1 := hGv.cell 1
      have oc2 := hGv.cell 2
      have oc3 := hGv.cell 3
      simp only [List.getElem?_toArray, List.getElem?_cons_zero, List.getElem?_cons_succ] at oc0 oc1 oc2 oc3
      have pl := h9v.lt
      have ol' := hGv.lt
      go_wp2_with fail
      generalize hve : (v11.setCell ⟨g10, 0, none⟩ (.int .i64 qn)).setCell ⟨g10, 1, none⟩ (.int .i64 vd) = v12 at *
      clear hve nc0 nc1 nf0 nf1 hb11 hv11 pc0 pc1 oc0 oc1 oc2 oc3 h9v hGv pl ol'
      refine (HOl.out _).mono ?_; rintro e w5 ⟨rfl, hb13⟩
      have hbX := hbW.trans (hb13.mono hbW.size)
      have h9 := h9.below hb13
      have h10 := h10.below hb13
      have hrX := hr10.below hb13
      have hGX := hG10.below hb13
      have pc0 := h9.cell 0
      have pc1 := h9.cell 1
      simp only [List.getElem?_toArray, List.getElem?_cons_zero, List.getElem?_cons_succ] at pc0 pc1
      have qc0 := h10.cell 0
      have qc1 := h10.cell 1
      simp only [List.getElem?_toArray, List.getElem?_cons_zero, List.getElem?_cons_succ] at qc0 qc1
      have oc0 := hGX.cell 0
      have oc1 := hGX.cell 1
      have oc2 := hGX.cell 2
      have oc3 := hGX.cell 3
      simp only [List.getElem?_toArray, List.getElem?_cons_zero, List.getElem?_cons_succ] at oc0 oc1 oc2 oc3
      have of0 := hGX.frozen 0
      have of1 := hGX.frozen 1
      have of2 := hGX.frozen 2
      have of3 := hGX.frozen 3
      have e3 : ¬ g9 = gO := by omega
      have e4 : ¬ g10 = gO := by omega
      have ogl := hGX.lt
      have qgl := h10.lt
      by_cases hol0 : 0 < ol
      · have HEl := Lib.hid (show exGo gtF (cs.map (bLo x)) (0, 0) (k + 1) = ((pn, vd), (k : Int)) by
          rw [exGo_yes _ _ _ _ (by rw [HExl.out, HLl.out]; simpa using hol0), HZl.out])
        have hGY := (hGX.set_ 0 (.int .i64 pn)).set_ 1 (.int .i64 vd)
        simp only [List.setIfInBounds_toArray, List.set_cons_zero, List.set_cons_succ] at hGY
        have hrY := (hrX.far (p := ⟨gO, 0, none⟩) (by simp; omega) (.int .i64 pn)).far (p := ⟨gO, 1, none⟩) (by simp; omega) (.int .i64 vd)
        have h10Y := (h10.far (p := ⟨gO, 0, none⟩) (by simp; omega) (.int .i64 pn)).far (p := ⟨gO, 1, none⟩) (by simp; omega) (.int .i64 vd)
        have hbY := (hbX.setCell (p := ⟨gO, 0, none⟩) (show w.heap.size ≤ gO by omega) (.int .i64 pn)).setCell (p := ⟨gO, 1, none⟩) (show w.heap.size ≤ gO by omega) (.int .i64 vd)
        go_wp2_with fail
        generalize hve : (w5.setCell ⟨gO, 0, none⟩ (.int .i64 pn)).setCell ⟨gO, 1, none⟩ (.int .i64 vd) = v13 at *
        clear hve pc0 pc1 qc0 qc1 oc0 oc1 oc2 oc3 of0 of1 of2 of3 ogl qgl
        refine (HOh.out _).mono ?_; rintro e w6 ⟨rfl, hb16⟩
        have hbZ := hbY.trans (hb16.mono hbY.size)
        have hGZ := hGY.below hb16
        have hrZ := hrY.below hb16
        have h10Z := h10Y.below hb16
        have qc0 := h10Z.cell 0
        have qc1 := h10Z.cell 1
        simp only [List.getElem?_toArray, List.getElem?_cons_zero, List.getElem?_cons_succ] at qc0 qc1
        have oc0 := hGZ.cell 0
        have oc1 := hGZ.cell 1
        have oc2 := hGZ.cell 2
        have oc3 := hGZ.cell 3
        simp only [List.getElem?_toArray, List.getElem?_cons_zero, List.getElem?_cons_succ] at oc0 oc1 oc2 oc3
        have of0 := hGZ.frozen 0
        have of1 := hGZ.frozen 1
        have of2 := hGZ.frozen 2
        have of3 := hGZ.frozen 3
        have ogl := hGZ.lt
        by_cases hoh0 : oh < 0
        · have HEh := Lib.hid (show exGo ltF (cs.map (bHi x)) (0, 0) (k + 1) = ((qn, vd), (k : Int)) by
            rw [exGo_yes _ _ _ _ (by rw [HExh.out, HLh.out]; simpa using hoh0), HZh.out])
          have hGF := (hGZ.set_ 2 (.int .i64 qn)).set_ 3 (.int .i64 vd)
          simp only [List.setIfInBounds_toArray, List.set_cons_zero, List.set_cons_succ] at hGF
          have hrF := (hrZ.far (p := ⟨gO, 2, none⟩) (by simp; omega) (.int .i64 qn)).far (p := ⟨gO, 3, none⟩) (by simp; omega) (.int .i64 vd)
          have hbF := (hbZ.setCell (p := ⟨gO, 2, none⟩) (show w.heap.size ≤ gO by omega) (.int .i64 qn)).setCell (p := ⟨gO, 3, none⟩) (show w.heap.size ≤ gO by omega) (.int .i64 vd)
          go_wp2
          go_roundw
          case rel => exact ⟨k + 1, pn, vd, k, qn, vd, k, by omega, by omega, by go_num, HEl.out, HEh.out, hrF, hGF, hbF⟩
          case measure => simp [intOf]; omega
        · have HEh := Lib.hid (show exGo ltF (cs.map (bHi x)) (0, 0) (k + 1) = ((hn, hd), hi) by
            rw [exGo_no _ _ _ _ (by rw [HExh.out]; have := HIh.out; dsimp only; omega) (by rw [HExh.out, HLh.out]; simpa using hoh0), HExh.out])
          go_wp2
          go_roundw
          case rel => exact ⟨k + 1, pn, vd, k, hn, hd, hi, by omega, by omega, by go_num, HEl.out, HEh.out, hrZ, hGZ, hbZ⟩
          case measure => simp [intOf]; omega
      · have HEl := Lib.hid (show exGo gtF (cs.map (bLo x)) (0, 0) (k + 1) = ((ln, ld), li) by
          rw [exGo_no _ _ _ _ (by rw [HExl.out]; have := HIl.out; dsimp only; omega) (by rw [HExl.out, HLl.out]; simpa using hol0), HExl.out])
        have hGY := hGX
        have hrY := hrX
        have h10Y := h10
        have hbY := hbX
        go_wp2_with fail
        clear pc0 pc1 qc0 qc1 oc0 oc1 oc2 oc3 of0 of1 of2 of3 ogl qgl
        refine (HOh.out _).mono ?_; rintro e w6 ⟨rfl, hb16⟩
        have hbZ := hbY.trans (hb16.mono hbY.size)
        have hGZ := hGY.below hb16
        have hrZ := hrY.below hb16
        have h10Z := h10Y.below hb16
        have qc0 := h10Z.cell 0
        have qc1 := h10Z.cell 1
        simp only [List.getElem?_toArray, List.getElem?_cons_zero, List.getElem?_cons_succ] at qc0 qc1
        have oc0 := hGZ.cell 0
        have oc1 := hGZ.cell 1
        have oc2 := hGZ.cell 2
        have oc3 := hGZ.cell 3
        simp only [List.getElem?_toArray, List.getElem?_cons_zero, List.getElem?_cons_succ] at oc0 oc1 oc2 oc3
        have of0 := hGZ.frozen 0
        have of1 := hGZ.frozen 1
        have of2 := hGZ.frozen 2
        have of3 := hGZ.frozen 3
        have ogl := hGZ.lt
        by_cases hoh0 : oh < 0
        · have HEh := Lib.hid (show exGo ltF (cs.map (bHi x)) (0, 0) (k + 1) = ((qn, vd), (k : Int)) by
            rw [exGo_yes _ _ _ _ (by rw [HExh.out, HLh.out]; simpa using hoh0), HZh.out])
          have hGF := (hGZ.set_ 2 (.int .i64 qn)).set_ 3 (.int .i64 vd)
          simp only [List.setIfInBounds_toArray, List.set_cons_zero, List.set_cons_succ] at hGF
          have hrF := (hrZ.far (p := ⟨gO, 2, none⟩) (by simp; omega) (.int .i64 qn)).far (p := ⟨gO, 3, none⟩) (by simp; omega) (.int .i64 vd)
          have hbF := (hbZ.setCell (p := ⟨gO, 2, none⟩) (show w.heap.size ≤ gO by omega) (.int .i64 qn)).setCell (p := ⟨gO, 3, none⟩) (show w.heap.size ≤ gO by omega) (.int .i64 vd)
          go_wp2
          go_roundw
          case rel => exact ⟨k + 1, ln, ld, li, qn, vd, k, by omega, by omega, by go_num, HEl.out, HEh.out, hrF, hGF, hbF⟩
          case measure => simp [intOf]; omega
        · have HEh := Lib.hid (show exGo ltF (cs.map (bHi x)) (0, 0) (k + 1) = ((hn, hd), hi) by
            rw [exGo_no _ _ _ _ (by rw [HExh.out]; have := HIh.out; dsimp only; omega) (by rw [HExh.out, HLh.out]; simpa using hoh0), HExh.out])
          go_wp2
          go_roundw
          case rel => exact ⟨k + 1, ln, ld, li, hn, hd, hi, by omega, by omega, by go_num, HEl.out, HEh.out, hrZ, hGZ, hbZ⟩
          case measure => simp [intOf]; omega
    · have hkk : k = n := by omega
      subst hkk
      have HLo := Lib.hid (show boLo cs x = (ln, ld) by rw [HBl.out, HExl.out])
      have HHi := Lib.hid (show boHi cs x = (hn, hd) by rw [HBh.out, HExh.out])
      have hoo : ∀ W, Calls Try.prog 95 #[vFrac ln ld, vFrac hn hd] W fun e w' => e = .returned (.int .i64 (ordF ln ld hn hd)) ∧ Below W.heap.size W w' :=
        fun W => Order_any ln ld hn hd W (HGl.out.prod HGh.out).1 (HGl.out.prod HGh.out).2 (HGh.out.prod HGl.out).1 (HGh.out.prod HGl.out).2
      have HOo := Lib.hid hoo
      have hgt : gtF (boLo cs x) (boHi cs x) = decide (ordF (boLo cs x).1 (boLo cs x).2 (boHi cs x).1 (boHi cs x).2 > 0) := rfl
      rw [HLo.out, HHi.out] at hgt
      have HG := Lib.hid hgt
      clear hoo hgt
      dsimp only at HG
      generalize ordF ln ld hn hd = o at *
      have gc0 := hgg.cell 0
      have gc1 := hgg.cell 1
      have gc2 := hgg.cell 2
      have gc3 := hgg.cell 3
      simp only [List.getElem?_toArray, List.getElem?_cons_zero, List.getElem?_cons_succ] at gc0 gc1 gc2 gc3
      have ggl := hgg.lt
      go_wp2_with fail
      refine (HOo.out _).mono ?_; rintro e w5 ⟨rfl, hb13⟩
      have hbX := hb.trans (hb13.mono hb.size)
      have hGX := hgg.below hb13
      have hrX := hrr.below hb13
      clear gc0 gc1 gc2 gc3
      have gc0 := hGX.cell 0
      have gc1 := hGX.cell 1
      have gc2 := hGX.cell 2
      have gc3 := hGX.cell 3
      simp only [List.getElem?_toArray, List.getElem?_cons_zero, List.getElem?_cons_succ] at gc0 gc1 gc2 gc3
      have rc0 := hrX.cell 0
      have rc1 := hrX.cell 1
      have rc2 := hrX.cell 2
      have rc3 := hrX.cell 3
      simp only [List.getElem?_toArray, List.getElem?_cons_zero, List.getElem?_cons_succ] at rc0 rc1 rc2 rc3
      have rf0 := hrX.frozen 0
      have rf1 := hrX.frozen 1
      have rf2 := hrX.frozen 2
      have rf3 := hrX.frozen 3
      have rl := hrX.lt
      by_cases ho0 : 0 < o
      · have hE9 : boErr cs x = 9 := by rw [HE.out, HLo.out, HHi.out, HG.out]; simp; omega
        have HE9 := Lib.hid (And.intro hE9 (bo_zero hE9 (by omega)))
        clear hE9
        go_wp2
        have hF := blk_set4 hrX (.int .i64 0) (.int .i64 0) (.int .i64 0) (.int .i64 0)
        have k0 := hF.cell 0
        have k1 := hF.cell 1
        have k2 := hF.cell 2
        have k3 := hF.cell 3
        simp only [List.getElem?_toArray, List.getElem?_cons_zero, List.getElem?_cons_succ] at k0 k1 k2 k3
        exact bodyPost_ret (v := .tuple #[vRange' 0 0 0 0, .int .i64 9]) (by simp [results, Try.results29, go_sem, k0, k1, k2, k3]) rfl ⟨by rw [HE9.out.1, HE9.out.2], below_set4 hbX (Nat.le_refl _) _ _ _ _⟩
      · have hE9 : boErr cs x = 0 := by rw [HE.out, HLo.out, HHi.out, HG.out]; simp; omega
        have HE9 := Lib.hid (show boErr cs x = 0 ∧ boV cs x = ((ln, ld), (hn, hd)) from ⟨hE9, by unfold boV; rw [hE9, if_pos rfl, HLo.out, HHi.out]⟩)
        clear hE9
        go_wp2
        have hF := blk_set4 hrX (.int .i64 ln) (.int .i64 ld) (.int .i64 hn) (.int .i64 hd)
        have k0 := hF.cell 0
        have k1 := hF.cell 1
        have k2 := hF.cell 2
        have k3 := hF.cell 3
        simp only [List.getElem?_toArray, List.getElem?_cons_zero, List.getElem?_cons_succ] at k0 k1 k2 k3
        exact bodyPost_ret (v := .tuple #[vRange' ln ld hn hd, .int .i64 0]) (by simp [results, Try.results29, go_sem, k0, k1, k2, k3]) rfl ⟨by rw [HE9.out.1, HE9.out.2], below_set4 hbX (Nat.le_refl _) _ _ _ _⟩
end Go.Proofs.Ytipablcbkoedbaa
