/- The program's Least. -/
import Derived.RangeFuncNested
import Derived.Shelf.Abstract
import Derived.RangeFuncBound
import Derived.RangeFuncCalls
import Derived.RangeFuncLeaves
import Derived.WalkKit
import Derived.OwnWalkIn
import Derived.OwnWalk
import Derived.TacticsInMore
import Derived.LoopNIn
import Derived.LoopIn
import Derived.WalkLawsBesides
import Derived.Deep.QuietTactic
import Derived.BigQuiet
import Derived.RegionTactic
import Derived.Lib.Hide
import Derived.Outline
import Derived.WalkSmall
import Derived.Test.YtipablcbkoedbaaProg
import Derived.Test.YtipablcbkoedbaaH3
import Derived.Lib.SmallJoins
import Derived.Test.YtipablcbkoedbaaF2
namespace Go.Proofs.Ytipablcbkoedbaa
open Go.RowKit

def cV (x : Int) (c : CV) : Int × Int := (valN c.ks x, valD c.ks x)
def leB (cs : List CV) (x : Int) : (Int × Int) × Int := if shErr cs x = 0 then extr ltF (cs.map (cV x)) (0, 0) else ((0, 0), 0)
theorem eg96 : ∀ args w, (callFunc 96 args).run Try.prog w = .ok (.enter 96 args) w := enters_of Try.func96 (by kernel_rfl) rfl
theorem cV_frb {cs : List CV} {x : Int} (ho : ShOk cs x) : ∀ z ∈ cs.map (cV x), FrB z := by
  intro z hz
  obtain ⟨c, hc, rfl⟩ := List.mem_map.1 hz
  obtain ⟨i, hi', rfl⟩ := List.mem_iff_getElem.1 hc
  obtain ⟨a1, a2, a3⟩ := ho.all i hi'
  have e : cs.getD i ⟨none, 0, 0, 0, []⟩ = cs[i] := by simp [List.getD_eq_getElem?_getD, hi']
  have a0 := ho.lo i hi'
  unfold cvks at a0 a1
  rw [e] at a0 a1
  exact fV_frb a1 a0

set_option maxRecDepth 100000 in
set_option maxHeartbeats 1600000 in
theorem Least_any (A : Option Addr) (n cap : Nat) (cs : List CV) (x : Int) (w : World) (h : LAt w A n cs) (hm : n ≤ 9223372036854775807) :
    Calls Try.prog 30 #[.slice A n cap, .int .i64 x] w fun e w' => e = .returned (.tuple #[.int .i64 (leB cs x).2, vFrac (leB cs x).1.1 (leB cs x).1.2, .int .i64 (shErr cs x)]) ∧ Below w.heap.size w w' := by
  have HS := Lib.hid (fun W (hW : LAt W A n cs) => sheaf_any A n cap cs x W hW hm)
  have hbw := (Below.refl w.heap.size w).alloc (Nat.le_refl _) (.cells #[.int .i64 0, .int .i64 0] 30)
  have hrb := Blk.new w 30 #[.int .i64 0, .int .i64 0]
  have HA := Lib.hid (h.below hbw)
  by_cases hz : shErr cs x = 0
  case neg =>
    have hz1 : (shErr cs x != 0) = true := by simpa using hz
    have HE := Lib.hid (show leB cs x = ((0, 0), 0) by unfold leB; rw [if_neg hz])
    clear hz h
    generalize shErr cs x = se at *
    go_enter Try.func30, Try.ntmps30
    go_wp2_with fail
    refine (HS.out _ HA.out).mono ?_; rintro e w1 ⟨rfl, hb1⟩
    have hr1 := hrb.below hb1
    have rc0 := hr1.cell 0
    have rc1 := hr1.cell 1
    simp only [List.getElem?_toArray, List.getElem?_cons_zero, List.getElem?_cons_succ] at rc0 rc1
    have rf0 := hr1.frozen 0
    have rf1 := hr1.frozen 1
    have rl := hr1.lt
    have hb2 := hbw.trans (hb1.mono hbw.size)
    go_wp2
    have hF := (hr1.set_ 0 (.int .i64 0)).set_ 1 (.int .i64 0)
    have k0 := hF.cell 0
    have k1 := hF.cell 1
    simp only [List.setIfInBounds_toArray, List.set_cons_zero, List.set_cons_succ, List.getElem?_toArray, List.getElem?_cons_zero, List.getElem?_cons_succ] at k0 k1
    exact bodyPost_ret (v := .tuple #[.int .i64 0, vFrac 0 0, .int .i64 se]) (by simp [results, Try.results30, go_sem, k0, k1]) rfl ⟨by rw [HE.out], (hb2.setCell (p := ⟨w.heap.size, 0, none⟩) (Nat.le_refl _) _).setCell (p := ⟨w.heap.size, 1, none⟩) (Nat.le_refl _) _⟩
  have ho := sh_zero hz
  have HO := Lib.hid ho
  have hpos := ho.pos
  have hn0 : 0 < n := by have := h.len; omega
  have hn12 : n ≤ 12 := by have := ho.le; have := h.len; omega
  have hx0 := ho.x0
  have hx1 := ho.x1
  have HL := Lib.hid h.len
  have HA0 := Lib.hid h
  have HB := Lib.hid (show leB cs x = extr ltF (cs.map (cV x)) (0, 0) by unfold leB; rw [if_pos hz])
  obtain ⟨i0, hi0, hi1, hi2, hi3⟩ := info_parts info_frac
  have HI := Lib.hid (show Try.prog.info? 30 = some i0 ∧ i0.zero = some (vFrac 0 0) ∧ i0.size = 2 ∧ i0.bytes = 16 from ⟨hi0, hi1, hi2, hi3⟩)
  rw [hz] at HS
  rw [hz]
  clear hz h ho hi0 hi1 hi2 hi3
  go_enter Try.func30, Try.ntmps30
  go_wp2_with fail
  refine (HS.out _ HA.out).mono ?_; rintro e w1 ⟨rfl, hb1⟩
  have hr1 := hrb.below hb1
  have hb2 := hbw.trans (hb1.mono hbw.size)
  have Hr := Lib.hid hr1
  have Hb2 := Lib.hid hb2
  clear hr1 hb1 hb2 hbw hrb
  go_wp2_with fail
  go_loopw [8, 22] (fun v i wr => ∃ (k : Nat) (acc : List (Int × Int)), k ≤ n ∧ i = .int .i64 k ∧ acc.length = k ∧ cs.map (cV x) = acc ++ (cs.drop k).map (cV x) ∧
      wr.ownsRow (w.heap.size + 1) 30 2 v k (acc.flatMap encF) ∧ Blk wr w.heap.size 30 #[.int .i64 0, .int .i64 0] ∧ Below w.heap.size w wr) (fun _ i _ => n - (intOf i).toNat)
  case atStart => exact ⟨0, [], Nat.zero_le _, rfl, rfl, rfl, World.ownsRow_nil _ _ _ _, Hr.out, Hb2.out⟩
  case round =>
    obtain ⟨k, acc, hk, rfl, hal, hac, hown, hs0, hb⟩ := hrel
    have HAc := Lib.hid hac
    have HAl := Lib.hid hal
    have HOwn := Lib.hid hown
    clear hac hal hown
    have hs1 := hs0.lt
    by_cases hkn : k < n
    · obtain ⟨b, off, hAe, hcs⟩ := HA0.out.at_ (by omega)
      subst hAe
      have hlt := hcs.lt
      have hcs' := hcs.below hb
      have hkl : k < cs.length := by rw [HL.out]; exact hkn
      have hs := hcs'.s k hkl
      have he := hcs'.e k hkl
      have hat := hcs'.at_ k hkl
      obtain ⟨hvk, hek1, hek2⟩ := HO.out.all k hkl
      have HD := Lib.hid (map_drop (cV x) cs k hkl)
      have HEl := Lib.hid (show cV x (cs.getD k ⟨none, 0, 0, 0, []⟩) = (valN (cvks cs k) x, valD (cvks cs k) x) from rfl)
      clear hcs hcs'
      generalize cvA cs k = cA at *
      generalize cvn cs k = cn at *
      generalize cvcap cs k = cc at *
      generalize cverr cs k = ce at *
      generalize cvks cs k = ck at *
      clear hkl
      have hcp := hvk.pos
      have hvle := hvk.le
      have hlen := hat.len
      obtain ⟨b', off', hAe', hkn'⟩ := hat.at_ (by omega)
      subst hAe'
      subst hlen
      have HVal := Lib.hid (fun W (hW2 : Kn W b' off' ck) => value_any b' off' cc ce ck x W hW2 hvk hx0 hx1)
      have HT := Lib.hid hkn'
      clear hkn' hat hvk
      generalize valN ck x = vn at *
      generalize valD ck x = vd at *
      go_wp2_with fail
      refine (HVal.out _ (HT.out.below ((Below.refl _ _).alloc (Nat.le_refl _) _))).mono ?_; rintro e w2 ⟨rfl, hb1⟩
      have hba := hb.alloc hb.size (.cells #[.slice (some ⟨b', off', none⟩) ck.length cc, .int .i64 ce] 24)
      have hs2 := (hs0.alloc (.cells #[.slice (some ⟨b', off', none⟩) ck.length cc, .int .i64 ce] 24)).below hb1
      have hb2 := hba.trans (hb1.mono hba.size)
      have hol := owns_below (HOwn.out.alloc (.cells #[.slice (some ⟨b', off', none⟩) ck.length cc, .int .i64 ce] 24)) hb1
      have HL1 := Lib.hid hol
      clear hol
      have hs2l := hs2.lt
      go_wp2_with (at_builtin; go_loud (refine wpList_append_own _ rfl (.tmp 26) (.tmp 30) 117 rfl (w.heap.size + 1) 30 i0 (vFrac 0 0) 2 16 Try.underlying117 HI.out.1 HI.out.2.1 HI.out.2.2.1 HI.out.2.2.2 rfl (by decide) _ k (acc.flatMap encF) rfl (HL1.out.alloc _) ⟨w2.heap.size, 0, none⟩ 1 1 [.int .i64 vn, .int .i64 vd] rfl rfl (new_cells2 _ _ _ _) (one_ints2 _ _) (by unfold maxLen; omega) (by omega) (by simp; omega) ?_))
      intro v' w3 hown' hgrow hnn
      have hlast := app_step (hb2.alloc hb2.size _) (by simp; have := hb2.size; omega) (hs2.alloc _) (HL1.out.alloc _) hgrow
      have HN := Lib.hid hown'
      have HL2 := Lib.hid hlast
      clear hown' hgrow hlast hnn hs0 hb hs2 hb2 hba hb1
      go_wp2
      go_roundw
      case rel =>
        refine ⟨k + 1, acc ++ [(vn, vd)], by omega, by go_num, by simp [HAl.out], ?_, ?_, HL2.out.2, HL2.out.1⟩
        · rw [HAc.out, HD.out, HEl.out, List.append_assoc]; rfl
        · have := HN.out
          simpa [encF] using this
      case measure => simp [intOf]; omega
    · have hkk : k = n := by omega
      subst hkk
      have hL0 : cs.map (cV x) = acc := by rw [HAc.out, List.drop_eq_nil_of_le (by rw [HL.out]; omega)]; simp
      have hlb : ∀ z ∈ acc, FrB z := by rw [← hL0]; exact cV_frb HO.out
      have hown := HOwn.out
      have hal := HAl.out
      obtain ⟨g, c, rfl⟩ := Joins.ownsRow_form hown hn0
      have hF1 : Fs wr g 0 acc := Fs_of_own (by rw [hal]; exact hown)
      have hX1 := extremeF_any 96 eg96 ltF g 0 c acc wr (fun W a b ha hb => least1_any a b W (hlb a ha) (hlb b hb)) hF1 (by omega)
      rw [hal] at hX1
      have HX1 := Lib.hid hX1
      have HB1 := Lib.hid (show leB cs x = extr ltF acc (0, 0) by rw [HB.out, hL0])
      clear hX1 hF1 hlb hown hL0 HAc HOwn HB
      generalize extr ltF acc (0, 0) = m1 at *
      obtain ⟨⟨ln, ld⟩, la⟩ := m1
      dsimp only at HX1 HB1
      go_wp2_with fail
      refine HX1.out.mono ?_; rintro e w2 ⟨rfl, hb1⟩
      have hr2 := (hs0.below hb1).alloc (.cells #[.int .i64 ln, .int .i64 ld] 30)
      have hf2 := Blk.new w2 30 #[.int .i64 ln, .int .i64 ld]
      have hb2 := hb.trans (hb1.mono hb.size)
      have hb3 := hb2.alloc hb2.size (.cells #[.int .i64 ln, .int .i64 ld] 30)
      go_wp2_with fail
      generalize hV : w2.alloc (.cells #[.int .i64 ln, .int .i64 ld] 30) = V at *
      generalize hg : w2.heap.size = gf at *
      clear hV
      have fc0 := hf2.cell 0
      have fc1 := hf2.cell 1
      simp only [List.getElem?_toArray, List.getElem?_cons_zero, List.getElem?_cons_succ] at fc0 fc1
      have fl := hf2.lt
      obtain ⟨xc, xf⟩ := xcell (W := V)
      refine wp_region_quiet_tail 3 (by kernel_rfl) (by kernel_rfl) ?_
      simp only [List.take_succ_cons, List.take_zero, List.drop_succ_cons, List.drop_zero]
      repeat (first | go_big_quiet_step (fail) | quiet_step (fail))
      refine wpQuiet_nil ?_
      intro w3 hb4
      have hr3 := hr2.below hb4
      have rc0 := hr3.cell 0
      have rc1 := hr3.cell 1
      simp only [List.getElem?_toArray, List.getElem?_cons_zero, List.getElem?_cons_succ] at rc0 rc1
      have rf0 := hr3.frozen 0
      have rf1 := hr3.frozen 1
      have rl := hr3.lt
      have hb5 := hb3.trans (hb4.mono hb3.size)
      clear xc xf fc0 fc1
      go_wp2
      have hF := (hr3.set_ 0 (.int .i64 ln)).set_ 1 (.int .i64 ld)
      have k0 := hF.cell 0
      have k1 := hF.cell 1
      simp only [List.setIfInBounds_toArray, List.set_cons_zero, List.set_cons_succ, List.getElem?_toArray, List.getElem?_cons_zero, List.getElem?_cons_succ] at k0 k1
      exact bodyPost_ret (v := .tuple #[.int .i64 la, vFrac ln ld, .int .i64 0]) (by simp [results, Try.results30, go_sem, k0, k1]) rfl ⟨by rw [HB1.out], (hb5.setCell (p := ⟨w.heap.size, 0, none⟩) (Nat.le_refl _) _).setCell (p := ⟨w.heap.size, 1, none⟩) (Nat.le_refl _) _⟩
end Go.Proofs.Ytipablcbkoedbaa
