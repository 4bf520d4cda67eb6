/- The reference: way, where. -/
import Derived.WalkKit
import Derived.WalkLawsBesides
import Derived.Deep.QuietTactic
import Derived.BigQuiet
import Derived.RegionTactic
import Derived.Lib.Hide
import Derived.Outline
import Derived.WalkSmall
import Derived.Test.YtipablcbkoedbaaProg
import Derived.Test.YtipablcbkoedbaaH3
import Derived.Test.YtipablcbkoedbaaD4
namespace Go.Proofs.Ytipablcbkoedbaa
open Go.RowKit

set_option maxHeartbeats 1600000 in
theorem way_any (b off cap : Nat) (err : Int) (ks : List (Int × Int)) (w : World) (h : Kn w b off ks) (hv : Valid ks) :
    Calls Try.prog 76 #[vCv (some ⟨b, off, none⟩) ks.length cap err] w fun e w' => e = .returned (.int .i64 (risingI ks)) ∧ Below w.heap.size w w' := by
  have hpos := hv.pos
  have hle := hv.le
  have hbw := (Below.refl w.heap.size w).alloc (Nat.le_refl _) (.cells #[.slice (some ⟨b, off, none⟩) ks.length cap, .int .i64 err] 24)
  have hcb := Blk.new w 24 #[.slice (some ⟨b, off, none⟩) ks.length cap, .int .i64 err]
  have HKn := Lib.hid h
  clear h
  go_enter Try.func76, Try.ntmps76
  go_wp2
  generalize hWk : w.alloc (.cells #[.slice (some ⟨b, off, none⟩) ks.length cap, .int .i64 err] 24) = W at *
  clear hWk
  go_loopw [3, 4, 5] (fun u d i wr => ∃ (k : Nat), 1 ≤ k ∧ k ≤ ks.length ∧ i = .int .i64 k ∧ u = .bool (upTo ks (k - 1)) ∧ d = .bool (dnTo ks (k - 1)) ∧ Blk wr w.heap.size 24 #[.slice (some ⟨b, off, none⟩) ks.length cap, .int .i64 err] ∧ Below w.heap.size w wr) (fun _ _ i _ => ks.length - (intOf i).toNat)
  case atStart => exact ⟨1, Nat.le_refl _, hpos, rfl, rfl, rfl, hcb, hbw⟩
  case round =>
    obtain ⟨k, hk1, hk2, rfl, rfl, rfl, hrc, hb⟩ := hrel
    have HRc := Lib.hid hrc
    have cc0 := hrc.cell 0
    simp only [List.getElem?_toArray, List.getElem?_cons_zero] at cc0
    have ccl := hrc.lt
    clear hrc
    by_cases hkn : k < ks.length
    · have hK := HKn.out.below hb
      have hy1 := hK.y k hkn
      have hy0 := hK.y (k - 1) (by omega)
      have hlb := hK.lt
      have HU := Lib.hid (show upTo ks k = (upTo ks (k - 1) && decide (0 < ky ks k - ky ks (k - 1))) by have := upTo_succ ks (k - 1); rwa [show k - 1 + 1 = k by omega] at this)
      have HD := Lib.hid (show dnTo ks k = (dnTo ks (k - 1) && decide (ky ks k - ky ks (k - 1) < 0)) by have := dnTo_succ ks (k - 1); rwa [show k - 1 + 1 = k by omega] at this)
      have hke : ((k : Int) - 1) = ((k - 1 : Nat) : Int) := by omega
      have hk3 : k - 1 < ks.length := by omega
      have HHk := Lib.hid hkn
      clear hK
      generalize ky ks k = yk at *
      generalize ky ks (k - 1) = yp at *
      generalize hup : upTo ks (k - 1) = up at *
      generalize hdn : dnTo ks (k - 1) = dn at *
      clear hup hdn
      obtain ⟨xc, xf⟩ := xcell (W := wr)

      go_wp2_with fail
      cases up with
      | true =>
        refine wp_region_quiet_tail 18 (by kernel_rfl) (by kernel_rfl) ?_
        simp only [List.take_succ_cons, List.take_zero, List.drop_succ_cons, List.drop_zero]
        repeat (first | go_big_quiet_step (fail) | quiet_step (fail))
        refine wpQuiet_nil ?_
        intro w1 hb1
        have hb2 := hb.trans (hb1.mono hb.size)
        have HRc1 := Lib.hid (HRc.out.below hb1)
        have hy1' := (hb1.cell (p := ⟨b, off + k * 2 + 1, none⟩) hlb).trans hy1
        have hy0' := (hb1.cell (p := ⟨b, off + (k - 1) * 2 + 1, none⟩) hlb).trans hy0
        have hlb1 := Nat.lt_of_lt_of_le hlb hb1.size
        clear xc xf cc0 ccl hy1 hy0 hlb
        have cc0 := HRc1.out.cell 0
        simp only [List.getElem?_toArray, List.getElem?_cons_zero] at cc0
        have ccl := HRc1.out.lt
        obtain ⟨xc, xf⟩ := xcell (W := w1)
        go_wp2_with fail
        cases dn with
        | true =>
          refine wp_region_quiet_tail 18 (by kernel_rfl) (by kernel_rfl) ?_
          simp only [List.take_succ_cons, List.take_zero, List.drop_succ_cons, List.drop_zero]
          repeat (first | go_big_quiet_step (fail) | quiet_step (fail))
          refine wpQuiet_nil ?_
          intro w2 hb3
          have hb4 := hb2.trans (hb3.mono hb2.size)
          have HRc2 := Lib.hid (HRc1.out.below hb3)
          clear xc xf cc0 ccl hy1' hy0' hlb1
          go_wp2
          go_roundw
          case rel => exact ⟨k + 1, by omega, by have := HHk.out; omega, by go_num, by rw [show k + 1 - 1 = k by omega, HU.out]; simp <;> omega, by rw [show k + 1 - 1 = k by omega, HD.out]; simp <;> omega, HRc2.out, hb4⟩
          case measure => have := HHk.out; simp [intOf]; omega
        | false =>
          refine wp_region_quiet_tail 18 (by kernel_rfl) (by kernel_rfl) ?_
          simp only [List.take_succ_cons, List.take_zero, List.drop_succ_cons, List.drop_zero]
          repeat (first | go_big_quiet_step (fail) | quiet_step (fail))
          refine wpQuiet_nil ?_
          intro w2 hb3
          have hb4 := hb2.trans (hb3.mono hb2.size)
          have HRc2 := Lib.hid (HRc1.out.below hb3)
          clear xc xf cc0 ccl hy1' hy0' hlb1
          go_wp2
          go_roundw
          case rel => exact ⟨k + 1, by omega, by have := HHk.out; omega, by go_num, by rw [show k + 1 - 1 = k by omega, HU.out]; simp <;> omega, by rw [show k + 1 - 1 = k by omega, HD.out]; simp <;> omega, HRc2.out, hb4⟩
          case measure => have := HHk.out; simp [intOf]; omega
      | false =>
        refine wp_region_quiet_tail 18 (by kernel_rfl) (by kernel_rfl) ?_
        simp only [List.take_succ_cons, List.take_zero, List.drop_succ_cons, List.drop_zero]
        repeat (first | go_big_quiet_step (fail) | quiet_step (fail))
        refine wpQuiet_nil ?_
        intro w1 hb1
        have hb2 := hb.trans (hb1.mono hb.size)
        have HRc1 := Lib.hid (HRc.out.below hb1)
        have hy1' := (hb1.cell (p := ⟨b, off + k * 2 + 1, none⟩) hlb).trans hy1
        have hy0' := (hb1.cell (p := ⟨b, off + (k - 1) * 2 + 1, none⟩) hlb).trans hy0
        have hlb1 := Nat.lt_of_lt_of_le hlb hb1.size
        clear xc xf cc0 ccl hy1 hy0 hlb
        have cc0 := HRc1.out.cell 0
        simp only [List.getElem?_toArray, List.getElem?_cons_zero] at cc0
        have ccl := HRc1.out.lt
        obtain ⟨xc, xf⟩ := xcell (W := w1)
        go_wp2_with fail
        cases dn with
        | true =>
          refine wp_region_quiet_tail 18 (by kernel_rfl) (by kernel_rfl) ?_
          simp only [List.take_succ_cons, List.take_zero, List.drop_succ_cons, List.drop_zero]
          repeat (first | go_big_quiet_step (fail) | quiet_step (fail))
          refine wpQuiet_nil ?_
          intro w2 hb3
          have hb4 := hb2.trans (hb3.mono hb2.size)
          have HRc2 := Lib.hid (HRc1.out.below hb3)
          clear xc xf cc0 ccl hy1' hy0' hlb1
          go_wp2
          go_roundw
          case rel => exact ⟨k + 1, by omega, by have := HHk.out; omega, by go_num, by rw [show k + 1 - 1 = k by omega, HU.out]; simp <;> omega, by rw [show k + 1 - 1 = k by omega, HD.out]; simp <;> omega, HRc2.out, hb4⟩
          case measure => have := HHk.out; simp [intOf]; omega
        | false =>
          refine wp_region_quiet_tail 18 (by kernel_rfl) (by kernel_rfl) ?_
          simp only [List.take_succ_cons, List.take_zero, List.drop_succ_cons, List.drop_zero]
          repeat (first | go_big_quiet_step (fail) | quiet_step (fail))
          refine wpQuiet_nil ?_
          intro w2 hb3
          have hb4 := hb2.trans (hb3.mono hb2.size)
          have HRc2 := Lib.hid (HRc1.out.below hb3)
          clear xc xf cc0 ccl hy1' hy0' hlb1
          go_wp2
          go_roundw
          case rel => exact ⟨k + 1, by omega, by have := HHk.out; omega, by go_num, by rw [show k + 1 - 1 = k by omega, HU.out]; simp <;> omega, by rw [show k + 1 - 1 = k by omega, HD.out]; simp <;> omega, HRc2.out, hb4⟩
          case measure => have := HHk.out; simp [intOf]; omega
    · have hkk : k = ks.length := by omega
      have HR := Lib.hid (show risingI ks = if upTo ks (k - 1) = true then 1 else if dnTo ks (k - 1) = true then -1 else 0 by rw [hkk]; rfl)
      generalize upTo ks (k - 1) = up at *
      generalize dnTo ks (k - 1) = dn at *
      cases up with
      | true =>
        go_wp2
        go_ret
        exact ⟨ret_int (by rw [HR.out]; rfl), hb⟩
      | false =>
        cases dn with
        | true =>
          go_wp2
          go_ret
          exact ⟨ret_int (by rw [HR.out]; rfl), hb⟩
        | false =>
          go_wp2
          go_ret
          exact ⟨ret_int (by rw [HR.out]; rfl), hb⟩
end Go.Proofs.Ytipablcbkoedbaa
