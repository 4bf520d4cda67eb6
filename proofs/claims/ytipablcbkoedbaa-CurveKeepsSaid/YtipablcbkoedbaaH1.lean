/- The reference: Check. -/
import Derived.WalkKit
import Derived.WalkLawsBesides
import Derived.Deep.QuietTactic
import Derived.BigQuiet
import Derived.RegionTactic
import Derived.Lib.Hide
import Derived.Outline
import Derived.WalkSmall
import Derived.Test.YtipablcbkoedbaaProg
import Derived.Test.YtipablcbkoedbaaF1
namespace Go.Proofs.Ytipablcbkoedbaa
open Go.RowKit

theorem RCheck_long (A : Option Addr) (n cap : Nat) (err : Int) (ks : List (Int × Int)) (w : World) (h : CAt w A n ks) (hn : 40 < n) (hm : n ≤ 9223372036854775807) :
    Calls Try.prog 39 #[vCv A n cap err] w fun e w' => e = .returned (.int .i64 (check ks err)) ∧ Below w.heap.size w w' := by
  have hc : check ks err = 2 := by unfold check; rw [if_pos (by rw [h.len]; exact hn)]
  have HC := Lib.hid hc
  clear hc h
  go_enter Try.func39, Try.ntmps39
  go_wp2
  go_ret
  exact ⟨ret_int HC.out.symm, (Below.refl _ _).alloc (Nat.le_refl _) _⟩

theorem RCheck_arg (A : Option Addr) (n cap : Nat) (err : Int) (ks : List (Int × Int)) (w : World) (h : CAt w A n ks) (hn : n ≤ 40) (h0 : n = 0 ∨ ¬ (0 ≤ err ∧ err ≤ 4000)) :
    Calls Try.prog 39 #[vCv A n cap err] w fun e w' => e = .returned (.int .i64 (check ks err)) ∧ Below w.heap.size w w' := by
  have hc : check ks err = 1 := by unfold check; rw [if_neg (by rw [h.len]; omega), if_pos (by rw [h.len]; exact h0)]
  have HC := Lib.hid hc
  clear hc h
  by_cases hz : n = 0
  · subst hz
    go_enter Try.func39, Try.ntmps39
    go_wp2
    go_ret
    exact ⟨ret_int HC.out.symm, (Below.refl _ _).alloc (Nat.le_refl _) _⟩
  · have h1 : ¬ (0 ≤ err ∧ err ≤ 4000) := h0.resolve_left hz
    have hz2 : (((n : Nat) : Int) == 0) = false := by simpa using hz
    clear h0
    by_cases h2 : err < 0
    · clear h1
      go_enter Try.func39, Try.ntmps39
      go_wp2
      go_ret
      exact ⟨ret_int HC.out.symm, (Below.refl _ _).alloc (Nat.le_refl _) _⟩
    · have h3 : 4000 < err := by omega
      clear h1
      go_enter Try.func39, Try.ntmps39
      go_wp2
      go_ret
      exact ⟨ret_int HC.out.symm, (Below.refl _ _).alloc (Nat.le_refl _) _⟩

/-- The X ahead of a knot; -1 ahead of the first one. -/
def prevX (ks : List (Int × Int)) (k : Nat) : Int := if k = 0 then -1 else kx ks (k - 1)

set_option maxHeartbeats 3200000 in
theorem RCheck_loop (b off n cap : Nat) (err : Int) (ks : List (Int × Int)) (w : World) (h : Kn w b off ks) (hl : ks.length = n) (h0 : 0 < n) (hn : n ≤ 40) (he : 0 ≤ err ∧ err ≤ 4000) :
    Calls Try.prog 39 #[vCv (some ⟨b, off, none⟩) n cap err] w fun e w' => e = .returned (.int .i64 (check ks err)) ∧ Below w.heap.size w w' := by
  have hc : check ks err = if okK (-1) ks = true then 0 else 1 := by unfold check; rw [if_neg (by omega), if_neg (by omega)]
  have HC := Lib.hid hc
  clear hc
  obtain ⟨he1, he2⟩ := he
  have hlt := h.lt
  have HK := Lib.hid h
  clear h
  have HL := Lib.hid hl
  clear hl
  have hz2 : (((n : Nat) : Int) == 0) = false := by simp; omega
  go_enter Try.func39, Try.ntmps39
  go_wp2
  go_loopw [3] (fun i wr => ∃ (k : Nat), k ≤ n ∧ i = .int .i64 k ∧ okK (-1) ks = okK (prevX ks k) (ks.drop k) ∧ (0 < k → 0 ≤ prevX ks k) ∧ prevX ks k ≤ 2000 ∧ Blk wr w.heap.size 24 #[.slice (some ⟨b, off, none⟩) n cap, .int .i64 err] ∧ Below w.heap.size w wr) (fun i _ => n - (intOf i).toNat)
  case atStart => exact ⟨0, Nat.zero_le _, rfl, rfl, fun h => absurd h (by omega), by simp [prevX], Blk.new _ _ _, (Below.refl _ _).alloc (Nat.le_refl _) _⟩
  case round =>
    obtain ⟨k, hk, rfl, hok, hp0, hp1, hcb, hb⟩ := hrel
    have HO := Lib.hid hok
    have HCb := Lib.hid hcb
    clear hok
    have cc0 := hcb.cell 0
    simp only [List.getElem?_toArray, List.getElem?_cons_zero] at cc0
    have ccl := hcb.lt
    clear hcb
    by_cases hkn : k < n
    · have hkl : k < ks.length := by rw [HL.out]; exact hkn
      have hK := HK.out.below (show Below w.heap.size w wr from hb)
      have hx := hK.x k hkl
      have hy := hK.y k hkl
      have hlb := hK.lt
      have HD := Lib.hid (okK_drop (prevX ks k) ks k hkl)
      have hpx : prevX ks (k + 1) = kx ks k := by unfold prevX; rw [if_neg (by omega)]; rfl
      have HPx := Lib.hid hpx
      have hpe : 0 < k → prevX ks k = kx ks (k - 1) := fun h => by unfold prevX; rw [if_neg (by omega)]
      have hpc : 0 < k → wr.cell? ⟨b, off + (k - 1) * 2, none⟩ = some (.int .i64 (prevX ks k)) := fun h => by rw [hpe h]; exact hK.x (k - 1) (by omega)
      have HKr := Lib.hid hK
      have hp3 : k = 0 → prevX ks k = -1 := fun h => by unfold prevX; rw [if_pos h]
      clear hK hkl hpx hpe
      generalize kx ks k = x at *
      generalize ky ks k = y at *
      generalize prevX ks k = pv at *
      have hKb := Blk.new wr 108 #[.int .i64 x, .int .i64 y]
      have HCk := Lib.hid (HCb.out.alloc (.cells #[.int .i64 x, .int .i64 y] 108))
      have hbk := hb.alloc hb.size (.cells #[.int .i64 x, .int .i64 y] 108)
      go_wp2_with fail
      have q0 := hKb.cell 0
      have q1 := hKb.cell 1
      simp only [List.getElem?_toArray, List.getElem?_cons_zero, List.getElem?_cons_succ] at q0 q1
      have ql := hKb.lt
      have c0 := HCk.out.cell 0
      simp only [List.getElem?_toArray, List.getElem?_cons_zero] at c0
      have cl := HCk.out.lt
      have hlbk := Nat.lt_trans hlb hKb.lt
      have hpc2 : 0 < k → (wr.alloc (.cells #[.int .i64 x, .int .i64 y] 108)).cell? ⟨b, off + (k - 1) * 2, none⟩ = some (.int .i64 pv) := fun h => ((Below.refl wr.heap.size wr).alloc (Nat.le_refl _) _).cell (p := ⟨b, _, none⟩) hlb |>.trans (hpc h)
      clear hpc cc0 ccl hx hy
      generalize hWk : wr.alloc (.cells #[.int .i64 x, .int .i64 y] 108) = wk at *
      generalize hgk : wr.heap.size = gk at *
      clear hWk hKb
      obtain ⟨xc, xf⟩ := xcell (W := wk)
      by_cases h1 : x < 0
      · skip
        refine wp_region_quiet_tail 34 (by kernel_rfl) (by kernel_rfl) ?_
        simp only [List.take_succ_cons, List.take_zero, List.drop_succ_cons, List.drop_zero]
        repeat (first | go_big_quiet_step (fail) | quiet_step (fail))
        refine wpQuiet_nil ?_
        intro w1 hb1
        have hb2 := hbk.trans (hb1.mono hbk.size)
        have HC1 := Lib.hid (HCk.out.below hb1)
        clear xc xf q0 q1 ql c0 cl hlbk
        go_wp2
        go_ret
        exact ⟨ret_int (by rw [HC.out, HO.out, HD.out, decide_eq_false (by omega), Bool.false_and]; rfl), hb2⟩
      by_cases h2 : 2000 < x
      · skip
        refine wp_region_quiet_tail 34 (by kernel_rfl) (by kernel_rfl) ?_
        simp only [List.take_succ_cons, List.take_zero, List.drop_succ_cons, List.drop_zero]
        repeat (first | go_big_quiet_step (fail) | quiet_step (fail))
        refine wpQuiet_nil ?_
        intro w1 hb1
        have hb2 := hbk.trans (hb1.mono hbk.size)
        have HC1 := Lib.hid (HCk.out.below hb1)
        clear xc xf q0 q1 ql c0 cl hlbk
        go_wp2
        go_ret
        exact ⟨ret_int (by rw [HC.out, HO.out, HD.out, decide_eq_false (by omega), Bool.false_and]; rfl), hb2⟩
      by_cases h3 : y < -65536
      · skip
        refine wp_region_quiet_tail 34 (by kernel_rfl) (by kernel_rfl) ?_
        simp only [List.take_succ_cons, List.take_zero, List.drop_succ_cons, List.drop_zero]
        repeat (first | go_big_quiet_step (fail) | quiet_step (fail))
        refine wpQuiet_nil ?_
        intro w1 hb1
        have hb2 := hbk.trans (hb1.mono hbk.size)
        have HC1 := Lib.hid (HCk.out.below hb1)
        clear xc xf q0 q1 ql c0 cl hlbk
        go_wp2
        go_ret
        exact ⟨ret_int (by rw [HC.out, HO.out, HD.out, decide_eq_false (by omega), Bool.false_and]; rfl), hb2⟩
      by_cases h4 : 65536 < y
      · skip
        refine wp_region_quiet_tail 34 (by kernel_rfl) (by kernel_rfl) ?_
        simp only [List.take_succ_cons, List.take_zero, List.drop_succ_cons, List.drop_zero]
        repeat (first | go_big_quiet_step (fail) | quiet_step (fail))
        refine wpQuiet_nil ?_
        intro w1 hb1
        have hb2 := hbk.trans (hb1.mono hbk.size)
        have HC1 := Lib.hid (HCk.out.below hb1)
        clear xc xf q0 q1 ql c0 cl hlbk
        go_wp2
        go_ret
        exact ⟨ret_int (by rw [HC.out, HO.out, HD.out, decide_eq_false (by omega), Bool.false_and]; rfl), hb2⟩
      by_cases hk0 : k = 0
      · subst hk0
        have hpv := hp3 rfl
        clear hpc2
        refine wp_region_quiet_tail 34 (by kernel_rfl) (by kernel_rfl) ?_
        simp only [List.take_succ_cons, List.take_zero, List.drop_succ_cons, List.drop_zero]
        repeat (first | go_big_quiet_step (fail) | quiet_step (fail))
        refine wpQuiet_nil ?_
        intro w1 hb1
        have hb2 := hbk.trans (hb1.mono hbk.size)
        have HC1 := Lib.hid (HCk.out.below hb1)
        clear xc xf q0 q1 ql c0 cl hlbk
        go_wp2
        go_roundw
        case rel => exact ⟨0 + 1, by omega, by go_num, by rw [HO.out, HD.out, HPx.out, decide_eq_true (by omega), Bool.true_and], fun _ => by rw [HPx.out]; omega, by rw [HPx.out]; omega, HC1.out, hb2⟩
        case measure => simp [intOf]; omega
      have hkp : 0 < k := by omega
      have hpc3 := hpc2 hkp
      have hp00 := hp0 hkp
      have hke : ((k : Int) - 1) = ((k - 1 : Nat) : Int) := by omega
      clear hpc2
      by_cases h5 : x ≤ pv
      · skip
        refine wp_region_quiet_tail 34 (by kernel_rfl) (by kernel_rfl) ?_
        simp only [List.take_succ_cons, List.take_zero, List.drop_succ_cons, List.drop_zero]
        repeat (first | go_big_quiet_step (fail) | quiet_step (fail))
        refine wpQuiet_nil ?_
        intro w1 hb1
        have hb2 := hbk.trans (hb1.mono hbk.size)
        have HC1 := Lib.hid (HCk.out.below hb1)
        clear xc xf q0 q1 ql c0 cl hlbk
        go_wp2
        go_ret
        exact ⟨ret_int (by rw [HC.out, HO.out, HD.out, decide_eq_false (by omega), Bool.false_and]; rfl), hb2⟩
      refine wp_region_quiet_tail 34 (by kernel_rfl) (by kernel_rfl) ?_
      simp only [List.take_succ_cons, List.take_zero, List.drop_succ_cons, List.drop_zero]
      repeat (first | go_big_quiet_step (fail) | quiet_step (fail))
      refine wpQuiet_nil ?_
      intro w1 hb1
      have hb2 := hbk.trans (hb1.mono hbk.size)
      have HC1 := Lib.hid (HCk.out.below hb1)
      clear xc xf q0 q1 ql c0 cl hlbk
      go_wp2
      go_roundw
      case rel => exact ⟨k + 1, by omega, by go_num, by rw [HO.out, HD.out, HPx.out, decide_eq_true (by omega), Bool.true_and], fun _ => by rw [HPx.out]; omega, by rw [HPx.out]; omega, HC1.out, hb2⟩
      case measure => simp [intOf]; omega
    · have HN : okK (prevX ks k) (ks.drop k) = true := by rw [List.drop_eq_nil_of_le (by rw [HL.out]; omega)]; rfl
      have HN' := Lib.hid HN
      clear HN
      go_wp2
      go_ret
      exact ⟨ret_int (by rw [HC.out, HO.out, HN'.out]; rfl), hb⟩

theorem RCheck_any (A : Option Addr) (n cap : Nat) (err : Int) (ks : List (Int × Int)) (w : World) (h : CAt w A n ks) (hm : n ≤ 9223372036854775807) :
    Calls Try.prog 39 #[vCv A n cap err] w fun e w' => e = .returned (.int .i64 (check ks err)) ∧ Below w.heap.size w w' := by
  by_cases h1 : 40 < n
  · exact RCheck_long A n cap err ks w h h1 hm
  · by_cases h2 : n = 0 ∨ ¬ (0 ≤ err ∧ err ≤ 4000)
    · exact RCheck_arg A n cap err ks w h (by omega) h2
    · obtain ⟨b, off, rfl, hk⟩ := h.at_ (by omega)
      exact RCheck_loop b off n cap err ks w hk h.len (by omega) (by omega) (by omega)
end Go.Proofs.Ytipablcbkoedbaa
