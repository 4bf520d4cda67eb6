/- less, Apart. -/
import Derived.RangeFuncNested
import Derived.Shelf.Abstract
import Derived.RangeFuncBound
import Derived.RangeFuncCalls
import Derived.RangeFuncLeaves
import Derived.WalkKit
import Derived.OwnWalkIn
import Derived.TacticsInMore
import Derived.LoopNIn
import Derived.LoopIn
import Derived.WalkLawsBesides
import Derived.Deep.QuietTactic
import Derived.BigQuiet
import Derived.RegionTactic
import Derived.Lib.Hide
import Derived.Outline
import Derived.WalkSmall
import Derived.Test.YtipablcbkoedbaaProg
import Derived.OwnWalk
import Derived.Test.YtipablcbkoedbaaC7
namespace Go.Proofs.Ytipablcbkoedbaa
open Go.RowKit

theorem less_any (a b c d : Int) (w : World) (h1 : -4000000000000 ≤ a * d) (h2 : a * d ≤ 4000000000000) (h3 : -4000000000000 ≤ c * b) (h4 : c * b ≤ 4000000000000) (h5 : 1 ≤ b * d) (h6 : b * d ≤ 4000000000000) :
    Calls Try.prog 111 #[vFrac a b, vFrac c d] w fun e w' => e = .returned (vFrac (lowN (a * d - c * b) (b * d)) (lowD (a * d - c * b) (b * d))) ∧ Below w.heap.size w w' := by
  have hF := fun W => frac_pos (a * d - c * b) (b * d) W (by omega) (by omega) (by omega) (by omega)
  have HF := Lib.hid hF
  clear hF
  generalize lowN (a * d - c * b) (b * d) = qn at *
  generalize lowD (a * d - c * b) (b * d) = qd at *
  go_enter Try.func111, Try.ntmps111
  go_wp2_with fail
  refine (HF.out _).mono ?_
  rintro e w1 ⟨rfl, hb1⟩
  have hr := (Blk.new ((w.alloc (.cells #[.int .i64 a, .int .i64 b] 30)).alloc (.cells #[.int .i64 c, .int .i64 d] 30)) 30 #[.int .i64 0, .int .i64 0]).below hb1
  simp only [World.size_alloc] at hr
  have g0 := hr.cell 0
  have g1 := hr.cell 1
  have f0 := hr.frozen 0
  have f1 := hr.frozen 1
  have hl := hr.lt
  simp only [List.getElem?_toArray, List.getElem?_cons_zero, List.getElem?_cons_succ] at g0 g1
  have hb2 := ((((Below.refl w.heap.size w).alloc (Nat.le_refl _) (.cells #[.int .i64 a, .int .i64 b] 30)).alloc (by simp) (.cells #[.int .i64 c, .int .i64 d] 30)).alloc (by simp; omega) (.cells #[.int .i64 0, .int .i64 0] 30)).trans (hb1.mono (by simp; omega))
  go_wp2
  have hF := (hr.set_ 0 (.int .i64 qn)).set_ 1 (.int .i64 qd)
  have k0 := hF.cell 0
  have k1 := hF.cell 1
  simp only [List.setIfInBounds_toArray, List.set_cons_zero, List.set_cons_succ, List.getElem?_toArray, List.getElem?_cons_zero, List.getElem?_cons_succ] at k0 k1
  exact bodyPost_ret (v := vFrac qn qd) (by simp [results, Try.results111, go_sem, k0, k1]) rfl ⟨rfl, (hb2.setCell (p := ⟨w.heap.size + 1 + 1, 0, none⟩) (by simp; omega) _).setCell (p := ⟨w.heap.size + 1 + 1, 1, none⟩) (by simp; omega) _⟩

/-- The difference of two values. -/
def dfN (ks ks' : List (Int × Int)) (x : Int) : Int := lowN (valN ks x * valD ks' x - valN ks' x * valD ks x) (valD ks x * valD ks' x)
def dfD (ks ks' : List (Int × Int)) (x : Int) : Int := lowD (valN ks x * valD ks' x - valN ks' x * valD ks x) (valD ks x * valD ks' x)
abbrev fD (ks ks' : List (Int × Int)) (x : Int) : Int × Int := (dfN ks ks' x, dfD ks ks' x)

theorem df_bd {ks ks' : List (Int × Int)} (hv : Valid ks) (hv' : Valid ks') {x : Int} (h0 : kx ks 0 ≤ x) (h0' : kx ks' 0 ≤ x) :
    -262144000000 ≤ valN ks x * valD ks' x ∧ valN ks x * valD ks' x ≤ 262144000000 ∧ -262144000000 ≤ valN ks' x * valD ks x ∧ valN ks' x * valD ks x ≤ 262144000000 ∧ 1 ≤ valD ks x * valD ks' x ∧ valD ks x * valD ks' x ≤ 4000000 := by
  obtain ⟨a1, a2, a3, a4⟩ := val_bd hv h0
  obtain ⟨b1, b2, b3, b4⟩ := val_bd hv' h0'
  obtain ⟨p1, p2⟩ := mul_bd (A := 131072000) (B := 2000) (x := valN ks x) (y := valD ks' x) (by omega) (by omega) (by omega) (by omega)
  obtain ⟨q1, q2⟩ := mul_bd (A := 131072000) (B := 2000) (x := valN ks' x) (y := valD ks x) (by omega) (by omega) (by omega) (by omega)
  obtain ⟨r1, r2⟩ := mul_bd (A := 2000) (B := 2000) (x := valD ks x) (y := valD ks' x) (by omega) (by omega) (by omega) (by omega)
  have r3 : 1 * 1 ≤ valD ks x * valD ks' x := Int.mul_le_mul a3 b3 (by omega) (by omega)
  exact ⟨by omega, by omega, by omega, by omega, by omega, by omega⟩
theorem fD_frb {ks ks' : List (Int × Int)} (hv : Valid ks) (hv' : Valid ks') {x : Int} (h0 : kx ks 0 ≤ x) (h0' : kx ks' 0 ≤ x) : FrB (fD ks ks' x) := by
  obtain ⟨a, b, c, d, e, f⟩ := df_bd hv hv' h0 h0'
  have p := lowN_bd (n := valN ks x * valD ks' x - valN ks' x * valD ks x) (d := valD ks x * valD ks' x) (M := 524288000000) e (by omega) (by omega)
  have q := lowD_bd (n := valN ks x * valD ks' x - valN ks' x * valD ks x) (d := valD ks x * valD ks' x) (D := 4000000) e f
  exact ⟨by show _ ≤ lowN _ _; omega, by show lowN _ _ ≤ _; omega, q.1, by show lowD _ _ ≤ _; omega⟩

/-- The literal in Apart. -/
theorem apart1_any (W : World) (g g' b off n cap b' off' n' cap' : Nat) (err err' : Int) (ks ks' : List (Int × Int)) (x : Int)
    (hb : Blk W g 24 #[.slice (some ⟨b, off, none⟩) n cap, .int .i64 err]) (h : Kn W b off ks) (hn : ks.length = n) (hv : Valid ks)
    (hb' : Blk W g' 24 #[.slice (some ⟨b', off', none⟩) n' cap', .int .i64 err']) (h' : Kn W b' off' ks') (hn' : ks'.length = n') (hv' : Valid ks')
    (hx1 : 0 ≤ x) (hx2 : x ≤ 2000) (h0 : kx ks 0 ≤ x) (h0' : kx ks' 0 ≤ x) :
    Calls Try.prog 110 #[.int .i64 x, .pointer (some ⟨g, 0, none⟩), .pointer (some ⟨g', 0, none⟩)] W fun e w' => e = .returned (vFrac (dfN ks ks' x) (dfD ks ks' x)) ∧ Below W.heap.size W w' := by
  have hV := fun V (hV : Kn V b off ks) => value_any b off cap err ks x V hV hv hx1 hx2
  have hV' := fun V (hV : Kn V b' off' ks') => value_any b' off' cap' err' ks' x V hV hv' hx1 hx2
  rw [hn] at hV
  rw [hn'] at hV'
  have hL := fun V => less_any (valN ks x) (valD ks x) (valN ks' x) (valD ks' x) V (by have := df_bd hv hv' h0 h0'; omega) (by have := df_bd hv hv' h0 h0'; omega) (by have := df_bd hv hv' h0 h0'; omega) (by have := df_bd hv hv' h0 h0'; omega) (by have := df_bd hv hv' h0 h0'; omega) (by have := df_bd hv hv' h0 h0'; omega)
  have hDN : dfN ks ks' x = lowN (valN ks x * valD ks' x - valN ks' x * valD ks x) (valD ks x * valD ks' x) := rfl
  have hDD : dfD ks ks' x = lowD (valN ks x * valD ks' x - valN ks' x * valD ks x) (valD ks x * valD ks' x) := rfl
  rw [← hDN, ← hDD] at hL
  clear hDN hDD
  have HV := Lib.hid hV
  have HV' := Lib.hid hV'
  have HL := Lib.hid hL
  clear hV hV' hL hv hv' h0 h0' hn hn'
  generalize dfN ks ks' x = qn at *
  generalize dfD ks ks' x = qd at *
  generalize valN ks x = n1 at *
  generalize valD ks x = d1 at *
  generalize valN ks' x = n2 at *
  generalize valD ks' x = d2 at *
  generalize hW1 : W.alloc (.cells #[.int .i64 0, .int .i64 0] 30) = W1
  have hbw : Below W.heap.size W W1 := by rw [← hW1]; exact (Below.refl _ _).alloc (Nat.le_refl _) _
  have hr1 : Blk W1 W.heap.size 30 #[.int .i64 0, .int .i64 0] := by rw [← hW1]; exact Blk.new _ _ _
  have hc1 := hb.below hbw
  have hd1 := hb'.below hbw
  have HK := Lib.hid (h.below hbw)
  have HK' := Lib.hid (h'.below hbw)
  have HWE := Lib.hid hW1
  clear hW1 h h' hb hb'
  have hc0 := hc1.cell 0
  have hc1' := hc1.cell 1
  have hd0 := hd1.cell 0
  have hd1' := hd1.cell 1
  have hl1 := hc1.lt
  have hl2 := hd1.lt
  simp only [List.getElem?_toArray, List.getElem?_cons_zero, List.getElem?_cons_succ] at hc0 hc1' hd0 hd1'
  go_enter Try.func110, Try.ntmps110
  go_wp2
  rw [HWE.out]
  obtain ⟨xc, xf⟩ := xcell (W := W1)
  refine wp_region_quiet_tail 7 (by kernel_rfl) (by kernel_rfl) ?_
  simp only [List.take_succ_cons, List.take_zero, List.drop_succ_cons, List.drop_zero]
  repeat (first | go_big_quiet_step (first | (go_at_call 83; with_reducible refine calls_ext (HV.out _ ?_); exact HK.out.below (Ext.below _)) | (go_at_call 83; with_reducible refine calls_ext (HV'.out _ ?_); exact HK'.out.below (Ext.below _)) | (go_at_call 111; exact calls_ext (HL.out _))) | quiet_step (first | (go_at_call 83; with_reducible refine calls_ext (HV.out _ ?_); exact HK.out.below (Ext.below _)) | (go_at_call 83; with_reducible refine calls_ext (HV'.out _ ?_); exact HK'.out.below (Ext.below _)) | (go_at_call 111; exact calls_ext (HL.out _))))
  refine wpQuiet_nil ?_
  intro w1 hb1
  have hr2 := hr1.below hb1
  have g0 := hr2.cell 0
  have g1 := hr2.cell 1
  have f0 := hr2.frozen 0
  have f1 := hr2.frozen 1
  have hl := hr2.lt
  simp only [List.getElem?_toArray, List.getElem?_cons_zero, List.getElem?_cons_succ] at g0 g1
  have hb2 := hbw.trans (hb1.mono hbw.size)
  go_wp2
  have hF := (hr2.set_ 0 (.int .i64 qn)).set_ 1 (.int .i64 qd)
  have k0 := hF.cell 0
  have k1 := hF.cell 1
  simp only [List.setIfInBounds_toArray, List.set_cons_zero, List.set_cons_succ, List.getElem?_toArray, List.getElem?_cons_zero, List.getElem?_cons_succ] at k0 k1
  exact bodyPost_ret (v := vFrac qn qd) (by simp [results, Try.results110, go_sem, k0, k1]) rfl ⟨rfl, (hb2.setCell (p := ⟨W.heap.size, 0, none⟩) (by simp) _).setCell (p := ⟨W.heap.size, 1, none⟩) (by simp) _⟩
theorem eg110 : ∀ args w, (callFunc 110 args).run Try.prog w = .ok (.enter 110 args) w := enters_of Try.func110 (by kernel_rfl) rfl
end Go.Proofs.Ytipablcbkoedbaa
