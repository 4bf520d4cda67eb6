/- Steepest of the program. -/
import Derived.RangeFuncNested
import Derived.Shelf.Abstract
import Derived.RangeFuncBound
import Derived.RangeFuncCalls
import Derived.RangeFuncLeaves
import Derived.WalkKit
import Derived.OwnWalkIn
import Derived.TacticsInMore
import Derived.LoopNIn
import Derived.LoopIn
import Derived.WalkLawsBesides
import Derived.Deep.QuietTactic
import Derived.BigQuiet
import Derived.RegionTactic
import Derived.Lib.Hide
import Derived.Outline
import Derived.WalkSmall
import Derived.Test.YtipablcbkoedbaaProg
import Derived.Test.YtipablcbkoedbaaReg7
import Derived.Test.YtipablcbkoedbaaD1
import Derived.Test.YtipablcbkoedbaaF1
import Derived.Test.YtipablcbkoedbaaM1
namespace Go.Proofs.Ytipablcbkoedbaa
open Go.RowKit
attribute [local go_sem] Oper.semAt_some

theorem eg109 : ∀ args w, (callFunc 109 args).run Try.prog w = .ok (.enter 109 args) w := enters_of Try.func109 (by kernel_rfl) rfl
def slP (ks : List (Int × Int)) (pre : List (Fin (ks.length - 1))) : List (Int × Int) := pre.map fun i => slF ks i.val
theorem slP_snoc (ks : List (Int × Int)) (pre : List (Fin (ks.length - 1))) (i : Fin (ks.length - 1)) : slP ks (pre ++ [i]) = slP ks pre ++ [slF ks i.val] := by simp [slP]
theorem slP_all (ks : List (Int × Int)) : slP ks (List.finRange (ks.length - 1)) = slL ks := by
  unfold slP slL
  apply List.ext_getElem
  · simp
  · intro n h1 h2; simp
theorem slP_len (ks : List (Int × Int)) (pre : List (Fin (ks.length - 1))) : (slP ks pre).length = pre.length := by simp [slP]

set_option maxRecDepth 100000 in
set_option maxHeartbeats 3200000 in
theorem Steepest_any (A : Option Addr) (n cap : Nat) (err : Int) (ks : List (Int × Int)) (w : World) (h : CAt w A n ks) (hm : n ≤ 9223372036854775807) :
    Calls Try.prog 48 #[vCv A n cap err] w fun e w' => e = .returned (.tuple #[.int .i64 (stB ks err).2, vFrac (stB ks err).1.1 (stB ks err).1.2, .int .i64 (stErr ks err)]) ∧ Below w.heap.size w w' := by
  have HC := Lib.hid (fun W (hW : CAt W A n ks) => Check_any A n cap err ks W hW hm)
  generalize hW : (w.alloc (.cells #[.slice A n cap, .int .i64 err] 24)).alloc (.cells #[.int .i64 0, .int .i64 0] 30) = W
  have hbw : Below w.heap.size w W := by rw [← hW]; exact ((Below.refl _ _).alloc (Nat.le_refl _) _).alloc (by simp) _
  have hcb : Blk W w.heap.size 24 #[.slice A n cap, .int .i64 err] := by rw [← hW]; exact (Blk.at_new _ _ rfl).alloc _
  have hrb : Blk W (w.heap.size + 1) 30 #[.int .i64 0, .int .i64 0] := by rw [← hW]; exact Blk.at_new _ _ (by simp)
  have HWE := Lib.hid hW
  have HA := Lib.hid (h.below hbw)
  clear hW
  by_cases hz : check ks err = 0
  case neg =>
    have hz1 : (check ks err != 0) = true := by simpa using hz
    have he : stErr ks err = check ks err := by unfold stErr; rw [if_pos hz]
    have HE := Lib.hid (show stB ks err = ((0, 0), 0) by unfold stB; rw [he, if_neg hz])
    rw [he]
    clear hz h he
    generalize check ks err = ce at *
    refine (callsIn_wide (n := 3)).1 (callsIn_of_wp_marks Try.func48 rfl trivial ?_ rfl)
    simp only [Try.ntmps48, List.size_toArray, List.length_cons, List.length_nil, Nat.reduceAdd, Nat.reduceSub, Array.replicate_succ, Array.replicate_zero, List.push_toArray, List.append_toArray, List.nil_append, List.cons_append]
    gi_wp2_with fail
    refine ⟨trivial, ?_⟩
    rw [HWE.out]
    refine (callsIn_wide.2 (HC.out _ HA.out)).mono ?_; rintro e w1 ⟨rfl, hb1⟩
    have hr1 := hrb.below hb1
    have rc0 := hr1.cell 0
    have rc1 := hr1.cell 1
    simp only [List.getElem?_toArray, List.getElem?_cons_zero, List.getElem?_cons_succ] at rc0 rc1
    have rf0 := hr1.frozen 0
    have rf1 := hr1.frozen 1
    have rl := hr1.lt
    have hb2 := hbw.trans (hb1.mono hbw.size)
    gi_wp2
    have hF := (hr1.set_ 0 (.int .i64 0)).set_ 1 (.int .i64 0)
    have k0 := hF.cell 0
    have k1 := hF.cell 1
    simp only [List.setIfInBounds_toArray, List.set_cons_zero, List.set_cons_succ, List.getElem?_toArray, List.getElem?_cons_zero, List.getElem?_cons_succ] at k0 k1
    exact leave_none ⟨.tuple #[.int .i64 0, vFrac 0 0, .int .i64 ce], by simp [results, Try.results48, go_sem, k0, k1], by rw [HE.out], (hb2.setCell (p := ⟨w.heap.size + 1, 0, none⟩) (by simp) _).setCell (p := ⟨w.heap.size + 1, 1, none⟩) (by simp) _⟩
  obtain ⟨hv, _, _⟩ := check_zero hz
  have hpos := hv.pos
  have hle := hv.le
  have hlen := h.len
  obtain ⟨b, off, hAe, hkn⟩ := h.at_ (by omega)
  subst hAe hlen
  have HK := Lib.hid hkn
  rw [hz] at HC
  by_cases h1 : ks.length = 1
  · have he : stErr ks err = 5 := by unfold stErr; rw [if_neg (by simp [hz]), if_pos h1]
    have HE := Lib.hid (show stB ks err = ((0, 0), 0) by unfold stB; rw [he, if_neg (by omega)])
    rw [he]
    clear hz h he hkn hv
    have h11 : ((ks.length : Int) == 1) = true := by simp; omega
    generalize ks.length = kl at *
    subst h1
    refine (callsIn_wide (n := 3)).1 (callsIn_of_wp_marks Try.func48 rfl trivial ?_ rfl)
    simp only [Try.ntmps48, List.size_toArray, List.length_cons, List.length_nil, Nat.reduceAdd, Nat.reduceSub, Array.replicate_succ, Array.replicate_zero, List.push_toArray, List.append_toArray, List.nil_append, List.cons_append]
    gi_wp2_with fail
    refine ⟨trivial, ?_⟩
    rw [HWE.out]
    refine (callsIn_wide.2 (HC.out _ HA.out)).mono ?_; rintro e w1 ⟨rfl, hb1⟩
    have hr1 := hrb.below hb1
    have hc1 := hcb.below hb1
    have rc0 := hr1.cell 0
    have rc1 := hr1.cell 1
    have cc0 := hc1.cell 0
    have cc1 := hc1.cell 1
    simp only [List.getElem?_toArray, List.getElem?_cons_zero, List.getElem?_cons_succ] at rc0 rc1 cc0 cc1
    have rf0 := hr1.frozen 0
    have rf1 := hr1.frozen 1
    have rl := hr1.lt
    have hb2 := hbw.trans (hb1.mono hbw.size)
    gi_wp2
    have hF := (hr1.set_ 0 (.int .i64 0)).set_ 1 (.int .i64 0)
    have k0 := hF.cell 0
    have k1 := hF.cell 1
    simp only [List.setIfInBounds_toArray, List.set_cons_zero, List.set_cons_succ, List.getElem?_toArray, List.getElem?_cons_zero, List.getElem?_cons_succ] at k0 k1
    exact leave_none ⟨.tuple #[.int .i64 0, vFrac 0 0, .int .i64 5], by simp [results, Try.results48, go_sem, k0, k1], by rw [HE.out], (hb2.setCell (p := ⟨w.heap.size + 1, 0, none⟩) (by simp) _).setCell (p := ⟨w.heap.size + 1, 1, none⟩) (by simp) _⟩
  have he : stErr ks err = 0 := by unfold stErr; rw [if_neg (by simp [hz]), if_neg h1]
  have HE := Lib.hid (show stB ks err = extr gtF (slL ks) (0, 0) by unfold stB; rw [he, if_pos rfl])
  rw [he]
  have HFr := Lib.hid (slL_frb hv)
  have h11 : ((ks.length : Int) == 1) = false := by simp; omega
  have hl2 : 2 ≤ ks.length := by omega
  obtain ⟨i0, hi0, hi1, hi2, hi3⟩ := info_parts info_frac
  have HI := Lib.hid (show Try.prog.info? 30 = some i0 ∧ i0.zero = some (vFrac 0 0) ∧ i0.size = 2 ∧ i0.bytes = 16 from ⟨hi0, hi1, hi2, hi3⟩)
  clear hi0 hi1 hi2 hi3
  have HV := Lib.hid hv
  have hlt := hkn.lt
  clear hz h he hkn hv h1
  refine (callsIn_wide (n := 3)).1 (callsIn_of_wp_marks Try.func48 rfl trivial ?_ rfl)
  simp only [Try.ntmps48, List.size_toArray, List.length_cons, List.length_nil, Nat.reduceAdd, Nat.reduceSub, Array.replicate_succ, Array.replicate_zero, List.push_toArray, List.append_toArray, List.nil_append, List.cons_append]
  gi_wp2_with fail
  refine ⟨trivial, ?_⟩
  rw [HWE.out]
  refine (callsIn_wide.2 (HC.out _ HA.out)).mono ?_; rintro e w1 ⟨rfl, hb1⟩
  have hr1 := hrb.below hb1
  have hc1 := hcb.below hb1
  have cc0 := hc1.cell 0
  have cc1 := hc1.cell 1
  simp only [List.getElem?_toArray, List.getElem?_cons_zero, List.getElem?_cons_succ] at cc0 cc1
  have cl := hc1.lt
  have rl := hr1.lt
  have hb2 := hbw.trans (hb1.mono hbw.size)
  have HK1 := Lib.hid (HK.out.below hb2)
  clear hb1 HA HK
  gi_wp2_with (refine ⟨trivial, ?_⟩; gi_at_call 106; refine (callsIn_wide.2 (pieces_any _ _ _ _ _)).mono ?_; rintro e w' ⟨rfl, rfl⟩)
  generalize hW0 : (w1.alloc (.cells #[.slice none 0 0] 117)).alloc (.cells #[.slice (some ⟨b, off, none⟩) ks.length cap, .int .i64 err] 24) = W0
  have hs0 : W0.heap.size = w1.heap.size + 2 := by rw [← hW0]; simp
  have hv0 : Blk W0 w1.heap.size 117 #[.slice none 0 0] := by rw [← hW0]; exact (Blk.at_new _ _ rfl).alloc _
  have hp0 : Blk W0 (w1.heap.size + 1) 24 #[.slice (some ⟨b, off, none⟩) ks.length cap, .int .i64 err] := by rw [← hW0]; exact Blk.at_new _ _ (by simp)
  have hbW : Below w1.heap.size w1 W0 := by rw [← hW0]; exact ((Below.refl _ _).alloc (Nat.le_refl _) _).alloc (by simp) _
  have hr0 : Blk W0 (w.heap.size + 1) 30 #[.int .i64 0, .int .i64 0] := hr1.below hbW
  have hb3 := hb2.trans (hbW.mono hb2.size)
  have hk0 : Kn W0 b off ks := HK1.out.below hbW
  have hw1 := hb2.size
  have hlt0 : b < W0.heap.size := by omega
  clear hW0 hb2 hr1 hc1 cc0 cc1 HK1 hcb hrb hbw
  refine wpIn_rangeFunc_ownH (α := Fin (ks.length - 1)) rfl (by omega) (gf := 136) (lb := #[.pointer (some ⟨w1.heap.size + 1, 0, none⟩)]) rfl trivial (enters_of Try.func136 (by kernel_rfl) rfl)
    (pieces_stops _ (w1.heap.size + 1) b off cap ks (by omega) W0 (hp0.cell 0) (by omega) hk0) keep2_t (keep2_b (B := w1.heap.size + 1) (b := b) (w := W0) (by omega) (by omega)) (Below.refl _ _) (fun x => (rfl : (encP ks x).size = 2))
    (fun pre W => ∃ v, Blk W w1.heap.size 117 #[v] ∧ W.ownsRow W0.heap.size 30 2 v pre.length ((slP ks pre).flatMap encF) ∧ Blk W (w.heap.size + 1) 30 #[.int .i64 0, .int .i64 0] ∧ Below w.heap.size w W ∧ W0.heap.size ≤ W.heap.size)
    (fun _ _ _ => False)
    (fun pre X Y row hs hg hr => by
      obtain ⟨v, a1, a2, a3, a4, a5⟩ := hs
      exact ⟨v, Blk.own (β := Unit) _ _ _ _ () X Y row a1 hg hr, owns_own a2 hg hr, Blk.own (β := Unit) _ _ _ _ () X Y row a3 hg hr, ownFrom_below (β := Unit) (Nat.le_refl _) (show w.heap.size ≤ W0.heap.size by omega) () X Y row a4 hg hr, Nat.le_trans a5 hg.size⟩)
    (fun _ _ _ _ _ h => h.elim) ⟨.slice none 0 0, hv0, World.ownsRow_nil _ _ _ _, hr0, hb3, Nat.le_refl _⟩
    (fun i a' W => ∃ Bx, W0.heap.size ≤ Bx ∧ Blk W Bx 134 #[.int .i64 (kx ks i.val), .int .i64 (ky ks i.val), .int .i64 (kx ks (i.val + 1)), .int .i64 (ky ks (i.val + 1))] ∧
      a' = { tmps := #[vCv (some ⟨b, off, none⟩) ks.length cap err, .pointer (some ⟨w.heap.size, 0, none⟩), .int .i64 0, .pointer (some ⟨w.heap.size + 1, 0, none⟩), .int .i64 0, .int .i64 0, .pointer (some ⟨w1.heap.size, 0, none⟩), undef, .pointer (some ⟨Bx, 0, none⟩), undef, undef, vCv (some ⟨b, off, none⟩) ks.length cap err, .int .i64 0, .int .i64 0, .bool false, undef, undef, .pointer (some ⟨w.heap.size, 0, none⟩), .slice (some ⟨b, off, none⟩) ks.length cap, .int .i64 ks.length, .bool false, undef, vCv (some ⟨b, off, none⟩) ks.length cap err, .func (.func 136) #[] #[.pointer (some ⟨w1.heap.size + 1, 0, none⟩)], .int .i64 (i.val : Nat), vPiece (kx ks i.val) (ky ks i.val) (kx ks (i.val + 1)) (ky ks (i.val + 1)), undef, undef, undef, undef, undef, undef, undef, undef, undef, undef, undef, undef, undef, undef, undef], defers := [] })
    ?hAx ?assign ?body ?done ?stop
  case hAx =>
    rintro i a' _ X Y row ⟨Bx, h1, h2, h3⟩ hg hr
    exact ⟨Bx, h1, Blk.own (β := Unit) _ _ _ _ () X Y row h2 hg hr, h3⟩
  case assign =>
    rintro l pre i W K ⟨v, a1, a2, a3, a4, a5⟩ hK
    unfold encP
    gi_wp2
    exact hK _ _ ((KeepsOthers.alloc _ _).from _) (keep2_below ((Below.refl _ W).alloc (Nat.le_refl _) _) (by omega) (by omega)) ⟨v, a1.alloc _, a2.alloc _, a3.alloc _, a4.alloc a4.size _, by simp; omega⟩ ⟨W.heap.size, a5, Blk.new W _ _, rfl⟩
  case body =>
    rintro l pre i _ W hl ⟨r, hr⟩ ⟨v, a1, a2, a3, a4, a5⟩ ⟨Bx, hBx, hpc, rfl⟩ hlen
    have HS := Lib.hid (slP_snoc ks pre i)
    obtain ⟨i, hi⟩ := i
    dsimp only at hpc HS ⊢
    obtain ⟨e1, e2⟩ := HV.out.y0 i (by omega)
    obtain ⟨e3, e4⟩ := HV.out.y0 (i + 1) (by omega)
    obtain ⟨e5, e6⟩ := HV.out.x0 i (by omega)
    obtain ⟨e7, e8⟩ := HV.out.x0 (i + 1) (by omega)
    have e9 := HV.out.up i (by omega)
    have HSl := Lib.hid (show slF ks i = (lowN (ky ks (i + 1) - ky ks i) (kx ks (i + 1) - kx ks i), lowD (ky ks (i + 1) - ky ks i) (kx ks (i + 1) - kx ks i)) from rfl)
    have HFr := Lib.hid (fun W => frac_pos (ky ks (i + 1) - ky ks i) (kx ks (i + 1) - kx ks i) W (by omega) (by omega) (by omega) (by omega))
    have hlen2 : pre.length ≤ 40 := by omega
    clear hk0 hp0 hv0 hr0 hb3
    generalize ky ks (i + 1) = yq at *
    generalize ky ks i = yp at *
    generalize kx ks (i + 1) = xq at *
    generalize kx ks i = xp at *
    generalize lowN (yq - yp) (xq - xp) = sn at *
    generalize lowD (yq - yp) (xq - xp) = sd at *
    have HA2 := Lib.hid a2
    have HW1 := Lib.hid a1
    clear hr
    gi_wp2
    refine wpIn_region_preC 8 [(6, 32), (7, 33)]
      (fun v' => KeepsFrom W0.heap.size W v' ∧ Keep2 (w1.heap.size + 1) b W v' ∧ Below w.heap.size w v' ∧ W0.heap.size ≤ v'.heap.size ∧ Blk v' w1.heap.size 117 #[v] ∧ Blk v' Bx 134 #[.int .i64 xp, .int .i64 yp, .int .i64 xq, .int .i64 yq] ∧ Blk v' (w.heap.size + 1) 30 #[.int .i64 0, .int .i64 0])
      (OneRow 30 2 W0.heap.size pre.length 6 7 v ((slP ks pre).flatMap encF) [.int .i64 sn, .int .i64 sd]) (openRound _ _) (by kernel_rfl) (by kernel_rfl) ?hw ?hC ?h0 ?hP ?ex
    case hw => exact ⟨KeepsFrom.refl _ _, keep2_refl _ _ _, a4, a5, a1, hpc, a3⟩
    case hC =>
      rintro v1 v2 ⟨h1, h2, h3, h4, h5, h6, h7⟩ k
      exact ⟨h1.trans (keepsFrom_below k), keep2_t h2 (keep2_below k (by omega) (by omega)), h3.trans (k.mono h3.size), Nat.le_trans h4 k.size, h5.below k, h6.below k, h7.below k⟩
    case h0 =>
      intro v' hv'
      refine OneRow.below (W := W) ?_ hv'
      exact ⟨by simpa using HA2.out, fun h => (by cases h)⟩
    case hP => exact fun ls vs v v' _ h k => h.below k
    case ex =>
      apply Exists.intro
      refine ⟨?walk, ?loud⟩
      case walk =>
        rintro W ⟨h1, h2, h3, h4, h5, h6, h7⟩
        have c0 := h5.cell 0
        have d0 := h6.cell 0
        have d1 := h6.cell 1
        have d2 := h6.cell 2
        have d3 := h6.cell 3
        simp only [List.getElem?_toArray, List.getElem?_cons_zero, List.getElem?_cons_succ] at c0 d0 d1 d2 d3
        have l3 := h5.lt
        have l4 := h6.lt
        obtain ⟨xc, xf⟩ := xcell (W := W)
        simp only [List.take_succ_cons, List.take_zero, qOf, isLoud, List.any_cons, List.any_nil, Nat.reduceBEq, Bool.or_false, Bool.or_true, Nat.reduceAdd, Bool.false_eq_true, if_true, if_false, beq_self_eq_true, Nat.zero_add]
        repeat (first | go_big_quiet_step (first | (go_at_call 108; exact calls_ext (run_any _ _ _ _ _ (by omega) (by omega) (by omega) (by omega))) | (go_at_call 107; exact calls_ext (rise_any _ _ _ _ _ (by omega) (by omega) (by omega) (by omega))) | (go_at_call 100; with_reducible refine calls_ext (HFr.out _))) | quiet_step (first | (go_at_call 108; exact calls_ext (run_any _ _ _ _ _ (by omega) (by omega) (by omega) (by omega))) | (go_at_call 107; exact calls_ext (rise_any _ _ _ _ _ (by omega) (by omega) (by omega) (by omega))) | (go_at_call 100; with_reducible refine calls_ext (HFr.out _))))
        exact wpQuiet_nil rfl
      case loud =>
        simp only [List.drop_succ_cons, List.drop_zero]
        refine ⟨?_, ?_⟩
        · rintro p hp vs V ⟨h1, h2, h3, h4, h5, h6, h7⟩ ls hI hls hw o ho
          simp only [List.mem_cons, List.not_mem_nil, or_false] at hp
          rcases hp with rfl | rfl
          · simp only [List.getElem?_cons_succ, List.getElem?_cons_zero, Option.some.injEq] at ho
            subst ho
            simp [loudAt, loudUpon, go_sem, execOp, putsL, Act.put]
            exact ⟨⟨h1.trans ((KeepsOthers.alloc _ _).from _), keep2_t h2 (keep2_below ((Below.refl _ _).alloc (Nat.le_refl _) _) (by omega) (by omega)), h3.alloc h3.size _, by omega, h5.alloc _, h6.alloc _, h7.alloc _⟩, hI.lay (by decide)⟩
          · have h9 := hw (6, 32) (by simp) (by kernel_rfl)
            obtain ⟨g, e, hbk⟩ := hI.new h9 hls
            have hrow := hI.row
            have h8 := hls
            simp only [h8, cond_false, Nat.add_zero, List.append_nil] at hrow
            simp only [List.getElem?_cons_succ, List.getElem?_cons_zero, Option.some.injEq] at ho
            subst ho
            refine loudAt_append (.tmp 26) (.tmp 32) 117 rfl W0.heap.size 30 i0 (vFrac 0 0) 2 16 Try.underlying117 HI.out.1 HI.out.2.1 HI.out.2.2.1 HI.out.2.2.2 rfl (by decide) v pre.length ((slP ks pre).flatMap encF) rfl hrow ⟨g, 0, none⟩ 1 1 [.int .i64 sn, .int .i64 sd] e rfl ?c1 ?c2 ?c3 ?c4 h4 ?_
            case c1 =>
              have g0 := hbk.cell 0
              have g1 := hbk.cell 1
              simp only [List.getElem?_toArray, List.getElem?_cons_zero, List.getElem?_cons_succ] at g0 g1
              intro j' u hj'
              match j', hj' with
              | 0, hj' => simp at hj'; subst hj'; simpa [Addr.add] using g0
              | 1, hj' => simp at hj'; subst hj'; simpa [Addr.add] using g1
            case c2 => intro u hu; simp at hu; rcases hu with rfl | rfl <;> rfl
            case c3 => unfold maxLen; omega
            case c4 => omega
            intro v' w2 hown' hgrow hat
            have hlo : ∀ g, v.ownBlock = some g → W0.heap.size ≤ g := fun g hg => (own_lt hrow hg).1
            have hne : ∀ g, g < W0.heap.size → v.ownBlock ≠ some g := fun g hg h => by have := hlo g h; omega
            refine ⟨⟨h1.trans (own_keeps hrow hgrow), keep2_t h2 ⟨?_, ?_, hgrow.size⟩, h3.grown hgrow h3.size (fun k hk => ?_), Nat.le_trans h4 hgrow.size, h5.grown hgrow (hne _ (by omega)), h6.grown hgrow (own_ne hrow h6 (by decide)), h7.grown hgrow (hne _ (by omega))⟩, hI.app v' hown'⟩
            · exact hgrow.block _ (by omega) (fun h => hne (w1.heap.size + 1) (by omega) h.symm)
            · exact hgrow.block _ (by omega) (fun h => hne b (by omega) h.symm)
            · have := hlo k hk; omega
        · rintro ls vs V ⟨h1, h2, h3, h4, h5, h6, h7⟩ hI hls
          have h8 := hls (7, 33) (by simp)
          have hrow := hI.row
          simp only [h8, cond_true] at hrow
          have HN := Lib.hid hrow
          have H1 := Lib.hid h1
          have H2 := Lib.hid h2
          have H3 := Lib.hid h3
          have H5 := Lib.hid h5
          have H7 := Lib.hid h7
          have g0 := h5.cell 0
          have f0 := h5.frozen 0
          simp only [List.getElem?_toArray, List.getElem?_cons_zero] at g0
          clear hrow hI hls h8 h1 h2 h3 h5 h6 h7
          simp only [putsL, List.foldl_cons, List.foldl_nil, Act.put, List.setIfInBounds_toArray, List.set_cons_succ, List.set_cons_zero]
          generalize vs 7 = v7 at *
          generalize vs 6 = v6 at *
          obtain ⟨g', cap', rfl⟩ := ownsRow_succ HN.out
          gi_wp2
          refine ⟨H1.out.trans ((KeepsOthers.setCell _ _ _).from _), keep2_t H2.out (keep2_set (by simp) (by simp; omega)), .slice (some ⟨g', 0, none⟩) (pre.length + 1) cap', ?_, ?_, H7.out.far (p := ⟨w1.heap.size, 0, none⟩) (by simp; omega) _, H3.out.setCell (p := ⟨w1.heap.size, 0, none⟩) (by simp; omega) _, by simpa [World.setCell] using h4⟩
          · simpa using H5.out.set_ 0 _
          · rw [HS.out, HSl.out]
            have := owns_grown HN.out (grownBy_setCell' V w1.heap.size (.slice (some ⟨g', 0, none⟩) (pre.length + 1) cap')) (fun g hg e => by have := (own_lt HN.out hg).1; have e2 := Option.some.inj e; omega)
            simpa [encF] using this
  case done =>
    rintro D xs W hD hxs ⟨v, a1, a2, a3, a4, a5⟩ hK
    subst hxs
    rw [slP_all] at a2
    have hn : (slL ks).length = ks.length - 1 := slL_len ks
    rw [List.length_finRange, ← hn] at a2
    rcases a2.2 with ⟨_, h0⟩ | ⟨g, c, cur, hv', hg, _⟩
    · omega
    subst hv'
    have hF1 : Fs W g 0 (slL ks) := Fs_of_own a2
    have hX1 := extremeF_any 109 eg109 gtF g 0 c (slL ks) W (fun W a b ha hb => steepest1_any a b W (HFr.out a ha) (HFr.out b hb)) hF1 (by omega)
    have HX1 := Lib.hid hX1
    have g0 := a1.cell 0
    have l1 := a1.lt
    simp only [List.getElem?_toArray, List.getElem?_cons_zero] at g0
    clear hX1 hF1 hn a2 hk0 hp0 hv0 hr0 hb3
    generalize extr gtF (slL ks) (0, 0) = m at *
    gi_wp2_with fail
    refine ⟨trivial, (callsIn_wide.2 HX1.out).mono ?_⟩
    rintro e w2 ⟨rfl, hb2⟩
    obtain ⟨⟨mn, md⟩, mi⟩ := m
    have hb4 := a4.trans (hb2.mono a4.size)
    have hb5 := hb4.alloc hb4.size (.cells #[.int .i64 mn, .int .i64 md] 30)
    have hr2 := (a3.below hb2).alloc (.cells #[.int .i64 mn, .int .i64 md] 30)
    have hf2 := Blk.new w2 30 #[.int .i64 mn, .int .i64 md]
    have hD2 : D < w2.heap.size := Nat.lt_of_lt_of_le (Array.getElem?_eq_some_iff.1 hK).1 hb2.size
    have hK2 := (hb2.block D (Array.getElem?_eq_some_iff.1 hK).1).trans hK
    have hK3 := (Below.heap_alloc w2 (.cells #[.int .i64 mn, .int .i64 md] 30) D hD2).trans hK2
    clear g0 l1
    have g0 := hf2.cell 0
    have g1 := hf2.cell 1
    simp only [List.getElem?_toArray, List.getElem?_cons_zero, List.getElem?_cons_succ] at g0 g1
    obtain ⟨xc, xf⟩ := xcell (W := w2.alloc (.cells #[.int .i64 mn, .int .i64 md] 30))
    gi_wp2
    refine wpIn_region_quiet_tail 3 (openWide _) (by kernel_rfl) (by kernel_rfl) ?_
    simp only [List.take_succ_cons, List.take_zero, List.drop_succ_cons, List.drop_zero]
    repeat (first | go_big_quiet_step (fail) | quiet_step (fail))
    refine wpQuiet_nil ?_
    intro w3 hb6
    have hr3 := hr2.below hb6
    have hK4 := (hb6.block D (by simp; omega)).trans hK3
    have hb7 := hb5.trans (hb6.mono hb5.size)
    clear g0 g1
    have g0 := hr3.cell 0
    have g1 := hr3.cell 1
    have f0 := hr3.frozen 0
    have f1 := hr3.frozen 1
    have rl3 := hr3.lt
    simp only [List.getElem?_toArray, List.getElem?_cons_zero, List.getElem?_cons_succ] at g0 g1
    gi_wp2
    refine leave_one (D := D) ((Below.heap_setCell _ _ _ _ (by simp; omega)).trans ((Below.heap_setCell _ _ _ _ (by simp; omega)).trans hK4)) ?_
    have hr4 := ((hr3.set_ 0 (.int .i64 mn)).set_ 1 (.int .i64 md)).put (D := D) (o := .deferred none) (by omega)
    have h30 := hr4.cell 0
    have h31 := hr4.cell 1
    simp only [List.setIfInBounds_toArray, List.set_cons_zero, List.set_cons_succ, List.getElem?_toArray, List.getElem?_cons_zero, List.getElem?_cons_succ] at h30 h31
    exact ⟨.tuple #[.int .i64 mi, vFrac mn md, .int .i64 0], by simp [results, Try.results48, go_sem, h30, h31], by rw [HE.out], below_put ((hb7.setCell (p := ⟨w.heap.size + 1, 0, none⟩) (by simp) _).setCell (p := ⟨w.heap.size + 1, 1, none⟩) (by simp) _) (by omega)⟩
  case stop =>
    rintro D c pre W hD hpre h hK
    exact h.elim
end Go.Proofs.Ytipablcbkoedbaa
