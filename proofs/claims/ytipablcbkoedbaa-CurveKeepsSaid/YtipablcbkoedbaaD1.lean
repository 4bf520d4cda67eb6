/- rising. -/
import Derived.RangeFuncNested
import Derived.Shelf.Abstract
import Derived.RangeFuncBound
import Derived.RangeFuncCalls
import Derived.RangeFuncLeaves
import Derived.WalkKit
import Derived.OwnWalkIn
import Derived.TacticsInMore
import Derived.LoopNIn
import Derived.LoopIn
import Derived.WalkLawsBesides
import Derived.Deep.QuietTactic
import Derived.BigQuiet
import Derived.RegionTactic
import Derived.Lib.Hide
import Derived.Outline
import Derived.WalkSmall
import Derived.Test.YtipablcbkoedbaaProg
import Derived.Test.YtipablcbkoedbaaReg2
import Derived.Test.YtipablcbkoedbaaC7
namespace Go.Proofs.Ytipablcbkoedbaa
open Go.RowKit
attribute [local go_sem] Oper.semAt_some

theorem keep2_set {B b : Nat} {W : World} {p : Addr} {v : Value} (h1 : B ≠ p.block) (h2 : b ≠ p.block) : Keep2 B b W (W.setCell p v) :=
  ⟨Below.heap_setCell W p v B h1, Below.heap_setCell W p v b h2, by simp [World.setCell]⟩
def upTo (ks : List (Int × Int)) (j : Nat) : Bool := (List.range j).all fun i => decide (0 < ky ks (i + 1) - ky ks i)
def dnTo (ks : List (Int × Int)) (j : Nat) : Bool := (List.range j).all fun i => decide (ky ks (i + 1) - ky ks i < 0)
theorem upTo_succ (ks : List (Int × Int)) (j : Nat) : upTo ks (j + 1) = (upTo ks j && decide (0 < ky ks (j + 1) - ky ks j)) := by
  unfold upTo; rw [List.range_succ, List.all_append]; simp
theorem dnTo_succ (ks : List (Int × Int)) (j : Nat) : dnTo ks (j + 1) = (dnTo ks j && decide (ky ks (j + 1) - ky ks j < 0)) := by
  unfold dnTo; rw [List.range_succ, List.all_append]; simp
def risingI (ks : List (Int × Int)) : Int := if upTo ks (ks.length - 1) = true then 1 else if dnTo ks (ks.length - 1) = true then -1 else 0

def upL (ks : List (Int × Int)) (pre : List (Fin (ks.length - 1))) : Bool := pre.all fun i => decide (0 < ky ks (i.val + 1) - ky ks i.val)
def dnL (ks : List (Int × Int)) (pre : List (Fin (ks.length - 1))) : Bool := pre.all fun i => decide (ky ks (i.val + 1) - ky ks i.val < 0)
theorem upL_snoc (ks : List (Int × Int)) (pre : List (Fin (ks.length - 1))) (i : Fin (ks.length - 1)) : upL ks (pre ++ [i]) = (upL ks pre && decide (0 < ky ks (i.val + 1) - ky ks i.val)) := by
  unfold upL; rw [List.all_append]; simp
theorem dnL_snoc (ks : List (Int × Int)) (pre : List (Fin (ks.length - 1))) (i : Fin (ks.length - 1)) : dnL ks (pre ++ [i]) = (dnL ks pre && decide (ky ks (i.val + 1) - ky ks i.val < 0)) := by
  unfold dnL; rw [List.all_append]; simp
theorem all_fin (m : Nat) (p : Nat → Bool) : (List.finRange m).all (fun i => p i.val) = (List.range m).all p := by
  rw [Bool.eq_iff_iff]
  simp only [List.all_eq_true, List.mem_finRange, true_implies, List.mem_range]
  exact ⟨fun h x hx => h ⟨x, hx⟩, fun h x => h x.val x.isLt⟩
theorem upL_all (ks : List (Int × Int)) : upL ks (List.finRange (ks.length - 1)) = upTo ks (ks.length - 1) := all_fin _ fun i => decide (0 < ky ks (i + 1) - ky ks i)
theorem dnL_all (ks : List (Int × Int)) : dnL ks (List.finRange (ks.length - 1)) = dnTo ks (ks.length - 1) := all_fin _ fun i => decide (ky ks (i + 1) - ky ks i < 0)

set_option maxRecDepth 100000 in
set_option maxHeartbeats 1600000 in
theorem rising_any (b off cap : Nat) (err : Int) (ks : List (Int × Int)) (w : World) (h : Kn w b off ks) (hv : Valid ks) :
    Calls Try.prog 74 #[vCv (some ⟨b, off, none⟩) ks.length cap err] w fun e w' => e = .returned (.int .i64 (risingI ks)) ∧ Below w.heap.size w w' := by
  have hlt := h.lt
  have hp := hv.pos
  have hle := hv.le
  refine (callsIn_wide (n := 3)).1 (callsIn_of_wp_marks Try.func74 rfl trivial ?_ rfl)
  simp only [Try.ntmps74, List.size_toArray, List.length_cons, List.length_nil, Nat.reduceAdd, Nat.reduceSub, Array.replicate_succ, Array.replicate_zero, List.push_toArray, List.append_toArray, List.nil_append, List.cons_append]
  gi_wp2_with (refine ⟨trivial, ?_⟩; gi_at_call 106; refine (callsIn_wide.2 (pieces_any _ _ _ _ _)).mono ?_; rintro e w' ⟨rfl, rfl⟩)
  generalize hW0 : (((w.alloc (.cells #[.slice (some ⟨b, off, none⟩) ks.length cap, .int .i64 err] 24)).alloc (.cells #[.bool true] 4)).alloc (.cells #[.bool true] 4)).alloc (.cells #[.slice (some ⟨b, off, none⟩) ks.length cap, .int .i64 err] 24) = W0
  have hs0 : W0.heap.size = w.heap.size + 4 := by rw [← hW0]; simp
  have hu0 : Blk W0 (w.heap.size + 1) 4 #[.bool (upL ks [])] := by rw [← hW0]; exact ((Blk.at_new _ _ (by simp)).alloc _).alloc _
  have hd0 : Blk W0 (w.heap.size + 2) 4 #[.bool (dnL ks [])] := by rw [← hW0]; exact (Blk.at_new _ _ (by simp)).alloc _
  have hp0 : Blk W0 (w.heap.size + 3) 24 #[.slice (some ⟨b, off, none⟩) ks.length cap, .int .i64 err] := by rw [← hW0]; exact Blk.at_new _ _ (by simp)
  have hbw : Below w.heap.size w W0 := by rw [← hW0]; exact ((((Below.refl _ _).alloc (Nat.le_refl _) _).alloc (by simp) _).alloc (by simp; omega) _).alloc (by simp; omega) _
  have hk0 : Kn W0 b off ks := h.below hbw
  have hlt0 : b < W0.heap.size := by omega
  clear hW0
  refine wpIn_rangeFunc_ownH (α := Fin (ks.length - 1)) rfl (by omega) (gf := 136) (lb := #[.pointer (some ⟨w.heap.size + 3, 0, none⟩)]) rfl trivial (enters_of Try.func136 (by kernel_rfl) rfl)
    (pieces_stops _ (w.heap.size + 3) b off cap ks (by omega) W0 (hp0.cell 0) (by omega) hk0) keep2_t (keep2_b (B := w.heap.size + 3) (b := b) (w := W0) (by omega) (by omega)) (Below.refl _ _) (fun x => (rfl : (encP ks x).size = 2))
    (fun pre W => Blk W (w.heap.size + 1) 4 #[.bool (upL ks pre)] ∧ Blk W (w.heap.size + 2) 4 #[.bool (dnL ks pre)] ∧ Below w.heap.size w W ∧ W0.heap.size ≤ W.heap.size)
    (fun _ _ _ => False)
    (fun pre X Y row hs hg hr => ⟨Blk.own (β := Unit) _ _ _ _ () X Y row hs.1 hg hr, Blk.own (β := Unit) _ _ _ _ () X Y row hs.2.1 hg hr, ownFrom_below (β := Unit) (Nat.le_refl _) (show w.heap.size ≤ W0.heap.size by omega) () X Y row hs.2.2.1 hg hr, Nat.le_trans hs.2.2.2 hg.size⟩)
    (fun _ _ _ _ _ h => h.elim) ⟨hu0, hd0, hbw, Nat.le_refl _⟩
    (fun i a' W => ∃ Bx, W0.heap.size ≤ Bx ∧ Blk W Bx 134 #[.int .i64 (kx ks i.val), .int .i64 (ky ks i.val), .int .i64 (kx ks (i.val + 1)), .int .i64 (ky ks (i.val + 1))] ∧
      a' = { tmps := #[vCv (some ⟨b, off, none⟩) ks.length cap err, .pointer (some ⟨w.heap.size, 0, none⟩), .int .i64 0, .pointer (some ⟨w.heap.size + 1, 0, none⟩), .pointer (some ⟨w.heap.size + 2, 0, none⟩), undef, .pointer (some ⟨Bx, 0, none⟩), vCv (some ⟨b, off, none⟩) ks.length cap err, .func (.func 136) #[] #[.pointer (some ⟨w.heap.size + 3, 0, none⟩)], .int .i64 (i.val : Nat), vPiece (kx ks i.val) (ky ks i.val) (kx ks (i.val + 1)) (ky ks (i.val + 1)), undef, undef, undef, undef, undef, undef, undef, undef, undef, undef, undef, undef, undef, undef, undef, undef], defers := [] })
    ?hAx ?assign ?body ?done ?stop
  case hAx =>
    rintro i a' _ X Y row ⟨Bx, h1, h2, h3⟩ hg hr
    exact ⟨Bx, h1, Blk.own (β := Unit) _ _ _ _ () X Y row h2 hg hr, h3⟩
  case assign =>
    rintro l pre i W K ⟨hi1, hi2, hi3, hi4⟩ hK
    unfold encP
    gi_wp2
    exact hK _ _ ((KeepsOthers.alloc _ _).from _) (keep2_below ((Below.refl _ W).alloc (Nat.le_refl _) _) (by omega) (by omega)) ⟨hi1.alloc _, hi2.alloc _, hi3.alloc hi3.size _, by simp; omega⟩ ⟨W.heap.size, hi4, Blk.new W _ _, rfl⟩
  case body =>
    rintro l pre i _ W hl ⟨r, hr⟩ ⟨hi1, hi2, hi3, hi4⟩ ⟨Bx, hBx, hpc, rfl⟩ hlen
    have HU := Lib.hid (upL_snoc ks pre i)
    have HD := Lib.hid (dnL_snoc ks pre i)
    obtain ⟨i, hi⟩ := i
    dsimp only at hpc HU HD ⊢
    obtain ⟨hb1, hb2⟩ := hv.y0 i (by omega)
    obtain ⟨hb3, hb4⟩ := hv.y0 (i + 1) (by omega)
    have hcu := hi1.cell 0
    have hcd := hi2.cell 0
    have hq0 := hpc.cell 0
    have hq1 := hpc.cell 1
    have hq2 := hpc.cell 2
    have hq3 := hpc.cell 3
    have hBlt := hpc.lt
    simp only [List.getElem?_toArray, List.getElem?_cons_zero, List.getElem?_cons_succ] at hcu hcd hq0 hq1 hq2 hq3
    generalize ky ks (i + 1) = yq at *
    generalize ky ks i = yp at *
    generalize kx ks (i + 1) = xq at *
    generalize kx ks i = xp at *
    generalize hu : upL ks pre = u at *
    generalize hd : dnL ks pre = d at *
    obtain ⟨xc, xf⟩ := xcell (W := W)
    have hl1 : w.heap.size + 1 < W.heap.size := by omega
    have hl2 : w.heap.size + 2 < W.heap.size := by omega
    clear hk0 hp0 hu0 hd0
    gi_wp2
    refine wpIn_region_float 12 [10, 11] (openRound _ _) (by kernel_rfl) (by kernel_rfl) (by kernel_rfl) ?_
    simp only [List.take_succ_cons, List.take_zero]
    cases u with
    | true =>
      cases d with
      | true =>
        repeat (first | go_big_quiet_step (first | (go_at_call 107; exact calls_ext (rise_any _ _ _ _ _ (by omega) (by omega) (by omega) (by omega)))) | quiet_step (first | (go_at_call 107; exact calls_ext (rise_any _ _ _ _ _ (by omega) (by omega) (by omega) (by omega)))))
        refine wpQuiet_nil ?_
        refine ⟨?_, ?_⟩
        · intro j hj o ho
          simp only [List.mem_cons, List.not_mem_nil, or_false] at hj
          rcases hj with rfl | rfl
          · simp only [List.getElem?_cons_succ, List.getElem?_cons_zero, Option.some.injEq] at ho
            subst ho
            refine ⟨⟨21, rfl, by simp⟩, fun V => ?_⟩
            repeat (first | go_big_quiet_step (fail) | quiet_step (fail))
            exact wpQuiet_nil rfl
          · simp only [List.getElem?_cons_succ, List.getElem?_cons_zero, Option.some.injEq] at ho
            subst ho
            refine ⟨⟨22, rfl, by simp⟩, fun V => ?_⟩
            repeat (first | go_big_quiet_step (fail) | quiet_step (fail))
            exact wpQuiet_nil rfl
        · rintro _ ⟨⟨w2, hb2'⟩, rfl⟩
          have hu2 := hi1.below hb2'
          have hd2 := hi2.below hb2'
          have g0 := hu2.cell 0
          have f0 := hu2.frozen 0
          have g1 := hd2.cell 0
          have f1 := hd2.frozen 0
          have l1 := hu2.lt
          have l2 := hd2.lt
          simp only [List.getElem?_toArray, List.getElem?_cons_zero] at g0 g1
          go_wp2
          refine ⟨rfl, (keepsFrom_below hb2').trans (((KeepsOthers.setCell _ _ _).trans (KeepsOthers.setCell _ _ _)).from _), keep2_t (keep2_t (keep2_below hb2' (by omega) (by omega)) (keep2_set (by simp) (by simp; omega))) (keep2_set (by simp) (by simp; omega)), ?_, ?_, ((hi3.trans (hb2'.mono hi3.size)).setCell (p := ⟨w.heap.size + 1, 0, none⟩) (by simp) _).setCell (p := ⟨w.heap.size + 2, 0, none⟩) (by simp) _, by have := hb2'.size; simp [World.setCell]; omega⟩
          · have := ((hu2.set_ 0 (.bool (decide (yp < yq)))).far (p := ⟨w.heap.size + 2, 0, none⟩) (by simp) (.bool (decide (yq - yp < 0))))
            rw [HU.out]
            simpa using this
          · have := ((hd2.far (p := ⟨w.heap.size + 1, 0, none⟩) (by simp) (.bool (decide (yp < yq)))).set_ 0 (.bool (decide (yq - yp < 0))))
            rw [HD.out]
            simpa using this
      | false =>
        repeat (first | go_big_quiet_step (first | (go_at_call 107; exact calls_ext (rise_any _ _ _ _ _ (by omega) (by omega) (by omega) (by omega)))) | quiet_step (first | (go_at_call 107; exact calls_ext (rise_any _ _ _ _ _ (by omega) (by omega) (by omega) (by omega)))))
        refine wpQuiet_nil ?_
        refine ⟨?_, ?_⟩
        · intro j hj o ho
          simp only [List.mem_cons, List.not_mem_nil, or_false] at hj
          rcases hj with rfl | rfl
          · simp only [List.getElem?_cons_succ, List.getElem?_cons_zero, Option.some.injEq] at ho
            subst ho
            refine ⟨⟨21, rfl, by simp⟩, fun V => ?_⟩
            repeat (first | go_big_quiet_step (fail) | quiet_step (fail))
            exact wpQuiet_nil rfl
          · simp only [List.getElem?_cons_succ, List.getElem?_cons_zero, Option.some.injEq] at ho
            subst ho
            refine ⟨⟨22, rfl, by simp⟩, fun V => ?_⟩
            repeat (first | go_big_quiet_step (fail) | quiet_step (fail))
            exact wpQuiet_nil rfl
        · rintro _ ⟨⟨w2, hb2'⟩, rfl⟩
          have hu2 := hi1.below hb2'
          have hd2 := hi2.below hb2'
          have g0 := hu2.cell 0
          have f0 := hu2.frozen 0
          have g1 := hd2.cell 0
          have f1 := hd2.frozen 0
          have l1 := hu2.lt
          have l2 := hd2.lt
          simp only [List.getElem?_toArray, List.getElem?_cons_zero] at g0 g1
          go_wp2
          refine ⟨rfl, (keepsFrom_below hb2').trans (((KeepsOthers.setCell _ _ _).trans (KeepsOthers.setCell _ _ _)).from _), keep2_t (keep2_t (keep2_below hb2' (by omega) (by omega)) (keep2_set (by simp) (by simp; omega))) (keep2_set (by simp) (by simp; omega)), ?_, ?_, ((hi3.trans (hb2'.mono hi3.size)).setCell (p := ⟨w.heap.size + 1, 0, none⟩) (by simp) _).setCell (p := ⟨w.heap.size + 2, 0, none⟩) (by simp) _, by have := hb2'.size; simp [World.setCell]; omega⟩
          · have := ((hu2.set_ 0 (.bool (decide (yp < yq)))).far (p := ⟨w.heap.size + 2, 0, none⟩) (by simp) (.bool false))
            rw [HU.out]
            simpa using this
          · have := ((hd2.far (p := ⟨w.heap.size + 1, 0, none⟩) (by simp) (.bool (decide (yp < yq)))).set_ 0 (.bool false))
            rw [HD.out]
            simpa using this
    | false =>
      cases d with
      | true =>
        repeat (first | go_big_quiet_step (first | (go_at_call 107; exact calls_ext (rise_any _ _ _ _ _ (by omega) (by omega) (by omega) (by omega)))) | quiet_step (first | (go_at_call 107; exact calls_ext (rise_any _ _ _ _ _ (by omega) (by omega) (by omega) (by omega)))))
        refine wpQuiet_nil ?_
        refine ⟨?_, ?_⟩
        · intro j hj o ho
          simp only [List.mem_cons, List.not_mem_nil, or_false] at hj
          rcases hj with rfl | rfl
          · simp only [List.getElem?_cons_succ, List.getElem?_cons_zero, Option.some.injEq] at ho
            subst ho
            refine ⟨⟨21, rfl, by simp⟩, fun V => ?_⟩
            repeat (first | go_big_quiet_step (fail) | quiet_step (fail))
            exact wpQuiet_nil rfl
          · simp only [List.getElem?_cons_succ, List.getElem?_cons_zero, Option.some.injEq] at ho
            subst ho
            refine ⟨⟨22, rfl, by simp⟩, fun V => ?_⟩
            repeat (first | go_big_quiet_step (fail) | quiet_step (fail))
            exact wpQuiet_nil rfl
        · rintro _ ⟨⟨w2, hb2'⟩, rfl⟩
          have hu2 := hi1.below hb2'
          have hd2 := hi2.below hb2'
          have g0 := hu2.cell 0
          have f0 := hu2.frozen 0
          have g1 := hd2.cell 0
          have f1 := hd2.frozen 0
          have l1 := hu2.lt
          have l2 := hd2.lt
          simp only [List.getElem?_toArray, List.getElem?_cons_zero] at g0 g1
          go_wp2
          refine ⟨rfl, (keepsFrom_below hb2').trans (((KeepsOthers.setCell _ _ _).trans (KeepsOthers.setCell _ _ _)).from _), keep2_t (keep2_t (keep2_below hb2' (by omega) (by omega)) (keep2_set (by simp) (by simp; omega))) (keep2_set (by simp) (by simp; omega)), ?_, ?_, ((hi3.trans (hb2'.mono hi3.size)).setCell (p := ⟨w.heap.size + 1, 0, none⟩) (by simp) _).setCell (p := ⟨w.heap.size + 2, 0, none⟩) (by simp) _, by have := hb2'.size; simp [World.setCell]; omega⟩
          · have := ((hu2.set_ 0 (.bool false)).far (p := ⟨w.heap.size + 2, 0, none⟩) (by simp) (.bool (decide (yq - yp < 0))))
            rw [HU.out]
            simpa using this
          · have := ((hd2.far (p := ⟨w.heap.size + 1, 0, none⟩) (by simp) (.bool false)).set_ 0 (.bool (decide (yq - yp < 0))))
            rw [HD.out]
            simpa using this
      | false =>
        repeat (first | go_big_quiet_step (first | (go_at_call 107; exact calls_ext (rise_any _ _ _ _ _ (by omega) (by omega) (by omega) (by omega)))) | quiet_step (first | (go_at_call 107; exact calls_ext (rise_any _ _ _ _ _ (by omega) (by omega) (by omega) (by omega)))))
        refine wpQuiet_nil ?_
        refine ⟨?_, ?_⟩
        · intro j hj o ho
          simp only [List.mem_cons, List.not_mem_nil, or_false] at hj
          rcases hj with rfl | rfl
          · simp only [List.getElem?_cons_succ, List.getElem?_cons_zero, Option.some.injEq] at ho
            subst ho
            refine ⟨⟨21, rfl, by simp⟩, fun V => ?_⟩
            repeat (first | go_big_quiet_step (fail) | quiet_step (fail))
            exact wpQuiet_nil rfl
          · simp only [List.getElem?_cons_succ, List.getElem?_cons_zero, Option.some.injEq] at ho
            subst ho
            refine ⟨⟨22, rfl, by simp⟩, fun V => ?_⟩
            repeat (first | go_big_quiet_step (fail) | quiet_step (fail))
            exact wpQuiet_nil rfl
        · rintro _ ⟨⟨w2, hb2'⟩, rfl⟩
          have hu2 := hi1.below hb2'
          have hd2 := hi2.below hb2'
          have g0 := hu2.cell 0
          have f0 := hu2.frozen 0
          have g1 := hd2.cell 0
          have f1 := hd2.frozen 0
          have l1 := hu2.lt
          have l2 := hd2.lt
          simp only [List.getElem?_toArray, List.getElem?_cons_zero] at g0 g1
          go_wp2
          refine ⟨rfl, (keepsFrom_below hb2').trans (((KeepsOthers.setCell _ _ _).trans (KeepsOthers.setCell _ _ _)).from _), keep2_t (keep2_t (keep2_below hb2' (by omega) (by omega)) (keep2_set (by simp) (by simp; omega))) (keep2_set (by simp) (by simp; omega)), ?_, ?_, ((hi3.trans (hb2'.mono hi3.size)).setCell (p := ⟨w.heap.size + 1, 0, none⟩) (by simp) _).setCell (p := ⟨w.heap.size + 2, 0, none⟩) (by simp) _, by have := hb2'.size; simp [World.setCell]; omega⟩
          · have := ((hu2.set_ 0 (.bool false)).far (p := ⟨w.heap.size + 2, 0, none⟩) (by simp) (.bool false))
            rw [HU.out]
            simpa using this
          · have := ((hd2.far (p := ⟨w.heap.size + 1, 0, none⟩) (by simp) (.bool false)).set_ 0 (.bool false))
            rw [HD.out]
            simpa using this
  case done =>
    rintro D xs W hD hxs ⟨hi1, hi2, hi3, hi4⟩ hK
    rw [hxs, upL_all] at hi1
    rw [hxs, dnL_all] at hi2
    have hr : risingI ks = if upTo ks (ks.length - 1) = true then 1 else if dnTo ks (ks.length - 1) = true then -1 else 0 := rfl
    have HR := Lib.hid hr
    clear hr hxs
    generalize upTo ks (ks.length - 1) = u at *
    generalize dnTo ks (ks.length - 1) = d at *
    have g0 := hi1.cell 0
    have g1 := hi2.cell 0
    simp only [List.getElem?_toArray, List.getElem?_cons_zero] at g0 g1
    cases u with
    | true =>
      gi_wp2
      refine leave_one (D := D) hK ?_
      exact ⟨.int .i64 1, by simp [results, Try.results74, go_sem], by rw [HR.out]; simp, below_put hi3 (by omega)⟩
    | false =>
      cases d with
      | true =>
        gi_wp2
        refine leave_one (D := D) hK ?_
        exact ⟨.int .i64 (-1), by simp [results, Try.results74, go_sem], by rw [HR.out]; simp, below_put hi3 (by omega)⟩
      | false =>
        gi_wp2
        refine leave_one (D := D) hK ?_
        exact ⟨.int .i64 0, by simp [results, Try.results74, go_sem], by rw [HR.out]; simp, below_put hi3 (by omega)⟩
  case stop =>
    rintro D c pre W hD hpre h hK
    exact h.elim
end Go.Proofs.Ytipablcbkoedbaa
