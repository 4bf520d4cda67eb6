/- where. -/
import Derived.RangeFuncNested
import Derived.Shelf.Abstract
import Derived.RangeFuncBound
import Derived.RangeFuncCalls
import Derived.RangeFuncLeaves
import Derived.WalkKit
import Derived.OwnWalkIn
import Derived.TacticsInMore
import Derived.LoopNIn
import Derived.LoopIn
import Derived.WalkLawsBesides
import Derived.Deep.QuietTactic
import Derived.BigQuiet
import Derived.RegionTactic
import Derived.Lib.Hide
import Derived.Outline
import Derived.WalkSmall
import Derived.Test.YtipablcbkoedbaaProg
import Derived.Test.YtipablcbkoedbaaD1
namespace Go.Proofs.Ytipablcbkoedbaa
open Go.RowKit
attribute [local go_sem] Oper.semAt_some

def frN (n d : Int) : Int := if d < 0 then lowN (-n) (-d) else lowN n d
def frD (n d : Int) : Int := if d < 0 then lowD (-n) (-d) else lowD n d
theorem frac_any (n d : Int) (w : World) (h1 : -4611686018427387904 ≤ n) (h2 : n ≤ 4611686018427387904) (h3 : d ≠ 0) (h4 : -4611686018427387904 ≤ d) (h5 : d ≤ 4611686018427387904) :
    Calls Try.prog 100 #[.int .i64 n, .int .i64 d] w fun e w' => e = .returned (vFrac (frN n d) (frD n d)) ∧ Below w.heap.size w w' := by
  unfold frN frD
  by_cases hd : d < 0
  · rw [if_pos hd, if_pos hd]
    exact frac_neg n d w h1 h2 (by omega) h4
  · rw [if_neg hd, if_neg hd]
    exact frac_pos n d w h1 h2 (by omega) h5

/-- Whether y lies on piece i. -/
def onP (ks : List (Int × Int)) (y : Int) (i : Nat) : Bool := decide (min (ky ks i) (ky ks (i + 1)) ≤ y ∧ y ≤ max (ky ks i) (ky ks (i + 1)))
def whO (ks : List (Int × Int)) (y : Int) : Option Nat := (List.range (ks.length - 1)).find? (onP ks y)
def invN (ks : List (Int × Int)) (y : Int) (i : Nat) : Int := frN (kx ks i * (ky ks (i + 1) - ky ks i) + (y - ky ks i) * (kx ks (i + 1) - kx ks i)) (ky ks (i + 1) - ky ks i)
def invD (ks : List (Int × Int)) (y : Int) (i : Nat) : Int := frD (kx ks i * (ky ks (i + 1) - ky ks i) + (y - ky ks i) * (kx ks (i + 1) - kx ks i)) (ky ks (i + 1) - ky ks i)
/-- The place of a value; none if the curve has it nowhere. -/
def whF (ks : List (Int × Int)) (y : Int) : Option (Int × Int) :=
  if y = ky ks 0 then some (lowN (kx ks 0) 1, lowD (kx ks 0) 1) else match whO ks y with | some i => some (invN ks y i, invD ks y i) | none => none
def whN (ks : List (Int × Int)) (y : Int) : Int := ((whF ks y).getD (0, 0)).1
def whD (ks : List (Int × Int)) (y : Int) : Int := ((whF ks y).getD (0, 0)).2

theorem whO_some {ks : List (Int × Int)} {y : Int} {pre' : List (Fin (ks.length - 1))} {i : Fin (ks.length - 1)} (hpre : pre' ++ [i] <+: List.finRange (ks.length - 1))
    (h1 : ∀ j ∈ pre', onP ks y j.val = false) (h2 : onP ks y i.val = true) : whO ks y = some i.val := by
  have hlen : pre'.length < ks.length - 1 := by have := hpre.length_le; simp at this; omega
  have hget : ∀ k (hk : k < (pre' ++ [i]).length), ((pre' ++ [i])[k]).val = k := fun k hk => by
    have := hpre.getElem hk
    rw [this]; simp
  have hi : i.val = pre'.length := by have := hget pre'.length (by simp); simpa using this
  unfold whO
  rw [List.find?_range_eq_some]
  refine ⟨h2, by simp, fun k hk => ?_⟩
  have hk' : k < pre'.length := by omega
  have hv := hget k (by simp; omega)
  rw [List.getElem_append_left hk'] at hv
  have := h1 _ (List.getElem_mem hk')
  rw [hv] at this
  simp [this]

theorem leave_none {fn : Func} {tmps : Array Value} {R : Ending → World → Prop} {W : World} {P : Program} {m : Nat}
    (h : ∃ v, (results fn tmps).run P W = .ok v W ∧ R (.returned v) W) : bodyPostM Fence.wide m P fn R .ret { tmps := tmps, defers := [] } W := h

set_option maxRecDepth 100000 in
set_option maxHeartbeats 1600000 in
theorem where_any (b off cap : Nat) (err : Int) (ks : List (Int × Int)) (y : Int) (w : World) (h : Kn w b off ks) (hv : Valid ks) (hne : ∀ i, i + 1 < ks.length → ky ks (i + 1) ≠ ky ks i) :
    Calls Try.prog 75 #[vCv (some ⟨b, off, none⟩) ks.length cap err, .int .i64 y] w fun e w' => e = .returned (.tuple #[vFrac (whN ks y) (whD ks y), .bool (whF ks y).isSome]) ∧ Below w.heap.size w w' := by
  have hlt := h.lt
  have hp := hv.pos
  have hle := hv.le
  refine (callsIn_wide (n := 3)).1 (callsIn_of_wp_marks Try.func75 rfl trivial ?_ rfl)
  simp only [Try.ntmps75, List.size_toArray, List.length_cons, List.length_nil, Nat.reduceAdd, Nat.reduceSub, Array.replicate_succ, Array.replicate_zero, List.push_toArray, List.append_toArray, List.nil_append, List.cons_append]
  generalize hWA : (((w.alloc (.cells #[.slice (some ⟨b, off, none⟩) ks.length cap, .int .i64 err] 24)).alloc (.cells #[.int .i64 y] 3)).alloc (.cells #[.int .i64 0, .int .i64 0] 30)).alloc (.cells #[.bool false] 4) = WA
  have hsA : WA.heap.size = w.heap.size + 4 := by rw [← hWA]; simp
  have hcA : Blk WA w.heap.size 24 #[.slice (some ⟨b, off, none⟩) ks.length cap, .int .i64 err] := by rw [← hWA]; exact (((Blk.at_new _ _ rfl).alloc _).alloc _).alloc _
  have hyA : Blk WA (w.heap.size + 1) 3 #[.int .i64 y] := by rw [← hWA]; exact ((Blk.at_new _ _ (by simp)).alloc _).alloc _
  have hfA : Blk WA (w.heap.size + 2) 30 #[.int .i64 0, .int .i64 0] := by rw [← hWA]; exact (Blk.at_new _ _ (by simp)).alloc _
  have htA : Blk WA (w.heap.size + 3) 4 #[.bool false] := by rw [← hWA]; exact Blk.at_new _ _ (by simp)
  have hbA : Below w.heap.size w WA := by rw [← hWA]; exact ((((Below.refl _ _).alloc (Nat.le_refl _) _).alloc (by simp) _).alloc (by simp; omega) _).alloc (by simp; omega) _
  have hkA : Kn WA b off ks := h.below hbA
  have HWE := Lib.hid hWA
  clear hWA
  have hc0 := hcA.cell 0
  have hc1 := hcA.cell 1
  have hcy := hyA.cell 0
  simp only [List.getElem?_toArray, List.getElem?_cons_zero, List.getElem?_cons_succ] at hc0 hc1 hcy
  have hy0 := hkA.y 0 hp
  have hx0 := hkA.x 0 hp
  simp only [Nat.zero_mul, Nat.add_zero] at hy0 hx0
  obtain ⟨xc, xf⟩ := xcell (W := WA)
  have hl0 : w.heap.size < WA.heap.size := by omega
  have hl1 : w.heap.size + 1 < WA.heap.size := by omega
  have hl2 : w.heap.size + 2 < WA.heap.size := by omega
  have hl3 : w.heap.size + 3 < WA.heap.size := by omega
  have hlb : b < WA.heap.size := by omega
  obtain ⟨hx0a, hx0b⟩ := hv.x0 0 hp
  have HSA := Lib.hid hsA
  clear hsA
  by_cases hy0e : y = ky ks 0
  · have hF0 : whF ks y = some (lowN (kx ks 0) 1, lowD (kx ks 0) 1) := by unfold whF; rw [if_pos hy0e]
    have HE := Lib.hid (show (y == ky ks 0) = true by simpa using hy0e)
    have HF0 := Lib.hid hF0
    clear hy0e hF0
    gi_wp2
    rw [HWE.out]
    refine wpIn_region_quiet_tail 7 (openWide _) (by kernel_rfl) (by kernel_rfl) ?_
    simp only [List.take_succ_cons, List.take_zero, List.drop_succ_cons, List.drop_zero]
    repeat (first | go_big_quiet_step (fail) | quiet_step (fail))
    refine wpQuiet_nil ?_
    intro w1 hb1
    have hc0 := (hcA.below hb1).cell 0
    have hx0 := (hkA.below hb1).x 0 hp
    have hf1 := hfA.below hb1
    have ht1 := htA.below hb1
    simp only [List.getElem?_toArray, List.getElem?_cons_zero, Nat.zero_mul, Nat.add_zero] at hc0 hx0
    have hl1' := hf1.lt
    have he := HE.out
    gi_wp2_with fail
    refine ⟨trivial, (callsIn_wide.2 (frac_pos _ _ _ (by omega) (by omega) (by omega) (by omega))).mono ?_⟩
    rintro e w2 ⟨rfl, hb2⟩
    have hf2 := hf1.below hb2
    have ht2 := ht1.below hb2
    have g0 := hf2.cell 0
    have g1 := hf2.cell 1
    have g2 := ht2.cell 0
    have f0 := hf2.frozen 0
    have f1 := hf2.frozen 1
    have f2 := ht2.frozen 0
    have hl2' := hf2.lt
    have hl3' := ht2.lt
    simp only [List.getElem?_toArray, List.getElem?_cons_zero, List.getElem?_cons_succ] at g0 g1 g2
    gi_wp2
    have hF := ((hf2.set_ 0 (.int .i64 (lowN (kx ks 0) 1))).set_ 1 (.int .i64 (lowD (kx ks 0) 1))).far (p := ⟨w.heap.size + 3, 0, none⟩) (by simp) (.bool true)
    have hT := (((ht2.far (p := ⟨w.heap.size + 2, 0, none⟩) (by simp) (.int .i64 (lowN (kx ks 0) 1))).far (p := ⟨w.heap.size + 2, 1, none⟩) (by simp) (.int .i64 (lowD (kx ks 0) 1))).set_ 0 (.bool true))
    have k0 := hF.cell 0
    have k1 := hF.cell 1
    have k2 := hT.cell 0
    simp only [List.setIfInBounds_toArray, List.set_cons_zero, List.set_cons_succ, List.getElem?_toArray, List.getElem?_cons_zero, List.getElem?_cons_succ] at k0 k1 k2
    have hbb := (hbA.trans (hb1.mono hbA.size)).trans (hb2.mono (Nat.le_trans hbA.size hb1.size))
    refine leave_none ⟨.tuple #[vFrac (lowN (kx ks 0) 1) (lowD (kx ks 0) 1), .bool true], by simp [results, Try.results75, go_sem, k0, k1, k2], by unfold whN whD; rw [HF0.out]; rfl, ?_⟩
    exact ((hbb.setCell (p := ⟨w.heap.size + 2, 0, none⟩) (by simp) _).setCell (p := ⟨w.heap.size + 2, 1, none⟩) (by simp) _).setCell (p := ⟨w.heap.size + 3, 0, none⟩) (by simp) _
  · have HE := Lib.hid (show (y == ky ks 0) = false by simpa using hy0e)
    gi_wp2
    rw [HWE.out]
    refine wpIn_region_quiet_tail 7 (openWide _) (by kernel_rfl) (by kernel_rfl) ?_
    simp only [List.take_succ_cons, List.take_zero, List.drop_succ_cons, List.drop_zero]
    repeat (first | go_big_quiet_step (fail) | quiet_step (fail))
    refine wpQuiet_nil ?_
    intro w1 hb1
    have hc0 := (hcA.below hb1).cell 0
    have hc1 := (hcA.below hb1).cell 1
    have he := HE.out
    simp only [List.getElem?_toArray, List.getElem?_cons_zero, List.getElem?_cons_succ] at hc0 hc1
    have hl1' := (hcA.below hb1).lt
    gi_wp2_with (refine ⟨trivial, ?_⟩; gi_at_call 106; refine (callsIn_wide.2 (pieces_any _ _ _ _ _)).mono ?_; rintro e w' ⟨rfl, rfl⟩)
    have hcW := hcA.below hb1
    have hyW := hyA.below hb1
    have hfW := hfA.below hb1
    have htW := htA.below hb1
    have hkW := hkA.below hb1
    have hbW := hbA.trans (hb1.mono hbA.size)
    have hsz1 : w.heap.size + 4 ≤ w1.heap.size := by have := hb1.size; have := HSA.out; omega
    have hF1 : whF ks y = match whO ks y with | some i => some (invN ks y i, invD ks y i) | none => none := by unfold whF; rw [if_neg hy0e]
    have HF1 := Lib.hid hF1
    clear hF1 hcA hyA hfA htA hkA hc0 hc1 hcy hy0 hx0 xc xf hl0 hl1 hl2 hl3 hlb he HSA HWE hb1 hl1' hy0e
    generalize hW0 : w1.alloc (.cells #[.slice (some ⟨b, off, none⟩) ks.length cap, .int .i64 err] 24) = W0
    have hs0 : W0.heap.size = w1.heap.size + 1 := by rw [← hW0]; simp
    have hy0 : Blk W0 (w.heap.size + 1) 3 #[.int .i64 y] := by rw [← hW0]; exact hyW.alloc _
    have hf0 : Blk W0 (w.heap.size + 2) 30 #[.int .i64 0, .int .i64 0] := by rw [← hW0]; exact hfW.alloc _
    have ht0 : Blk W0 (w.heap.size + 3) 4 #[.bool false] := by rw [← hW0]; exact htW.alloc _
    have hp0 : Blk W0 w1.heap.size 24 #[.slice (some ⟨b, off, none⟩) ks.length cap, .int .i64 err] := by rw [← hW0]; exact Blk.at_new _ _ (by simp)
    have hbw : Below w.heap.size w W0 := by rw [← hW0]; exact hbW.alloc hbW.size _
    have hk0 : Kn W0 b off ks := h.below hbw
    have hlt0 : b < W0.heap.size := hk0.lt
    have hb1lt : b < w1.heap.size := hkW.lt
    clear hW0 hcW hyW hfW htW hkW hbW hbA
    refine wpIn_rangeFunc_ownH (α := Fin (ks.length - 1)) rfl (by omega) (gf := 136) (lb := #[.pointer (some ⟨w1.heap.size, 0, none⟩)]) rfl trivial (enters_of Try.func136 (by kernel_rfl) rfl)
      (pieces_stops _ w1.heap.size b off cap ks (by omega) W0 (hp0.cell 0) (by omega) hk0) keep2_t (keep2_b (B := w1.heap.size) (b := b) (w := W0) (by omega) (by omega)) (Below.refl _ _) (fun x => (rfl : (encP ks x).size = 2))
      (fun pre W => (∀ i ∈ pre, onP ks y i.val = false) ∧ Blk W (w.heap.size + 1) 3 #[.int .i64 y] ∧ Blk W (w.heap.size + 2) 30 #[.int .i64 0, .int .i64 0] ∧ Blk W (w.heap.size + 3) 4 #[.bool false] ∧ Below w.heap.size w W ∧ W0.heap.size ≤ W.heap.size)
      (fun c pre W => c = .ret ∧ ∃ pre' i, pre = pre' ++ [i] ∧ (∀ i ∈ pre', onP ks y i.val = false) ∧ onP ks y i.val = true ∧ Blk W (w.heap.size + 2) 30 #[.int .i64 (invN ks y i.val), .int .i64 (invD ks y i.val)] ∧ Blk W (w.heap.size + 3) 4 #[.bool true] ∧ Below w.heap.size w W)
      ((ownFrom_pure _ _).and ((Blk.own _ _ _ _).and ((Blk.own _ _ _ _).and ((Blk.own _ _ _ _).and ((ownFrom_below (Nat.le_refl _) (by omega)).and (fun _ _ _ _ hs hg _ => Nat.le_trans hs hg.size))))))
      ?hIx ⟨by simp, hy0, hf0, ht0, hbw, Nat.le_refl _⟩
      (fun i a' W => ∃ Bx, W0.heap.size ≤ Bx ∧ Blk W Bx 134 #[.int .i64 (kx ks i.val), .int .i64 (ky ks i.val), .int .i64 (kx ks (i.val + 1)), .int .i64 (ky ks (i.val + 1))] ∧
        a' = { tmps := #[vCv (some ⟨b, off, none⟩) ks.length cap err, .int .i64 y, .pointer (some ⟨w.heap.size, 0, none⟩), .pointer (some ⟨w.heap.size + 1, 0, none⟩), .pointer (some ⟨w.heap.size + 2, 0, none⟩), .pointer (some ⟨w.heap.size + 3, 0, none⟩), undef, .pointer (some ⟨Bx, 0, none⟩), .int .i64 y, .pointer (some ⟨w.heap.size, 0, none⟩), .slice (some ⟨b, off, none⟩) ks.length cap, .pointer (some ⟨b, off, none⟩), .pointer (some ⟨b, off + 1, none⟩), .int .i64 (ky ks 0), .bool false, undef, undef, undef, undef, undef, undef, vCv (some ⟨b, off, none⟩) ks.length cap err, .func (.func 136) #[] #[.pointer (some ⟨w1.heap.size, 0, none⟩)], .int .i64 (i.val : Nat), vPiece (kx ks i.val) (ky ks i.val) (kx ks (i.val + 1)) (ky ks (i.val + 1)), undef, undef, undef, undef, undef, undef, undef, undef, undef, undef, undef, undef, undef, undef, undef, undef, undef, undef, undef, undef, undef, undef, undef, undef, undef, undef, undef, undef, undef, undef, undef, undef, undef, undef, undef], defers := [] })
      ?hAx ?assign ?body ?done ?stop
    case hIx =>
      intro c s X Y row hs hg hr
      obtain ⟨h1, pre', i, h2, h3, h4, h5, h5', h6⟩ := hs
      exact ⟨h1, pre', i, h2, h3, h4, Blk.own (β := Unit) _ _ _ _ () X Y row h5 hg hr, Blk.own (β := Unit) _ _ _ _ () X Y row h5' hg hr, ownFrom_below (β := Unit) (Nat.le_refl _) (show w.heap.size ≤ W0.heap.size by omega) () X Y row h6 hg hr⟩
    case hAx =>
      rintro i a' _ X Y row ⟨Bx, h1, h2, h3⟩ hg hr
      exact ⟨Bx, h1, Blk.own (β := Unit) _ _ _ _ () X Y row h2 hg hr, h3⟩
    case assign =>
      rintro l pre i W K ⟨hi1, hi2, hi3, hi4, hi5, hi6⟩ hK
      unfold encP
      gi_wp2
      exact hK _ _ ((KeepsOthers.alloc _ _).from _) (keep2_below ((Below.refl _ W).alloc (Nat.le_refl _) _) (by omega) (by omega)) ⟨hi1, hi2.alloc _, hi3.alloc _, hi4.alloc _, hi5.alloc hi5.size _, by simp; omega⟩ ⟨W.heap.size, hi6, Blk.new W _ _, rfl⟩
    case body =>
      rintro l pre i _ W hl ⟨r, hr⟩ ⟨hi1, hi2, hi3, hi4, hi5, hi6⟩ ⟨Bx, hBx, hpc, rfl⟩ hlen
      obtain ⟨i, hi⟩ := i
      dsimp only at hpc hi1 ⊢
      have hcy := hi2.cell 0
      have hq0 := hpc.cell 0
      have hq1 := hpc.cell 1
      have hq2 := hpc.cell 2
      have hq3 := hpc.cell 3
      have hBlt := hpc.lt
      simp only [List.getElem?_toArray, List.getElem?_cons_zero, List.getElem?_cons_succ] at hcy hq0 hq1 hq2 hq3
      obtain ⟨ha1, ha2⟩ := hv.x0 i (by omega)
      obtain ⟨ha3, ha4⟩ := hv.x0 (i + 1) (by omega)
      obtain ⟨hb1, hb2⟩ := hv.y0 i (by omega)
      obtain ⟨hb3, hb4⟩ := hv.y0 (i + 1) (by omega)
      have hup := hv.up i (by omega)
      have hned := hne i (by omega)
      have hne2 : ky ks (i + 1) - ky ks i ≠ 0 := by omega
      have HiN := Lib.hid (show invN ks y i = frN (kx ks i * (ky ks (i + 1) - ky ks i) + (y - ky ks i) * (kx ks (i + 1) - kx ks i)) (ky ks (i + 1) - ky ks i) from rfl)
      have HiD := Lib.hid (show invD ks y i = frD (kx ks i * (ky ks (i + 1) - ky ks i) + (y - ky ks i) * (kx ks (i + 1) - kx ks i)) (ky ks (i + 1) - ky ks i) from rfl)
      have hOn : onP ks y i = decide (min (ky ks i) (ky ks (i + 1)) ≤ y ∧ y ≤ max (ky ks i) (ky ks (i + 1))) := rfl
      have HOn := Lib.hid hOn
      clear hOn
      obtain ⟨m1, m2⟩ := mul_bd (A := 2000) (B := 131072) (x := kx ks i) (y := ky ks (i + 1) - ky ks i) (by omega) (by omega) (by omega) (by omega)
      have HNe := Lib.hid hned
      clear hk0 hp0 hy0 hf0 ht0 hned
      generalize ky ks (i + 1) = yq at *
      generalize ky ks i = yp at *
      generalize kx ks (i + 1) = xq at *
      generalize kx ks i = xp at *
      obtain ⟨xc, xf⟩ := xcell (W := W)
      have hl1 : w.heap.size + 1 < W.heap.size := by omega
      by_cases hin : min yp yq ≤ y ∧ y ≤ max yp yq
      · have hyl : -65536 ≤ y := by omega
        have hyh : y ≤ 65536 := by omega
        obtain ⟨m3, m4⟩ := mul_bd (A := 131072) (B := 2000) (x := y - yp) (y := xq - xp) (by omega) (by omega) (by omega) (by omega)
        have HIn := Lib.hid hin
        clear hin
        gi_wp2_with (refine ⟨trivial, ?_⟩; gi_at_call 98; refine (CallsIn.inRound _ (callsIn_wide.2 (within_yes _ _ _ _ HIn.out))).mono ?_; rintro e w' ⟨rfl, rfl⟩)
        refine wpIn_region_quiet_tail 18 (openRound _ _) (by kernel_rfl) (by kernel_rfl) ?_
        simp only [List.take_succ_cons, List.take_zero, List.drop_succ_cons, List.drop_zero]
        repeat (first | go_big_quiet_step (first | (go_at_call 108; exact calls_ext (run_any _ _ _ _ _ (by omega) (by omega) (by omega) (by omega))) | (go_at_call 107; exact calls_ext (rise_any _ _ _ _ _ (by omega) (by omega) (by omega) (by omega))) | (go_at_call 100; exact calls_ext (frac_any _ _ _ (by omega) (by omega) (by omega) (by omega) (by omega)))) | quiet_step (first | (go_at_call 108; exact calls_ext (run_any _ _ _ _ _ (by omega) (by omega) (by omega) (by omega))) | (go_at_call 107; exact calls_ext (rise_any _ _ _ _ _ (by omega) (by omega) (by omega) (by omega))) | (go_at_call 100; exact calls_ext (frac_any _ _ _ (by omega) (by omega) (by omega) (by omega) (by omega)))))
        refine wpQuiet_nil ?_
        intro w2 hb2'
        have hr2 := hi3.below hb2'
        have ht2 := hi4.below hb2'
        have g0 := hr2.cell 0
        have g1 := hr2.cell 1
        have g2 := ht2.cell 0
        have f0 := hr2.frozen 0
        have f1 := hr2.frozen 1
        have f2 := ht2.frozen 0
        have q2 := hr2.lt
        have q3 := ht2.lt
        simp only [List.getElem?_toArray, List.getElem?_cons_zero, List.getElem?_cons_succ] at g0 g1 g2
        gi_wp2
        refine ⟨(keepsFrom_below hb2').trans ((((KeepsOthers.setCell _ _ _).trans (KeepsOthers.setCell _ _ _)).trans (KeepsOthers.setCell _ _ _)).from _), rfl, pre, ⟨i, hi⟩, rfl, hi1, by rw [HOn.out]; exact decide_eq_true HIn.out, ?_, ?_, (((hi5.trans (hb2'.mono hi5.size)).setCell (p := ⟨w.heap.size + 2, 0, none⟩) (by simp) _).setCell (p := ⟨w.heap.size + 2, 1, none⟩) (by simp) _).setCell (p := ⟨w.heap.size + 3, 0, none⟩) (by simp) _⟩
        · rw [HiN.out, HiD.out]
          exact (((hr2.set_ 0 _).set_ 1 _).far (p := ⟨w.heap.size + 3, 0, none⟩) (by simp) _)
        · exact ((ht2.far (p := ⟨w.heap.size + 2, 0, none⟩) (by simp) _).far (p := ⟨w.heap.size + 2, 1, none⟩) (by simp) _).set_ 0 _
      · have HIn := Lib.hid hin
        clear hin
        gi_wp2_with (refine ⟨trivial, ?_⟩; gi_at_call 98; refine (CallsIn.inRound _ (callsIn_wide.2 (within_no _ _ _ _ HIn.out))).mono ?_; rintro e w' ⟨rfl, rfl⟩)
        refine ⟨KeepsFrom.refl _ _, keep2_refl _ _ _, ?_, hi2, hi3, hi4, hi5, by omega⟩
        intro j hj
        rcases List.mem_append.1 hj with h1 | h1
        · exact hi1 j h1
        · have : j = ⟨i, hi⟩ := by simpa using h1
          rw [this]
          show onP ks y i = false
          rw [HOn.out]
          exact decide_eq_false HIn.out
    case done =>
      rintro D xs W hD hxs ⟨hi1, hi2, hi3, hi4, hi5, hi6⟩ hK
      have hnone : whO ks y = none := by
        unfold whO
        rw [List.find?_eq_none]
        intro i hi
        have hi' : i < ks.length - 1 := by simpa using hi
        have := hi1 ⟨i, hi'⟩ (by rw [hxs]; simp)
        rw [this]; simp
      have hF : whF ks y = none := by rw [HF1.out, hnone]
      have HF := Lib.hid hF
      clear hF hnone hi1 hxs
      have hl2 := hi3.lt
      have hl3 := hi4.lt
      have g0 := hi3.cell 0
      have g1 := hi3.cell 1
      have g2 := hi4.cell 0
      have f0 := hi3.frozen 0
      have f1 := hi3.frozen 1
      have f2 := hi4.frozen 0
      simp only [List.getElem?_toArray, List.getElem?_cons_zero, List.getElem?_cons_succ] at g0 g1 g2
      gi_wp2
      refine leave_one (D := D) ((Below.heap_setCell _ _ _ _ (by simp; omega)).trans ((Below.heap_setCell _ _ _ _ (by simp; omega)).trans ((Below.heap_setCell _ _ _ _ (by simp; omega)).trans hK))) ?_
      have hr3 := (((hi3.set_ 0 (.int .i64 0)).set_ 1 (.int .i64 0)).far (p := ⟨w.heap.size + 3, 0, none⟩) (by simp) (.bool false)).put (D := D) (o := .deferred none) (by omega)
      have hr4 := (((hi4.far (p := ⟨w.heap.size + 2, 0, none⟩) (by simp) (.int .i64 0)).far (p := ⟨w.heap.size + 2, 1, none⟩) (by simp) (.int .i64 0)).set_ 0 (.bool false)).put (D := D) (o := .deferred none) (by omega)
      have h30 := hr3.cell 0
      have h31 := hr3.cell 1
      have h32 := hr4.cell 0
      simp only [List.setIfInBounds_toArray, List.set_cons_zero, List.set_cons_succ, List.getElem?_toArray, List.getElem?_cons_zero, List.getElem?_cons_succ] at h30 h31 h32
      exact ⟨.tuple #[vFrac 0 0, .bool false], by simp [results, Try.results75, go_sem, h30, h31, h32], by unfold whN whD; rw [HF.out]; rfl, below_put (((hi5.setCell (p := ⟨w.heap.size + 2, 0, none⟩) (by simp) _).setCell (p := ⟨w.heap.size + 2, 1, none⟩) (by simp) _).setCell (p := ⟨w.heap.size + 3, 0, none⟩) (by simp) _) (by omega)⟩
    case stop =>
      rintro D c pre W hD hpre ⟨rfl, pre', i, rfl, hi1, hxi, hi4, hi4', hi5⟩ hK
      have hF : whF ks y = some (invN ks y i.val, invD ks y i.val) := by rw [HF1.out, whO_some hpre hi1 hxi]
      have HF := Lib.hid hF
      clear hF hpre hi1 hxi
      gi_wp2
      refine leave_one (D := D) hK ?_
      have hr3 := hi4.put (D := D) (o := .deferred none) (by omega)
      have hr4 := hi4'.put (D := D) (o := .deferred none) (by omega)
      have h30 := hr3.cell 0
      have h31 := hr3.cell 1
      have h32 := hr4.cell 0
      simp only [List.getElem?_toArray, List.getElem?_cons_zero, List.getElem?_cons_succ] at h30 h31 h32
      exact ⟨.tuple #[vFrac (invN ks y i.val) (invD ks y i.val), .bool true], by simp [results, Try.results75, go_sem, h30, h31, h32], by unfold whN whD; rw [HF.out]; rfl, below_put hi5 (by omega)⟩
end Go.Proofs.Ytipablcbkoedbaa
