/- CurveBounds is proved: for every two curves, a span of at most 300 numbers, one within it, and an integer of it: the value lies within Over, and that of the difference within Apart; both ends are attained where they say; and those of the narrower span are not wider. No condition. -/
import Derived.WalkKit
import Derived.WalkLawsBesides
import Derived.Deep.QuietTactic
import Derived.BigQuiet
import Derived.RegionTactic
import Derived.Lib.Hide
import Derived.Outline
import Derived.WalkSmall
import Derived.Lib.SmallJoins
import Derived.IntWalk
import Derived.Deep.DeepCutAuto
import Derived.Test.YtipablcbkoedbaaProg
import Derived.Test.YtipablcbkoedbaaO1
import Derived.Test.YtipablcbkoedbaaN2
import Derived.Test.YtipablcbkoedbaaK2
import Derived.Test.YtipablcbkoedbaaF3
import Derived.Test.YtipablcbkoedbaaRow2
import Derived.Test.YtipablcbkoedbaaRow4
namespace Go.Proofs.Ytipablcbkoedbaa
open Go.RowKit Go.WideShapes Go.ChangeShapes Go.Joins

/-- What the walk leans on. -/
structure BdOk (A A' : Option Addr) (n cap n' cap' : Nat) (err err' : Int) (ks ks' : List (Int × Int)) (lo hi lo2 hi2 x : Int) (p1 p2 p3 p4 la ha oe vn vd q1 q2 q3 q4 q5 q6 e1 e2 e3 e4 da dh ae un ud ue dn dd : Int) : Prop where
  HO : ∀ W, CAt W A n ks → Calls Try.prog 23 #[vCv A n cap err, vSpan lo hi] W fun e w' => e = .returned (.tuple #[vPeak p1 p2 p3 p4 la ha, .int .i64 oe]) ∧ Below W.heap.size W w'
  HV : oe = 0 → ∀ W, CAt W A n ks → Calls Try.prog 34 #[vCv A n cap err, .int .i64 x] W fun e w' => e = .returned (.tuple #[vFrac vn vd, .int .i64 0]) ∧ Below W.heap.size W w'
  HVl : oe = 0 → ∀ W, CAt W A n ks → Calls Try.prog 34 #[vCv A n cap err, .int .i64 la] W fun e w' => e = .returned (.tuple #[vFrac p1 p2, .int .i64 0]) ∧ Below W.heap.size W w'
  HVh : oe = 0 → ∀ W, CAt W A n ks → Calls Try.prog 34 #[vCv A n cap err, .int .i64 ha] W fun e w' => e = .returned (.tuple #[vFrac p3 p4, .int .i64 0]) ∧ Below W.heap.size W w'
  HL1 : oe = 0 → ∀ W, Calls Try.prog 50 #[vFrac vn vd, vFrac p1 p2] W fun e w' => e = .returned (.bool false) ∧ Below W.heap.size W w'
  HL2 : oe = 0 → ∀ W, Calls Try.prog 50 #[vFrac p3 p4, vFrac vn vd] W fun e w' => e = .returned (.bool false) ∧ Below W.heap.size W w'
  B1 : oe = 0 → lo ≤ la ∧ ha ≤ hi
  HC : oe = 0 → ∀ W, CAt W A n ks → Calls Try.prog 25 #[vCv A n cap err, vSpan lo hi, vPeak p1 p2 p3 p4 la ha] W fun e w' => e = .returned (.int .i64 0) ∧ Below W.heap.size W w'
  HO2 : oe = 0 → lo ≤ lo2 → hi2 ≤ hi → lo2 ≤ hi2 → ∀ W, CAt W A n ks → Calls Try.prog 23 #[vCv A n cap err, vSpan lo2 hi2] W fun e w' => e = .returned (.tuple #[vPeak q1 q2 q3 q4 q5 q6, .int .i64 0]) ∧ Below W.heap.size W w'
  HL3 : oe = 0 → lo ≤ lo2 → hi2 ≤ hi → lo2 ≤ hi2 → ∀ W, Calls Try.prog 50 #[vFrac q1 q2, vFrac p1 p2] W fun e w' => e = .returned (.bool false) ∧ Below W.heap.size W w'
  HL4 : oe = 0 → lo ≤ lo2 → hi2 ≤ hi → lo2 ≤ hi2 → ∀ W, Calls Try.prog 50 #[vFrac p3 p4, vFrac q3 q4] W fun e w' => e = .returned (.bool false) ∧ Below W.heap.size W w'
  HA : ∀ W, CAt W A n ks → CAt W A' n' ks' → Calls Try.prog 51 #[vCv A n cap err, vCv A' n' cap' err', vSpan lo hi] W fun e w' => e = .returned (.tuple #[vPeak e1 e2 e3 e4 da dh, .int .i64 ae]) ∧ Below W.heap.size W w'
  HU : ∀ W, CAt W A' n' ks' → Calls Try.prog 34 #[vCv A' n' cap' err', .int .i64 x] W fun e w' => e = .returned (.tuple #[vFrac un ud, .int .i64 ue]) ∧ Below W.heap.size W w'
  U0 : ae = 0 → ue = 0
  HW : oe = 0 → ae = 0 → ∀ W, Calls Try.prog 40 #[.int .i64 (vn * ud - un * vd), .int .i64 (vd * ud)] W fun e w' => e = .returned (.tuple #[vFrac dn dd, .int .i64 0]) ∧ Below W.heap.size W w'
  HL5 : oe = 0 → ae = 0 → ∀ W, Calls Try.prog 50 #[vFrac dn dd, vFrac e1 e2] W fun e w' => e = .returned (.bool false) ∧ Below W.heap.size W w'
  HL6 : oe = 0 → ae = 0 → ∀ W, Calls Try.prog 50 #[vFrac e3 e4, vFrac dn dd] W fun e w' => e = .returned (.bool false) ∧ Below W.heap.size W w'
  HD1 : ae = 0 → ∀ W, CAt W A n ks → CAt W A' n' ks' → Calls Try.prog 45 #[vCv A n cap err, vCv A' n' cap' err', .int .i64 da] W fun e w' => e = .returned (vFrac e1 e2) ∧ Below W.heap.size W w'
  HD2 : ae = 0 → ∀ W, CAt W A n ks → CAt W A' n' ks' → Calls Try.prog 45 #[vCv A n cap err, vCv A' n' cap' err', .int .i64 dh] W fun e w' => e = .returned (vFrac e3 e4) ∧ Below W.heap.size W w'
  B2 : oe = 0 → ae = 0 → -1000000000000 ≤ vn * ud ∧ vn * ud ≤ 1000000000000 ∧ -1000000000000 ≤ un * vd ∧ un * vd ≤ 1000000000000 ∧ 0 ≤ vd * ud ∧ vd * ud ≤ 1000000000000

theorem ov_sub {ks : List (Int × Int)} {err lo hi lo2 hi2 : Int} (h : ovErr ks err lo hi = 0) (h1 : lo ≤ lo2) (h2 : hi2 ≤ hi) (h3 : lo2 ≤ hi2) : ovErr ks err lo2 hi2 = 0 := by
  obtain ⟨a, b, c, d⟩ := spanErr_zero h
  unfold ovErr spanErr
  rw [if_neg (by simpa using a), if_neg (by omega), if_neg (by omega)]
theorem ap_left {ks ks' : List (Int × Int)} {err err' lo hi : Int} (h : apErr ks ks' err err' lo hi = 0) {x : Int} (h1 : lo ≤ x) (h2 : x ≤ hi) : valErr ks err x = 0 ∧ valErr ks' err' x = 0 := by
  obtain ⟨c, _, _, _⟩ := spanErr_zero h
  obtain ⟨_, _, _, _, _, _, _, a1, a2, a3, a4⟩ := ap_valid h
  have c1 : check ks err = 0 := by
    unfold checkAll at c
    by_cases e : check ks err = 0
    · exact e
    · rw [if_neg e] at c; exact absurd c e
  have c2 : check ks' err' = 0 := by
    unfold checkAll at c
    rw [if_pos c1] at c
    unfold checkAll at c
    by_cases e : check ks' err' = 0
    · exact e
    · rw [if_neg e] at c; exact absurd c e
  refine ⟨?_, ?_⟩
  · unfold valErr domLo domHi
    rw [if_neg (by simp [c1]), if_pos (by omega)]
  · unfold valErr domLo domHi
    rw [if_neg (by simp [c2]), if_pos (by omega)]
theorem ov_in {ks : List (Int × Int)} {err lo hi : Int} (h : ovErr ks err lo hi = 0) {x : Int} (h1 : lo ≤ x) (h2 : x ≤ hi) : valErr ks err x = 0 := by
  obtain ⟨c, _, _, _⟩ := spanErr_zero h
  obtain ⟨_, _, _, _, a1, a2⟩ := ov_valid h
  have c1 : check ks err = 0 := by
    unfold checkAll at c
    by_cases e : check ks err = 0
    · exact e
    · rw [if_neg e] at c; exact absurd c e
  unfold valErr domLo domHi
  rw [if_neg (by simp [c1]), if_pos (by omega)]
theorem fV_ok {ks : List (Int × Int)} (hv : Valid ks) {x : Int} (h0 : kx ks 0 ≤ x) : okF (fV ks x).1 (fV ks x).2 := by
  have h := fV_frb hv h0
  exact ⟨h.d1, h.d2, h.n1, h.n2, val_cop hv x⟩
theorem fD_ok {ks ks' : List (Int × Int)} (hv : Valid ks) (hv' : Valid ks') {x : Int} (h0 : kx ks 0 ≤ x) (h0' : kx ks' 0 ≤ x) : okF (fD ks ks' x).1 (fD ks ks' x).2 := by
  have h := fD_frb hv hv' h0 h0'
  exact ⟨h.d1, h.d2, h.n1, h.n2, low_cop (df_bd hv hv' h0 h0').2.2.2.2.1⟩
theorem ov_pk {ks : List (Int × Int)} {err lo hi : Int} (h : ovErr ks err lo hi = 0) : PkOk (fV ks) lo hi (ovPk ks err lo hi) := by
  obtain ⟨hv, _, _, hlh, a1, a2⟩ := ov_valid h
  rw [over_plain h]
  exact rpk_ok hlh fun x a b => by have := (fV_frb hv (x := x) (by omega)).d1; omega
theorem ap_pk {ks ks' : List (Int × Int)} {err err' lo hi : Int} (h : apErr ks ks' err err' lo hi = 0) : PkOk (fD ks ks') lo hi (apPk ks ks' err err' lo hi) := by
  obtain ⟨hv, hv', _, _, _, _, hlh, a1, a2, a3, a4⟩ := ap_valid h
  rw [apart_plain h]
  exact rpk_ok hlh fun x a b => by have := (fD_frb hv hv' (x := x) (by omega) (by omega)).d1; omega
theorem co_zero {ks : List (Int × Int)} {err lo hi : Int} (h : ovErr ks err lo hi = 0) : coErr ks err lo hi (ovPk ks err lo hi) = 0 := by
  unfold coErr
  rw [if_neg (by simp [h]), if_pos (by simp)]

theorem bdOk (A A' : Option Addr) (n cap n' cap' : Nat) (err err' : Int) (ks ks' : List (Int × Int)) (lo hi lo2 hi2 x : Int) (hm : n ≤ 9223372036854775807) (hm' : n' ≤ 9223372036854775807) (h1 : lo ≤ x) (h2 : x ≤ hi) :
    BdOk A A' n cap n' cap' err err' ks ks' lo hi lo2 hi2 x (ovPk ks err lo hi).ln (ovPk ks err lo hi).ld (ovPk ks err lo hi).hn (ovPk ks err lo hi).hd (ovPk ks err lo hi).la (ovPk ks err lo hi).ha (ovErr ks err lo hi) (valN ks x) (valD ks x)
      (ovPk ks err lo2 hi2).ln (ovPk ks err lo2 hi2).ld (ovPk ks err lo2 hi2).hn (ovPk ks err lo2 hi2).hd (ovPk ks err lo2 hi2).la (ovPk ks err lo2 hi2).ha
      (apPk ks ks' err err' lo hi).ln (apPk ks ks' err err' lo hi).ld (apPk ks ks' err err' lo hi).hn (apPk ks ks' err err' lo hi).hd (apPk ks ks' err err' lo hi).la (apPk ks ks' err err' lo hi).ha (apErr ks ks' err err' lo hi)
      (vN ks' err' x) (vD ks' err' x) (valErr ks' err' x) (dfN ks ks' x) (dfD ks ks' x) := by
  have hval : ∀ y, ovErr ks err lo hi = 0 → lo ≤ y → y ≤ hi → ∀ W, CAt W A n ks → Calls Try.prog 34 #[vCv A n cap err, .int .i64 y] W fun e w' => e = .returned (.tuple #[vFrac (valN ks y) (valD ks y), .int .i64 0]) ∧ Below W.heap.size W w' := fun y h a b W hW => by
    have k := Value_any A n cap err ks y W hW hm
    have e := ov_in h a b
    rw [e] at k
    unfold vN vD at k
    rw [if_pos e, if_pos e] at k
    exact k
  have hap : ∀ y, apErr ks ks' err err' lo hi = 0 → lo ≤ y → y ≤ hi → ∀ W, CAt W A n ks → CAt W A' n' ks' → Calls Try.prog 45 #[vCv A n cap err, vCv A' n' cap' err', .int .i64 y] W fun e w' => e = .returned (vFrac (dfN ks ks' y) (dfD ks ks' y)) ∧ Below W.heap.size W w' := fun y h a b W hW hW' => by
    obtain ⟨k1, k2⟩ := ap_left h a b
    exact apart_any A A' n cap n' cap' err err' ks ks' y W hW hm hW' hm' k1 k2
  have ok := fun (h : ovErr ks err lo hi = 0) y (a : lo ≤ y) => (show okF (fV ks y).1 (fV ks y).2 from fV_ok (ov_valid h).1 (by have := (ov_valid h).2.2.2.2.1; omega))
  have okd := fun (h : apErr ks ks' err err' lo hi = 0) y (a : lo ≤ y) => (show okF (fD ks ks' y).1 (fD ks ks' y).2 from by
    obtain ⟨hv, hv', _, _, _, _, _, a1, _, a3, _⟩ := ap_valid h
    exact fD_ok hv hv' (by omega) (by omega))
  refine ⟨fun W hW => Over_any A n cap err ks lo hi W hW hm, fun h => hval x h h1 h2, fun h => ?_, fun h => ?_, fun h W => ?_, fun h W => ?_, fun h => ?_, fun h W hW => ?_, fun h a b c W hW => ?_, fun h a b c W => ?_, fun h a b c W => ?_,
    fun W hW hW' => Apart_any A A' n cap n' cap' err err' ks ks' lo hi W hW hm hW' hm', fun W hW => Value_any A' n' cap' err' ks' x W hW hm', fun h => (ap_left h h1 h2).2, fun h k W => ?_, fun h k W => ?_, fun h k W => ?_, fun h => ?_, fun h => ?_, fun h k => ?_⟩
  · have p := ov_pk h
    have e := p.el
    have := hval _ h p.l1 p.l2
    rw [show valN ks (ovPk ks err lo hi).la = (ovPk ks err lo hi).ln from (congrArg Prod.fst e).symm, show valD ks (ovPk ks err lo hi).la = (ovPk ks err lo hi).ld from (congrArg Prod.snd e).symm] at this
    exact this
  · have p := ov_pk h
    have e := p.eh
    have := hval _ h p.h1 p.h2
    rw [show valN ks (ovPk ks err lo hi).ha = (ovPk ks err lo hi).hn from (congrArg Prod.fst e).symm, show valD ks (ovPk ks err lo hi).ha = (ovPk ks err lo hi).hd from (congrArg Prod.snd e).symm] at this
    exact this
  · have p := ov_pk h
    have := less_law (fV ks x) ((ovPk ks err lo hi).ln, (ovPk ks err lo hi).ld) W (ok h x h1) (by rw [p.el]; exact ok h _ p.l1)
    rw [p.ll x h1 h2] at this
    exact this
  · have p := ov_pk h
    have := less_law ((ovPk ks err lo hi).hn, (ovPk ks err lo hi).hd) (fV ks x) W (by rw [p.eh]; exact ok h _ p.h1) (ok h x h1)
    rw [p.hh x h1 h2] at this
    exact this
  · have p := ov_pk h
    exact ⟨p.l1, p.h2⟩
  · have := CheckOver_any A n cap err ks lo hi (ovPk ks err lo hi) W hW hm
    rw [co_zero h] at this
    exact this
  · have := Over_any A n cap err ks lo2 hi2 W hW hm
    rw [ov_sub h a b c] at this
    exact this
  · have p := ov_pk h
    have q := ov_pk (ov_sub h a b c)
    have := less_law ((ovPk ks err lo2 hi2).ln, (ovPk ks err lo2 hi2).ld) ((ovPk ks err lo hi).ln, (ovPk ks err lo hi).ld) W (by rw [q.el]; exact ok h _ (by have := q.l1; omega)) (by rw [p.el]; exact ok h _ p.l1)
    rw [show ltF ((ovPk ks err lo2 hi2).ln, (ovPk ks err lo2 hi2).ld) ((ovPk ks err lo hi).ln, (ovPk ks err lo hi).ld) = false from by rw [q.el]; exact p.ll _ (by have := q.l1; omega) (by have := q.l2; omega)] at this
    exact this
  · have p := ov_pk h
    have q := ov_pk (ov_sub h a b c)
    have := less_law ((ovPk ks err lo hi).hn, (ovPk ks err lo hi).hd) ((ovPk ks err lo2 hi2).hn, (ovPk ks err lo2 hi2).hd) W (by rw [p.eh]; exact ok h _ p.h1) (by rw [q.eh]; exact ok h _ (by have := q.h1; omega))
    rw [show ltF ((ovPk ks err lo hi).hn, (ovPk ks err lo hi).hd) ((ovPk ks err lo2 hi2).hn, (ovPk ks err lo2 hi2).hd) = false from by rw [q.eh]; exact p.hh _ (by have := q.h1; omega) (by have := q.h2; omega)] at this
    exact this
  · obtain ⟨hv, hv', _, _, _, _, _, a1, _, a3, _⟩ := ap_valid k
    obtain ⟨b1, b2, b3, b4, b5, b6⟩ := df_bd hv hv' (x := x) (by omega) (by omega)
    have e := (ap_left k h1 h2).2
    unfold vN vD
    rw [if_pos e, if_pos e]
    have := Lowest_any (valN ks x * valD ks' x - valN ks' x * valD ks x) (valD ks x * valD ks' x) W
    obtain ⟨l1, l2, l3⟩ := lw_of (n := valN ks x * valD ks' x - valN ks' x * valD ks x) (d := valD ks x * valD ks' x) b5 (by omega) (by omega) (by omega)
    unfold lwOut at this
    rw [l1, l2, l3] at this
    exact this
  · have p := ap_pk k
    have := less_law (fD ks ks' x) ((apPk ks ks' err err' lo hi).ln, (apPk ks ks' err err' lo hi).ld) W (okd k x h1) (by rw [p.el]; exact okd k _ p.l1)
    rw [p.ll x h1 h2] at this
    exact this
  · have p := ap_pk k
    have := less_law ((apPk ks ks' err err' lo hi).hn, (apPk ks ks' err err' lo hi).hd) (fD ks ks' x) W (by rw [p.eh]; exact okd k _ p.h1) (okd k x h1)
    rw [p.hh x h1 h2] at this
    exact this
  · have p := ap_pk h
    have e := p.el
    have := hap _ h p.l1 p.l2
    rw [show dfN ks ks' (apPk ks ks' err err' lo hi).la = (apPk ks ks' err err' lo hi).ln from (congrArg Prod.fst e).symm, show dfD ks ks' (apPk ks ks' err err' lo hi).la = (apPk ks ks' err err' lo hi).ld from (congrArg Prod.snd e).symm] at this
    exact this
  · have p := ap_pk h
    have e := p.eh
    have := hap _ h p.h1 p.h2
    rw [show dfN ks ks' (apPk ks ks' err err' lo hi).ha = (apPk ks ks' err err' lo hi).hn from (congrArg Prod.fst e).symm, show dfD ks ks' (apPk ks ks' err err' lo hi).ha = (apPk ks ks' err err' lo hi).hd from (congrArg Prod.snd e).symm] at this
    exact this
  · obtain ⟨hv, hv', _, _, _, _, _, a1, _, a3, _⟩ := ap_valid k
    obtain ⟨b1, b2, b3, b4, b5, b6⟩ := df_bd hv hv' (x := x) (by omega) (by omega)
    have e := (ap_left k h1 h2).2
    unfold vN vD
    rw [if_pos e, if_pos e]
    exact ⟨by omega, by omega, by omega, by omega, by omega, by omega⟩


set_option maxRecDepth 100000 in
set_option maxHeartbeats 3200000 in
theorem curveBounds_dead (A A' : Option Addr) (n cap n' cap' : Nat) (err err' : Int) (ks ks' : List (Int × Int)) (lo hi lo2 hi2 x : Int) (w : World) (h : CAt w A n ks) (hm : n ≤ 9223372036854775807) (h' : CAt w A' n' ks') (hm' : n' ≤ 9223372036854775807) (hlo : -9223372036854775808 ≤ lo ∧ lo ≤ 9223372036854775807) (hhi : -9223372036854775808 ≤ hi ∧ hi ≤ 9223372036854775807) (hd : ¬ (n ≤ 60 ∧ n' ≤ 60 ∧ 0 ≤ lo ∧ lo ≤ x ∧ x ≤ hi ∧ hi - lo ≤ 300)) :
    Calls Try.prog 11 #[vCv A n cap err, vCv A' n' cap' err', vSpan lo hi, vSpan lo2 hi2, .int .i64 x] w fun e w' => e = .returned (.bool true) ∧ Below w.heap.size w w' := by
  have HH := Lib.hid head_any
  have HAa := Lib.hid h
  have HAb := Lib.hid h'
  by_cases hn : n ≤ 60
  case neg =>
    have HF := Lib.hid (fun W => calls_val (few_any A n cap err W hm) (v' := .bool false) (by rw [decide_eq_false hn]))
    clear h h' hd
    generalize hW : (((w.alloc (.cells #[.slice A n cap, .int .i64 err] 24)).alloc (.cells #[.slice A' n' cap', .int .i64 err'] 24)).alloc (.cells #[.int .i64 lo, .int .i64 hi] 26)).alloc (.cells #[.int .i64 lo2, .int .i64 hi2] 26) = W
    have B0 : Below w.heap.size w W := by rw [← hW]; exact (((((Below.refl w.heap.size w).alloc (Nat.le_refl _) _).alloc (by simp) _).alloc (by simp; omega) _).alloc (by simp; omega) _)
    have x0_0 : Blk W w.heap.size 24 #[.slice A n cap, .int .i64 err] := by rw [← hW]; exact ((((Blk.at_new _ _ rfl).alloc _).alloc _).alloc _)
    have x1_0 : Blk W (w.heap.size + 1) 24 #[.slice A' n' cap', .int .i64 err'] := by rw [← hW]; exact (((Blk.at_new _ _ (by simp)).alloc _).alloc _)
    have x2_0 : Blk W (w.heap.size + 2) 26 #[.int .i64 lo, .int .i64 hi] := by rw [← hW]; exact ((Blk.at_new _ _ (by simp)).alloc _)
    have x3_0 : Blk W (w.heap.size + 3) 26 #[.int .i64 lo2, .int .i64 hi2] := by rw [← hW]; exact (Blk.at_new _ _ (by simp))
    have HWE := Lib.hid hW
    clear hW
    go_enter Try.func11, Try.ntmps11
    have B1 := B0
    go_wp2_with fail
    rw [HWE.out]
    refine (HH.out _).mono ?_; rintro e w1 ⟨rfl, hb1⟩
    have x0_1 := x0_0.below hb1
    have x1_1 := x1_0.below hb1
    have x2_1 := x2_0.below hb1
    have x3_1 := x3_0.below hb1
    clear x0_0 x1_0 x2_0 x3_0
    have x0_1c0 := x0_1.cell 0
    have x0_1c1 := x0_1.cell 1
    simp only [List.getElem?_toArray, List.getElem?_cons_zero, List.getElem?_cons_succ] at x0_1c0 x0_1c1
    have x0_1l := x0_1.lt
    have x1_1c0 := x1_1.cell 0
    have x1_1c1 := x1_1.cell 1
    simp only [List.getElem?_toArray, List.getElem?_cons_zero, List.getElem?_cons_succ] at x1_1c0 x1_1c1
    have x1_1l := x1_1.lt
    have x2_1c0 := x2_1.cell 0
    have x2_1c1 := x2_1.cell 1
    simp only [List.getElem?_toArray, List.getElem?_cons_zero, List.getElem?_cons_succ] at x2_1c0 x2_1c1
    have x2_1l := x2_1.lt
    have x3_1c0 := x3_1.cell 0
    have x3_1c1 := x3_1.cell 1
    simp only [List.getElem?_toArray, List.getElem?_cons_zero, List.getElem?_cons_succ] at x3_1c0 x3_1c1
    have x3_1l := x3_1.lt
    have B2 := B1.trans (hb1.mono B1.size)
    go_wp2_with fail
    refine (HF.out _).mono ?_; rintro e w2 ⟨rfl, hb2⟩
    clear x0_1c0 x0_1c1 x0_1l x1_1c0 x1_1c1 x1_1l x2_1c0 x2_1c1 x2_1l x3_1c0 x3_1c1 x3_1l
    have x0_2 := x0_1.below hb2
    have x1_2 := x1_1.below hb2
    have x2_2 := x2_1.below hb2
    have x3_2 := x3_1.below hb2
    clear x0_1 x1_1 x2_1 x3_1
    have x0_2c0 := x0_2.cell 0
    have x0_2c1 := x0_2.cell 1
    simp only [List.getElem?_toArray, List.getElem?_cons_zero, List.getElem?_cons_succ] at x0_2c0 x0_2c1
    have x0_2l := x0_2.lt
    have x1_2c0 := x1_2.cell 0
    have x1_2c1 := x1_2.cell 1
    simp only [List.getElem?_toArray, List.getElem?_cons_zero, List.getElem?_cons_succ] at x1_2c0 x1_2c1
    have x1_2l := x1_2.lt
    have x2_2c0 := x2_2.cell 0
    have x2_2c1 := x2_2.cell 1
    simp only [List.getElem?_toArray, List.getElem?_cons_zero, List.getElem?_cons_succ] at x2_2c0 x2_2c1
    have x2_2l := x2_2.lt
    have x3_2c0 := x3_2.cell 0
    have x3_2c1 := x3_2.cell 1
    simp only [List.getElem?_toArray, List.getElem?_cons_zero, List.getElem?_cons_succ] at x3_2c0 x3_2c1
    have x3_2l := x3_2.lt
    go_wp2
    go_ret
    exact ⟨rfl, B2.trans (hb2.mono B2.size)⟩
  have HF := Lib.hid (fun W => calls_val (few_any A n cap err W hm) (v' := .bool true) (by rw [decide_eq_true hn]))
  by_cases hn' : n' ≤ 60
  case neg =>
    have HF' := Lib.hid (fun W => calls_val (few_any A' n' cap' err' W hm') (v' := .bool false) (by rw [decide_eq_false hn']))
    clear h h' hd
    generalize hW : (((w.alloc (.cells #[.slice A n cap, .int .i64 err] 24)).alloc (.cells #[.slice A' n' cap', .int .i64 err'] 24)).alloc (.cells #[.int .i64 lo, .int .i64 hi] 26)).alloc (.cells #[.int .i64 lo2, .int .i64 hi2] 26) = W
    have B0 : Below w.heap.size w W := by rw [← hW]; exact (((((Below.refl w.heap.size w).alloc (Nat.le_refl _) _).alloc (by simp) _).alloc (by simp; omega) _).alloc (by simp; omega) _)
    have x0_0 : Blk W w.heap.size 24 #[.slice A n cap, .int .i64 err] := by rw [← hW]; exact ((((Blk.at_new _ _ rfl).alloc _).alloc _).alloc _)
    have x1_0 : Blk W (w.heap.size + 1) 24 #[.slice A' n' cap', .int .i64 err'] := by rw [← hW]; exact (((Blk.at_new _ _ (by simp)).alloc _).alloc _)
    have x2_0 : Blk W (w.heap.size + 2) 26 #[.int .i64 lo, .int .i64 hi] := by rw [← hW]; exact ((Blk.at_new _ _ (by simp)).alloc _)
    have x3_0 : Blk W (w.heap.size + 3) 26 #[.int .i64 lo2, .int .i64 hi2] := by rw [← hW]; exact (Blk.at_new _ _ (by simp))
    have HWE := Lib.hid hW
    clear hW
    go_enter Try.func11, Try.ntmps11
    have B1 := B0
    go_wp2_with fail
    rw [HWE.out]
    refine (HH.out _).mono ?_; rintro e w1 ⟨rfl, hb1⟩
    have x0_1 := x0_0.below hb1
    have x1_1 := x1_0.below hb1
    have x2_1 := x2_0.below hb1
    have x3_1 := x3_0.below hb1
    clear x0_0 x1_0 x2_0 x3_0
    have x0_1c0 := x0_1.cell 0
    have x0_1c1 := x0_1.cell 1
    simp only [List.getElem?_toArray, List.getElem?_cons_zero, List.getElem?_cons_succ] at x0_1c0 x0_1c1
    have x0_1l := x0_1.lt
    have x1_1c0 := x1_1.cell 0
    have x1_1c1 := x1_1.cell 1
    simp only [List.getElem?_toArray, List.getElem?_cons_zero, List.getElem?_cons_succ] at x1_1c0 x1_1c1
    have x1_1l := x1_1.lt
    have x2_1c0 := x2_1.cell 0
    have x2_1c1 := x2_1.cell 1
    simp only [List.getElem?_toArray, List.getElem?_cons_zero, List.getElem?_cons_succ] at x2_1c0 x2_1c1
    have x2_1l := x2_1.lt
    have x3_1c0 := x3_1.cell 0
    have x3_1c1 := x3_1.cell 1
    simp only [List.getElem?_toArray, List.getElem?_cons_zero, List.getElem?_cons_succ] at x3_1c0 x3_1c1
    have x3_1l := x3_1.lt
    have B2 := B1.trans (hb1.mono B1.size)
    go_wp2_with fail
    refine (HF.out _).mono ?_; rintro e w2 ⟨rfl, hb2⟩
    clear x0_1c0 x0_1c1 x0_1l x1_1c0 x1_1c1 x1_1l x2_1c0 x2_1c1 x2_1l x3_1c0 x3_1c1 x3_1l
    have x0_2 := x0_1.below hb2
    have x1_2 := x1_1.below hb2
    have x2_2 := x2_1.below hb2
    have x3_2 := x3_1.below hb2
    clear x0_1 x1_1 x2_1 x3_1
    have x0_2c0 := x0_2.cell 0
    have x0_2c1 := x0_2.cell 1
    simp only [List.getElem?_toArray, List.getElem?_cons_zero, List.getElem?_cons_succ] at x0_2c0 x0_2c1
    have x0_2l := x0_2.lt
    have x1_2c0 := x1_2.cell 0
    have x1_2c1 := x1_2.cell 1
    simp only [List.getElem?_toArray, List.getElem?_cons_zero, List.getElem?_cons_succ] at x1_2c0 x1_2c1
    have x1_2l := x1_2.lt
    have x2_2c0 := x2_2.cell 0
    have x2_2c1 := x2_2.cell 1
    simp only [List.getElem?_toArray, List.getElem?_cons_zero, List.getElem?_cons_succ] at x2_2c0 x2_2c1
    have x2_2l := x2_2.lt
    have x3_2c0 := x3_2.cell 0
    have x3_2c1 := x3_2.cell 1
    simp only [List.getElem?_toArray, List.getElem?_cons_zero, List.getElem?_cons_succ] at x3_2c0 x3_2c1
    have x3_2l := x3_2.lt
    have B3 := B2.trans (hb2.mono B2.size)
    go_wp2_with fail
    refine (HF'.out _).mono ?_; rintro e w3 ⟨rfl, hb3⟩
    clear x0_2c0 x0_2c1 x0_2l x1_2c0 x1_2c1 x1_2l x2_2c0 x2_2c1 x2_2l x3_2c0 x3_2c1 x3_2l
    have x0_3 := x0_2.below hb3
    have x1_3 := x1_2.below hb3
    have x2_3 := x2_2.below hb3
    have x3_3 := x3_2.below hb3
    clear x0_2 x1_2 x2_2 x3_2
    have x0_3c0 := x0_3.cell 0
    have x0_3c1 := x0_3.cell 1
    simp only [List.getElem?_toArray, List.getElem?_cons_zero, List.getElem?_cons_succ] at x0_3c0 x0_3c1
    have x0_3l := x0_3.lt
    have x1_3c0 := x1_3.cell 0
    have x1_3c1 := x1_3.cell 1
    simp only [List.getElem?_toArray, List.getElem?_cons_zero, List.getElem?_cons_succ] at x1_3c0 x1_3c1
    have x1_3l := x1_3.lt
    have x2_3c0 := x2_3.cell 0
    have x2_3c1 := x2_3.cell 1
    simp only [List.getElem?_toArray, List.getElem?_cons_zero, List.getElem?_cons_succ] at x2_3c0 x2_3c1
    have x2_3l := x2_3.lt
    have x3_3c0 := x3_3.cell 0
    have x3_3c1 := x3_3.cell 1
    simp only [List.getElem?_toArray, List.getElem?_cons_zero, List.getElem?_cons_succ] at x3_3c0 x3_3c1
    have x3_3l := x3_3.lt
    go_wp2
    go_ret
    exact ⟨rfl, B3.trans (hb3.mono B3.size)⟩
  have HF' := Lib.hid (fun W => calls_val (few_any A' n' cap' err' W hm') (v' := .bool true) (by rw [decide_eq_true hn']))
  clear h h'
  by_cases c1 : RowKit.wrap64 (hi - lo) ≤ 300
  case neg =>
    have c1b : 300 < RowKit.wrap64 (hi - lo) := by omega
    clear hd c1
    generalize hW : (((w.alloc (.cells #[.slice A n cap, .int .i64 err] 24)).alloc (.cells #[.slice A' n' cap', .int .i64 err'] 24)).alloc (.cells #[.int .i64 lo, .int .i64 hi] 26)).alloc (.cells #[.int .i64 lo2, .int .i64 hi2] 26) = W
    have B0 : Below w.heap.size w W := by rw [← hW]; exact (((((Below.refl w.heap.size w).alloc (Nat.le_refl _) _).alloc (by simp) _).alloc (by simp; omega) _).alloc (by simp; omega) _)
    have x0_0 : Blk W w.heap.size 24 #[.slice A n cap, .int .i64 err] := by rw [← hW]; exact ((((Blk.at_new _ _ rfl).alloc _).alloc _).alloc _)
    have x1_0 : Blk W (w.heap.size + 1) 24 #[.slice A' n' cap', .int .i64 err'] := by rw [← hW]; exact (((Blk.at_new _ _ (by simp)).alloc _).alloc _)
    have x2_0 : Blk W (w.heap.size + 2) 26 #[.int .i64 lo, .int .i64 hi] := by rw [← hW]; exact ((Blk.at_new _ _ (by simp)).alloc _)
    have x3_0 : Blk W (w.heap.size + 3) 26 #[.int .i64 lo2, .int .i64 hi2] := by rw [← hW]; exact (Blk.at_new _ _ (by simp))
    have HWE := Lib.hid hW
    clear hW
    go_enter Try.func11, Try.ntmps11
    have B1 := B0
    go_wp2_with fail
    rw [HWE.out]
    refine (HH.out _).mono ?_; rintro e w1 ⟨rfl, hb1⟩
    have x0_1 := x0_0.below hb1
    have x1_1 := x1_0.below hb1
    have x2_1 := x2_0.below hb1
    have x3_1 := x3_0.below hb1
    clear x0_0 x1_0 x2_0 x3_0
    have x0_1c0 := x0_1.cell 0
    have x0_1c1 := x0_1.cell 1
    simp only [List.getElem?_toArray, List.getElem?_cons_zero, List.getElem?_cons_succ] at x0_1c0 x0_1c1
    have x0_1l := x0_1.lt
    have x1_1c0 := x1_1.cell 0
    have x1_1c1 := x1_1.cell 1
    simp only [List.getElem?_toArray, List.getElem?_cons_zero, List.getElem?_cons_succ] at x1_1c0 x1_1c1
    have x1_1l := x1_1.lt
    have x2_1c0 := x2_1.cell 0
    have x2_1c1 := x2_1.cell 1
    simp only [List.getElem?_toArray, List.getElem?_cons_zero, List.getElem?_cons_succ] at x2_1c0 x2_1c1
    have x2_1l := x2_1.lt
    have x3_1c0 := x3_1.cell 0
    have x3_1c1 := x3_1.cell 1
    simp only [List.getElem?_toArray, List.getElem?_cons_zero, List.getElem?_cons_succ] at x3_1c0 x3_1c1
    have x3_1l := x3_1.lt
    have B2 := B1.trans (hb1.mono B1.size)
    go_wp2_with fail
    refine (HF.out _).mono ?_; rintro e w2 ⟨rfl, hb2⟩
    clear x0_1c0 x0_1c1 x0_1l x1_1c0 x1_1c1 x1_1l x2_1c0 x2_1c1 x2_1l x3_1c0 x3_1c1 x3_1l
    have x0_2 := x0_1.below hb2
    have x1_2 := x1_1.below hb2
    have x2_2 := x2_1.below hb2
    have x3_2 := x3_1.below hb2
    clear x0_1 x1_1 x2_1 x3_1
    have x0_2c0 := x0_2.cell 0
    have x0_2c1 := x0_2.cell 1
    simp only [List.getElem?_toArray, List.getElem?_cons_zero, List.getElem?_cons_succ] at x0_2c0 x0_2c1
    have x0_2l := x0_2.lt
    have x1_2c0 := x1_2.cell 0
    have x1_2c1 := x1_2.cell 1
    simp only [List.getElem?_toArray, List.getElem?_cons_zero, List.getElem?_cons_succ] at x1_2c0 x1_2c1
    have x1_2l := x1_2.lt
    have x2_2c0 := x2_2.cell 0
    have x2_2c1 := x2_2.cell 1
    simp only [List.getElem?_toArray, List.getElem?_cons_zero, List.getElem?_cons_succ] at x2_2c0 x2_2c1
    have x2_2l := x2_2.lt
    have x3_2c0 := x3_2.cell 0
    have x3_2c1 := x3_2.cell 1
    simp only [List.getElem?_toArray, List.getElem?_cons_zero, List.getElem?_cons_succ] at x3_2c0 x3_2c1
    have x3_2l := x3_2.lt
    have B3 := B2.trans (hb2.mono B2.size)
    go_wp2_with fail
    refine (HF'.out _).mono ?_; rintro e w3 ⟨rfl, hb3⟩
    clear x0_2c0 x0_2c1 x0_2l x1_2c0 x1_2c1 x1_2l x2_2c0 x2_2c1 x2_2l x3_2c0 x3_2c1 x3_2l
    have x0_3 := x0_2.below hb3
    have x1_3 := x1_2.below hb3
    have x2_3 := x2_2.below hb3
    have x3_3 := x3_2.below hb3
    clear x0_2 x1_2 x2_2 x3_2
    have x0_3c0 := x0_3.cell 0
    have x0_3c1 := x0_3.cell 1
    simp only [List.getElem?_toArray, List.getElem?_cons_zero, List.getElem?_cons_succ] at x0_3c0 x0_3c1
    have x0_3l := x0_3.lt
    have x1_3c0 := x1_3.cell 0
    have x1_3c1 := x1_3.cell 1
    simp only [List.getElem?_toArray, List.getElem?_cons_zero, List.getElem?_cons_succ] at x1_3c0 x1_3c1
    have x1_3l := x1_3.lt
    have x2_3c0 := x2_3.cell 0
    have x2_3c1 := x2_3.cell 1
    simp only [List.getElem?_toArray, List.getElem?_cons_zero, List.getElem?_cons_succ] at x2_3c0 x2_3c1
    have x2_3l := x2_3.lt
    have x3_3c0 := x3_3.cell 0
    have x3_3c1 := x3_3.cell 1
    simp only [List.getElem?_toArray, List.getElem?_cons_zero, List.getElem?_cons_succ] at x3_3c0 x3_3c1
    have x3_3l := x3_3.lt
    go_wp2
    go_ret
    exact ⟨rfl, B3.trans (hb3.mono B3.size)⟩
  by_cases c2 : 0 ≤ lo
  case neg =>
    clear hd
    generalize hW : (((w.alloc (.cells #[.slice A n cap, .int .i64 err] 24)).alloc (.cells #[.slice A' n' cap', .int .i64 err'] 24)).alloc (.cells #[.int .i64 lo, .int .i64 hi] 26)).alloc (.cells #[.int .i64 lo2, .int .i64 hi2] 26) = W
    have B0 : Below w.heap.size w W := by rw [← hW]; exact (((((Below.refl w.heap.size w).alloc (Nat.le_refl _) _).alloc (by simp) _).alloc (by simp; omega) _).alloc (by simp; omega) _)
    have x0_0 : Blk W w.heap.size 24 #[.slice A n cap, .int .i64 err] := by rw [← hW]; exact ((((Blk.at_new _ _ rfl).alloc _).alloc _).alloc _)
    have x1_0 : Blk W (w.heap.size + 1) 24 #[.slice A' n' cap', .int .i64 err'] := by rw [← hW]; exact (((Blk.at_new _ _ (by simp)).alloc _).alloc _)
    have x2_0 : Blk W (w.heap.size + 2) 26 #[.int .i64 lo, .int .i64 hi] := by rw [← hW]; exact ((Blk.at_new _ _ (by simp)).alloc _)
    have x3_0 : Blk W (w.heap.size + 3) 26 #[.int .i64 lo2, .int .i64 hi2] := by rw [← hW]; exact (Blk.at_new _ _ (by simp))
    have HWE := Lib.hid hW
    clear hW
    go_enter Try.func11, Try.ntmps11
    have B1 := B0
    go_wp2_with fail
    rw [HWE.out]
    refine (HH.out _).mono ?_; rintro e w1 ⟨rfl, hb1⟩
    have x0_1 := x0_0.below hb1
    have x1_1 := x1_0.below hb1
    have x2_1 := x2_0.below hb1
    have x3_1 := x3_0.below hb1
    clear x0_0 x1_0 x2_0 x3_0
    have x0_1c0 := x0_1.cell 0
    have x0_1c1 := x0_1.cell 1
    simp only [List.getElem?_toArray, List.getElem?_cons_zero, List.getElem?_cons_succ] at x0_1c0 x0_1c1
    have x0_1l := x0_1.lt
    have x1_1c0 := x1_1.cell 0
    have x1_1c1 := x1_1.cell 1
    simp only [List.getElem?_toArray, List.getElem?_cons_zero, List.getElem?_cons_succ] at x1_1c0 x1_1c1
    have x1_1l := x1_1.lt
    have x2_1c0 := x2_1.cell 0
    have x2_1c1 := x2_1.cell 1
    simp only [List.getElem?_toArray, List.getElem?_cons_zero, List.getElem?_cons_succ] at x2_1c0 x2_1c1
    have x2_1l := x2_1.lt
    have x3_1c0 := x3_1.cell 0
    have x3_1c1 := x3_1.cell 1
    simp only [List.getElem?_toArray, List.getElem?_cons_zero, List.getElem?_cons_succ] at x3_1c0 x3_1c1
    have x3_1l := x3_1.lt
    have B2 := B1.trans (hb1.mono B1.size)
    go_wp2_with fail
    refine (HF.out _).mono ?_; rintro e w2 ⟨rfl, hb2⟩
    clear x0_1c0 x0_1c1 x0_1l x1_1c0 x1_1c1 x1_1l x2_1c0 x2_1c1 x2_1l x3_1c0 x3_1c1 x3_1l
    have x0_2 := x0_1.below hb2
    have x1_2 := x1_1.below hb2
    have x2_2 := x2_1.below hb2
    have x3_2 := x3_1.below hb2
    clear x0_1 x1_1 x2_1 x3_1
    have x0_2c0 := x0_2.cell 0
    have x0_2c1 := x0_2.cell 1
    simp only [List.getElem?_toArray, List.getElem?_cons_zero, List.getElem?_cons_succ] at x0_2c0 x0_2c1
    have x0_2l := x0_2.lt
    have x1_2c0 := x1_2.cell 0
    have x1_2c1 := x1_2.cell 1
    simp only [List.getElem?_toArray, List.getElem?_cons_zero, List.getElem?_cons_succ] at x1_2c0 x1_2c1
    have x1_2l := x1_2.lt
    have x2_2c0 := x2_2.cell 0
    have x2_2c1 := x2_2.cell 1
    simp only [List.getElem?_toArray, List.getElem?_cons_zero, List.getElem?_cons_succ] at x2_2c0 x2_2c1
    have x2_2l := x2_2.lt
    have x3_2c0 := x3_2.cell 0
    have x3_2c1 := x3_2.cell 1
    simp only [List.getElem?_toArray, List.getElem?_cons_zero, List.getElem?_cons_succ] at x3_2c0 x3_2c1
    have x3_2l := x3_2.lt
    have B3 := B2.trans (hb2.mono B2.size)
    go_wp2_with fail
    refine (HF'.out _).mono ?_; rintro e w3 ⟨rfl, hb3⟩
    clear x0_2c0 x0_2c1 x0_2l x1_2c0 x1_2c1 x1_2l x2_2c0 x2_2c1 x2_2l x3_2c0 x3_2c1 x3_2l
    have x0_3 := x0_2.below hb3
    have x1_3 := x1_2.below hb3
    have x2_3 := x2_2.below hb3
    have x3_3 := x3_2.below hb3
    clear x0_2 x1_2 x2_2 x3_2
    have x0_3c0 := x0_3.cell 0
    have x0_3c1 := x0_3.cell 1
    simp only [List.getElem?_toArray, List.getElem?_cons_zero, List.getElem?_cons_succ] at x0_3c0 x0_3c1
    have x0_3l := x0_3.lt
    have x1_3c0 := x1_3.cell 0
    have x1_3c1 := x1_3.cell 1
    simp only [List.getElem?_toArray, List.getElem?_cons_zero, List.getElem?_cons_succ] at x1_3c0 x1_3c1
    have x1_3l := x1_3.lt
    have x2_3c0 := x2_3.cell 0
    have x2_3c1 := x2_3.cell 1
    simp only [List.getElem?_toArray, List.getElem?_cons_zero, List.getElem?_cons_succ] at x2_3c0 x2_3c1
    have x2_3l := x2_3.lt
    have x3_3c0 := x3_3.cell 0
    have x3_3c1 := x3_3.cell 1
    simp only [List.getElem?_toArray, List.getElem?_cons_zero, List.getElem?_cons_succ] at x3_3c0 x3_3c1
    have x3_3l := x3_3.lt
    go_wp2
    go_ret
    exact ⟨rfl, B3.trans (hb3.mono B3.size)⟩
  by_cases c3 : lo ≤ x
  case neg =>
    clear hd
    generalize hW : (((w.alloc (.cells #[.slice A n cap, .int .i64 err] 24)).alloc (.cells #[.slice A' n' cap', .int .i64 err'] 24)).alloc (.cells #[.int .i64 lo, .int .i64 hi] 26)).alloc (.cells #[.int .i64 lo2, .int .i64 hi2] 26) = W
    have B0 : Below w.heap.size w W := by rw [← hW]; exact (((((Below.refl w.heap.size w).alloc (Nat.le_refl _) _).alloc (by simp) _).alloc (by simp; omega) _).alloc (by simp; omega) _)
    have x0_0 : Blk W w.heap.size 24 #[.slice A n cap, .int .i64 err] := by rw [← hW]; exact ((((Blk.at_new _ _ rfl).alloc _).alloc _).alloc _)
    have x1_0 : Blk W (w.heap.size + 1) 24 #[.slice A' n' cap', .int .i64 err'] := by rw [← hW]; exact (((Blk.at_new _ _ (by simp)).alloc _).alloc _)
    have x2_0 : Blk W (w.heap.size + 2) 26 #[.int .i64 lo, .int .i64 hi] := by rw [← hW]; exact ((Blk.at_new _ _ (by simp)).alloc _)
    have x3_0 : Blk W (w.heap.size + 3) 26 #[.int .i64 lo2, .int .i64 hi2] := by rw [← hW]; exact (Blk.at_new _ _ (by simp))
    have HWE := Lib.hid hW
    clear hW
    go_enter Try.func11, Try.ntmps11
    have B1 := B0
    go_wp2_with fail
    rw [HWE.out]
    refine (HH.out _).mono ?_; rintro e w1 ⟨rfl, hb1⟩
    have x0_1 := x0_0.below hb1
    have x1_1 := x1_0.below hb1
    have x2_1 := x2_0.below hb1
    have x3_1 := x3_0.below hb1
    clear x0_0 x1_0 x2_0 x3_0
    have x0_1c0 := x0_1.cell 0
    have x0_1c1 := x0_1.cell 1
    simp only [List.getElem?_toArray, List.getElem?_cons_zero, List.getElem?_cons_succ] at x0_1c0 x0_1c1
    have x0_1l := x0_1.lt
    have x1_1c0 := x1_1.cell 0
    have x1_1c1 := x1_1.cell 1
    simp only [List.getElem?_toArray, List.getElem?_cons_zero, List.getElem?_cons_succ] at x1_1c0 x1_1c1
    have x1_1l := x1_1.lt
    have x2_1c0 := x2_1.cell 0
    have x2_1c1 := x2_1.cell 1
    simp only [List.getElem?_toArray, List.getElem?_cons_zero, List.getElem?_cons_succ] at x2_1c0 x2_1c1
    have x2_1l := x2_1.lt
    have x3_1c0 := x3_1.cell 0
    have x3_1c1 := x3_1.cell 1
    simp only [List.getElem?_toArray, List.getElem?_cons_zero, List.getElem?_cons_succ] at x3_1c0 x3_1c1
    have x3_1l := x3_1.lt
    have B2 := B1.trans (hb1.mono B1.size)
    go_wp2_with fail
    refine (HF.out _).mono ?_; rintro e w2 ⟨rfl, hb2⟩
    clear x0_1c0 x0_1c1 x0_1l x1_1c0 x1_1c1 x1_1l x2_1c0 x2_1c1 x2_1l x3_1c0 x3_1c1 x3_1l
    have x0_2 := x0_1.below hb2
    have x1_2 := x1_1.below hb2
    have x2_2 := x2_1.below hb2
    have x3_2 := x3_1.below hb2
    clear x0_1 x1_1 x2_1 x3_1
    have x0_2c0 := x0_2.cell 0
    have x0_2c1 := x0_2.cell 1
    simp only [List.getElem?_toArray, List.getElem?_cons_zero, List.getElem?_cons_succ] at x0_2c0 x0_2c1
    have x0_2l := x0_2.lt
    have x1_2c0 := x1_2.cell 0
    have x1_2c1 := x1_2.cell 1
    simp only [List.getElem?_toArray, List.getElem?_cons_zero, List.getElem?_cons_succ] at x1_2c0 x1_2c1
    have x1_2l := x1_2.lt
    have x2_2c0 := x2_2.cell 0
    have x2_2c1 := x2_2.cell 1
    simp only [List.getElem?_toArray, List.getElem?_cons_zero, List.getElem?_cons_succ] at x2_2c0 x2_2c1
    have x2_2l := x2_2.lt
    have x3_2c0 := x3_2.cell 0
    have x3_2c1 := x3_2.cell 1
    simp only [List.getElem?_toArray, List.getElem?_cons_zero, List.getElem?_cons_succ] at x3_2c0 x3_2c1
    have x3_2l := x3_2.lt
    have B3 := B2.trans (hb2.mono B2.size)
    go_wp2_with fail
    refine (HF'.out _).mono ?_; rintro e w3 ⟨rfl, hb3⟩
    clear x0_2c0 x0_2c1 x0_2l x1_2c0 x1_2c1 x1_2l x2_2c0 x2_2c1 x2_2l x3_2c0 x3_2c1 x3_2l
    have x0_3 := x0_2.below hb3
    have x1_3 := x1_2.below hb3
    have x2_3 := x2_2.below hb3
    have x3_3 := x3_2.below hb3
    clear x0_2 x1_2 x2_2 x3_2
    have x0_3c0 := x0_3.cell 0
    have x0_3c1 := x0_3.cell 1
    simp only [List.getElem?_toArray, List.getElem?_cons_zero, List.getElem?_cons_succ] at x0_3c0 x0_3c1
    have x0_3l := x0_3.lt
    have x1_3c0 := x1_3.cell 0
    have x1_3c1 := x1_3.cell 1
    simp only [List.getElem?_toArray, List.getElem?_cons_zero, List.getElem?_cons_succ] at x1_3c0 x1_3c1
    have x1_3l := x1_3.lt
    have x2_3c0 := x2_3.cell 0
    have x2_3c1 := x2_3.cell 1
    simp only [List.getElem?_toArray, List.getElem?_cons_zero, List.getElem?_cons_succ] at x2_3c0 x2_3c1
    have x2_3l := x2_3.lt
    have x3_3c0 := x3_3.cell 0
    have x3_3c1 := x3_3.cell 1
    simp only [List.getElem?_toArray, List.getElem?_cons_zero, List.getElem?_cons_succ] at x3_3c0 x3_3c1
    have x3_3l := x3_3.lt
    go_wp2
    go_ret
    exact ⟨rfl, B3.trans (hb3.mono B3.size)⟩
  have c4 : ¬ x ≤ hi := fun c => hd ⟨hn, hn', c2, c3, c, by unfold RowKit.wrap64 at c1; omega⟩
  clear hd
  generalize hW : (((w.alloc (.cells #[.slice A n cap, .int .i64 err] 24)).alloc (.cells #[.slice A' n' cap', .int .i64 err'] 24)).alloc (.cells #[.int .i64 lo, .int .i64 hi] 26)).alloc (.cells #[.int .i64 lo2, .int .i64 hi2] 26) = W
  have B0 : Below w.heap.size w W := by rw [← hW]; exact (((((Below.refl w.heap.size w).alloc (Nat.le_refl _) _).alloc (by simp) _).alloc (by simp; omega) _).alloc (by simp; omega) _)
  have x0_0 : Blk W w.heap.size 24 #[.slice A n cap, .int .i64 err] := by rw [← hW]; exact ((((Blk.at_new _ _ rfl).alloc _).alloc _).alloc _)
  have x1_0 : Blk W (w.heap.size + 1) 24 #[.slice A' n' cap', .int .i64 err'] := by rw [← hW]; exact (((Blk.at_new _ _ (by simp)).alloc _).alloc _)
  have x2_0 : Blk W (w.heap.size + 2) 26 #[.int .i64 lo, .int .i64 hi] := by rw [← hW]; exact ((Blk.at_new _ _ (by simp)).alloc _)
  have x3_0 : Blk W (w.heap.size + 3) 26 #[.int .i64 lo2, .int .i64 hi2] := by rw [← hW]; exact (Blk.at_new _ _ (by simp))
  have HWE := Lib.hid hW
  clear hW
  go_enter Try.func11, Try.ntmps11
  have B1 := B0
  go_wp2_with fail
  rw [HWE.out]
  refine (HH.out _).mono ?_; rintro e w1 ⟨rfl, hb1⟩
  have x0_1 := x0_0.below hb1
  have x1_1 := x1_0.below hb1
  have x2_1 := x2_0.below hb1
  have x3_1 := x3_0.below hb1
  clear x0_0 x1_0 x2_0 x3_0
  have x0_1c0 := x0_1.cell 0
  have x0_1c1 := x0_1.cell 1
  simp only [List.getElem?_toArray, List.getElem?_cons_zero, List.getElem?_cons_succ] at x0_1c0 x0_1c1
  have x0_1l := x0_1.lt
  have x1_1c0 := x1_1.cell 0
  have x1_1c1 := x1_1.cell 1
  simp only [List.getElem?_toArray, List.getElem?_cons_zero, List.getElem?_cons_succ] at x1_1c0 x1_1c1
  have x1_1l := x1_1.lt
  have x2_1c0 := x2_1.cell 0
  have x2_1c1 := x2_1.cell 1
  simp only [List.getElem?_toArray, List.getElem?_cons_zero, List.getElem?_cons_succ] at x2_1c0 x2_1c1
  have x2_1l := x2_1.lt
  have x3_1c0 := x3_1.cell 0
  have x3_1c1 := x3_1.cell 1
  simp only [List.getElem?_toArray, List.getElem?_cons_zero, List.getElem?_cons_succ] at x3_1c0 x3_1c1
  have x3_1l := x3_1.lt
  have B2 := B1.trans (hb1.mono B1.size)
  go_wp2_with fail
  refine (HF.out _).mono ?_; rintro e w2 ⟨rfl, hb2⟩
  clear x0_1c0 x0_1c1 x0_1l x1_1c0 x1_1c1 x1_1l x2_1c0 x2_1c1 x2_1l x3_1c0 x3_1c1 x3_1l
  have x0_2 := x0_1.below hb2
  have x1_2 := x1_1.below hb2
  have x2_2 := x2_1.below hb2
  have x3_2 := x3_1.below hb2
  clear x0_1 x1_1 x2_1 x3_1
  have x0_2c0 := x0_2.cell 0
  have x0_2c1 := x0_2.cell 1
  simp only [List.getElem?_toArray, List.getElem?_cons_zero, List.getElem?_cons_succ] at x0_2c0 x0_2c1
  have x0_2l := x0_2.lt
  have x1_2c0 := x1_2.cell 0
  have x1_2c1 := x1_2.cell 1
  simp only [List.getElem?_toArray, List.getElem?_cons_zero, List.getElem?_cons_succ] at x1_2c0 x1_2c1
  have x1_2l := x1_2.lt
  have x2_2c0 := x2_2.cell 0
  have x2_2c1 := x2_2.cell 1
  simp only [List.getElem?_toArray, List.getElem?_cons_zero, List.getElem?_cons_succ] at x2_2c0 x2_2c1
  have x2_2l := x2_2.lt
  have x3_2c0 := x3_2.cell 0
  have x3_2c1 := x3_2.cell 1
  simp only [List.getElem?_toArray, List.getElem?_cons_zero, List.getElem?_cons_succ] at x3_2c0 x3_2c1
  have x3_2l := x3_2.lt
  have B3 := B2.trans (hb2.mono B2.size)
  go_wp2_with fail
  refine (HF'.out _).mono ?_; rintro e w3 ⟨rfl, hb3⟩
  clear x0_2c0 x0_2c1 x0_2l x1_2c0 x1_2c1 x1_2l x2_2c0 x2_2c1 x2_2l x3_2c0 x3_2c1 x3_2l
  have x0_3 := x0_2.below hb3
  have x1_3 := x1_2.below hb3
  have x2_3 := x2_2.below hb3
  have x3_3 := x3_2.below hb3
  clear x0_2 x1_2 x2_2 x3_2
  have x0_3c0 := x0_3.cell 0
  have x0_3c1 := x0_3.cell 1
  simp only [List.getElem?_toArray, List.getElem?_cons_zero, List.getElem?_cons_succ] at x0_3c0 x0_3c1
  have x0_3l := x0_3.lt
  have x1_3c0 := x1_3.cell 0
  have x1_3c1 := x1_3.cell 1
  simp only [List.getElem?_toArray, List.getElem?_cons_zero, List.getElem?_cons_succ] at x1_3c0 x1_3c1
  have x1_3l := x1_3.lt
  have x2_3c0 := x2_3.cell 0
  have x2_3c1 := x2_3.cell 1
  simp only [List.getElem?_toArray, List.getElem?_cons_zero, List.getElem?_cons_succ] at x2_3c0 x2_3c1
  have x2_3l := x2_3.lt
  have x3_3c0 := x3_3.cell 0
  have x3_3c1 := x3_3.cell 1
  simp only [List.getElem?_toArray, List.getElem?_cons_zero, List.getElem?_cons_succ] at x3_3c0 x3_3c1
  have x3_3l := x3_3.lt
  go_wp2
  go_ret
  exact ⟨rfl, B3.trans (hb3.mono B3.size)⟩

set_option maxRecDepth 100000 in
set_option maxHeartbeats 6400000 in
theorem curveBounds_main (A A' : Option Addr) (n cap n' cap' : Nat) (err err' : Int) (ks ks' : List (Int × Int)) (lo hi lo2 hi2 x : Int) (p1 p2 p3 p4 la ha oe vn vd q1 q2 q3 q4 q5 q6 e1 e2 e3 e4 da dh ae un ud ue dn dd : Int) (w : World) (h : CAt w A n ks) (hm : n ≤ 9223372036854775807) (h' : CAt w A' n' ks') (hm' : n' ≤ 9223372036854775807) (hlo : -9223372036854775808 ≤ lo ∧ lo ≤ 9223372036854775807) (_ : -9223372036854775808 ≤ hi ∧ hi ≤ 9223372036854775807) (hn : n ≤ 60) (hn' : n' ≤ 60) (c1 : 0 ≤ lo) (c2 : lo ≤ x) (c3 : x ≤ hi) (c4 : hi - lo ≤ 300)
    (K : BdOk A A' n cap n' cap' err err' ks ks' lo hi lo2 hi2 x p1 p2 p3 p4 la ha oe vn vd q1 q2 q3 q4 q5 q6 e1 e2 e3 e4 da dh ae un ud ue dn dd) :
    Calls Try.prog 11 #[vCv A n cap err, vCv A' n' cap' err', vSpan lo hi, vSpan lo2 hi2, .int .i64 x] w fun e w' => e = .returned (.bool true) ∧ Below w.heap.size w w' := by
  have HH := Lib.hid head_any
  have HAa := Lib.hid h
  have HAb := Lib.hid h'
  have HK := Lib.hid K
  have HO := Lib.hid K.HO
  have HAp := Lib.hid K.HA
  have HU := Lib.hid K.HU
  have HF := Lib.hid (fun W => calls_val (few_any A n cap err W hm) (v' := .bool true) (by rw [decide_eq_true hn]))
  have HF' := Lib.hid (fun W => calls_val (few_any A' n' cap' err' W hm') (v' := .bool true) (by rw [decide_eq_true hn']))
  clear h h' K
  generalize hW : (((w.alloc (.cells #[.slice A n cap, .int .i64 err] 24)).alloc (.cells #[.slice A' n' cap', .int .i64 err'] 24)).alloc (.cells #[.int .i64 lo, .int .i64 hi] 26)).alloc (.cells #[.int .i64 lo2, .int .i64 hi2] 26) = W
  have B0 : Below w.heap.size w W := by rw [← hW]; exact (((((Below.refl w.heap.size w).alloc (Nat.le_refl _) _).alloc (by simp) _).alloc (by simp; omega) _).alloc (by simp; omega) _)
  have x0_0 : Blk W w.heap.size 24 #[.slice A n cap, .int .i64 err] := by rw [← hW]; exact ((((Blk.at_new _ _ rfl).alloc _).alloc _).alloc _)
  have x1_0 : Blk W (w.heap.size + 1) 24 #[.slice A' n' cap', .int .i64 err'] := by rw [← hW]; exact (((Blk.at_new _ _ (by simp)).alloc _).alloc _)
  have x2_0 : Blk W (w.heap.size + 2) 26 #[.int .i64 lo, .int .i64 hi] := by rw [← hW]; exact ((Blk.at_new _ _ (by simp)).alloc _)
  have x3_0 : Blk W (w.heap.size + 3) 26 #[.int .i64 lo2, .int .i64 hi2] := by rw [← hW]; exact (Blk.at_new _ _ (by simp))
  have HWE := Lib.hid hW
  clear hW
  go_enter Try.func11, Try.ntmps11
  have B1 := B0
  go_wp2_with fail
  rw [HWE.out]
  refine (HH.out _).mono ?_; rintro e w1 ⟨rfl, hb1⟩
  have x0_1 := x0_0.below hb1
  have x1_1 := x1_0.below hb1
  have x2_1 := x2_0.below hb1
  have x3_1 := x3_0.below hb1
  clear x0_0 x1_0 x2_0 x3_0
  have x0_1c0 := x0_1.cell 0
  have x0_1c1 := x0_1.cell 1
  simp only [List.getElem?_toArray, List.getElem?_cons_zero, List.getElem?_cons_succ] at x0_1c0 x0_1c1
  have x0_1l := x0_1.lt
  have x1_1c0 := x1_1.cell 0
  have x1_1c1 := x1_1.cell 1
  simp only [List.getElem?_toArray, List.getElem?_cons_zero, List.getElem?_cons_succ] at x1_1c0 x1_1c1
  have x1_1l := x1_1.lt
  have x2_1c0 := x2_1.cell 0
  have x2_1c1 := x2_1.cell 1
  simp only [List.getElem?_toArray, List.getElem?_cons_zero, List.getElem?_cons_succ] at x2_1c0 x2_1c1
  have x2_1l := x2_1.lt
  have x3_1c0 := x3_1.cell 0
  have x3_1c1 := x3_1.cell 1
  simp only [List.getElem?_toArray, List.getElem?_cons_zero, List.getElem?_cons_succ] at x3_1c0 x3_1c1
  have x3_1l := x3_1.lt
  have B2 := B1.trans (hb1.mono B1.size)
  go_wp2_with fail
  refine (HF.out _).mono ?_; rintro e w2 ⟨rfl, hb2⟩
  clear x0_1c0 x0_1c1 x0_1l x1_1c0 x1_1c1 x1_1l x2_1c0 x2_1c1 x2_1l x3_1c0 x3_1c1 x3_1l
  have x0_2 := x0_1.below hb2
  have x1_2 := x1_1.below hb2
  have x2_2 := x2_1.below hb2
  have x3_2 := x3_1.below hb2
  clear x0_1 x1_1 x2_1 x3_1
  have x0_2c0 := x0_2.cell 0
  have x0_2c1 := x0_2.cell 1
  simp only [List.getElem?_toArray, List.getElem?_cons_zero, List.getElem?_cons_succ] at x0_2c0 x0_2c1
  have x0_2l := x0_2.lt
  have x1_2c0 := x1_2.cell 0
  have x1_2c1 := x1_2.cell 1
  simp only [List.getElem?_toArray, List.getElem?_cons_zero, List.getElem?_cons_succ] at x1_2c0 x1_2c1
  have x1_2l := x1_2.lt
  have x2_2c0 := x2_2.cell 0
  have x2_2c1 := x2_2.cell 1
  simp only [List.getElem?_toArray, List.getElem?_cons_zero, List.getElem?_cons_succ] at x2_2c0 x2_2c1
  have x2_2l := x2_2.lt
  have x3_2c0 := x3_2.cell 0
  have x3_2c1 := x3_2.cell 1
  simp only [List.getElem?_toArray, List.getElem?_cons_zero, List.getElem?_cons_succ] at x3_2c0 x3_2c1
  have x3_2l := x3_2.lt
  have B3 := B2.trans (hb2.mono B2.size)
  go_wp2_with fail
  refine (HF'.out _).mono ?_; rintro e w3 ⟨rfl, hb3⟩
  clear x0_2c0 x0_2c1 x0_2l x1_2c0 x1_2c1 x1_2l x2_2c0 x2_2c1 x2_2l x3_2c0 x3_2c1 x3_2l
  have x0_3 := x0_2.below hb3
  have x1_3 := x1_2.below hb3
  have x2_3 := x2_2.below hb3
  have x3_3 := x3_2.below hb3
  clear x0_2 x1_2 x2_2 x3_2
  have x0_3c0 := x0_3.cell 0
  have x0_3c1 := x0_3.cell 1
  simp only [List.getElem?_toArray, List.getElem?_cons_zero, List.getElem?_cons_succ] at x0_3c0 x0_3c1
  have x0_3l := x0_3.lt
  have x1_3c0 := x1_3.cell 0
  have x1_3c1 := x1_3.cell 1
  simp only [List.getElem?_toArray, List.getElem?_cons_zero, List.getElem?_cons_succ] at x1_3c0 x1_3c1
  have x1_3l := x1_3.lt
  have x2_3c0 := x2_3.cell 0
  have x2_3c1 := x2_3.cell 1
  simp only [List.getElem?_toArray, List.getElem?_cons_zero, List.getElem?_cons_succ] at x2_3c0 x2_3c1
  have x2_3l := x2_3.lt
  have x3_3c0 := x3_3.cell 0
  have x3_3c1 := x3_3.cell 1
  simp only [List.getElem?_toArray, List.getElem?_cons_zero, List.getElem?_cons_succ] at x3_3c0 x3_3c1
  have x3_3l := x3_3.lt
  have B4 := B3.trans (hb3.mono B3.size)
  go_wp2_with fail
  refine (HO.out _ (HAa.out.below B4)).mono ?_; rintro e w4 ⟨rfl, hb4⟩
  clear x0_3c0 x0_3c1 x0_3l x1_3c0 x1_3c1 x1_3l x2_3c0 x2_3c1 x2_3l x3_3c0 x3_3c1 x3_3l
  have x0_4 := x0_3.below hb4
  have x1_4 := x1_3.below hb4
  have x2_4 := x2_3.below hb4
  have x3_4 := x3_3.below hb4
  clear x0_3 x1_3 x2_3 x3_3
  have x0_4c0 := x0_4.cell 0
  have x0_4c1 := x0_4.cell 1
  simp only [List.getElem?_toArray, List.getElem?_cons_zero, List.getElem?_cons_succ] at x0_4c0 x0_4c1
  have x0_4l := x0_4.lt
  have x1_4c0 := x1_4.cell 0
  have x1_4c1 := x1_4.cell 1
  simp only [List.getElem?_toArray, List.getElem?_cons_zero, List.getElem?_cons_succ] at x1_4c0 x1_4c1
  have x1_4l := x1_4.lt
  have x2_4c0 := x2_4.cell 0
  have x2_4c1 := x2_4.cell 1
  simp only [List.getElem?_toArray, List.getElem?_cons_zero, List.getElem?_cons_succ] at x2_4c0 x2_4c1
  have x2_4l := x2_4.lt
  have x3_4c0 := x3_4.cell 0
  have x3_4c1 := x3_4.cell 1
  simp only [List.getElem?_toArray, List.getElem?_cons_zero, List.getElem?_cons_succ] at x3_4c0 x3_4c1
  have x3_4l := x3_4.lt
  have B5 := B4.trans (hb4.mono B4.size)
  have B5a := B5.alloc B5.size (.cells #[.int .i64 p1, .int .i64 p2, .int .i64 p3, .int .i64 p4, .int .i64 la, .int .i64 ha] 40)
  clear x0_4c0 x0_4c1 x0_4l x1_4c0 x1_4c1 x1_4l x2_4c0 x2_4c1 x2_4l x3_4c0 x3_4c1 x3_4l
  have x0_5 := (x0_4.alloc (.cells #[.int .i64 p1, .int .i64 p2, .int .i64 p3, .int .i64 p4, .int .i64 la, .int .i64 ha] 40))
  have x1_5 := (x1_4.alloc (.cells #[.int .i64 p1, .int .i64 p2, .int .i64 p3, .int .i64 p4, .int .i64 la, .int .i64 ha] 40))
  have x2_5 := (x2_4.alloc (.cells #[.int .i64 p1, .int .i64 p2, .int .i64 p3, .int .i64 p4, .int .i64 la, .int .i64 ha] 40))
  have x3_5 := (x3_4.alloc (.cells #[.int .i64 p1, .int .i64 p2, .int .i64 p3, .int .i64 p4, .int .i64 la, .int .i64 ha] 40))
  clear x0_4 x1_4 x2_4 x3_4
  have p_5 := (Blk.new w4 40 #[.int .i64 p1, .int .i64 p2, .int .i64 p3, .int .i64 p4, .int .i64 la, .int .i64 ha])
  go_upto_region 5 with fail
  generalize hV5 : w4.alloc (.cells #[.int .i64 p1, .int .i64 p2, .int .i64 p3, .int .i64 p4, .int .i64 la, .int .i64 ha] 40) = V5 at *
  generalize hg5 : w4.heap.size = g5 at *
  clear hV5 hg5
  have x0_5c0 := x0_5.cell 0
  have x0_5c1 := x0_5.cell 1
  simp only [List.getElem?_toArray, List.getElem?_cons_zero, List.getElem?_cons_succ] at x0_5c0 x0_5c1
  have x0_5l := x0_5.lt
  have x1_5c0 := x1_5.cell 0
  have x1_5c1 := x1_5.cell 1
  simp only [List.getElem?_toArray, List.getElem?_cons_zero, List.getElem?_cons_succ] at x1_5c0 x1_5c1
  have x1_5l := x1_5.lt
  have x2_5c0 := x2_5.cell 0
  have x2_5c1 := x2_5.cell 1
  simp only [List.getElem?_toArray, List.getElem?_cons_zero, List.getElem?_cons_succ] at x2_5c0 x2_5c1
  have x2_5l := x2_5.lt
  have x3_5c0 := x3_5.cell 0
  have x3_5c1 := x3_5.cell 1
  simp only [List.getElem?_toArray, List.getElem?_cons_zero, List.getElem?_cons_succ] at x3_5c0 x3_5c1
  have x3_5l := x3_5.lt
  have p_5c0 := p_5.cell 0
  have p_5c1 := p_5.cell 1
  have p_5c2 := p_5.cell 2
  have p_5c3 := p_5.cell 3
  have p_5c4 := p_5.cell 4
  have p_5c5 := p_5.cell 5
  simp only [List.getElem?_toArray, List.getElem?_cons_zero, List.getElem?_cons_succ] at p_5c0 p_5c1 p_5c2 p_5c3 p_5c4 p_5c5
  have p_5l := p_5.lt
  by_cases hoe : oe = 0
  case neg =>
    have ho1 : (oe != 0) = true := by simpa using hoe
    go_wp2
    go_ret
    exact ⟨rfl, B5a⟩
  have HV := Lib.hid (HK.out.HV hoe)
  have HVl := Lib.hid (HK.out.HVl hoe)
  have HVh := Lib.hid (HK.out.HVh hoe)
  have HL1 := Lib.hid (HK.out.HL1 hoe)
  have HL2 := Lib.hid (HK.out.HL2 hoe)
  have HC := Lib.hid (HK.out.HC hoe)
  obtain ⟨b1, b2⟩ := HK.out.B1 hoe
  have HK2 := Lib.hid (fun a b c => (⟨HK.out.HO2 hoe a b c, HK.out.HL3 hoe a b c, HK.out.HL4 hoe a b c⟩ : _ ∧ _ ∧ _))
  have HKw := Lib.hid (HK.out.HW hoe)
  have HK5 := Lib.hid (HK.out.HL5 hoe)
  have HK6 := Lib.hid (HK.out.HL6 hoe)
  have HKB := Lib.hid (HK.out.B2 hoe)
  subst hoe
  have B6 := B5a
  go_wp2_with fail
  refine (HV.out _ (HAa.out.below B6)).mono ?_; rintro e w6 ⟨rfl, hb6⟩
  clear x0_5c0 x0_5c1 x0_5l x1_5c0 x1_5c1 x1_5l x2_5c0 x2_5c1 x2_5l x3_5c0 x3_5c1 x3_5l p_5c0 p_5c1 p_5c2 p_5c3 p_5c4 p_5c5 p_5l
  have x0_6 := x0_5.below hb6
  have x1_6 := x1_5.below hb6
  have x2_6 := x2_5.below hb6
  have x3_6 := x3_5.below hb6
  have p_6 := p_5.below hb6
  clear x0_5 x1_5 x2_5 x3_5 p_5
  have x0_6c0 := x0_6.cell 0
  have x0_6c1 := x0_6.cell 1
  simp only [List.getElem?_toArray, List.getElem?_cons_zero, List.getElem?_cons_succ] at x0_6c0 x0_6c1
  have x0_6l := x0_6.lt
  have x1_6c0 := x1_6.cell 0
  have x1_6c1 := x1_6.cell 1
  simp only [List.getElem?_toArray, List.getElem?_cons_zero, List.getElem?_cons_succ] at x1_6c0 x1_6c1
  have x1_6l := x1_6.lt
  have x2_6c0 := x2_6.cell 0
  have x2_6c1 := x2_6.cell 1
  simp only [List.getElem?_toArray, List.getElem?_cons_zero, List.getElem?_cons_succ] at x2_6c0 x2_6c1
  have x2_6l := x2_6.lt
  have x3_6c0 := x3_6.cell 0
  have x3_6c1 := x3_6.cell 1
  simp only [List.getElem?_toArray, List.getElem?_cons_zero, List.getElem?_cons_succ] at x3_6c0 x3_6c1
  have x3_6l := x3_6.lt
  have p_6c0 := p_6.cell 0
  have p_6c1 := p_6.cell 1
  have p_6c2 := p_6.cell 2
  have p_6c3 := p_6.cell 3
  have p_6c4 := p_6.cell 4
  have p_6c5 := p_6.cell 5
  simp only [List.getElem?_toArray, List.getElem?_cons_zero, List.getElem?_cons_succ] at p_6c0 p_6c1 p_6c2 p_6c3 p_6c4 p_6c5
  have p_6l := p_6.lt
  have B7 := B6.trans (hb6.mono B6.size)
  have B7a := B7.alloc B7.size (.cells #[.int .i64 vn, .int .i64 vd] 30)
  go_wp2_with fail
  refine (HVl.out _ (HAa.out.below B7a)).mono ?_; rintro e w7 ⟨rfl, hb7⟩
  clear x0_6c0 x0_6c1 x0_6l x1_6c0 x1_6c1 x1_6l x2_6c0 x2_6c1 x2_6l x3_6c0 x3_6c1 x3_6l p_6c0 p_6c1 p_6c2 p_6c3 p_6c4 p_6c5 p_6l
  have x0_7 := (x0_6.alloc (.cells #[.int .i64 vn, .int .i64 vd] 30)).below hb7
  have x1_7 := (x1_6.alloc (.cells #[.int .i64 vn, .int .i64 vd] 30)).below hb7
  have x2_7 := (x2_6.alloc (.cells #[.int .i64 vn, .int .i64 vd] 30)).below hb7
  have x3_7 := (x3_6.alloc (.cells #[.int .i64 vn, .int .i64 vd] 30)).below hb7
  have p_7 := (p_6.alloc (.cells #[.int .i64 vn, .int .i64 vd] 30)).below hb7
  clear x0_6 x1_6 x2_6 x3_6 p_6
  have v_7 := (Blk.new w6 30 #[.int .i64 vn, .int .i64 vd]).below hb7
  have x0_7c0 := x0_7.cell 0
  have x0_7c1 := x0_7.cell 1
  simp only [List.getElem?_toArray, List.getElem?_cons_zero, List.getElem?_cons_succ] at x0_7c0 x0_7c1
  have x0_7l := x0_7.lt
  have x1_7c0 := x1_7.cell 0
  have x1_7c1 := x1_7.cell 1
  simp only [List.getElem?_toArray, List.getElem?_cons_zero, List.getElem?_cons_succ] at x1_7c0 x1_7c1
  have x1_7l := x1_7.lt
  have x2_7c0 := x2_7.cell 0
  have x2_7c1 := x2_7.cell 1
  simp only [List.getElem?_toArray, List.getElem?_cons_zero, List.getElem?_cons_succ] at x2_7c0 x2_7c1
  have x2_7l := x2_7.lt
  have x3_7c0 := x3_7.cell 0
  have x3_7c1 := x3_7.cell 1
  simp only [List.getElem?_toArray, List.getElem?_cons_zero, List.getElem?_cons_succ] at x3_7c0 x3_7c1
  have x3_7l := x3_7.lt
  have p_7c0 := p_7.cell 0
  have p_7c1 := p_7.cell 1
  have p_7c2 := p_7.cell 2
  have p_7c3 := p_7.cell 3
  have p_7c4 := p_7.cell 4
  have p_7c5 := p_7.cell 5
  simp only [List.getElem?_toArray, List.getElem?_cons_zero, List.getElem?_cons_succ] at p_7c0 p_7c1 p_7c2 p_7c3 p_7c4 p_7c5
  have p_7l := p_7.lt
  have v_7c0 := v_7.cell 0
  have v_7c1 := v_7.cell 1
  simp only [List.getElem?_toArray, List.getElem?_cons_zero, List.getElem?_cons_succ] at v_7c0 v_7c1
  have v_7l := v_7.lt
  have B8 := B7a.trans (hb7.mono B7a.size)
  have B8a := B8.alloc B8.size (.cells #[.int .i64 p1, .int .i64 p2] 30)
  go_wp2_with fail
  refine (HVh.out _ (HAa.out.below B8a)).mono ?_; rintro e w8 ⟨rfl, hb8⟩
  clear x0_7c0 x0_7c1 x0_7l x1_7c0 x1_7c1 x1_7l x2_7c0 x2_7c1 x2_7l x3_7c0 x3_7c1 x3_7l p_7c0 p_7c1 p_7c2 p_7c3 p_7c4 p_7c5 p_7l v_7c0 v_7c1 v_7l
  have x0_8 := (x0_7.alloc (.cells #[.int .i64 p1, .int .i64 p2] 30)).below hb8
  have x1_8 := (x1_7.alloc (.cells #[.int .i64 p1, .int .i64 p2] 30)).below hb8
  have x2_8 := (x2_7.alloc (.cells #[.int .i64 p1, .int .i64 p2] 30)).below hb8
  have x3_8 := (x3_7.alloc (.cells #[.int .i64 p1, .int .i64 p2] 30)).below hb8
  have p_8 := (p_7.alloc (.cells #[.int .i64 p1, .int .i64 p2] 30)).below hb8
  have v_8 := (v_7.alloc (.cells #[.int .i64 p1, .int .i64 p2] 30)).below hb8
  clear x0_7 x1_7 x2_7 x3_7 p_7 v_7
  have l_8 := (Blk.new w7 30 #[.int .i64 p1, .int .i64 p2]).below hb8
  have x0_8c0 := x0_8.cell 0
  have x0_8c1 := x0_8.cell 1
  simp only [List.getElem?_toArray, List.getElem?_cons_zero, List.getElem?_cons_succ] at x0_8c0 x0_8c1
  have x0_8l := x0_8.lt
  have x1_8c0 := x1_8.cell 0
  have x1_8c1 := x1_8.cell 1
  simp only [List.getElem?_toArray, List.getElem?_cons_zero, List.getElem?_cons_succ] at x1_8c0 x1_8c1
  have x1_8l := x1_8.lt
  have x2_8c0 := x2_8.cell 0
  have x2_8c1 := x2_8.cell 1
  simp only [List.getElem?_toArray, List.getElem?_cons_zero, List.getElem?_cons_succ] at x2_8c0 x2_8c1
  have x2_8l := x2_8.lt
  have x3_8c0 := x3_8.cell 0
  have x3_8c1 := x3_8.cell 1
  simp only [List.getElem?_toArray, List.getElem?_cons_zero, List.getElem?_cons_succ] at x3_8c0 x3_8c1
  have x3_8l := x3_8.lt
  have p_8c0 := p_8.cell 0
  have p_8c1 := p_8.cell 1
  have p_8c2 := p_8.cell 2
  have p_8c3 := p_8.cell 3
  have p_8c4 := p_8.cell 4
  have p_8c5 := p_8.cell 5
  simp only [List.getElem?_toArray, List.getElem?_cons_zero, List.getElem?_cons_succ] at p_8c0 p_8c1 p_8c2 p_8c3 p_8c4 p_8c5
  have p_8l := p_8.lt
  have v_8c0 := v_8.cell 0
  have v_8c1 := v_8.cell 1
  simp only [List.getElem?_toArray, List.getElem?_cons_zero, List.getElem?_cons_succ] at v_8c0 v_8c1
  have v_8l := v_8.lt
  have l_8c0 := l_8.cell 0
  have l_8c1 := l_8.cell 1
  simp only [List.getElem?_toArray, List.getElem?_cons_zero, List.getElem?_cons_succ] at l_8c0 l_8c1
  have l_8l := l_8.lt
  have B9 := B8a.trans (hb8.mono B8a.size)
  have B9a := B9.alloc B9.size (.cells #[.int .i64 p3, .int .i64 p4] 30)
  go_wp2_with fail
  refine (HL1.out _).mono ?_; rintro e w9 ⟨rfl, hb9⟩
  clear x0_8c0 x0_8c1 x0_8l x1_8c0 x1_8c1 x1_8l x2_8c0 x2_8c1 x2_8l x3_8c0 x3_8c1 x3_8l p_8c0 p_8c1 p_8c2 p_8c3 p_8c4 p_8c5 p_8l v_8c0 v_8c1 v_8l l_8c0 l_8c1 l_8l
  have x0_9 := (x0_8.alloc (.cells #[.int .i64 p3, .int .i64 p4] 30)).below hb9
  have x1_9 := (x1_8.alloc (.cells #[.int .i64 p3, .int .i64 p4] 30)).below hb9
  have x2_9 := (x2_8.alloc (.cells #[.int .i64 p3, .int .i64 p4] 30)).below hb9
  have x3_9 := (x3_8.alloc (.cells #[.int .i64 p3, .int .i64 p4] 30)).below hb9
  have p_9 := (p_8.alloc (.cells #[.int .i64 p3, .int .i64 p4] 30)).below hb9
  have v_9 := (v_8.alloc (.cells #[.int .i64 p3, .int .i64 p4] 30)).below hb9
  have l_9 := (l_8.alloc (.cells #[.int .i64 p3, .int .i64 p4] 30)).below hb9
  clear x0_8 x1_8 x2_8 x3_8 p_8 v_8 l_8
  have u_9 := (Blk.new w8 30 #[.int .i64 p3, .int .i64 p4]).below hb9
  have x0_9c0 := x0_9.cell 0
  have x0_9c1 := x0_9.cell 1
  simp only [List.getElem?_toArray, List.getElem?_cons_zero, List.getElem?_cons_succ] at x0_9c0 x0_9c1
  have x0_9l := x0_9.lt
  have x1_9c0 := x1_9.cell 0
  have x1_9c1 := x1_9.cell 1
  simp only [List.getElem?_toArray, List.getElem?_cons_zero, List.getElem?_cons_succ] at x1_9c0 x1_9c1
  have x1_9l := x1_9.lt
  have x2_9c0 := x2_9.cell 0
  have x2_9c1 := x2_9.cell 1
  simp only [List.getElem?_toArray, List.getElem?_cons_zero, List.getElem?_cons_succ] at x2_9c0 x2_9c1
  have x2_9l := x2_9.lt
  have x3_9c0 := x3_9.cell 0
  have x3_9c1 := x3_9.cell 1
  simp only [List.getElem?_toArray, List.getElem?_cons_zero, List.getElem?_cons_succ] at x3_9c0 x3_9c1
  have x3_9l := x3_9.lt
  have p_9c0 := p_9.cell 0
  have p_9c1 := p_9.cell 1
  have p_9c2 := p_9.cell 2
  have p_9c3 := p_9.cell 3
  have p_9c4 := p_9.cell 4
  have p_9c5 := p_9.cell 5
  simp only [List.getElem?_toArray, List.getElem?_cons_zero, List.getElem?_cons_succ] at p_9c0 p_9c1 p_9c2 p_9c3 p_9c4 p_9c5
  have p_9l := p_9.lt
  have v_9c0 := v_9.cell 0
  have v_9c1 := v_9.cell 1
  simp only [List.getElem?_toArray, List.getElem?_cons_zero, List.getElem?_cons_succ] at v_9c0 v_9c1
  have v_9l := v_9.lt
  have l_9c0 := l_9.cell 0
  have l_9c1 := l_9.cell 1
  simp only [List.getElem?_toArray, List.getElem?_cons_zero, List.getElem?_cons_succ] at l_9c0 l_9c1
  have l_9l := l_9.lt
  have u_9c0 := u_9.cell 0
  have u_9c1 := u_9.cell 1
  simp only [List.getElem?_toArray, List.getElem?_cons_zero, List.getElem?_cons_succ] at u_9c0 u_9c1
  have u_9l := u_9.lt
  have B10 := B9a.trans (hb9.mono B9a.size)
  go_wp2_with fail
  refine (HL2.out _).mono ?_; rintro e w10 ⟨rfl, hb10⟩
  clear x0_9c0 x0_9c1 x0_9l x1_9c0 x1_9c1 x1_9l x2_9c0 x2_9c1 x2_9l x3_9c0 x3_9c1 x3_9l p_9c0 p_9c1 p_9c2 p_9c3 p_9c4 p_9c5 p_9l v_9c0 v_9c1 v_9l l_9c0 l_9c1 l_9l u_9c0 u_9c1 u_9l
  have x0_10 := x0_9.below hb10
  have x1_10 := x1_9.below hb10
  have x2_10 := x2_9.below hb10
  have x3_10 := x3_9.below hb10
  have p_10 := p_9.below hb10
  have v_10 := v_9.below hb10
  have l_10 := l_9.below hb10
  have u_10 := u_9.below hb10
  clear x0_9 x1_9 x2_9 x3_9 p_9 v_9 l_9 u_9
  have x0_10c0 := x0_10.cell 0
  have x0_10c1 := x0_10.cell 1
  simp only [List.getElem?_toArray, List.getElem?_cons_zero, List.getElem?_cons_succ] at x0_10c0 x0_10c1
  have x0_10l := x0_10.lt
  have x1_10c0 := x1_10.cell 0
  have x1_10c1 := x1_10.cell 1
  simp only [List.getElem?_toArray, List.getElem?_cons_zero, List.getElem?_cons_succ] at x1_10c0 x1_10c1
  have x1_10l := x1_10.lt
  have x2_10c0 := x2_10.cell 0
  have x2_10c1 := x2_10.cell 1
  simp only [List.getElem?_toArray, List.getElem?_cons_zero, List.getElem?_cons_succ] at x2_10c0 x2_10c1
  have x2_10l := x2_10.lt
  have x3_10c0 := x3_10.cell 0
  have x3_10c1 := x3_10.cell 1
  simp only [List.getElem?_toArray, List.getElem?_cons_zero, List.getElem?_cons_succ] at x3_10c0 x3_10c1
  have x3_10l := x3_10.lt
  have p_10c0 := p_10.cell 0
  have p_10c1 := p_10.cell 1
  have p_10c2 := p_10.cell 2
  have p_10c3 := p_10.cell 3
  have p_10c4 := p_10.cell 4
  have p_10c5 := p_10.cell 5
  simp only [List.getElem?_toArray, List.getElem?_cons_zero, List.getElem?_cons_succ] at p_10c0 p_10c1 p_10c2 p_10c3 p_10c4 p_10c5
  have p_10l := p_10.lt
  have v_10c0 := v_10.cell 0
  have v_10c1 := v_10.cell 1
  simp only [List.getElem?_toArray, List.getElem?_cons_zero, List.getElem?_cons_succ] at v_10c0 v_10c1
  have v_10l := v_10.lt
  have l_10c0 := l_10.cell 0
  have l_10c1 := l_10.cell 1
  simp only [List.getElem?_toArray, List.getElem?_cons_zero, List.getElem?_cons_succ] at l_10c0 l_10c1
  have l_10l := l_10.lt
  have u_10c0 := u_10.cell 0
  have u_10c1 := u_10.cell 1
  simp only [List.getElem?_toArray, List.getElem?_cons_zero, List.getElem?_cons_succ] at u_10c0 u_10c1
  have u_10l := u_10.lt
  have B11 := B10.trans (hb10.mono B10.size)
  go_wp2_with fail
  refine (HC.out _ (HAa.out.below B11)).mono ?_; rintro e w11 ⟨rfl, hb11⟩
  clear x0_10c0 x0_10c1 x0_10l x1_10c0 x1_10c1 x1_10l x2_10c0 x2_10c1 x2_10l x3_10c0 x3_10c1 x3_10l p_10c0 p_10c1 p_10c2 p_10c3 p_10c4 p_10c5 p_10l v_10c0 v_10c1 v_10l l_10c0 l_10c1 l_10l u_10c0 u_10c1 u_10l
  have x0_11 := x0_10.below hb11
  have x1_11 := x1_10.below hb11
  have x2_11 := x2_10.below hb11
  have x3_11 := x3_10.below hb11
  have p_11 := p_10.below hb11
  have v_11 := v_10.below hb11
  have l_11 := l_10.below hb11
  have u_11 := u_10.below hb11
  clear x0_10 x1_10 x2_10 x3_10 p_10 v_10 l_10 u_10
  have x0_11c0 := x0_11.cell 0
  have x0_11c1 := x0_11.cell 1
  simp only [List.getElem?_toArray, List.getElem?_cons_zero, List.getElem?_cons_succ] at x0_11c0 x0_11c1
  have x0_11l := x0_11.lt
  have x1_11c0 := x1_11.cell 0
  have x1_11c1 := x1_11.cell 1
  simp only [List.getElem?_toArray, List.getElem?_cons_zero, List.getElem?_cons_succ] at x1_11c0 x1_11c1
  have x1_11l := x1_11.lt
  have x2_11c0 := x2_11.cell 0
  have x2_11c1 := x2_11.cell 1
  simp only [List.getElem?_toArray, List.getElem?_cons_zero, List.getElem?_cons_succ] at x2_11c0 x2_11c1
  have x2_11l := x2_11.lt
  have x3_11c0 := x3_11.cell 0
  have x3_11c1 := x3_11.cell 1
  simp only [List.getElem?_toArray, List.getElem?_cons_zero, List.getElem?_cons_succ] at x3_11c0 x3_11c1
  have x3_11l := x3_11.lt
  have p_11c0 := p_11.cell 0
  have p_11c1 := p_11.cell 1
  have p_11c2 := p_11.cell 2
  have p_11c3 := p_11.cell 3
  have p_11c4 := p_11.cell 4
  have p_11c5 := p_11.cell 5
  simp only [List.getElem?_toArray, List.getElem?_cons_zero, List.getElem?_cons_succ] at p_11c0 p_11c1 p_11c2 p_11c3 p_11c4 p_11c5
  have p_11l := p_11.lt
  have v_11c0 := v_11.cell 0
  have v_11c1 := v_11.cell 1
  simp only [List.getElem?_toArray, List.getElem?_cons_zero, List.getElem?_cons_succ] at v_11c0 v_11c1
  have v_11l := v_11.lt
  have l_11c0 := l_11.cell 0
  have l_11c1 := l_11.cell 1
  simp only [List.getElem?_toArray, List.getElem?_cons_zero, List.getElem?_cons_succ] at l_11c0 l_11c1
  have l_11l := l_11.lt
  have u_11c0 := u_11.cell 0
  have u_11c1 := u_11.cell 1
  simp only [List.getElem?_toArray, List.getElem?_cons_zero, List.getElem?_cons_succ] at u_11c0 u_11c1
  have u_11l := u_11.lt
  go_upto_region 12 with fail
  go_cut [165] (fun s wx => ∃ bb : Bool, s = .bool bb ∧ (bb = true → lo ≤ lo2 ∧ hi2 ≤ hi ∧ lo2 ≤ hi2) ∧ wx = w11)
  case first =>
    by_cases d1 : lo ≤ lo2
    case neg =>
      go_wp2
      go_meet
      exact ⟨false, by simp, by simp, rfl⟩
    by_cases d2 : hi2 ≤ hi
    case neg =>
      go_wp2
      go_meet
      exact ⟨false, by simp, by simp, rfl⟩
    by_cases d3 : lo2 ≤ hi2
    case neg =>
      go_wp2
      go_meet
      exact ⟨false, by simp, by simp, rfl⟩
    go_wp2
    go_meet
    exact ⟨true, by simp, by simp [d1, d2, d3], rfl⟩
  case rest =>
    obtain ⟨bb, hs165, hbb, hwc⟩ := hcut
    have HBB := Lib.hid hbb
    clear hbb
    subst hs165 hwc
    go_upto_if 165 with fail
    go_cut [] (fun wx => Below w.heap.size w wx ∧ Blk wx w.heap.size 24 #[.slice A n cap, .int .i64 err] ∧ Blk wx (w.heap.size + 1) 24 #[.slice A' n' cap', .int .i64 err'] ∧ Blk wx (w.heap.size + 2) 26 #[.int .i64 lo, .int .i64 hi] ∧ Blk wx (w.heap.size + 3) 26 #[.int .i64 lo2, .int .i64 hi2] ∧ Blk wx g5 40 #[.int .i64 p1, .int .i64 p2, .int .i64 p3, .int .i64 p4, .int .i64 la, .int .i64 ha] ∧ Blk wx w6.heap.size 30 #[.int .i64 vn, .int .i64 vd] ∧ Blk wx w7.heap.size 30 #[.int .i64 p1, .int .i64 p2] ∧ Blk wx w8.heap.size 30 #[.int .i64 p3, .int .i64 p4])
    case first =>
      cases bb
      case false =>
        go_wp2
        go_meet
        exact ⟨(B11.trans (hb11.mono B11.size)), x0_11, x1_11, x2_11, x3_11, p_11, v_11, l_11, u_11⟩
      have hd := HBB.out rfl
      obtain ⟨ho2, hl3, hl4⟩ := HK2.out hd.1 hd.2.1 hd.2.2
      have HO2 := Lib.hid ho2
      have HL3 := Lib.hid hl3
      have HL4 := Lib.hid hl4
      clear ho2 hl3 hl4 hd
      have B12 := B11.trans (hb11.mono B11.size)
      go_wp2_with fail
      refine (HO2.out _ (HAa.out.below B12)).mono ?_; rintro e w12 ⟨rfl, hb12⟩
      clear x0_11c0 x0_11c1 x0_11l x1_11c0 x1_11c1 x1_11l x2_11c0 x2_11c1 x2_11l x3_11c0 x3_11c1 x3_11l p_11c0 p_11c1 p_11c2 p_11c3 p_11c4 p_11c5 p_11l v_11c0 v_11c1 v_11l l_11c0 l_11c1 l_11l u_11c0 u_11c1 u_11l
      have x0_12 := x0_11.below hb12
      have x1_12 := x1_11.below hb12
      have x2_12 := x2_11.below hb12
      have x3_12 := x3_11.below hb12
      have p_12 := p_11.below hb12
      have v_12 := v_11.below hb12
      have l_12 := l_11.below hb12
      have u_12 := u_11.below hb12
      clear x0_11 x1_11 x2_11 x3_11 p_11 v_11 l_11 u_11
      have x0_12c0 := x0_12.cell 0
      have x0_12c1 := x0_12.cell 1
      simp only [List.getElem?_toArray, List.getElem?_cons_zero, List.getElem?_cons_succ] at x0_12c0 x0_12c1
      have x0_12l := x0_12.lt
      have x1_12c0 := x1_12.cell 0
      have x1_12c1 := x1_12.cell 1
      simp only [List.getElem?_toArray, List.getElem?_cons_zero, List.getElem?_cons_succ] at x1_12c0 x1_12c1
      have x1_12l := x1_12.lt
      have x2_12c0 := x2_12.cell 0
      have x2_12c1 := x2_12.cell 1
      simp only [List.getElem?_toArray, List.getElem?_cons_zero, List.getElem?_cons_succ] at x2_12c0 x2_12c1
      have x2_12l := x2_12.lt
      have x3_12c0 := x3_12.cell 0
      have x3_12c1 := x3_12.cell 1
      simp only [List.getElem?_toArray, List.getElem?_cons_zero, List.getElem?_cons_succ] at x3_12c0 x3_12c1
      have x3_12l := x3_12.lt
      have p_12c0 := p_12.cell 0
      have p_12c1 := p_12.cell 1
      have p_12c2 := p_12.cell 2
      have p_12c3 := p_12.cell 3
      have p_12c4 := p_12.cell 4
      have p_12c5 := p_12.cell 5
      simp only [List.getElem?_toArray, List.getElem?_cons_zero, List.getElem?_cons_succ] at p_12c0 p_12c1 p_12c2 p_12c3 p_12c4 p_12c5
      have p_12l := p_12.lt
      have v_12c0 := v_12.cell 0
      have v_12c1 := v_12.cell 1
      simp only [List.getElem?_toArray, List.getElem?_cons_zero, List.getElem?_cons_succ] at v_12c0 v_12c1
      have v_12l := v_12.lt
      have l_12c0 := l_12.cell 0
      have l_12c1 := l_12.cell 1
      simp only [List.getElem?_toArray, List.getElem?_cons_zero, List.getElem?_cons_succ] at l_12c0 l_12c1
      have l_12l := l_12.lt
      have u_12c0 := u_12.cell 0
      have u_12c1 := u_12.cell 1
      simp only [List.getElem?_toArray, List.getElem?_cons_zero, List.getElem?_cons_succ] at u_12c0 u_12c1
      have u_12l := u_12.lt
      have B13 := B12.trans (hb12.mono B12.size)
      have B13a := B13.alloc B13.size (.cells #[.int .i64 q1, .int .i64 q2, .int .i64 q3, .int .i64 q4, .int .i64 q5, .int .i64 q6] 40)
      go_wp2_with fail
      refine (HL3.out _).mono ?_; rintro e w13 ⟨rfl, hb13⟩
      clear x0_12c0 x0_12c1 x0_12l x1_12c0 x1_12c1 x1_12l x2_12c0 x2_12c1 x2_12l x3_12c0 x3_12c1 x3_12l p_12c0 p_12c1 p_12c2 p_12c3 p_12c4 p_12c5 p_12l v_12c0 v_12c1 v_12l l_12c0 l_12c1 l_12l u_12c0 u_12c1 u_12l
      have x0_13 := (x0_12.alloc (.cells #[.int .i64 q1, .int .i64 q2, .int .i64 q3, .int .i64 q4, .int .i64 q5, .int .i64 q6] 40)).below hb13
      have x1_13 := (x1_12.alloc (.cells #[.int .i64 q1, .int .i64 q2, .int .i64 q3, .int .i64 q4, .int .i64 q5, .int .i64 q6] 40)).below hb13
      have x2_13 := (x2_12.alloc (.cells #[.int .i64 q1, .int .i64 q2, .int .i64 q3, .int .i64 q4, .int .i64 q5, .int .i64 q6] 40)).below hb13
      have x3_13 := (x3_12.alloc (.cells #[.int .i64 q1, .int .i64 q2, .int .i64 q3, .int .i64 q4, .int .i64 q5, .int .i64 q6] 40)).below hb13
      have p_13 := (p_12.alloc (.cells #[.int .i64 q1, .int .i64 q2, .int .i64 q3, .int .i64 q4, .int .i64 q5, .int .i64 q6] 40)).below hb13
      have v_13 := (v_12.alloc (.cells #[.int .i64 q1, .int .i64 q2, .int .i64 q3, .int .i64 q4, .int .i64 q5, .int .i64 q6] 40)).below hb13
      have l_13 := (l_12.alloc (.cells #[.int .i64 q1, .int .i64 q2, .int .i64 q3, .int .i64 q4, .int .i64 q5, .int .i64 q6] 40)).below hb13
      have u_13 := (u_12.alloc (.cells #[.int .i64 q1, .int .i64 q2, .int .i64 q3, .int .i64 q4, .int .i64 q5, .int .i64 q6] 40)).below hb13
      clear x0_12 x1_12 x2_12 x3_12 p_12 v_12 l_12 u_12
      have q_13 := (Blk.new w12 40 #[.int .i64 q1, .int .i64 q2, .int .i64 q3, .int .i64 q4, .int .i64 q5, .int .i64 q6]).below hb13
      have x0_13c0 := x0_13.cell 0
      have x0_13c1 := x0_13.cell 1
      simp only [List.getElem?_toArray, List.getElem?_cons_zero, List.getElem?_cons_succ] at x0_13c0 x0_13c1
      have x0_13l := x0_13.lt
      have x1_13c0 := x1_13.cell 0
      have x1_13c1 := x1_13.cell 1
      simp only [List.getElem?_toArray, List.getElem?_cons_zero, List.getElem?_cons_succ] at x1_13c0 x1_13c1
      have x1_13l := x1_13.lt
      have x2_13c0 := x2_13.cell 0
      have x2_13c1 := x2_13.cell 1
      simp only [List.getElem?_toArray, List.getElem?_cons_zero, List.getElem?_cons_succ] at x2_13c0 x2_13c1
      have x2_13l := x2_13.lt
      have x3_13c0 := x3_13.cell 0
      have x3_13c1 := x3_13.cell 1
      simp only [List.getElem?_toArray, List.getElem?_cons_zero, List.getElem?_cons_succ] at x3_13c0 x3_13c1
      have x3_13l := x3_13.lt
      have p_13c0 := p_13.cell 0
      have p_13c1 := p_13.cell 1
      have p_13c2 := p_13.cell 2
      have p_13c3 := p_13.cell 3
      have p_13c4 := p_13.cell 4
      have p_13c5 := p_13.cell 5
      simp only [List.getElem?_toArray, List.getElem?_cons_zero, List.getElem?_cons_succ] at p_13c0 p_13c1 p_13c2 p_13c3 p_13c4 p_13c5
      have p_13l := p_13.lt
      have v_13c0 := v_13.cell 0
      have v_13c1 := v_13.cell 1
      simp only [List.getElem?_toArray, List.getElem?_cons_zero, List.getElem?_cons_succ] at v_13c0 v_13c1
      have v_13l := v_13.lt
      have l_13c0 := l_13.cell 0
      have l_13c1 := l_13.cell 1
      simp only [List.getElem?_toArray, List.getElem?_cons_zero, List.getElem?_cons_succ] at l_13c0 l_13c1
      have l_13l := l_13.lt
      have u_13c0 := u_13.cell 0
      have u_13c1 := u_13.cell 1
      simp only [List.getElem?_toArray, List.getElem?_cons_zero, List.getElem?_cons_succ] at u_13c0 u_13c1
      have u_13l := u_13.lt
      have q_13c0 := q_13.cell 0
      have q_13c1 := q_13.cell 1
      have q_13c2 := q_13.cell 2
      have q_13c3 := q_13.cell 3
      have q_13c4 := q_13.cell 4
      have q_13c5 := q_13.cell 5
      simp only [List.getElem?_toArray, List.getElem?_cons_zero, List.getElem?_cons_succ] at q_13c0 q_13c1 q_13c2 q_13c3 q_13c4 q_13c5
      have q_13l := q_13.lt
      have B14 := B13a.trans (hb13.mono B13a.size)
      go_wp2_with fail
      refine (HL4.out _).mono ?_; rintro e w14 ⟨rfl, hb14⟩
      clear x0_13c0 x0_13c1 x0_13l x1_13c0 x1_13c1 x1_13l x2_13c0 x2_13c1 x2_13l x3_13c0 x3_13c1 x3_13l p_13c0 p_13c1 p_13c2 p_13c3 p_13c4 p_13c5 p_13l v_13c0 v_13c1 v_13l l_13c0 l_13c1 l_13l u_13c0 u_13c1 u_13l q_13c0 q_13c1 q_13c2 q_13c3 q_13c4 q_13c5 q_13l
      have x0_14 := x0_13.below hb14
      have x1_14 := x1_13.below hb14
      have x2_14 := x2_13.below hb14
      have x3_14 := x3_13.below hb14
      have p_14 := p_13.below hb14
      have v_14 := v_13.below hb14
      have l_14 := l_13.below hb14
      have u_14 := u_13.below hb14
      have q_14 := q_13.below hb14
      clear x0_13 x1_13 x2_13 x3_13 p_13 v_13 l_13 u_13 q_13
      have x0_14c0 := x0_14.cell 0
      have x0_14c1 := x0_14.cell 1
      simp only [List.getElem?_toArray, List.getElem?_cons_zero, List.getElem?_cons_succ] at x0_14c0 x0_14c1
      have x0_14l := x0_14.lt
      have x1_14c0 := x1_14.cell 0
      have x1_14c1 := x1_14.cell 1
      simp only [List.getElem?_toArray, List.getElem?_cons_zero, List.getElem?_cons_succ] at x1_14c0 x1_14c1
      have x1_14l := x1_14.lt
      have x2_14c0 := x2_14.cell 0
      have x2_14c1 := x2_14.cell 1
      simp only [List.getElem?_toArray, List.getElem?_cons_zero, List.getElem?_cons_succ] at x2_14c0 x2_14c1
      have x2_14l := x2_14.lt
      have x3_14c0 := x3_14.cell 0
      have x3_14c1 := x3_14.cell 1
      simp only [List.getElem?_toArray, List.getElem?_cons_zero, List.getElem?_cons_succ] at x3_14c0 x3_14c1
      have x3_14l := x3_14.lt
      have p_14c0 := p_14.cell 0
      have p_14c1 := p_14.cell 1
      have p_14c2 := p_14.cell 2
      have p_14c3 := p_14.cell 3
      have p_14c4 := p_14.cell 4
      have p_14c5 := p_14.cell 5
      simp only [List.getElem?_toArray, List.getElem?_cons_zero, List.getElem?_cons_succ] at p_14c0 p_14c1 p_14c2 p_14c3 p_14c4 p_14c5
      have p_14l := p_14.lt
      have v_14c0 := v_14.cell 0
      have v_14c1 := v_14.cell 1
      simp only [List.getElem?_toArray, List.getElem?_cons_zero, List.getElem?_cons_succ] at v_14c0 v_14c1
      have v_14l := v_14.lt
      have l_14c0 := l_14.cell 0
      have l_14c1 := l_14.cell 1
      simp only [List.getElem?_toArray, List.getElem?_cons_zero, List.getElem?_cons_succ] at l_14c0 l_14c1
      have l_14l := l_14.lt
      have u_14c0 := u_14.cell 0
      have u_14c1 := u_14.cell 1
      simp only [List.getElem?_toArray, List.getElem?_cons_zero, List.getElem?_cons_succ] at u_14c0 u_14c1
      have u_14l := u_14.lt
      have q_14c0 := q_14.cell 0
      have q_14c1 := q_14.cell 1
      have q_14c2 := q_14.cell 2
      have q_14c3 := q_14.cell 3
      have q_14c4 := q_14.cell 4
      have q_14c5 := q_14.cell 5
      simp only [List.getElem?_toArray, List.getElem?_cons_zero, List.getElem?_cons_succ] at q_14c0 q_14c1 q_14c2 q_14c3 q_14c4 q_14c5
      have q_14l := q_14.lt
      go_wp2
      go_meet
      exact ⟨(B14.trans (hb14.mono B14.size)), x0_14, x1_14, x2_14, x3_14, p_14, v_14, l_14, u_14⟩
    case rest =>
      have hcut12 := hcut
      clear hcut
      obtain ⟨Bc12, x0_12, x1_12, x2_12, x3_12, p_12, v_12, l_12, u_12⟩ := hcut12
      have x0_12c0 := x0_12.cell 0
      have x0_12c1 := x0_12.cell 1
      simp only [List.getElem?_toArray, List.getElem?_cons_zero, List.getElem?_cons_succ] at x0_12c0 x0_12c1
      have x0_12l := x0_12.lt
      have x1_12c0 := x1_12.cell 0
      have x1_12c1 := x1_12.cell 1
      simp only [List.getElem?_toArray, List.getElem?_cons_zero, List.getElem?_cons_succ] at x1_12c0 x1_12c1
      have x1_12l := x1_12.lt
      have x2_12c0 := x2_12.cell 0
      have x2_12c1 := x2_12.cell 1
      simp only [List.getElem?_toArray, List.getElem?_cons_zero, List.getElem?_cons_succ] at x2_12c0 x2_12c1
      have x2_12l := x2_12.lt
      have x3_12c0 := x3_12.cell 0
      have x3_12c1 := x3_12.cell 1
      simp only [List.getElem?_toArray, List.getElem?_cons_zero, List.getElem?_cons_succ] at x3_12c0 x3_12c1
      have x3_12l := x3_12.lt
      have p_12c0 := p_12.cell 0
      have p_12c1 := p_12.cell 1
      have p_12c2 := p_12.cell 2
      have p_12c3 := p_12.cell 3
      have p_12c4 := p_12.cell 4
      have p_12c5 := p_12.cell 5
      simp only [List.getElem?_toArray, List.getElem?_cons_zero, List.getElem?_cons_succ] at p_12c0 p_12c1 p_12c2 p_12c3 p_12c4 p_12c5
      have p_12l := p_12.lt
      have v_12c0 := v_12.cell 0
      have v_12c1 := v_12.cell 1
      simp only [List.getElem?_toArray, List.getElem?_cons_zero, List.getElem?_cons_succ] at v_12c0 v_12c1
      have v_12l := v_12.lt
      have l_12c0 := l_12.cell 0
      have l_12c1 := l_12.cell 1
      simp only [List.getElem?_toArray, List.getElem?_cons_zero, List.getElem?_cons_succ] at l_12c0 l_12c1
      have l_12l := l_12.lt
      have u_12c0 := u_12.cell 0
      have u_12c1 := u_12.cell 1
      simp only [List.getElem?_toArray, List.getElem?_cons_zero, List.getElem?_cons_succ] at u_12c0 u_12c1
      have u_12l := u_12.lt
      have B13 := Bc12
      go_wp2_with fail
      refine (HAp.out _ (HAa.out.below B13) (HAb.out.below B13)).mono ?_; rintro e w13 ⟨rfl, hb13⟩
      clear x0_12c0 x0_12c1 x0_12l x1_12c0 x1_12c1 x1_12l x2_12c0 x2_12c1 x2_12l x3_12c0 x3_12c1 x3_12l p_12c0 p_12c1 p_12c2 p_12c3 p_12c4 p_12c5 p_12l v_12c0 v_12c1 v_12l l_12c0 l_12c1 l_12l u_12c0 u_12c1 u_12l
      have x0_13 := x0_12.below hb13
      have x1_13 := x1_12.below hb13
      have x2_13 := x2_12.below hb13
      have x3_13 := x3_12.below hb13
      have p_13 := p_12.below hb13
      have v_13 := v_12.below hb13
      have l_13 := l_12.below hb13
      have u_13 := u_12.below hb13
      clear x0_12 x1_12 x2_12 x3_12 p_12 v_12 l_12 u_12
      have x0_13c0 := x0_13.cell 0
      have x0_13c1 := x0_13.cell 1
      simp only [List.getElem?_toArray, List.getElem?_cons_zero, List.getElem?_cons_succ] at x0_13c0 x0_13c1
      have x0_13l := x0_13.lt
      have x1_13c0 := x1_13.cell 0
      have x1_13c1 := x1_13.cell 1
      simp only [List.getElem?_toArray, List.getElem?_cons_zero, List.getElem?_cons_succ] at x1_13c0 x1_13c1
      have x1_13l := x1_13.lt
      have x2_13c0 := x2_13.cell 0
      have x2_13c1 := x2_13.cell 1
      simp only [List.getElem?_toArray, List.getElem?_cons_zero, List.getElem?_cons_succ] at x2_13c0 x2_13c1
      have x2_13l := x2_13.lt
      have x3_13c0 := x3_13.cell 0
      have x3_13c1 := x3_13.cell 1
      simp only [List.getElem?_toArray, List.getElem?_cons_zero, List.getElem?_cons_succ] at x3_13c0 x3_13c1
      have x3_13l := x3_13.lt
      have p_13c0 := p_13.cell 0
      have p_13c1 := p_13.cell 1
      have p_13c2 := p_13.cell 2
      have p_13c3 := p_13.cell 3
      have p_13c4 := p_13.cell 4
      have p_13c5 := p_13.cell 5
      simp only [List.getElem?_toArray, List.getElem?_cons_zero, List.getElem?_cons_succ] at p_13c0 p_13c1 p_13c2 p_13c3 p_13c4 p_13c5
      have p_13l := p_13.lt
      have v_13c0 := v_13.cell 0
      have v_13c1 := v_13.cell 1
      simp only [List.getElem?_toArray, List.getElem?_cons_zero, List.getElem?_cons_succ] at v_13c0 v_13c1
      have v_13l := v_13.lt
      have l_13c0 := l_13.cell 0
      have l_13c1 := l_13.cell 1
      simp only [List.getElem?_toArray, List.getElem?_cons_zero, List.getElem?_cons_succ] at l_13c0 l_13c1
      have l_13l := l_13.lt
      have u_13c0 := u_13.cell 0
      have u_13c1 := u_13.cell 1
      simp only [List.getElem?_toArray, List.getElem?_cons_zero, List.getElem?_cons_succ] at u_13c0 u_13c1
      have u_13l := u_13.lt
      have B14 := B13.trans (hb13.mono B13.size)
      have B14a := B14.alloc B14.size (.cells #[.int .i64 e1, .int .i64 e2, .int .i64 e3, .int .i64 e4, .int .i64 da, .int .i64 dh] 40)
      go_wp2_with fail
      refine (HU.out _ (HAb.out.below B14a)).mono ?_; rintro e w14 ⟨rfl, hb14⟩
      clear x0_13c0 x0_13c1 x0_13l x1_13c0 x1_13c1 x1_13l x2_13c0 x2_13c1 x2_13l x3_13c0 x3_13c1 x3_13l p_13c0 p_13c1 p_13c2 p_13c3 p_13c4 p_13c5 p_13l v_13c0 v_13c1 v_13l l_13c0 l_13c1 l_13l u_13c0 u_13c1 u_13l
      have x0_14 := (x0_13.alloc (.cells #[.int .i64 e1, .int .i64 e2, .int .i64 e3, .int .i64 e4, .int .i64 da, .int .i64 dh] 40)).below hb14
      have x1_14 := (x1_13.alloc (.cells #[.int .i64 e1, .int .i64 e2, .int .i64 e3, .int .i64 e4, .int .i64 da, .int .i64 dh] 40)).below hb14
      have x2_14 := (x2_13.alloc (.cells #[.int .i64 e1, .int .i64 e2, .int .i64 e3, .int .i64 e4, .int .i64 da, .int .i64 dh] 40)).below hb14
      have x3_14 := (x3_13.alloc (.cells #[.int .i64 e1, .int .i64 e2, .int .i64 e3, .int .i64 e4, .int .i64 da, .int .i64 dh] 40)).below hb14
      have p_14 := (p_13.alloc (.cells #[.int .i64 e1, .int .i64 e2, .int .i64 e3, .int .i64 e4, .int .i64 da, .int .i64 dh] 40)).below hb14
      have v_14 := (v_13.alloc (.cells #[.int .i64 e1, .int .i64 e2, .int .i64 e3, .int .i64 e4, .int .i64 da, .int .i64 dh] 40)).below hb14
      have l_14 := (l_13.alloc (.cells #[.int .i64 e1, .int .i64 e2, .int .i64 e3, .int .i64 e4, .int .i64 da, .int .i64 dh] 40)).below hb14
      have u_14 := (u_13.alloc (.cells #[.int .i64 e1, .int .i64 e2, .int .i64 e3, .int .i64 e4, .int .i64 da, .int .i64 dh] 40)).below hb14
      clear x0_13 x1_13 x2_13 x3_13 p_13 v_13 l_13 u_13
      have d_14 := (Blk.new w13 40 #[.int .i64 e1, .int .i64 e2, .int .i64 e3, .int .i64 e4, .int .i64 da, .int .i64 dh]).below hb14
      have x0_14c0 := x0_14.cell 0
      have x0_14c1 := x0_14.cell 1
      simp only [List.getElem?_toArray, List.getElem?_cons_zero, List.getElem?_cons_succ] at x0_14c0 x0_14c1
      have x0_14l := x0_14.lt
      have x1_14c0 := x1_14.cell 0
      have x1_14c1 := x1_14.cell 1
      simp only [List.getElem?_toArray, List.getElem?_cons_zero, List.getElem?_cons_succ] at x1_14c0 x1_14c1
      have x1_14l := x1_14.lt
      have x2_14c0 := x2_14.cell 0
      have x2_14c1 := x2_14.cell 1
      simp only [List.getElem?_toArray, List.getElem?_cons_zero, List.getElem?_cons_succ] at x2_14c0 x2_14c1
      have x2_14l := x2_14.lt
      have x3_14c0 := x3_14.cell 0
      have x3_14c1 := x3_14.cell 1
      simp only [List.getElem?_toArray, List.getElem?_cons_zero, List.getElem?_cons_succ] at x3_14c0 x3_14c1
      have x3_14l := x3_14.lt
      have p_14c0 := p_14.cell 0
      have p_14c1 := p_14.cell 1
      have p_14c2 := p_14.cell 2
      have p_14c3 := p_14.cell 3
      have p_14c4 := p_14.cell 4
      have p_14c5 := p_14.cell 5
      simp only [List.getElem?_toArray, List.getElem?_cons_zero, List.getElem?_cons_succ] at p_14c0 p_14c1 p_14c2 p_14c3 p_14c4 p_14c5
      have p_14l := p_14.lt
      have v_14c0 := v_14.cell 0
      have v_14c1 := v_14.cell 1
      simp only [List.getElem?_toArray, List.getElem?_cons_zero, List.getElem?_cons_succ] at v_14c0 v_14c1
      have v_14l := v_14.lt
      have l_14c0 := l_14.cell 0
      have l_14c1 := l_14.cell 1
      simp only [List.getElem?_toArray, List.getElem?_cons_zero, List.getElem?_cons_succ] at l_14c0 l_14c1
      have l_14l := l_14.lt
      have u_14c0 := u_14.cell 0
      have u_14c1 := u_14.cell 1
      simp only [List.getElem?_toArray, List.getElem?_cons_zero, List.getElem?_cons_succ] at u_14c0 u_14c1
      have u_14l := u_14.lt
      have d_14c0 := d_14.cell 0
      have d_14c1 := d_14.cell 1
      have d_14c2 := d_14.cell 2
      have d_14c3 := d_14.cell 3
      have d_14c4 := d_14.cell 4
      have d_14c5 := d_14.cell 5
      simp only [List.getElem?_toArray, List.getElem?_cons_zero, List.getElem?_cons_succ] at d_14c0 d_14c1 d_14c2 d_14c3 d_14c4 d_14c5
      have d_14l := d_14.lt
      have B15 := B14a.trans (hb14.mono B14a.size)
      have B15a := B15.alloc B15.size (.cells #[.int .i64 un, .int .i64 ud] 30)
      clear x0_14c0 x0_14c1 x0_14l x1_14c0 x1_14c1 x1_14l x2_14c0 x2_14c1 x2_14l x3_14c0 x3_14c1 x3_14l p_14c0 p_14c1 p_14c2 p_14c3 p_14c4 p_14c5 p_14l v_14c0 v_14c1 v_14l l_14c0 l_14c1 l_14l u_14c0 u_14c1 u_14l d_14c0 d_14c1 d_14c2 d_14c3 d_14c4 d_14c5 d_14l
      have x0_15 := (x0_14.alloc (.cells #[.int .i64 un, .int .i64 ud] 30))
      have x1_15 := (x1_14.alloc (.cells #[.int .i64 un, .int .i64 ud] 30))
      have x2_15 := (x2_14.alloc (.cells #[.int .i64 un, .int .i64 ud] 30))
      have x3_15 := (x3_14.alloc (.cells #[.int .i64 un, .int .i64 ud] 30))
      have p_15 := (p_14.alloc (.cells #[.int .i64 un, .int .i64 ud] 30))
      have v_15 := (v_14.alloc (.cells #[.int .i64 un, .int .i64 ud] 30))
      have l_15 := (l_14.alloc (.cells #[.int .i64 un, .int .i64 ud] 30))
      have u_15 := (u_14.alloc (.cells #[.int .i64 un, .int .i64 ud] 30))
      have d_15 := (d_14.alloc (.cells #[.int .i64 un, .int .i64 ud] 30))
      clear x0_14 x1_14 x2_14 x3_14 p_14 v_14 l_14 u_14 d_14
      have uu_15 := (Blk.new w14 30 #[.int .i64 un, .int .i64 ud])
      go_upto_region 18 with fail
      generalize hV15 : w14.alloc (.cells #[.int .i64 un, .int .i64 ud] 30) = V15 at *
      generalize hg15 : w14.heap.size = g15 at *
      clear hV15 hg15
      have x0_15c0 := x0_15.cell 0
      have x0_15c1 := x0_15.cell 1
      simp only [List.getElem?_toArray, List.getElem?_cons_zero, List.getElem?_cons_succ] at x0_15c0 x0_15c1
      have x0_15l := x0_15.lt
      have x1_15c0 := x1_15.cell 0
      have x1_15c1 := x1_15.cell 1
      simp only [List.getElem?_toArray, List.getElem?_cons_zero, List.getElem?_cons_succ] at x1_15c0 x1_15c1
      have x1_15l := x1_15.lt
      have x2_15c0 := x2_15.cell 0
      have x2_15c1 := x2_15.cell 1
      simp only [List.getElem?_toArray, List.getElem?_cons_zero, List.getElem?_cons_succ] at x2_15c0 x2_15c1
      have x2_15l := x2_15.lt
      have x3_15c0 := x3_15.cell 0
      have x3_15c1 := x3_15.cell 1
      simp only [List.getElem?_toArray, List.getElem?_cons_zero, List.getElem?_cons_succ] at x3_15c0 x3_15c1
      have x3_15l := x3_15.lt
      have p_15c0 := p_15.cell 0
      have p_15c1 := p_15.cell 1
      have p_15c2 := p_15.cell 2
      have p_15c3 := p_15.cell 3
      have p_15c4 := p_15.cell 4
      have p_15c5 := p_15.cell 5
      simp only [List.getElem?_toArray, List.getElem?_cons_zero, List.getElem?_cons_succ] at p_15c0 p_15c1 p_15c2 p_15c3 p_15c4 p_15c5
      have p_15l := p_15.lt
      have v_15c0 := v_15.cell 0
      have v_15c1 := v_15.cell 1
      simp only [List.getElem?_toArray, List.getElem?_cons_zero, List.getElem?_cons_succ] at v_15c0 v_15c1
      have v_15l := v_15.lt
      have l_15c0 := l_15.cell 0
      have l_15c1 := l_15.cell 1
      simp only [List.getElem?_toArray, List.getElem?_cons_zero, List.getElem?_cons_succ] at l_15c0 l_15c1
      have l_15l := l_15.lt
      have u_15c0 := u_15.cell 0
      have u_15c1 := u_15.cell 1
      simp only [List.getElem?_toArray, List.getElem?_cons_zero, List.getElem?_cons_succ] at u_15c0 u_15c1
      have u_15l := u_15.lt
      have d_15c0 := d_15.cell 0
      have d_15c1 := d_15.cell 1
      have d_15c2 := d_15.cell 2
      have d_15c3 := d_15.cell 3
      have d_15c4 := d_15.cell 4
      have d_15c5 := d_15.cell 5
      simp only [List.getElem?_toArray, List.getElem?_cons_zero, List.getElem?_cons_succ] at d_15c0 d_15c1 d_15c2 d_15c3 d_15c4 d_15c5
      have d_15l := d_15.lt
      have uu_15c0 := uu_15.cell 0
      have uu_15c1 := uu_15.cell 1
      simp only [List.getElem?_toArray, List.getElem?_cons_zero, List.getElem?_cons_succ] at uu_15c0 uu_15c1
      have uu_15l := uu_15.lt
      by_cases hae : ae = 0
      case neg =>
        have ho1 : (ae != 0) = true := by simpa using hae
        go_wp2
        go_ret
        exact ⟨rfl, B15a⟩
      obtain rfl := HK.out.U0 hae
      have HW := Lib.hid (HKw.out hae)
      have HL5 := Lib.hid (HK5.out hae)
      have HL6 := Lib.hid (HK6.out hae)
      have HD1 := Lib.hid (HK.out.HD1 hae)
      have HD2 := Lib.hid (HK.out.HD2 hae)
      obtain ⟨m1, m2, m3, m4, m5, m6⟩ := HKB.out hae
      subst hae
      have B16 := B15a
      go_wp2_with fail
      refine (HW.out _).mono ?_; rintro e w16 ⟨rfl, hb16⟩
      clear x0_15c0 x0_15c1 x0_15l x1_15c0 x1_15c1 x1_15l x2_15c0 x2_15c1 x2_15l x3_15c0 x3_15c1 x3_15l p_15c0 p_15c1 p_15c2 p_15c3 p_15c4 p_15c5 p_15l v_15c0 v_15c1 v_15l l_15c0 l_15c1 l_15l u_15c0 u_15c1 u_15l d_15c0 d_15c1 d_15c2 d_15c3 d_15c4 d_15c5 d_15l uu_15c0 uu_15c1 uu_15l
      have x0_16 := x0_15.below hb16
      have x1_16 := x1_15.below hb16
      have x2_16 := x2_15.below hb16
      have x3_16 := x3_15.below hb16
      have p_16 := p_15.below hb16
      have v_16 := v_15.below hb16
      have l_16 := l_15.below hb16
      have u_16 := u_15.below hb16
      have d_16 := d_15.below hb16
      have uu_16 := uu_15.below hb16
      clear x0_15 x1_15 x2_15 x3_15 p_15 v_15 l_15 u_15 d_15 uu_15
      have x0_16c0 := x0_16.cell 0
      have x0_16c1 := x0_16.cell 1
      simp only [List.getElem?_toArray, List.getElem?_cons_zero, List.getElem?_cons_succ] at x0_16c0 x0_16c1
      have x0_16l := x0_16.lt
      have x1_16c0 := x1_16.cell 0
      have x1_16c1 := x1_16.cell 1
      simp only [List.getElem?_toArray, List.getElem?_cons_zero, List.getElem?_cons_succ] at x1_16c0 x1_16c1
      have x1_16l := x1_16.lt
      have x2_16c0 := x2_16.cell 0
      have x2_16c1 := x2_16.cell 1
      simp only [List.getElem?_toArray, List.getElem?_cons_zero, List.getElem?_cons_succ] at x2_16c0 x2_16c1
      have x2_16l := x2_16.lt
      have x3_16c0 := x3_16.cell 0
      have x3_16c1 := x3_16.cell 1
      simp only [List.getElem?_toArray, List.getElem?_cons_zero, List.getElem?_cons_succ] at x3_16c0 x3_16c1
      have x3_16l := x3_16.lt
      have p_16c0 := p_16.cell 0
      have p_16c1 := p_16.cell 1
      have p_16c2 := p_16.cell 2
      have p_16c3 := p_16.cell 3
      have p_16c4 := p_16.cell 4
      have p_16c5 := p_16.cell 5
      simp only [List.getElem?_toArray, List.getElem?_cons_zero, List.getElem?_cons_succ] at p_16c0 p_16c1 p_16c2 p_16c3 p_16c4 p_16c5
      have p_16l := p_16.lt
      have v_16c0 := v_16.cell 0
      have v_16c1 := v_16.cell 1
      simp only [List.getElem?_toArray, List.getElem?_cons_zero, List.getElem?_cons_succ] at v_16c0 v_16c1
      have v_16l := v_16.lt
      have l_16c0 := l_16.cell 0
      have l_16c1 := l_16.cell 1
      simp only [List.getElem?_toArray, List.getElem?_cons_zero, List.getElem?_cons_succ] at l_16c0 l_16c1
      have l_16l := l_16.lt
      have u_16c0 := u_16.cell 0
      have u_16c1 := u_16.cell 1
      simp only [List.getElem?_toArray, List.getElem?_cons_zero, List.getElem?_cons_succ] at u_16c0 u_16c1
      have u_16l := u_16.lt
      have d_16c0 := d_16.cell 0
      have d_16c1 := d_16.cell 1
      have d_16c2 := d_16.cell 2
      have d_16c3 := d_16.cell 3
      have d_16c4 := d_16.cell 4
      have d_16c5 := d_16.cell 5
      simp only [List.getElem?_toArray, List.getElem?_cons_zero, List.getElem?_cons_succ] at d_16c0 d_16c1 d_16c2 d_16c3 d_16c4 d_16c5
      have d_16l := d_16.lt
      have uu_16c0 := uu_16.cell 0
      have uu_16c1 := uu_16.cell 1
      simp only [List.getElem?_toArray, List.getElem?_cons_zero, List.getElem?_cons_succ] at uu_16c0 uu_16c1
      have uu_16l := uu_16.lt
      have B17 := B16.trans (hb16.mono B16.size)
      have B17a := B17.alloc B17.size (.cells #[.int .i64 dn, .int .i64 dd] 30)
      clear x0_16c0 x0_16c1 x0_16l x1_16c0 x1_16c1 x1_16l x2_16c0 x2_16c1 x2_16l x3_16c0 x3_16c1 x3_16l p_16c0 p_16c1 p_16c2 p_16c3 p_16c4 p_16c5 p_16l v_16c0 v_16c1 v_16l l_16c0 l_16c1 l_16l u_16c0 u_16c1 u_16l d_16c0 d_16c1 d_16c2 d_16c3 d_16c4 d_16c5 d_16l uu_16c0 uu_16c1 uu_16l
      have x0_17 := (x0_16.alloc (.cells #[.int .i64 dn, .int .i64 dd] 30))
      have x1_17 := (x1_16.alloc (.cells #[.int .i64 dn, .int .i64 dd] 30))
      have x2_17 := (x2_16.alloc (.cells #[.int .i64 dn, .int .i64 dd] 30))
      have x3_17 := (x3_16.alloc (.cells #[.int .i64 dn, .int .i64 dd] 30))
      have p_17 := (p_16.alloc (.cells #[.int .i64 dn, .int .i64 dd] 30))
      have v_17 := (v_16.alloc (.cells #[.int .i64 dn, .int .i64 dd] 30))
      have l_17 := (l_16.alloc (.cells #[.int .i64 dn, .int .i64 dd] 30))
      have u_17 := (u_16.alloc (.cells #[.int .i64 dn, .int .i64 dd] 30))
      have d_17 := (d_16.alloc (.cells #[.int .i64 dn, .int .i64 dd] 30))
      have uu_17 := (uu_16.alloc (.cells #[.int .i64 dn, .int .i64 dd] 30))
      clear x0_16 x1_16 x2_16 x3_16 p_16 v_16 l_16 u_16 d_16 uu_16
      have df_17 := (Blk.new w16 30 #[.int .i64 dn, .int .i64 dd])
      go_upto_region 21 with fail
      generalize hV17 : w16.alloc (.cells #[.int .i64 dn, .int .i64 dd] 30) = V17 at *
      generalize hg17 : w16.heap.size = g17 at *
      clear hV17 hg17
      have x0_17c0 := x0_17.cell 0
      have x0_17c1 := x0_17.cell 1
      simp only [List.getElem?_toArray, List.getElem?_cons_zero, List.getElem?_cons_succ] at x0_17c0 x0_17c1
      have x0_17l := x0_17.lt
      have x1_17c0 := x1_17.cell 0
      have x1_17c1 := x1_17.cell 1
      simp only [List.getElem?_toArray, List.getElem?_cons_zero, List.getElem?_cons_succ] at x1_17c0 x1_17c1
      have x1_17l := x1_17.lt
      have x2_17c0 := x2_17.cell 0
      have x2_17c1 := x2_17.cell 1
      simp only [List.getElem?_toArray, List.getElem?_cons_zero, List.getElem?_cons_succ] at x2_17c0 x2_17c1
      have x2_17l := x2_17.lt
      have x3_17c0 := x3_17.cell 0
      have x3_17c1 := x3_17.cell 1
      simp only [List.getElem?_toArray, List.getElem?_cons_zero, List.getElem?_cons_succ] at x3_17c0 x3_17c1
      have x3_17l := x3_17.lt
      have p_17c0 := p_17.cell 0
      have p_17c1 := p_17.cell 1
      have p_17c2 := p_17.cell 2
      have p_17c3 := p_17.cell 3
      have p_17c4 := p_17.cell 4
      have p_17c5 := p_17.cell 5
      simp only [List.getElem?_toArray, List.getElem?_cons_zero, List.getElem?_cons_succ] at p_17c0 p_17c1 p_17c2 p_17c3 p_17c4 p_17c5
      have p_17l := p_17.lt
      have v_17c0 := v_17.cell 0
      have v_17c1 := v_17.cell 1
      simp only [List.getElem?_toArray, List.getElem?_cons_zero, List.getElem?_cons_succ] at v_17c0 v_17c1
      have v_17l := v_17.lt
      have l_17c0 := l_17.cell 0
      have l_17c1 := l_17.cell 1
      simp only [List.getElem?_toArray, List.getElem?_cons_zero, List.getElem?_cons_succ] at l_17c0 l_17c1
      have l_17l := l_17.lt
      have u_17c0 := u_17.cell 0
      have u_17c1 := u_17.cell 1
      simp only [List.getElem?_toArray, List.getElem?_cons_zero, List.getElem?_cons_succ] at u_17c0 u_17c1
      have u_17l := u_17.lt
      have d_17c0 := d_17.cell 0
      have d_17c1 := d_17.cell 1
      have d_17c2 := d_17.cell 2
      have d_17c3 := d_17.cell 3
      have d_17c4 := d_17.cell 4
      have d_17c5 := d_17.cell 5
      simp only [List.getElem?_toArray, List.getElem?_cons_zero, List.getElem?_cons_succ] at d_17c0 d_17c1 d_17c2 d_17c3 d_17c4 d_17c5
      have d_17l := d_17.lt
      have uu_17c0 := uu_17.cell 0
      have uu_17c1 := uu_17.cell 1
      simp only [List.getElem?_toArray, List.getElem?_cons_zero, List.getElem?_cons_succ] at uu_17c0 uu_17c1
      have uu_17l := uu_17.lt
      have df_17c0 := df_17.cell 0
      have df_17c1 := df_17.cell 1
      simp only [List.getElem?_toArray, List.getElem?_cons_zero, List.getElem?_cons_succ] at df_17c0 df_17c1
      have df_17l := df_17.lt
      have HAV := Lib.hid (HAa.out.below B17a)
      have HBV := Lib.hid (HAb.out.below B17a)
      obtain ⟨xc, xf⟩ := xcell (W := V17)
      refine wp_region_quiet_tail 43 (by kernel_rfl) (by kernel_rfl) ?_
      simp only [List.take_succ_cons, List.take_zero, List.drop_succ_cons, List.drop_zero]
      repeat (first | go_big_quiet_step (first | (go_at_call 50; with_reducible refine calls_ext (HL5.out _)) | (go_at_call 50; with_reducible refine calls_ext (HL6.out _)) | (go_at_call 45; with_reducible refine calls_ext (HD1.out _ ?_ ?_); exact HAV.out.below (Ext.below _); exact HBV.out.below (Ext.below _)) | (go_at_call 45; with_reducible refine calls_ext (HD2.out _ ?_ ?_); exact HAV.out.below (Ext.below _); exact HBV.out.below (Ext.below _))) | quiet_step (first | (go_at_call 50; with_reducible refine calls_ext (HL5.out _)) | (go_at_call 50; with_reducible refine calls_ext (HL6.out _)) | (go_at_call 45; with_reducible refine calls_ext (HD1.out _ ?_ ?_); exact HAV.out.below (Ext.below _); exact HBV.out.below (Ext.below _)) | (go_at_call 45; with_reducible refine calls_ext (HD2.out _ ?_ ?_); exact HAV.out.below (Ext.below _); exact HBV.out.below (Ext.below _))))
      refine wpQuiet_nil ?_
      intro wz hbz
      go_wp2
      go_ret
      exact ⟨by simp, B17a.trans (hbz.mono B17a.size)⟩

theorem curveBounds_walk (A A' : Option Addr) (n cap n' cap' : Nat) (err err' : Int) (ks ks' : List (Int × Int)) (lo hi lo2 hi2 x : Int) (w : World) (h : CAt w A n ks) (hm : n ≤ 9223372036854775807) (h' : CAt w A' n' ks') (hm' : n' ≤ 9223372036854775807) (hlo : -9223372036854775808 ≤ lo ∧ lo ≤ 9223372036854775807) (hhi : -9223372036854775808 ≤ hi ∧ hi ≤ 9223372036854775807) :
    Calls Try.prog 11 #[vCv A n cap err, vCv A' n' cap' err', vSpan lo hi, vSpan lo2 hi2, .int .i64 x] w fun e w' => e = .returned (.bool true) ∧ Below w.heap.size w w' := by
  by_cases hd : n ≤ 60 ∧ n' ≤ 60 ∧ 0 ≤ lo ∧ lo ≤ x ∧ x ≤ hi ∧ hi - lo ≤ 300
  · exact curveBounds_main A A' n cap n' cap' err err' ks ks' lo hi lo2 hi2 x _ _ _ _ _ _ _ _ _ _ _ _ _ _ _ _ _ _ _ _ _ _ _ _ _ _ _ w h hm h' hm' hlo hhi hd.1 hd.2.1 hd.2.2.1 hd.2.2.2.1 hd.2.2.2.2.1 hd.2.2.2.2.2 (bdOk A A' n cap n' cap' err err' ks ks' lo hi lo2 hi2 x hm hm' hd.2.2.2.1 hd.2.2.2.2.1)
  · exact curveBounds_dead A A' n cap n' cap' err err' ks ks' lo hi lo2 hi2 x w h hm h' hm' hlo hhi hd


set_option maxRecDepth 100000 in
theorem curveBounds_lifted (os : Os) (started : os.Started) (H : Type) (enc : TypeId × Value → H) :
    ReturnsInHanded Rows.curveBoundsRow.assume Try.checked os 11 .any (Rows.curveBoundsSpec.pre6 enc Try.prog Try.f11 Rows.curveBoundsRow.domain false) (Rows.curveBoundsSpec.post enc Try.prog Try.f11 false Rows.curveBoundsRow.fresh Rows.curveBoundsRow.handsOn Rows.curveBoundsRow.again) := by
  refine returnsInHanded_of_change (C := Try.checked) (by kernel_rfl) started (by kernel_rfl) Try.func11
    (ChangeSpec.witness6 (enc := enc) (C := Try.checked) false ⟨#[], #[vCv none 0 0 0, vCv none 0 0 0, vSpan 0 0, vSpan 0 0, .int .i64 0], []⟩ 8 (by kernel_rfl) (by kernel_rfl) (by kernel_rfl) (by kernel_rfl)) ?_
  intro W base args ds gs before hval0 hW hcnd _
  have hval : ∀ (j : Nat) t v, Try.f11.params[j]? = some t → args[j]? = some v → Value.okWide Try.prog W .any base t v := hval0
  have hW' := hW
  obtain ⟨p, q, hA0, hV, rfl, hfz, hnd⟩ := hW
  obtain ⟨rfl, rfl⟩ := trodVars_none hV
  have hA : DataW.TrodAll enc Try.prog W 0 (fun _ => true) true [24, 24, 26, 26, 3] args.toList ds p := hA0
  obtain ⟨v0, v1, v2, v3, v4, d0, d1, d2, d3, d4, p0, p1, p2, p3, p4, rfl, rfl, rfl, h0, h1, h2, h3, h4⟩ := trodAll_five hA
  obtain ⟨A, n, cap, err, ks, rfl, hC, hm, _, _, rfl⟩ := open_cv (hval 0 24 v0 rfl rfl) h0
  obtain ⟨A', n', cap', err', ks', rfl, hC', hm', _, _, rfl⟩ := open_cv (hval 1 24 v1 rfl rfl) h1
  obtain ⟨lo, hi, rfl, hlo, hhi, _, rfl⟩ := open_sp (hval 2 26 v2 rfl rfl) h2
  obtain ⟨lo2, hi2, rfl, _, _, _, rfl⟩ := open_sp (hval 3 26 v3 rfl rfl) h3
  obtain ⟨x, rfl, rfl, rfl, _⟩ := open_int Try.underlying3 (hval 4 3 v4 rfl rfl) h4
  refine (curveBounds_walk A A' n cap n' cap' err err' ks ks' lo hi lo2 hi2 x W hC hm hC' hm' hlo hhi).mono fun e W' ⟨he, hb⟩ => ⟨_, he, law_post laid_out (by kernel_rfl) rfl Try.underlying4 rfl hW' rfl rfl rfl hb⟩

theorem curveBounds : Rows.CurveBoundsSaid :=
  OpenClaim.holds_of_wide 11 Try.f11 rfl rfl rfl rfl rfl rfl rfl ⟨rfl, rfl, rfl, rfl, rfl⟩ rfl rfl rfl rfl rfl (by kernel_rfl) Try.func11 (by kernel_rfl)
    (of_decide_eq_true (by kernel_rfl)) (by unfold Func.isWrapper; first | (rw [if_pos (by decide +kernel)]; kernel_rfl) | (rw [if_neg (by decide +kernel)]; exact ⟨rfl, rfl⟩))
    (fun os started H enc _ => curveBounds_lifted os started H enc)
#print axioms curveBounds

end Go.Proofs.Ytipablcbkoedbaa
