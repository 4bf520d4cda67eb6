/- joined, Add, Minus. -/
import Derived.WalkKit
import Derived.WalkLawsBesides
import Derived.Deep.QuietTactic
import Derived.BigQuiet
import Derived.RegionTactic
import Derived.OwnWalk
import Derived.RangeFuncBox
import Derived.Lib.Hide
import Derived.Outline
import Derived.WalkSmall
import Derived.Deep.DeepCutAuto
import Derived.Test.YtipablcbkoedbaaProg
import Derived.Test.YtipablcbkoedbaaReg7
import Derived.Test.YtipablcbkoedbaaF2
import Derived.Test.YtipablcbkoedbaaS1
namespace Go.Proofs.Ytipablcbkoedbaa
open Go.RowKit

/-- The X of two curves are the same. -/
def sameX (ks ks' : List (Int × Int)) : Bool := decide (ks.map Prod.fst = ks'.map Prod.fst)
theorem sameX_len {ks ks' : List (Int × Int)} (h : sameX ks ks' = true) : ks.length = ks'.length := by
  have := congrArg List.length (of_decide_eq_true h)
  simpa using this
theorem sameX_yes {ks ks' : List (Int × Int)} (hl : ks.length = ks'.length) (h : ∀ j, j < ks.length → kx ks j = kx ks' j) : sameX ks ks' = true := by
  refine decide_eq_true (List.ext_getElem (by simpa using hl) fun i h1 h2 => ?_)
  have h3 : i < ks.length := by simpa using h1
  have h4 : i < ks'.length := by simpa using h2
  have := h i h3
  unfold kx at this
  simp only [List.getD_eq_getElem?_getD, List.getElem?_eq_getElem h3, List.getElem?_eq_getElem h4, Option.getD_some] at this
  simpa using this
theorem sameX_no {ks ks' : List (Int × Int)} {j : Nat} (hj : j < ks.length) (hj' : j < ks'.length) (h : kx ks j ≠ kx ks' j) : sameX ks ks' = false := by
  refine decide_eq_false fun e => h ?_
  have := congrArg (fun l => l[j]?) e
  simp only [List.getElem?_map, List.getElem?_eq_getElem hj, List.getElem?_eq_getElem hj', Option.map_some, Option.some.injEq] at this
  unfold kx
  simpa [List.getD_eq_getElem?_getD, List.getElem?_eq_getElem hj, List.getElem?_eq_getElem hj'] using this
theorem sameX_nlen {ks ks' : List (Int × Int)} (h : ks.length ≠ ks'.length) : sameX ks ks' = false := by
  cases e : sameX ks ks' with
  | false => rfl
  | true => exact absurd (sameX_len e) h
/-- The knots whose Y come from those of two curves. -/
def jnL (f : Int → Int → Int) (ks ks' : List (Int × Int)) : List (Int × Int) := (List.range ks.length).map fun i => (kx ks i, f (ky ks i) (ky ks' i))
theorem jnL_len (f : Int → Int → Int) (ks ks' : List (Int × Int)) : (jnL f ks ks').length = ks.length := by simp [jnL]
theorem jnL_take (f : Int → Int → Int) (ks ks' : List (Int × Int)) {k : Nat} (h : k < ks.length) : ((jnL f ks ks').take (k + 1)).flatMap encF = ((jnL f ks ks').take k).flatMap encF ++ [.int .i64 (kx ks k), .int .i64 (f (ky ks k) (ky ks' k))] := by
  rw [List.take_succ_eq_append_getElem (by rw [jnL_len]; exact h), List.flatMap_append]
  congr 1
  simp [jnL, encF]
def jnErr (f : Int → Int → Int) (ks ks' : List (Int × Int)) (err err' : Int) : Int :=
  if twErr ks ks' err err' ≠ 0 then twErr ks ks' err err' else if sameX ks ks' = false then 4 else if check (jnL f ks ks') (err + err') ≠ 0 then 3 else 0
def jnR (f : Int → Int → Int) (ks ks' : List (Int × Int)) (err err' : Int) : List (Int × Int) := if jnErr f ks ks' err err' = 0 then jnL f ks ks' else []
def jnF (f : Int → Int → Int) (ks ks' : List (Int × Int)) (err err' : Int) : Int := if jnErr f ks ks' err err' = 0 then err + err' else 0
/-- What a function that returns a curve and an error returns. -/
def cvOut (w : World) (R : List (Int × Int)) (F E : Int) (en : Ending) (w' : World) : Prop :=
  ∃ A n cap, en = .returned (.tuple #[vCv A n cap F, .int .i64 E]) ∧ CAt w' A n R ∧ n ≤ 1000 ∧ (∀ a, A = some a → w.heap.size ≤ a.block) ∧ Below w.heap.size w w'
theorem cvOut_nil {w : World} {E : Int} {en : Ending} {w' : World} (h : en = .returned (.tuple #[vCv none 0 0 0, .int .i64 E])) (hb : Below w.heap.size w w') : cvOut w [] 0 E en w' :=
  ⟨none, 0, 0, h, ⟨rfl, fun h => absurd h (by omega)⟩, by omega, (fun a h => by cases h), hb⟩
theorem Kn_of_row {W : World} {base g c n : Nat} {zs : List (Int × Int)} (hn : zs.length = n) (h : W.ownsRow base 108 2 (.slice (some ⟨g, 0, none⟩) n c) n (zs.flatMap encF)) : Kn W g 0 zs := by
  subst hn
  have hf := flat_at 2 encF (fun _ => rfl) zs
  refine ⟨?_, fun j hj => ?_, fun j hj => ?_⟩
  · have := h.lt g rfl
    omega
  · rw [Nat.zero_add, h.cellAt (j * 2) (by omega)]
    have := hf j 0 (0, 0) hj (by omega)
    simpa [encF, kx] using this
  · rw [Nat.zero_add, h.cellAt (j * 2 + 1) (by omega)]
    have := hf j 1 (0, 0) hj (by omega)
    simpa [encF, ky] using this
theorem Kn.set_ {w : World} {b off : Nat} {ks : List (Int × Int)} (h : Kn w b off ks) {p : Addr} (hne : b ≠ p.block) (u : Value) : Kn (w.setCell p u) b off ks := by
  have e : (w.setCell p u).heap[b]? = w.heap[b]? := Below.heap_setCell w p u b hne
  have c : ∀ o, (w.setCell p u).cell? ⟨b, o, none⟩ = w.cell? ⟨b, o, none⟩ := fun o => by simp only [World.cell?, e]
  exact ⟨by have := h.lt; simpa [World.setCell] using this, fun i hi => (c _).trans (h.x i hi), fun i hi => (c _).trans (h.y i hi)⟩
theorem CAt.sets {w : World} {A : Option Addr} {n : Nat} {ks : List (Int × Int)} (h : CAt w A n ks) {r : Nat} (hr : ∀ a, A = some a → a.block ≠ r) (u v : Value) : CAt ((w.setCell ⟨r, 0, none⟩ u).setCell ⟨r, 1, none⟩ v) A n ks :=
  ⟨h.len, fun hn => by
    obtain ⟨b, off, e, hk⟩ := h.at_ hn
    have := hr _ e
    exact ⟨b, off, e, (hk.set_ (p := ⟨r, 0, none⟩) this u).set_ (p := ⟨r, 1, none⟩) this v⟩⟩
theorem info_knot : (Try.prog.info? 108).map (fun i => (i.zero, i.size, i.bytes)) = some (some (.agg #[.int .i64 0, .int .i64 0]), 2, 16) := by kernel_rfl

theorem joined1_any (a b c d : Int) (w : World) : Calls Try.prog 138 #[.agg #[.int .i64 a, .int .i64 b], .agg #[.int .i64 c, .int .i64 d]] w fun e w' => e = .returned (.bool (a == c)) ∧ Below w.heap.size w w' := by
  go_enter Try.func138, Try.ntmps138
  go_wp2
  go_ret
  exact ⟨rfl, ((Below.refl w.heap.size w).alloc (Nat.le_refl _) _).alloc (by simp) _⟩
theorem eqX_enters : ∀ args w, (callFunc 138 args).run Try.prog w = .ok (.enter 138 args) w := enters_of Try.func138 (by kernel_rfl) rfl


set_option maxHeartbeats 1600000 in
theorem EqualX_any (A A' : Option Addr) (n cap n' cap' : Nat) (ks ks' : List (Int × Int)) (w : World) (h : CAt w A n ks) (hm : n ≤ 9223372036854775807) (h' : CAt w A' n' ks') (hm' : n' ≤ 9223372036854775807) :
    Calls Try.prog 137 #[.slice A n cap, .slice A' n' cap', .func (.func 138) #[] #[]] w fun e w' => e = .returned (.bool (sameX ks ks')) ∧ Below w.heap.size w w' := by
  have hl := h.len
  have hl' := h'.len
  by_cases hn : n = n'
  case neg =>
    have HD := Lib.hid (sameX_nlen (ks := ks) (ks' := ks') (by omega))
    have hn1 : ((n : Int) != (n' : Int)) = true := by simp; omega
    have hn2 : ((n : Int) == (n' : Int)) = false := by simp; omega
    clear h h' hl hl' hn
    go_enter Try.func137, Try.ntmps137
    go_wp2
    go_ret
    exact ⟨by rw [HD.out]; rfl, Below.refl _ _⟩
  subst hn
  have HA := Lib.hid h
  have HA' := Lib.hid h'
  have HL := Lib.hid hl
  have HL' := Lib.hid hl'
  have HJ := Lib.hid joined1_any
  have eg := eqX_enters
  clear h h' hl hl'
  go_enter Try.func137, Try.ntmps137
  go_wp2_with fail
  go_loopw [17] (fun i wr => ∃ k : Nat, k ≤ n ∧ i = .int .i64 k ∧ (∀ j, j < k → kx ks j = kx ks' j) ∧ Below w.heap.size w wr) (fun i _ => n - (intOf i).toNat)
  case atStart => exact ⟨0, Nat.zero_le _, rfl, fun j hj => absurd hj (by omega), Below.refl _ _⟩
  case round =>
    obtain ⟨k, hk, rfl, hall, hb⟩ := hrel
    have HALL := Lib.hid hall
    clear hall
    by_cases hkn : k < n
    case neg =>
      have hkk : k = n := by omega
      have HD := Lib.hid (sameX_yes (ks := ks) (ks' := ks') (by rw [HL.out, HL'.out]) fun j hj => HALL.out j (by have := HL.out; omega))
      subst hkk
      go_wp2
      go_ret
      exact ⟨by rw [HD.out]; rfl, hb⟩
    obtain ⟨b, off, hAe, hkn1⟩ := (HA.out.below hb).at_ (by omega)
    obtain ⟨b', off', hAe', hkn2⟩ := (HA'.out.below hb).at_ (by omega)
    subst hAe hAe'
    have x1 := hkn1.x k (by rw [HL.out]; exact hkn)
    have y1 := hkn1.y k (by rw [HL.out]; exact hkn)
    have x2 := hkn2.x k (by rw [HL'.out]; exact hkn)
    have y2 := hkn2.y k (by rw [HL'.out]; exact hkn)
    have lt1 := hkn1.lt
    have lt2 := hkn2.lt
    have HNe := Lib.hid (sameX_no (ks := ks) (ks' := ks') (j := k) (by rw [HL.out]; exact hkn) (by rw [HL'.out]; exact hkn))
    have hnx : ∀ a c : Int, kx ks k = a → kx ks' k = c → a = c → ∀ j, j < k + 1 → kx ks j = kx ks' j := fun a c e1 e3 f1 j hj => if e : j = k then by subst e; exact e1.trans (f1.trans e3.symm) else HALL.out j (by omega)
    have HNx := Lib.hid (hnx _ _ rfl rfl)
    clear hnx hkn1 hkn2
    generalize kx ks k = a at *
    generalize ky ks k = c at *
    generalize kx ks' k = a' at *
    generalize ky ks' k = c' at *
    have hB2 := (hb.alloc hb.size (.cells #[.int .i64 a, .int .i64 c] 108)).alloc (by have := hb.size; simp; omega) (.cells #[.int .i64 a', .int .i64 c'] 108)
    go_wp2_with fail
    refine (HJ.out _ _ _ _ _).mono ?_; rintro e w1 ⟨rfl, hb1⟩
    have hb5 := hB2.trans (hb1.mono hB2.size)
    clear x1 y1 x2 y2 lt1 lt2
    by_cases e1 : a = a'
    · subst e1
      go_wp2
      go_roundw
      case rel => exact ⟨k + 1, by omega, by go_num, HNx.out (by simp), hb5⟩
      case measure => simp [intOf]; omega
    · have e3 : (a == a') = false := by simpa using e1
      have HD := Lib.hid (HNe.out e1)
      go_wp2
      go_ret
      exact ⟨by rw [HD.out]; rfl, hb5⟩


set_option maxRecDepth 100000 in
set_option maxHeartbeats 6400000 in
theorem joined_any (g : Nat) (eg : ∀ args w, (callFunc g args).run Try.prog w = .ok (.enter g args) w) (f : Int → Int → Int) (hf : ∀ a b W, -65536 ≤ a → a ≤ 65536 → -65536 ≤ b → b ≤ 65536 → Calls Try.prog g #[.int .i64 a, .int .i64 b] W fun e w' => e = .returned (.int .i64 (f a b)) ∧ Below W.heap.size W w') (A A' : Option Addr) (n cap n' cap' : Nat) (err err' : Int) (ks ks' : List (Int × Int)) (w : World) (h : CAt w A n ks) (hm : n ≤ 9223372036854775807) (h' : CAt w A' n' ks') (hm' : n' ≤ 9223372036854775807) :
    Calls Try.prog 112 #[vCv A n cap err, vCv A' n' cap' err', .func (.func g) #[] #[]] w (cvOut w (jnR f ks ks' err err') (jnF f ks ks' err err') (jnErr f ks ks' err err')) := by
  have hS := fun W (q : Nat) (hW : LAt W (some ⟨q, 0, none⟩) 2 [⟨A, n, cap, err, ks⟩, ⟨A', n', cap', err', ks'⟩]) => checked_any (some ⟨q, 0, none⟩) 2 2 [⟨A, n, cap, err, ks⟩, ⟨A', n', cap', err', ks'⟩] W hW (by omega)
  rw [tw_all] at hS
  have HS := Lib.hid hS
  have HA := Lib.hid h
  have HA' := Lib.hid h'
  have hjd : jnErr f ks ks' err err' = if twErr ks ks' err err' ≠ 0 then twErr ks ks' err err' else if sameX ks ks' = false then 4 else if check (jnL f ks ks') (err + err') ≠ 0 then 3 else 0 := rfl
  have hjn : ∀ e, jnErr f ks ks' err err' = e → e ≠ 0 → jnR f ks ks' err err' = [] ∧ jnF f ks ks' err err' = 0 := fun e h0 h1 => by unfold jnR jnF; rw [h0, if_neg h1, if_neg h1]; exact ⟨rfl, rfl⟩
  by_cases hz : twErr ks ks' err err' = 0
  case neg =>
    rw [if_pos hz] at hjd
    obtain ⟨hR, hFz⟩ := hjn _ hjd hz
    rw [hjd, hR, hFz]
    have hz1 : (twErr ks ks' err err' != 0) = true := by simpa using hz
    clear hjd hjn hR hFz h h' hz hS
    generalize twErr ks ks' err err' = te at *
    generalize hW : ((w.alloc (.cells #[.slice A n cap, .int .i64 err] 24)).alloc (.cells #[.slice A' n' cap', .int .i64 err'] 24)).alloc (.cells #[.slice none 0 0, .int .i64 0] 24) = W
    have B0 : Below w.heap.size w W := by rw [← hW]; exact ((((Below.refl w.heap.size w).alloc (Nat.le_refl _) _).alloc (by simp) _).alloc (by simp; omega) _)
    have x0_0 : Blk W w.heap.size 24 #[.slice A n cap, .int .i64 err] := by rw [← hW]; exact (((Blk.at_new _ _ rfl).alloc _).alloc _)
    have x1_0 : Blk W (w.heap.size + 1) 24 #[.slice A' n' cap', .int .i64 err'] := by rw [← hW]; exact ((Blk.at_new _ _ (by simp)).alloc _)
    have r_0 : Blk W (w.heap.size + 2) 24 #[.slice none 0 0, .int .i64 0] := by rw [← hW]; exact (Blk.at_new _ _ (by simp))
    have HWE := Lib.hid hW
    clear hW
    have HLb := Lib.hid (fun q V (hV : Blk V q 24 #[.slice A n cap, .int .i64 err, .slice A' n' cap', .int .i64 err']) (hb : Below w.heap.size w V) => lat_two hV (HA.out.below hb) hm (HA'.out.below hb) hm')
    go_enter Try.func112, Try.ntmps112
    have B1 := B0
    have B1a := B1.alloc B1.size (.cells #[.slice A n cap, .int .i64 err, .slice A' n' cap', .int .i64 err'] 24)
    go_wp2_with fail
    rw [HWE.out]
    refine (HS.out _ _ (HLb.out _ _ (Blk.at_new (g := w.heap.size + 1 + 1 + 1) _ _ (by rw [← HWE.out]; simp)) B1a)).mono ?_; rintro e w1 ⟨rfl, hb1⟩
    have x0_1 := (x0_0.alloc (.cells #[.slice A n cap, .int .i64 err, .slice A' n' cap', .int .i64 err'] 24)).below hb1
    have x1_1 := (x1_0.alloc (.cells #[.slice A n cap, .int .i64 err, .slice A' n' cap', .int .i64 err'] 24)).below hb1
    have r_1 := (r_0.alloc (.cells #[.slice A n cap, .int .i64 err, .slice A' n' cap', .int .i64 err'] 24)).below hb1
    clear x0_0 x1_0 r_0
    have x0_1c0 := x0_1.cell 0
    have x0_1c1 := x0_1.cell 1
    simp only [List.getElem?_toArray, List.getElem?_cons_zero, List.getElem?_cons_succ] at x0_1c0 x0_1c1
    have x0_1l := x0_1.lt
    have x1_1c0 := x1_1.cell 0
    have x1_1c1 := x1_1.cell 1
    simp only [List.getElem?_toArray, List.getElem?_cons_zero, List.getElem?_cons_succ] at x1_1c0 x1_1c1
    have x1_1l := x1_1.lt
    have r_1c0 := r_1.cell 0
    have r_1c1 := r_1.cell 1
    simp only [List.getElem?_toArray, List.getElem?_cons_zero, List.getElem?_cons_succ] at r_1c0 r_1c1
    have r_1l := r_1.lt
    have hr := r_1
    have hf0 := r_1.frozen 0
    have hf1 := r_1.frozen 1
    have hl := r_1.lt
    have BZ := B1a.trans (hb1.mono B1a.size)
    go_wp2
    have hF := ((hr.set_ 0 (.slice none 0 0)).set_ 1 (.int .i64 0))
    have k0 := hF.cell 0
    have k1 := hF.cell 1
    simp only [List.setIfInBounds_toArray, List.set_cons_zero, List.set_cons_succ, List.getElem?_toArray, List.getElem?_cons_zero, List.getElem?_cons_succ] at k0 k1
    exact bodyPost_ret (v := .tuple #[.agg #[.slice none 0 0, .int .i64 0], .int .i64 te]) (by simp [results, Try.results112, go_sem, k0, k1]) rfl (cvOut_nil rfl ((BZ.setCell (p := ⟨(w.heap.size + 2), 0, none⟩) (by simp <;> omega) _).setCell (p := ⟨(w.heap.size + 2), 1, none⟩) (by simp <;> omega) _))
  rw [if_neg (by simp [hz])] at hjd
  rw [hz] at hS
  have HS := Lib.hid hS
  clear hS
  have HE := Lib.hid (fun W (hW : CAt W A n ks) (hW' : CAt W A' n' ks') => EqualX_any A A' n cap n' cap' ks ks' W hW hm hW' hm')
  by_cases hx : sameX ks ks' = false
  case pos =>
    rw [if_pos hx] at hjd
    obtain ⟨hR, hFz⟩ := hjn _ hjd (by omega)
    rw [hjd, hR, hFz]
    rw [hx] at HE
    clear hjd hjn hR hFz h h' hz hx
    generalize hW : ((w.alloc (.cells #[.slice A n cap, .int .i64 err] 24)).alloc (.cells #[.slice A' n' cap', .int .i64 err'] 24)).alloc (.cells #[.slice none 0 0, .int .i64 0] 24) = W
    have B0 : Below w.heap.size w W := by rw [← hW]; exact ((((Below.refl w.heap.size w).alloc (Nat.le_refl _) _).alloc (by simp) _).alloc (by simp; omega) _)
    have x0_0 : Blk W w.heap.size 24 #[.slice A n cap, .int .i64 err] := by rw [← hW]; exact (((Blk.at_new _ _ rfl).alloc _).alloc _)
    have x1_0 : Blk W (w.heap.size + 1) 24 #[.slice A' n' cap', .int .i64 err'] := by rw [← hW]; exact ((Blk.at_new _ _ (by simp)).alloc _)
    have r_0 : Blk W (w.heap.size + 2) 24 #[.slice none 0 0, .int .i64 0] := by rw [← hW]; exact (Blk.at_new _ _ (by simp))
    have HWE := Lib.hid hW
    clear hW
    have HLb := Lib.hid (fun q V (hV : Blk V q 24 #[.slice A n cap, .int .i64 err, .slice A' n' cap', .int .i64 err']) (hb : Below w.heap.size w V) => lat_two hV (HA.out.below hb) hm (HA'.out.below hb) hm')
    go_enter Try.func112, Try.ntmps112
    have B1 := B0
    have B1a := B1.alloc B1.size (.cells #[.slice A n cap, .int .i64 err, .slice A' n' cap', .int .i64 err'] 24)
    go_wp2_with fail
    rw [HWE.out]
    refine (HS.out _ _ (HLb.out _ _ (Blk.at_new (g := w.heap.size + 1 + 1 + 1) _ _ (by rw [← HWE.out]; simp)) B1a)).mono ?_; rintro e w1 ⟨rfl, hb1⟩
    have x0_1 := (x0_0.alloc (.cells #[.slice A n cap, .int .i64 err, .slice A' n' cap', .int .i64 err'] 24)).below hb1
    have x1_1 := (x1_0.alloc (.cells #[.slice A n cap, .int .i64 err, .slice A' n' cap', .int .i64 err'] 24)).below hb1
    have r_1 := (r_0.alloc (.cells #[.slice A n cap, .int .i64 err, .slice A' n' cap', .int .i64 err'] 24)).below hb1
    clear x0_0 x1_0 r_0
    have x0_1c0 := x0_1.cell 0
    have x0_1c1 := x0_1.cell 1
    simp only [List.getElem?_toArray, List.getElem?_cons_zero, List.getElem?_cons_succ] at x0_1c0 x0_1c1
    have x0_1l := x0_1.lt
    have x1_1c0 := x1_1.cell 0
    have x1_1c1 := x1_1.cell 1
    simp only [List.getElem?_toArray, List.getElem?_cons_zero, List.getElem?_cons_succ] at x1_1c0 x1_1c1
    have x1_1l := x1_1.lt
    have r_1c0 := r_1.cell 0
    have r_1c1 := r_1.cell 1
    simp only [List.getElem?_toArray, List.getElem?_cons_zero, List.getElem?_cons_succ] at r_1c0 r_1c1
    have r_1l := r_1.lt
    have B2 := B1a.trans (hb1.mono B1a.size)
    go_wp2_with fail
    refine (HE.out _ (HA.out.below B2) (HA'.out.below B2)).mono ?_; rintro e w2 ⟨rfl, hb2⟩
    clear x0_1c0 x0_1c1 x0_1l x1_1c0 x1_1c1 x1_1l r_1c0 r_1c1 r_1l
    have x0_2 := x0_1.below hb2
    have x1_2 := x1_1.below hb2
    have r_2 := r_1.below hb2
    clear x0_1 x1_1 r_1
    have x0_2c0 := x0_2.cell 0
    have x0_2c1 := x0_2.cell 1
    simp only [List.getElem?_toArray, List.getElem?_cons_zero, List.getElem?_cons_succ] at x0_2c0 x0_2c1
    have x0_2l := x0_2.lt
    have x1_2c0 := x1_2.cell 0
    have x1_2c1 := x1_2.cell 1
    simp only [List.getElem?_toArray, List.getElem?_cons_zero, List.getElem?_cons_succ] at x1_2c0 x1_2c1
    have x1_2l := x1_2.lt
    have r_2c0 := r_2.cell 0
    have r_2c1 := r_2.cell 1
    simp only [List.getElem?_toArray, List.getElem?_cons_zero, List.getElem?_cons_succ] at r_2c0 r_2c1
    have r_2l := r_2.lt
    have hr := r_2
    have hf0 := r_2.frozen 0
    have hf1 := r_2.frozen 1
    have hl := r_2.lt
    have BZ := B2.trans (hb2.mono B2.size)
    go_wp2
    have hF := ((hr.set_ 0 (.slice none 0 0)).set_ 1 (.int .i64 0))
    have k0 := hF.cell 0
    have k1 := hF.cell 1
    simp only [List.setIfInBounds_toArray, List.set_cons_zero, List.set_cons_succ, List.getElem?_toArray, List.getElem?_cons_zero, List.getElem?_cons_succ] at k0 k1
    exact bodyPost_ret (v := .tuple #[.agg #[.slice none 0 0, .int .i64 0], .int .i64 4]) (by simp [results, Try.results112, go_sem, k0, k1]) rfl (cvOut_nil rfl ((BZ.setCell (p := ⟨(w.heap.size + 2), 0, none⟩) (by simp <;> omega) _).setCell (p := ⟨(w.heap.size + 2), 1, none⟩) (by simp <;> omega) _))
  have hx1 : sameX ks ks' = true := by simpa using hx
  rw [if_neg hx] at hjd
  rw [hx1] at HE
  have hsl := sameX_len hx1
  obtain ⟨hv, hv', he, he'⟩ := tw_valid hz
  have hpos := hv.pos
  have hpos' := hv'.pos
  have hlen := h.len
  have hlen' := h'.len
  obtain ⟨b, off, hAe, hkn⟩ := h.at_ (by omega)
  obtain ⟨b', off', hAe', hkn'⟩ := h'.at_ (by omega)
  subst hAe hAe'
  have HKn := Lib.hid hkn
  have HKn' := Lib.hid hkn'
  have HV := Lib.hid hv
  have HV' := Lib.hid hv'
  have hle := hv.le
  have HLen := Lib.hid hlen
  have HLen' := Lib.hid hlen'
  have HSl := Lib.hid hsl
  have HT := Lib.hid (fun (k : Nat) (hk : k < ks.length) => jnL_take f ks ks' hk)
  have HJl := Lib.hid (jnL_len f ks ks')
  have HJd := Lib.hid hjd
  have HJn := Lib.hid hjn
  have hn40 : n ≤ 40 := by omega
  have hn0 : 0 < n := by omega
  have hnn : n' = n := by omega
  have HF := Lib.hid hf
  have HR := Lib.hid (show jnR f ks ks' err err' = if jnErr f ks ks' err err' = 0 then jnL f ks ks' else [] from rfl)
  have HFz := Lib.hid (show jnF f ks ks' err err' = if jnErr f ks ks' err err' = 0 then err + err' else 0 from rfl)
  clear hf hjd hjn h h' hz hx hx1 hv hv' hkn hkn' hlen hlen' hsl hpos hpos' hle
  subst hnn
  obtain ⟨i0, hi0, hi1, hi2, hi3⟩ := info_parts info_knot
  have HI := Lib.hid (show Try.prog.info? 108 = some i0 ∧ i0.zero = some (.agg #[.int .i64 0, .int .i64 0]) ∧ i0.size = 2 ∧ i0.bytes = 16 from ⟨hi0, hi1, hi2, hi3⟩)
  clear hi0 hi1 hi2 hi3
  generalize hW : ((w.alloc (.cells #[.slice (some ⟨b, off, none⟩) n' cap, .int .i64 err] 24)).alloc (.cells #[.slice (some ⟨b', off', none⟩) n' cap', .int .i64 err'] 24)).alloc (.cells #[.slice none 0 0, .int .i64 0] 24) = W
  have B0 : Below w.heap.size w W := by rw [← hW]; exact ((((Below.refl w.heap.size w).alloc (Nat.le_refl _) _).alloc (by simp) _).alloc (by simp; omega) _)
  have x0_0 : Blk W w.heap.size 24 #[.slice (some ⟨b, off, none⟩) n' cap, .int .i64 err] := by rw [← hW]; exact (((Blk.at_new _ _ rfl).alloc _).alloc _)
  have x1_0 : Blk W (w.heap.size + 1) 24 #[.slice (some ⟨b', off', none⟩) n' cap', .int .i64 err'] := by rw [← hW]; exact ((Blk.at_new _ _ (by simp)).alloc _)
  have r_0 : Blk W (w.heap.size + 2) 24 #[.slice none 0 0, .int .i64 0] := by rw [← hW]; exact (Blk.at_new _ _ (by simp))
  have HWE := Lib.hid hW
  clear hW
  have HLb := Lib.hid (fun q V (hV : Blk V q 24 #[.slice (some ⟨b, off, none⟩) n' cap, .int .i64 err, .slice (some ⟨b', off', none⟩) n' cap', .int .i64 err']) (hb : Below w.heap.size w V) => lat_two hV (HA.out.below hb) hm (HA'.out.below hb) hm')
  go_enter Try.func112, Try.ntmps112
  have B1 := B0
  have B1a := B1.alloc B1.size (.cells #[.slice (some ⟨b, off, none⟩) n' cap, .int .i64 err, .slice (some ⟨b', off', none⟩) n' cap', .int .i64 err'] 24)
  go_wp2_with fail
  rw [HWE.out]
  refine (HS.out _ _ (HLb.out _ _ (Blk.at_new (g := w.heap.size + 1 + 1 + 1) _ _ (by rw [← HWE.out]; simp)) B1a)).mono ?_; rintro e w1 ⟨rfl, hb1⟩
  have x0_1 := (x0_0.alloc (.cells #[.slice (some ⟨b, off, none⟩) n' cap, .int .i64 err, .slice (some ⟨b', off', none⟩) n' cap', .int .i64 err'] 24)).below hb1
  have x1_1 := (x1_0.alloc (.cells #[.slice (some ⟨b, off, none⟩) n' cap, .int .i64 err, .slice (some ⟨b', off', none⟩) n' cap', .int .i64 err'] 24)).below hb1
  have r_1 := (r_0.alloc (.cells #[.slice (some ⟨b, off, none⟩) n' cap, .int .i64 err, .slice (some ⟨b', off', none⟩) n' cap', .int .i64 err'] 24)).below hb1
  clear x0_0 x1_0 r_0
  have x0_1c0 := x0_1.cell 0
  have x0_1c1 := x0_1.cell 1
  simp only [List.getElem?_toArray, List.getElem?_cons_zero, List.getElem?_cons_succ] at x0_1c0 x0_1c1
  have x0_1l := x0_1.lt
  have x1_1c0 := x1_1.cell 0
  have x1_1c1 := x1_1.cell 1
  simp only [List.getElem?_toArray, List.getElem?_cons_zero, List.getElem?_cons_succ] at x1_1c0 x1_1c1
  have x1_1l := x1_1.lt
  have r_1c0 := r_1.cell 0
  have r_1c1 := r_1.cell 1
  simp only [List.getElem?_toArray, List.getElem?_cons_zero, List.getElem?_cons_succ] at r_1c0 r_1c1
  have r_1l := r_1.lt
  have B2 := B1a.trans (hb1.mono B1a.size)
  go_wp2_with fail
  refine (HE.out _ (HA.out.below B2) (HA'.out.below B2)).mono ?_; rintro e w2 ⟨rfl, hb2⟩
  clear x0_1c0 x0_1c1 x0_1l x1_1c0 x1_1c1 x1_1l r_1c0 r_1c1 r_1l
  have x0_2 := x0_1.below hb2
  have x1_2 := x1_1.below hb2
  have r_2 := r_1.below hb2
  clear x0_1 x1_1 r_1
  have x0_2c0 := x0_2.cell 0
  have x0_2c1 := x0_2.cell 1
  simp only [List.getElem?_toArray, List.getElem?_cons_zero, List.getElem?_cons_succ] at x0_2c0 x0_2c1
  have x0_2l := x0_2.lt
  have x1_2c0 := x1_2.cell 0
  have x1_2c1 := x1_2.cell 1
  simp only [List.getElem?_toArray, List.getElem?_cons_zero, List.getElem?_cons_succ] at x1_2c0 x1_2c1
  have x1_2l := x1_2.lt
  have r_2c0 := r_2.cell 0
  have r_2c1 := r_2.cell 1
  simp only [List.getElem?_toArray, List.getElem?_cons_zero, List.getElem?_cons_succ] at r_2c0 r_2c1
  have r_2l := r_2.lt
  have hws := r_2l
  have B3 := B2.trans (hb2.mono B2.size)
  have B3a := B3.alloc B3.size (.cells #[.slice none 0 0, .int .i64 (err + err')] 24)
  go_wp2_with fail
  clear x0_2c0 x0_2c1 x0_2l x1_2c0 x1_2c1 x1_2l r_2c0 r_2c1 r_2l
  have x0_3 := (x0_2.alloc (.cells #[.slice none 0 0, .int .i64 (err + err')] 24))
  have x1_3 := (x1_2.alloc (.cells #[.slice none 0 0, .int .i64 (err + err')] 24))
  have r_3 := (r_2.alloc (.cells #[.slice none 0 0, .int .i64 (err + err')] 24))
  clear x0_2 x1_2 r_2
  have o_3 := (Blk.new w2 24 #[.slice none 0 0, .int .i64 (err + err')])
  generalize hV3 : w2.alloc (.cells #[.slice none 0 0, .int .i64 (err + err')] 24) = V3 at *
  generalize hg3 : w2.heap.size = g3 at *
  clear hV3 hg3
  have x0_3c0 := x0_3.cell 0
  have x0_3c1 := x0_3.cell 1
  simp only [List.getElem?_toArray, List.getElem?_cons_zero, List.getElem?_cons_succ] at x0_3c0 x0_3c1
  have x0_3l := x0_3.lt
  have x1_3c0 := x1_3.cell 0
  have x1_3c1 := x1_3.cell 1
  simp only [List.getElem?_toArray, List.getElem?_cons_zero, List.getElem?_cons_succ] at x1_3c0 x1_3c1
  have x1_3l := x1_3.lt
  have r_3c0 := r_3.cell 0
  have r_3c1 := r_3.cell 1
  simp only [List.getElem?_toArray, List.getElem?_cons_zero, List.getElem?_cons_succ] at r_3c0 r_3c1
  have r_3l := r_3.lt
  have o_3c0 := o_3.cell 0
  have o_3c1 := o_3.cell 1
  simp only [List.getElem?_toArray, List.getElem?_cons_zero, List.getElem?_cons_succ] at o_3c0 o_3c1
  have o_3l := o_3.lt
  have hbs : (g3 + 1) ≤ V3.heap.size := o_3l
  go_loopw [36] (fun i wx => ∃ (k : Nat) (v : Value), k ≤ n' ∧ i = .int .i64 k ∧ wx.ownsRow (g3 + 1) 108 2 v k (((jnL f ks ks').take k).flatMap encF) ∧ (g3 + 1) ≤ wx.heap.size ∧ Below w.heap.size w wx ∧ Blk wx w.heap.size 24 #[.slice (some ⟨b, off, none⟩) n' cap, .int .i64 err] ∧ Blk wx (w.heap.size + 1) 24 #[.slice (some ⟨b', off', none⟩) n' cap', .int .i64 err'] ∧ Blk wx (w.heap.size + 2) 24 #[.slice none 0 0, .int .i64 0] ∧ Blk wx g3 24 #[v, .int .i64 (err + err')]) (fun i _ => n' - (intOf i).toNat)
  case atStart => exact ⟨0, .slice none 0 0, Nat.zero_le _, rfl, World.ownsRow_nil _ _ _ _, hbs, (B3a), x0_3, x1_3, r_3, o_3⟩
  case round =>
    clear x0_3c0 x0_3c1 x0_3l x1_3c0 x1_3c1 x1_3l r_3c0 r_3c1 r_3l o_3c0 o_3c1 o_3l
    obtain ⟨k, v, hk, rfl, ow_20, hbr, Br, x0_20, x1_20, r_20, o_20⟩ := hrel
    have x0_20c0 := x0_20.cell 0
    have x0_20c1 := x0_20.cell 1
    simp only [List.getElem?_toArray, List.getElem?_cons_zero, List.getElem?_cons_succ] at x0_20c0 x0_20c1
    have x0_20l := x0_20.lt
    have x1_20c0 := x1_20.cell 0
    have x1_20c1 := x1_20.cell 1
    simp only [List.getElem?_toArray, List.getElem?_cons_zero, List.getElem?_cons_succ] at x1_20c0 x1_20c1
    have x1_20l := x1_20.lt
    have r_20c0 := r_20.cell 0
    have r_20c1 := r_20.cell 1
    simp only [List.getElem?_toArray, List.getElem?_cons_zero, List.getElem?_cons_succ] at r_20c0 r_20c1
    have r_20l := r_20.lt
    have o_20c0 := o_20.cell 0
    have o_20c1 := o_20.cell 1
    simp only [List.getElem?_toArray, List.getElem?_cons_zero, List.getElem?_cons_succ] at o_20c0 o_20c1
    have o_20l := o_20.lt
    have HLT := Lib.hid (fun (q : Nat) hq => own_lt (g := q) ow_20 hq)
    by_cases hkn : k < n'
    · have hkl : k < ks.length := by rw [HLen.out]; exact hkn
      have hkl' : k < ks'.length := by rw [HLen'.out]; exact hkn
      have hK := HKn.out.below Br
      have hK' := HKn'.out.below Br
      have lt1 := hK.lt
      have lt2 := hK'.lt
      have xx := hK.x k hkl
      have xy := hK.y k hkl
      have hKK := hK'
      obtain ⟨y1, y2⟩ := HV.out.y0 k hkl
      obtain ⟨z1, z2⟩ := HV'.out.y0 k hkl'
      have HFc := Lib.hid (fun W => HF.out (ky ks k) (ky ks' k) W y1 y2 z1 z2)
      have HTk := Lib.hid (HT.out k hkl)
      have HK' := Lib.hid (HKn'.out.y k hkl')
      clear hK hK' hKK
      generalize kx ks k = ax at *
      generalize ky ks k = ay at *
      generalize ky ks' k = byy at *
      generalize f ay byy = fy at *
      have hwl := Br.size
      have B21 := Br
      have B21a := B21.alloc B21.size (.cells #[.int .i64 ax, .int .i64 ay] 108)
      go_wp2_with fail
      clear x0_20c0 x0_20c1 x0_20l x1_20c0 x1_20c1 x1_20l r_20c0 r_20c1 r_20l o_20c0 o_20c1 o_20l
      have x0_21 := (x0_20.alloc (.cells #[.int .i64 ax, .int .i64 ay] 108))
      have x1_21 := (x1_20.alloc (.cells #[.int .i64 ax, .int .i64 ay] 108))
      have r_21 := (r_20.alloc (.cells #[.int .i64 ax, .int .i64 ay] 108))
      have o_21 := (o_20.alloc (.cells #[.int .i64 ax, .int .i64 ay] 108))
      have ow_21 := (ow_20.alloc (.cells #[.int .i64 ax, .int .i64 ay] 108))
      clear x0_20 x1_20 r_20 o_20
      have kn_21 := (Blk.new wr 108 #[.int .i64 ax, .int .i64 ay])
      generalize hV21 : wr.alloc (.cells #[.int .i64 ax, .int .i64 ay] 108) = V21 at *
      generalize hg21 : wr.heap.size = g21 at *
      clear hV21 hg21
      have x0_21c0 := x0_21.cell 0
      have x0_21c1 := x0_21.cell 1
      simp only [List.getElem?_toArray, List.getElem?_cons_zero, List.getElem?_cons_succ] at x0_21c0 x0_21c1
      have x0_21l := x0_21.lt
      have x1_21c0 := x1_21.cell 0
      have x1_21c1 := x1_21.cell 1
      simp only [List.getElem?_toArray, List.getElem?_cons_zero, List.getElem?_cons_succ] at x1_21c0 x1_21c1
      have x1_21l := x1_21.lt
      have r_21c0 := r_21.cell 0
      have r_21c1 := r_21.cell 1
      simp only [List.getElem?_toArray, List.getElem?_cons_zero, List.getElem?_cons_succ] at r_21c0 r_21c1
      have r_21l := r_21.lt
      have o_21c0 := o_21.cell 0
      have o_21c1 := o_21.cell 1
      simp only [List.getElem?_toArray, List.getElem?_cons_zero, List.getElem?_cons_succ] at o_21c0 o_21c1
      have o_21l := o_21.lt
      have kn_21c0 := kn_21.cell 0
      have kn_21c1 := kn_21.cell 1
      simp only [List.getElem?_toArray, List.getElem?_cons_zero, List.getElem?_cons_succ] at kn_21c0 kn_21c1
      have kn_21l := kn_21.lt
      clear xx xy
      have OW := Lib.hid ow_21
      refine wp_region_preC 18 [(15, 56), (16, 57)] (fun v' => Below w.heap.size w v' ∧ (g3 + 1) ≤ v'.heap.size ∧ Blk v' w.heap.size 24 #[.slice (some ⟨b, off, none⟩) n' cap, .int .i64 err] ∧ Blk v' (w.heap.size + 1) 24 #[.slice (some ⟨b', off', none⟩) n' cap', .int .i64 err'] ∧ Blk v' (w.heap.size + 2) 24 #[.slice none 0 0, .int .i64 0] ∧ Blk v' g3 24 #[v, .int .i64 (err + err')] ∧ Blk v' g21 108 #[.int .i64 ax, .int .i64 ay]) (OneRow 108 2 ((g3 + 1)) (k) 15 16 v (((jnL f ks ks').take k).flatMap encF) [.int .i64 ax, .int .i64 fy]) (by kernel_rfl) (by kernel_rfl) ?hw ?hC ?h0 ?hP ?ex
      case hw => exact ⟨B21a, by omega, x0_21, x1_21, r_21, o_21, kn_21⟩
      case hC =>
        rintro v1 v2 ⟨h0, hb0, qx0, qx1, qr, qo, qkn⟩ kk
        exact ⟨h0.trans (kk.mono h0.size), Nat.le_trans hb0 kk.size, qx0.below kk, qx1.below kk, qr.below kk, qo.below kk, qkn.below kk⟩
      case h0 =>
        intro v' hv'
        refine OneRow.below (W := V21) ?_ hv'
        exact ⟨by simpa using OW.out, fun h => (by cases h)⟩
      case hP => exact fun ls vs v v' _ h kk => h.below kk
      case ex =>
        apply Exists.intro
        refine ⟨?walk, ?loud⟩
        case walk =>
          rintro V ⟨h0, hb0, qx0, qx1, qr, qo, qkn⟩
          have x0_vc0 := qx0.cell 0
          have x0_vc1 := qx0.cell 1
          simp only [List.getElem?_toArray, List.getElem?_cons_zero, List.getElem?_cons_succ] at x0_vc0 x0_vc1
          have x0_vl := qx0.lt
          have x1_vc0 := qx1.cell 0
          have x1_vc1 := qx1.cell 1
          simp only [List.getElem?_toArray, List.getElem?_cons_zero, List.getElem?_cons_succ] at x1_vc0 x1_vc1
          have x1_vl := qx1.lt
          have r_vc0 := qr.cell 0
          have r_vc1 := qr.cell 1
          simp only [List.getElem?_toArray, List.getElem?_cons_zero, List.getElem?_cons_succ] at r_vc0 r_vc1
          have r_vl := qr.lt
          have o_vc0 := qo.cell 0
          have o_vc1 := qo.cell 1
          simp only [List.getElem?_toArray, List.getElem?_cons_zero, List.getElem?_cons_succ] at o_vc0 o_vc1
          have o_vl := qo.lt
          have kn_vc0 := qkn.cell 0
          have kn_vc1 := qkn.cell 1
          simp only [List.getElem?_toArray, List.getElem?_cons_zero, List.getElem?_cons_succ] at kn_vc0 kn_vc1
          have kn_vl := qkn.lt
          have BV := h0
          have hcy := ((BV).cell (p := ⟨b', off' + k * 2 + 1, none⟩) HKn'.out.lt).trans HK'.out
          have hlb := Nat.lt_of_lt_of_le HKn'.out.lt BV.size
          obtain ⟨xc, xf⟩ := xcell (W := V)
          simp only [List.take_succ_cons, List.take_zero, qOf, isLoud, List.any_cons, List.any_nil, Nat.reduceBEq, Bool.or_false, Bool.or_true, Nat.reduceAdd, Bool.false_eq_true, if_true, if_false, beq_self_eq_true, Nat.zero_add]
          repeat (first | go_big_quiet_step ((with_reducible refine calls_ext (HFc.out _))) | quiet_step ((with_reducible refine calls_ext (HFc.out _))))
          exact wpQuiet_nil rfl
        case loud =>
          simp only [List.drop_succ_cons, List.drop_zero]
          refine ⟨?_, ?_⟩
          · rintro p hp vs V ⟨h0, hb0, qx0, qx1, qr, qo, qkn⟩ ls hI hls hw o ho
            simp only [List.mem_cons, List.not_mem_nil, or_false] at hp
            rcases hp with rfl | rfl
            · simp only [List.getElem?_cons_succ, List.getElem?_cons_zero, Option.some.injEq] at ho
              subst ho
              simp [loudAt, loudUpon, go_sem, execOp, putsL, Act.put]
              exact ⟨⟨h0.alloc h0.size _, by omega, qx0.alloc _, qx1.alloc _, qr.alloc _, qo.alloc _, qkn.alloc _⟩, hI.lay (by decide)⟩
            · have h9 := hw (15, 56) (by simp) (by kernel_rfl)
              obtain ⟨g, e, hbk⟩ := hI.new h9 hls
              have hrow := hI.row
              have h8 := hls
              simp only [h8, cond_false, Nat.add_zero, List.append_nil] at hrow
              simp only [List.getElem?_cons_succ, List.getElem?_cons_zero, Option.some.injEq] at ho
              subst ho
              refine loudAt_append (.tmp 42) (.tmp 56) 22 rfl ((g3 + 1)) 108 i0 (.agg #[.int .i64 0, .int .i64 0]) 2 16 Try.underlying22 HI.out.1 HI.out.2.1 HI.out.2.2.1 HI.out.2.2.2 rfl (by decide) v (k) (((jnL f ks ks').take k).flatMap encF) rfl hrow ⟨g, 0, none⟩ 1 1 [.int .i64 ax, .int .i64 fy] e rfl ?c1 ?c2 ?c3 ?c4 hb0 ?_
              case c1 =>
                have g0 := hbk.cell 0
                have g1 := hbk.cell 1
                simp only [List.getElem?_toArray, List.getElem?_cons_zero, List.getElem?_cons_succ] at g0 g1
                intro j' u hj'
                match j', hj' with
                | 0, hj' => simp at hj'; subst hj'; simpa [Addr.add] using g0
                | 1, hj' => simp at hj'; subst hj'; simpa [Addr.add] using g1
              case c2 => intro u hu; simp at hu; rcases hu with rfl | rfl <;> rfl
              case c3 => unfold maxLen; omega
              case c4 => omega
              intro v' w2 hown' hgrow hat
              refine ⟨⟨h0.grown hgrow h0.size (fun kk hk => by have := HLT.out _ hk; omega), Nat.le_trans hb0 hgrow.size, qx0.grown hgrow (fun h => by have := HLT.out _ h; omega), qx1.grown hgrow (fun h => by have := HLT.out _ h; omega), qr.grown hgrow (fun h => by have := HLT.out _ h; omega), qo.grown hgrow (fun h => by have := HLT.out _ h; omega), qkn.grown hgrow (fun h => by have := HLT.out _ h; omega)⟩, hI.app v' hown'⟩
          · rintro ls vs V22 ⟨B22, hbase22, x0_22, x1_22, r_22, o_22, kn_22⟩ hI hls
            have h8 := hls (16, 57) (by simp)
            have hrow := hI.row
            simp only [h8, cond_true] at hrow
            have HN := Lib.hid hrow
            clear hrow hI hls h8
            simp only [putsL, List.foldl_cons, List.foldl_nil, Act.put, List.setIfInBounds_toArray, List.set_cons_succ, List.set_cons_zero]
            generalize vs 16 = v7 at *
            generalize vs 15 = v6 at *
            obtain ⟨g', cap', rfl⟩ := ownsRow_succ HN.out
            have x0_22c0 := x0_22.cell 0
            have x0_22c1 := x0_22.cell 1
            simp only [List.getElem?_toArray, List.getElem?_cons_zero, List.getElem?_cons_succ] at x0_22c0 x0_22c1
            have x0_22l := x0_22.lt
            have x1_22c0 := x1_22.cell 0
            have x1_22c1 := x1_22.cell 1
            simp only [List.getElem?_toArray, List.getElem?_cons_zero, List.getElem?_cons_succ] at x1_22c0 x1_22c1
            have x1_22l := x1_22.lt
            have r_22c0 := r_22.cell 0
            have r_22c1 := r_22.cell 1
            simp only [List.getElem?_toArray, List.getElem?_cons_zero, List.getElem?_cons_succ] at r_22c0 r_22c1
            have r_22l := r_22.lt
            have o_22c0 := o_22.cell 0
            have o_22c1 := o_22.cell 1
            simp only [List.getElem?_toArray, List.getElem?_cons_zero, List.getElem?_cons_succ] at o_22c0 o_22c1
            have o_22l := o_22.lt
            have kn_22c0 := kn_22.cell 0
            have kn_22c1 := kn_22.cell 1
            simp only [List.getElem?_toArray, List.getElem?_cons_zero, List.getElem?_cons_succ] at kn_22c0 kn_22c1
            have kn_22l := kn_22.lt
            have of0 := o_22.frozen 0
            go_wp2
            go_roundw
            case rel =>
              refine ⟨k + 1, .slice (some ⟨g', 0, none⟩) (k + 1) cap', by omega, by go_num, ?_, by simpa [World.setCell] using hbase22, ?_⟩
              · rw [HTk.out]
                have := owns_grown HN.out (grownBy_setCell' V22 g3 (.slice (some ⟨g', 0, none⟩) (k + 1) cap')) (fun q hq e => by have := (own_lt HN.out hq).1; have e2 := Option.some.inj e; omega)
                simpa using this
              · exact ⟨B22.setCell (p := ⟨g3, 0, none⟩) (by simp <;> omega) _, x0_22.far (p := ⟨g3, 0, none⟩) (by simp <;> omega) _, x1_22.far (p := ⟨g3, 0, none⟩) (by simp <;> omega) _, r_22.far (p := ⟨g3, 0, none⟩) (by simp <;> omega) _, by simpa using o_22.set_ 0 (.slice (some ⟨g', 0, none⟩) (k + 1) cap')⟩
            case measure => simp [intOf]; omega
    · have hkk : k = n' := by omega
      subst hkk
      rw [List.take_of_length_le (by rw [HJl.out, HLen.out]; exact Nat.le_refl _)] at ow_20
      obtain ⟨m, rfl⟩ : ∃ m, k = m + 1 := ⟨k - 1, by omega⟩
      obtain ⟨g', cap', rfl⟩ := ownsRow_succ ow_20
      have hgl := own_lt (g := g') ow_20 rfl
      have HKo := Lib.hid (Kn_of_row (by rw [HJl.out, HLen.out]) ow_20)
      have HC := Lib.hid (fun W (hW : Kn W g' 0 (jnL f ks ks')) => Check_any (some ⟨g', 0, none⟩) (m + 1) cap' (err + err') (jnL f ks ks') W ⟨by rw [HJl.out, HLen.out], fun _ => ⟨g', 0, rfl, hW⟩⟩ (by omega))
      have HCA := Lib.hid (fun W (hW : Kn W g' 0 (jnL f ks ks')) => (⟨by rw [HJl.out, HLen.out], fun _ => ⟨g', 0, rfl, hW⟩⟩ : CAt W (some ⟨g', 0, none⟩) (m + 1) (jnL f ks ks')))
      clear ow_20 HLT
      have x0_20c0 := x0_20.cell 0
      have x0_20c1 := x0_20.cell 1
      simp only [List.getElem?_toArray, List.getElem?_cons_zero, List.getElem?_cons_succ] at x0_20c0 x0_20c1
      have x0_20l := x0_20.lt
      have x1_20c0 := x1_20.cell 0
      have x1_20c1 := x1_20.cell 1
      simp only [List.getElem?_toArray, List.getElem?_cons_zero, List.getElem?_cons_succ] at x1_20c0 x1_20c1
      have x1_20l := x1_20.lt
      have r_20c0 := r_20.cell 0
      have r_20c1 := r_20.cell 1
      simp only [List.getElem?_toArray, List.getElem?_cons_zero, List.getElem?_cons_succ] at r_20c0 r_20c1
      have r_20l := r_20.lt
      have o_20c0 := o_20.cell 0
      have o_20c1 := o_20.cell 1
      simp only [List.getElem?_toArray, List.getElem?_cons_zero, List.getElem?_cons_succ] at o_20c0 o_20c1
      have o_20l := o_20.lt
      have hjd := HJd.out
      by_cases hc : check (jnL f ks ks') (err + err') = 0
      case neg =>
        rw [if_pos hc] at hjd
        obtain ⟨hR, hFz⟩ := HJn.out _ hjd (by omega)
        have HQ := Lib.hid (And.intro hjd (And.intro hR hFz))
        have hc1 : (check (jnL f ks ks') (err + err') != 0) = true := by simpa using hc
        generalize check (jnL f ks ks') (err + err') = ce at *
        clear hjd hR hFz hc
        have B21 := Br
        go_wp2_with fail
        refine (HC.out _ (HKo.out)).mono ?_; rintro e w21 ⟨rfl, hb21⟩
        clear x0_20c0 x0_20c1 x0_20l x1_20c0 x1_20c1 x1_20l r_20c0 r_20c1 r_20l o_20c0 o_20c1 o_20l
        have x0_21 := x0_20.below hb21
        have x1_21 := x1_20.below hb21
        have r_21 := r_20.below hb21
        have o_21 := o_20.below hb21
        clear x0_20 x1_20 r_20 o_20
        have x0_21c0 := x0_21.cell 0
        have x0_21c1 := x0_21.cell 1
        simp only [List.getElem?_toArray, List.getElem?_cons_zero, List.getElem?_cons_succ] at x0_21c0 x0_21c1
        have x0_21l := x0_21.lt
        have x1_21c0 := x1_21.cell 0
        have x1_21c1 := x1_21.cell 1
        simp only [List.getElem?_toArray, List.getElem?_cons_zero, List.getElem?_cons_succ] at x1_21c0 x1_21c1
        have x1_21l := x1_21.lt
        have r_21c0 := r_21.cell 0
        have r_21c1 := r_21.cell 1
        simp only [List.getElem?_toArray, List.getElem?_cons_zero, List.getElem?_cons_succ] at r_21c0 r_21c1
        have r_21l := r_21.lt
        have o_21c0 := o_21.cell 0
        have o_21c1 := o_21.cell 1
        simp only [List.getElem?_toArray, List.getElem?_cons_zero, List.getElem?_cons_succ] at o_21c0 o_21c1
        have o_21l := o_21.lt
        have hr := r_21
        have hf0 := r_21.frozen 0
        have hf1 := r_21.frozen 1
        have hl := r_21.lt
        have BZ := B21.trans (hb21.mono B21.size)
        go_wp2
        have hF := ((hr.set_ 0 (.slice none 0 0)).set_ 1 (.int .i64 0))
        have k0 := hF.cell 0
        have k1 := hF.cell 1
        simp only [List.setIfInBounds_toArray, List.set_cons_zero, List.set_cons_succ, List.getElem?_toArray, List.getElem?_cons_zero, List.getElem?_cons_succ] at k0 k1
        exact bodyPost_ret (v := .tuple #[.agg #[.slice none 0 0, .int .i64 0], .int .i64 3]) (by simp [results, Try.results112, go_sem, k0, k1]) rfl (by rw [HQ.out.1, HQ.out.2.1, HQ.out.2.2]; exact cvOut_nil rfl ((BZ.setCell (p := ⟨(w.heap.size + 2), 0, none⟩) (by simp <;> omega) _).setCell (p := ⟨(w.heap.size + 2), 1, none⟩) (by simp <;> omega) _))
      rw [if_neg (by simp [hc])] at hjd
      rw [hc] at HC
      have hR := HR.out
      have hFz := HFz.out
      rw [if_pos hjd] at hR hFz
      have HQ := Lib.hid (And.intro hjd (And.intro hR hFz))
      clear hjd hR hFz hc
      have B21 := Br
      go_wp2_with fail
      refine (HC.out _ (HKo.out)).mono ?_; rintro e w21 ⟨rfl, hb21⟩
      clear x0_20c0 x0_20c1 x0_20l x1_20c0 x1_20c1 x1_20l r_20c0 r_20c1 r_20l o_20c0 o_20c1 o_20l
      have x0_21 := x0_20.below hb21
      have x1_21 := x1_20.below hb21
      have r_21 := r_20.below hb21
      have o_21 := o_20.below hb21
      clear x0_20 x1_20 r_20 o_20
      have x0_21c0 := x0_21.cell 0
      have x0_21c1 := x0_21.cell 1
      simp only [List.getElem?_toArray, List.getElem?_cons_zero, List.getElem?_cons_succ] at x0_21c0 x0_21c1
      have x0_21l := x0_21.lt
      have x1_21c0 := x1_21.cell 0
      have x1_21c1 := x1_21.cell 1
      simp only [List.getElem?_toArray, List.getElem?_cons_zero, List.getElem?_cons_succ] at x1_21c0 x1_21c1
      have x1_21l := x1_21.lt
      have r_21c0 := r_21.cell 0
      have r_21c1 := r_21.cell 1
      simp only [List.getElem?_toArray, List.getElem?_cons_zero, List.getElem?_cons_succ] at r_21c0 r_21c1
      have r_21l := r_21.lt
      have o_21c0 := o_21.cell 0
      have o_21c1 := o_21.cell 1
      simp only [List.getElem?_toArray, List.getElem?_cons_zero, List.getElem?_cons_succ] at o_21c0 o_21c1
      have o_21l := o_21.lt
      have HKp := Lib.hid (HKo.out.below hb21)
      have hr := r_21
      have hf0 := r_21.frozen 0
      have hf1 := r_21.frozen 1
      have hl := r_21.lt
      have BZ := B21.trans (hb21.mono B21.size)
      go_wp2
      have hF := ((hr.set_ 0 ((.slice (some ⟨g', 0, none⟩) (m + 1) cap'))).set_ 1 ((.int .i64 (err + err'))))
      have k0 := hF.cell 0
      have k1 := hF.cell 1
      simp only [List.setIfInBounds_toArray, List.set_cons_zero, List.set_cons_succ, List.getElem?_toArray, List.getElem?_cons_zero, List.getElem?_cons_succ] at k0 k1
      exact bodyPost_ret (v := .tuple #[.agg #[(.slice (some ⟨g', 0, none⟩) (m + 1) cap'), (.int .i64 (err + err'))], .int .i64 0]) (by simp [results, Try.results112, go_sem, k0, k1]) rfl (by rw [HQ.out.1, HQ.out.2.1, HQ.out.2.2]; exact ⟨some ⟨g', 0, none⟩, m + 1, cap', rfl, HCA.out _ ((HKp.out.set_ (p := ⟨(w.heap.size + 2), 0, none⟩) (by simp <;> omega) _).set_ (p := ⟨(w.heap.size + 2), 1, none⟩) (by simp <;> omega) _), by omega, (fun a h => by have := Option.some.inj h; subst this; have := hgl; dsimp only; omega), ((BZ.setCell (p := ⟨(w.heap.size + 2), 0, none⟩) (by simp <;> omega) _).setCell (p := ⟨(w.heap.size + 2), 1, none⟩) (by simp <;> omega) _)⟩)

theorem Add1_any (a b : Int) (W : World) (h1 : -65536 ≤ a) (h2 : a ≤ 65536) (h3 : -65536 ≤ b) (h4 : b ≤ 65536) : Calls Try.prog 113 #[.int .i64 a, .int .i64 b] W fun e w' => e = .returned (.int .i64 ((fun a b => a + b) a b)) ∧ Below W.heap.size W w' := by
  go_enter Try.func113, Try.ntmps113
  go_wp2
  go_ret
  exact ⟨rfl, Below.refl _ _⟩
theorem Add_any (A A' : Option Addr) (n cap n' cap' : Nat) (err err' : Int) (ks ks' : List (Int × Int)) (w : World) (h : CAt w A n ks) (hm : n ≤ 9223372036854775807) (h' : CAt w A' n' ks') (hm' : n' ≤ 9223372036854775807) :
    Calls Try.prog 52 #[vCv A n cap err, vCv A' n' cap' err'] w (cvOut w (jnR (fun a b => a + b) ks ks' err err') (jnF (fun a b => a + b) ks ks' err err') (jnErr (fun a b => a + b) ks ks' err err')) := by
  have HJ := Lib.hid (fun W (hW : CAt W A n ks) (hW' : CAt W A' n' ks') => joined_any 113 (enters_of Try.func113 (by kernel_rfl) rfl) (fun a b => a + b) Add1_any A A' n cap n' cap' err err' ks ks' W hW hm hW' hm')
  have HA := Lib.hid h
  have HA' := Lib.hid h'
  clear h h'
  generalize jnR (fun a b => a + b) ks ks' err err' = R at *
  generalize jnF (fun a b => a + b) ks ks' err err' = Fz at *
  generalize jnErr (fun a b => a + b) ks ks' err err' = E at *
  generalize hW : ((w.alloc (.cells #[.slice A n cap, .int .i64 err] 24)).alloc (.cells #[.slice A' n' cap', .int .i64 err'] 24)).alloc (.cells #[.slice none 0 0, .int .i64 0] 24) = W
  have B0 : Below w.heap.size w W := by rw [← hW]; exact ((((Below.refl w.heap.size w).alloc (Nat.le_refl _) _).alloc (by simp) _).alloc (by simp; omega) _)
  have x0_0 : Blk W w.heap.size 24 #[.slice A n cap, .int .i64 err] := by rw [← hW]; exact (((Blk.at_new _ _ rfl).alloc _).alloc _)
  have x1_0 : Blk W (w.heap.size + 1) 24 #[.slice A' n' cap', .int .i64 err'] := by rw [← hW]; exact ((Blk.at_new _ _ (by simp)).alloc _)
  have r_0 : Blk W (w.heap.size + 2) 24 #[.slice none 0 0, .int .i64 0] := by rw [← hW]; exact (Blk.at_new _ _ (by simp))
  have HWE := Lib.hid hW
  clear hW
  go_enter Try.func52, Try.ntmps52
  have B1 := B0
  go_wp2_with fail
  rw [HWE.out]
  refine (HJ.out _ (HA.out.below B1) (HA'.out.below B1)).mono ?_; rintro e w1 ⟨A2, n2, cap2, rfl, hC2, hn2, hfr, hb1⟩
  have x0_1 := x0_0.below hb1
  have x1_1 := x1_0.below hb1
  have r_1 := r_0.below hb1
  clear x0_0 x1_0 r_0
  have x0_1c0 := x0_1.cell 0
  have x0_1c1 := x0_1.cell 1
  simp only [List.getElem?_toArray, List.getElem?_cons_zero, List.getElem?_cons_succ] at x0_1c0 x0_1c1
  have x0_1l := x0_1.lt
  have x1_1c0 := x1_1.cell 0
  have x1_1c1 := x1_1.cell 1
  simp only [List.getElem?_toArray, List.getElem?_cons_zero, List.getElem?_cons_succ] at x1_1c0 x1_1c1
  have x1_1l := x1_1.lt
  have r_1c0 := r_1.cell 0
  have r_1c1 := r_1.cell 1
  simp only [List.getElem?_toArray, List.getElem?_cons_zero, List.getElem?_cons_succ] at r_1c0 r_1c1
  have r_1l := r_1.lt
  have HC2 := Lib.hid hC2
  have hlr : (w.heap.size + 2) < W.heap.size := by rw [← HWE.out]; simp
  clear hC2
  have hr := r_1
  have hf0 := r_1.frozen 0
  have hf1 := r_1.frozen 1
  have hl := r_1.lt
  have BZ := B1.trans (hb1.mono B1.size)
  go_wp2
  have hF := ((hr.set_ 0 ((.slice A2 n2 cap2))).set_ 1 ((.int .i64 Fz)))
  have k0 := hF.cell 0
  have k1 := hF.cell 1
  simp only [List.setIfInBounds_toArray, List.set_cons_zero, List.set_cons_succ, List.getElem?_toArray, List.getElem?_cons_zero, List.getElem?_cons_succ] at k0 k1
  exact bodyPost_ret (v := .tuple #[.agg #[(.slice A2 n2 cap2), (.int .i64 Fz)], .int .i64 E]) (by simp [results, Try.results52, go_sem, k0, k1]) rfl (⟨A2, n2, cap2, rfl, CAt.sets HC2.out (r := (w.heap.size + 2)) (fun a h => by have := hfr a h; omega) _ _, hn2, (fun a h => by have := hfr a h; have := B0.size; omega), ((BZ.setCell (p := ⟨(w.heap.size + 2), 0, none⟩) (by simp <;> omega) _).setCell (p := ⟨(w.heap.size + 2), 1, none⟩) (by simp <;> omega) _)⟩)

theorem Minus1_any (a b : Int) (W : World) (h1 : -65536 ≤ a) (h2 : a ≤ 65536) (h3 : -65536 ≤ b) (h4 : b ≤ 65536) : Calls Try.prog 115 #[.int .i64 a, .int .i64 b] W fun e w' => e = .returned (.int .i64 ((fun a b => a - b) a b)) ∧ Below W.heap.size W w' := by
  go_enter Try.func115, Try.ntmps115
  go_wp2
  go_ret
  exact ⟨rfl, Below.refl _ _⟩
theorem Minus_any (A A' : Option Addr) (n cap n' cap' : Nat) (err err' : Int) (ks ks' : List (Int × Int)) (w : World) (h : CAt w A n ks) (hm : n ≤ 9223372036854775807) (h' : CAt w A' n' ks') (hm' : n' ≤ 9223372036854775807) :
    Calls Try.prog 54 #[vCv A n cap err, vCv A' n' cap' err'] w (cvOut w (jnR (fun a b => a - b) ks ks' err err') (jnF (fun a b => a - b) ks ks' err err') (jnErr (fun a b => a - b) ks ks' err err')) := by
  have HJ := Lib.hid (fun W (hW : CAt W A n ks) (hW' : CAt W A' n' ks') => joined_any 115 (enters_of Try.func115 (by kernel_rfl) rfl) (fun a b => a - b) Minus1_any A A' n cap n' cap' err err' ks ks' W hW hm hW' hm')
  have HA := Lib.hid h
  have HA' := Lib.hid h'
  clear h h'
  generalize jnR (fun a b => a - b) ks ks' err err' = R at *
  generalize jnF (fun a b => a - b) ks ks' err err' = Fz at *
  generalize jnErr (fun a b => a - b) ks ks' err err' = E at *
  generalize hW : ((w.alloc (.cells #[.slice A n cap, .int .i64 err] 24)).alloc (.cells #[.slice A' n' cap', .int .i64 err'] 24)).alloc (.cells #[.slice none 0 0, .int .i64 0] 24) = W
  have B0 : Below w.heap.size w W := by rw [← hW]; exact ((((Below.refl w.heap.size w).alloc (Nat.le_refl _) _).alloc (by simp) _).alloc (by simp; omega) _)
  have x0_0 : Blk W w.heap.size 24 #[.slice A n cap, .int .i64 err] := by rw [← hW]; exact (((Blk.at_new _ _ rfl).alloc _).alloc _)
  have x1_0 : Blk W (w.heap.size + 1) 24 #[.slice A' n' cap', .int .i64 err'] := by rw [← hW]; exact ((Blk.at_new _ _ (by simp)).alloc _)
  have r_0 : Blk W (w.heap.size + 2) 24 #[.slice none 0 0, .int .i64 0] := by rw [← hW]; exact (Blk.at_new _ _ (by simp))
  have HWE := Lib.hid hW
  clear hW
  go_enter Try.func54, Try.ntmps54
  have B1 := B0
  go_wp2_with fail
  rw [HWE.out]
  refine (HJ.out _ (HA.out.below B1) (HA'.out.below B1)).mono ?_; rintro e w1 ⟨A2, n2, cap2, rfl, hC2, hn2, hfr, hb1⟩
  have x0_1 := x0_0.below hb1
  have x1_1 := x1_0.below hb1
  have r_1 := r_0.below hb1
  clear x0_0 x1_0 r_0
  have x0_1c0 := x0_1.cell 0
  have x0_1c1 := x0_1.cell 1
  simp only [List.getElem?_toArray, List.getElem?_cons_zero, List.getElem?_cons_succ] at x0_1c0 x0_1c1
  have x0_1l := x0_1.lt
  have x1_1c0 := x1_1.cell 0
  have x1_1c1 := x1_1.cell 1
  simp only [List.getElem?_toArray, List.getElem?_cons_zero, List.getElem?_cons_succ] at x1_1c0 x1_1c1
  have x1_1l := x1_1.lt
  have r_1c0 := r_1.cell 0
  have r_1c1 := r_1.cell 1
  simp only [List.getElem?_toArray, List.getElem?_cons_zero, List.getElem?_cons_succ] at r_1c0 r_1c1
  have r_1l := r_1.lt
  have HC2 := Lib.hid hC2
  have hlr : (w.heap.size + 2) < W.heap.size := by rw [← HWE.out]; simp
  clear hC2
  have hr := r_1
  have hf0 := r_1.frozen 0
  have hf1 := r_1.frozen 1
  have hl := r_1.lt
  have BZ := B1.trans (hb1.mono B1.size)
  go_wp2
  have hF := ((hr.set_ 0 ((.slice A2 n2 cap2))).set_ 1 ((.int .i64 Fz)))
  have k0 := hF.cell 0
  have k1 := hF.cell 1
  simp only [List.setIfInBounds_toArray, List.set_cons_zero, List.set_cons_succ, List.getElem?_toArray, List.getElem?_cons_zero, List.getElem?_cons_succ] at k0 k1
  exact bodyPost_ret (v := .tuple #[.agg #[(.slice A2 n2 cap2), (.int .i64 Fz)], .int .i64 E]) (by simp [results, Try.results54, go_sem, k0, k1]) rfl (⟨A2, n2, cap2, rfl, CAt.sets HC2.out (r := (w.heap.size + 2)) (fun a h => by have := hfr a h; omega) _ _, hn2, (fun a h => by have := hfr a h; have := B0.size; omega), ((BZ.setCell (p := ⟨(w.heap.size + 2), 0, none⟩) (by simp <;> omega) _).setCell (p := ⟨(w.heap.size + 2), 1, none⟩) (by simp <;> omega) _)⟩)
end Go.Proofs.Ytipablcbkoedbaa
