/- The program's Clash. -/
import Derived.RangeFuncNested
import Derived.Shelf.Abstract
import Derived.RangeFuncBound
import Derived.RangeFuncCalls
import Derived.RangeFuncLeaves
import Derived.WalkKit
import Derived.OwnWalkIn
import Derived.OwnWalk
import Derived.TacticsInMore
import Derived.LoopNIn
import Derived.LoopIn
import Derived.WalkLawsBesides
import Derived.Deep.QuietTactic
import Derived.BigQuiet
import Derived.RegionTactic
import Derived.Lib.Hide
import Derived.Outline
import Derived.WalkSmall
import Derived.Test.YtipablcbkoedbaaProg
import Derived.Test.YtipablcbkoedbaaC9
import Derived.Test.YtipablcbkoedbaaF1
import Derived.Lib.SmallJoins
import Derived.Test.YtipablcbkoedbaaReg6
import Derived.IntWalk
import Derived.Test.YtipablcbkoedbaaF2
import Derived.Test.YtipablcbkoedbaaReg6
namespace Go.Proofs.Ytipablcbkoedbaa
open Go.RowKit

/-- Whether true values of two curves can be equal at an integer. -/
def mtB (ks ks' : List (Int × Int)) (err err' x : Int) : Bool := decide ((dfN ks ks' x).natAbs ≤ (err + err') * dfD ks ks' x)
/-- The first of m numbers from lo on at which something is not so. -/
def clG (p : Int → Bool) (lo : Int) : Nat → Option Int
  | 0 => none
  | m + 1 => match clG p lo m with | some z => some z | none => if p (lo + m) = true then none else some (lo + m)
def clX (ks ks' : List (Int × Int)) (err err' : Int) : Option Int :=
  if twErr ks ks' err err' = 0 then clG (mtB ks ks' err err') (twLo ks ks') (twHi ks ks' + 1 - twLo ks ks').toNat else none
theorem clG_more {p : Int → Bool} {lo z : Int} {m : Nat} (h : clG p lo m = some z) : ∀ d, clG p lo (m + d) = some z
  | 0 => h
  | d + 1 => by show (match clG p lo (m + d) with | some z => some z | none => _) = some z; rw [clG_more h d]
theorem clG_hit {p : Int → Bool} {lo : Int} {m M : Nat} (h : clG p lo m = none) (hp : p (lo + m) = false) (hm : m < M) : clG p lo M = some (lo + m) := by
  have h1 : clG p lo (m + 1) = some (lo + m) := by show (match clG p lo m with | some z => some z | none => _) = _; rw [h]; simp [hp]
  have := clG_more h1 (M - (m + 1))
  rwa [show m + 1 + (M - (m + 1)) = M by omega] at this
theorem clG_step {p : Int → Bool} {lo : Int} {m : Nat} (h : clG p lo m = none) (hp : p (lo + m) = true) : clG p lo (m + 1) = none := by
  show (match clG p lo m with | some z => some z | none => _) = _
  rw [h]; simp [hp]
theorem clG_spec {p : Int → Bool} {lo : Int} : ∀ m, (clG p lo m = none → ∀ x, lo ≤ x → x < lo + m → p x = true) ∧ (∀ z, clG p lo m = some z → lo ≤ z ∧ z < lo + m ∧ p z = false ∧ ∀ x, lo ≤ x → x < z → p x = true)
  | 0 => ⟨fun _ x a b => by omega, fun z h => by cases h⟩
  | m + 1 => by
    obtain ⟨h1, h2⟩ := clG_spec (p := p) (lo := lo) m
    have e : clG p lo (m + 1) = (match clG p lo m with | some z => some z | none => if p (lo + m) = true then none else some (lo + m)) := rfl
    rw [e]
    cases hc : clG p lo m with
    | some z =>
      obtain ⟨a, b, c, d⟩ := h2 z hc
      exact ⟨(fun h => by cases h), (fun z' h => by obtain rfl := Option.some.inj h; exact ⟨a, by omega, c, d⟩)⟩
    | none =>
      by_cases hp : p (lo + m) = true
      · refine ⟨fun _ x a b => ?_, fun z h => ?_⟩
        · by_cases hx : x = lo + m
          · rw [hx]; exact hp
          · exact h1 hc x a (by omega)
        · dsimp only at h; rw [if_pos hp] at h; cases h
      · have hp' : p (lo + m) = false := by simpa using hp
        refine ⟨fun h => ?_, fun z h => ?_⟩
        · dsimp only at h; rw [if_neg hp] at h; cases h
        · dsimp only at h; rw [if_neg hp] at h
          obtain rfl := Option.some.inj h
          exact ⟨by omega, by omega, hp', fun x a b => h1 hc x a b⟩

abbrev clOut (w : World) (o : Option Int) (e : Int) (en : Ending) (w' : World) : Prop :=
  en = .returned (.tuple #[.int .i64 (o.getD 0), .bool o.isSome, .int .i64 e]) ∧ Below w.heap.size w w'

theorem Clash_err (A A' : Option Addr) (n cap n' cap' : Nat) (err err' : Int) (ks ks' : List (Int × Int)) (w : World) (h : CAt w A n ks) (hm : n ≤ 9223372036854775807) (h' : CAt w A' n' ks') (hm' : n' ≤ 9223372036854775807) (hz : twErr ks ks' err err' ≠ 0) :
    Calls Try.prog 57 #[vCv A n cap err, vCv A' n' cap' err'] w (clOut w (clX ks ks' err err') (twErr ks ks' err err')) := by
  have hS := fun W (hW : LAt W (some ⟨w.heap.size + 2, 0, none⟩) 2 [⟨A, n, cap, err, ks⟩, ⟨A', n', cap', err', ks'⟩]) => checked_any (some ⟨w.heap.size + 2, 0, none⟩) 2 2 [⟨A, n, cap, err, ks⟩, ⟨A', n', cap', err', ks'⟩] W hW (by omega)
  rw [tw_all] at hS
  have HS := Lib.hid hS
  generalize hW : ((w.alloc (.cells #[.slice A n cap, .int .i64 err] 24)).alloc (.cells #[.slice A' n' cap', .int .i64 err'] 24)).alloc (.cells #[.slice A n cap, .int .i64 err, .slice A' n' cap', .int .i64 err'] 24) = W
  have hbw : Below w.heap.size w W := by rw [← hW]; exact (((Below.refl _ _).alloc (Nat.le_refl _) _).alloc (by simp) _).alloc (by simp; omega) _
  have hlb : Blk W (w.heap.size + 2) 24 #[.slice A n cap, .int .i64 err, .slice A' n' cap', .int .i64 err'] := by rw [← hW]; exact Blk.at_new _ _ (by simp)
  have HL := Lib.hid (lat_two hlb (h.below hbw) hm (h'.below hbw) hm')
  have HWE := Lib.hid hW
  have hcr : clX ks ks' err err' = none := by unfold clX; rw [if_neg hz]
  rw [hcr]
  have hz1 : (twErr ks ks' err err' != 0) = true := by simpa using hz
  clear hS hW h h' hz hcr
  generalize twErr ks ks' err err' = e0 at *
  go_enter Try.func57, Try.ntmps57
  go_wp2_with fail
  go_step3
  go_wp2_with fail
  rw [HWE.out]
  refine (HS.out _ HL.out).mono ?_; rintro e w1 ⟨rfl, hb1⟩
  have hb2 := hbw.trans (hb1.mono hbw.size)
  go_wp2
  rw [Exit.noGoto_ret]
  go_ret3
  exact ⟨rfl, hb2⟩

set_option maxRecDepth 100000 in
set_option maxHeartbeats 1600000 in
theorem Clash_rest (A A' : Option Addr) (n cap n' cap' : Nat) (err err' : Int) (ks ks' : List (Int × Int)) (w : World) (h : CAt w A n ks) (hm : n ≤ 9223372036854775807) (h' : CAt w A' n' ks') (hm' : n' ≤ 9223372036854775807) (hz : twErr ks ks' err err' = 0) :
    Calls Try.prog 57 #[vCv A n cap err, vCv A' n' cap' err'] w (clOut w (clX ks ks' err err') 0) := by
  have hS := fun W (hW : LAt W (some ⟨w.heap.size + 2, 0, none⟩) 2 [⟨A, n, cap, err, ks⟩, ⟨A', n', cap', err', ks'⟩]) => checked_any (some ⟨w.heap.size + 2, 0, none⟩) 2 2 [⟨A, n, cap, err, ks⟩, ⟨A', n', cap', err', ks'⟩] W hW (by omega)
  rw [tw_all, hz] at hS
  have HS := Lib.hid hS
  generalize hW : ((w.alloc (.cells #[.slice A n cap, .int .i64 err] 24)).alloc (.cells #[.slice A' n' cap', .int .i64 err'] 24)).alloc (.cells #[.slice A n cap, .int .i64 err, .slice A' n' cap', .int .i64 err'] 24) = W
  have hbw : Below w.heap.size w W := by rw [← hW]; exact (((Below.refl _ _).alloc (Nat.le_refl _) _).alloc (by simp) _).alloc (by simp; omega) _
  have hc0 : Blk W w.heap.size 24 #[.slice A n cap, .int .i64 err] := by rw [← hW]; exact ((Blk.at_new _ _ rfl).alloc _).alloc _
  have hd0 : Blk W (w.heap.size + 1) 24 #[.slice A' n' cap', .int .i64 err'] := by rw [← hW]; exact (Blk.at_new _ _ (by simp)).alloc _
  have hlb : Blk W (w.heap.size + 2) 24 #[.slice A n cap, .int .i64 err, .slice A' n' cap', .int .i64 err'] := by rw [← hW]; exact Blk.at_new _ _ (by simp)
  have HL := Lib.hid (lat_two hlb (h.below hbw) hm (h'.below hbw) hm')
  have HWE := Lib.hid hW
  have hcr : clX ks ks' err err' = clG (mtB ks ks' err err') (twLo ks ks') (twHi ks ks' + 1 - twLo ks ks').toNat := by unfold clX; rw [if_pos hz]
  rw [hcr]
  obtain ⟨hv, hv', he, he'⟩ := tw_valid hz
  have hAll : AllValid [⟨A, n, cap, err, ks⟩, ⟨A', n', cap', err', ks'⟩] := by
    intro i hi
    match i, hi with
    | 0, _ => exact ⟨hv, he.1, he.2⟩
    | 1, _ => exact ⟨hv', he'.1, he'.2⟩
  have HShd := Lib.hid (fun V (g : Nat) (hV : LAt V (some ⟨g, 0, none⟩) 2 [⟨A, n, cap, err, ks⟩, ⟨A', n', cap', err', ks'⟩]) => (show shLo [⟨A, n, cap, err, ks⟩, ⟨A', n', cap', err', ks'⟩] = twLo ks ks' from rfl) ▸ (show shHi [⟨A, n, cap, err, ks⟩, ⟨A', n', cap', err', ks'⟩] = twHi ks ks' from rfl) ▸ shared_any (some ⟨g, 0, none⟩) 2 2 [⟨A, n, cap, err, ks⟩, ⟨A', n', cap', err', ks'⟩] V hV (by omega) hAll)
  have hpos := hv.pos
  have hpos' := hv'.pos
  have hlen := h.len
  have hlen' := h'.len
  have HAt := Lib.hid (h.below hbw)
  have HAt' := Lib.hid (h'.below hbw)
  obtain ⟨b, off, hAe, hkn⟩ := h.at_ (by omega)
  obtain ⟨b', off', hAe', hkn'⟩ := h'.at_ (by omega)
  subst hAe hAe' hlen hlen'
  have HKn := Lib.hid hkn
  have HKn' := Lib.hid hkn'
  have HK := Lib.hid (hkn.below hbw)
  have HK' := Lib.hid (hkn'.below hbw)
  have hlo0 : 0 ≤ twLo ks ks' := by unfold twLo; omega
  have hhi0 : twHi ks ks' ≤ 2000 := by unfold twHi; omega
  have hlo1 : kx ks 0 ≤ twLo ks ks' := by unfold twLo domLo; omega
  have hlo2 : kx ks' 0 ≤ twLo ks ks' := by unfold twLo domLo; omega
  have hlo3 : twLo ks ks' ≤ 2000 := by have := (hv.x0 0 hpos).2; have := (hv'.x0 0 hpos').2; unfold twLo domLo; omega
  have hhi3 : 0 ≤ twHi ks ks' := by have := (hv.x0 (ks.length - 1) (by omega)).1; have := (hv'.x0 (ks'.length - 1) (by omega)).1; unfold twHi domHi; omega
  have HV := Lib.hid hv
  have HV' := Lib.hid hv'
  have heb := he
  have heb' := he'
  clear hS hW h h' hz hcr hAll hkn hkn' he he' hv hv'
  generalize hlo : twLo ks ks' = lo at *
  generalize hhi : twHi ks ks' = hi at *
  clear hlo hhi
  go_enter Try.func57, Try.ntmps57
  go_wp2_with fail
  go_step3
  go_wp2_with fail
  rw [HWE.out]
  refine (HS.out _ HL.out).mono ?_; rintro e w1 ⟨rfl, hb1⟩
  have hc1 := hc0.below hb1
  have hd1 := hd0.below hb1
  have hk0 := hc1.cell 0
  have hk1 := hc1.cell 1
  have hk2 := hd1.cell 0
  have hk3 := hd1.cell 1
  simp only [List.getElem?_toArray, List.getElem?_cons_zero, List.getElem?_cons_succ] at hk0 hk1 hk2 hk3
  have hcl := hc1.lt
  have hdl := hd1.lt
  have hlb2 := lat_two (Blk.new w1 24 #[.slice (some ⟨b, off, none⟩) ks.length cap, .int .i64 err, .slice (some ⟨b', off', none⟩) ks'.length cap', .int .i64 err']) ((HAt.out.below hb1).below ((Below.refl _ _).alloc (Nat.le_refl _) _)) hm ((HAt'.out.below hb1).below ((Below.refl _ _).alloc (Nat.le_refl _) _)) hm'
  have HL2 := Lib.hid hlb2
  clear hlb2
  go_wp2_with fail
  refine (HShd.out _ _ HL2.out).mono ?_; rintro e w2 ⟨rfl, hb2⟩
  have hb12 := ((Below.refl w1.heap.size w1).alloc (Nat.le_refl _) (.cells #[.slice (some ⟨b, off, none⟩) ks.length cap, .int .i64 err, .slice (some ⟨b', off', none⟩) ks'.length cap', .int .i64 err'] 24)).trans (hb2.mono (by simp))
  have hbb := (hbw.trans (hb1.mono hbw.size)).trans (hb12.mono (by have := hbw.size; have := hb1.size; omega))
  have hKb := (HK.out.below hb1).below hb12
  have hKb' := (HK'.out.below hb1).below hb12
  have hc2 := hc1.below hb12
  have hd2 := hd1.below hb12
  have HB := Lib.hid hbb
  have HKb := Lib.hid hKb
  have HKb' := Lib.hid hKb'
  have HC2 := Lib.hid hc2
  have HD2 := Lib.hid hd2
  have hcl2 := hc2.lt
  have hdl2 := hd2.lt
  have hbl2 := hKb.lt
  have hbl2' := hKb'.lt
  clear hk0 hk1 hk2 hk3 hcl hdl hb2 hb1 hb12 hbb hKb hKb' hc2 hd2 hc1 hd1 hc0 hd0 hlb hbw
  have hbA := HB.out.alloc HB.out.size (.cells #[.int .i64 lo, .int .i64 hi] 26)
  have HC3 := Lib.hid (HC2.out.alloc (.cells #[.int .i64 lo, .int .i64 hi] 26))
  have HD3 := Lib.hid (HD2.out.alloc (.cells #[.int .i64 lo, .int .i64 hi] 26))
  have HS3 := Lib.hid (Blk.new w2 26 #[.int .i64 lo, .int .i64 hi])
  have HBA := Lib.hid hbA
  have hw2 : w.heap.size + 1 < w2.heap.size := hdl2
  clear hbA
  go_wp2_with fail
  go_step3
  go_wp2_with fail
  go_loopw [9] (fun i wr => ∃ (m : Nat) (X : Int), X = lo + m ∧ m ≤ (hi + 1 - lo).toNat ∧ i = .int .i64 X ∧ clG (mtB ks ks' err err') lo m = none ∧
      Blk wr w.heap.size 24 #[.slice (some ⟨b, off, none⟩) ks.length cap, .int .i64 err] ∧ Blk wr (w.heap.size + 1) 24 #[.slice (some ⟨b', off', none⟩) ks'.length cap', .int .i64 err'] ∧
      Blk wr w2.heap.size 26 #[.int .i64 lo, .int .i64 hi] ∧ Below w.heap.size w wr) (fun i _ => (hi + 1 - intOf i).toNat)
  case atStart => exact ⟨0, lo, by omega, by omega, rfl, rfl, HC3.out, HD3.out, HS3.out, HBA.out⟩
  case round =>
    obtain ⟨m, X, hX, hmM, rfl, hnone, hrc, hrd, hrs, hb⟩ := hrel
    have HRc := Lib.hid hrc
    have HRd := Lib.hid hrd
    have hs0 := hrs.cell 0
    have hs1 := hrs.cell 1
    simp only [List.getElem?_toArray, List.getElem?_cons_zero, List.getElem?_cons_succ] at hs0 hs1
    have hsl := hrs.lt
    clear hrc hrd
    by_cases hxh : X ≤ hi
    · have hm1 : m < (hi + 1 - lo).toNat := by omega
      have hX0 : 0 ≤ X := by omega
      have hX1 : X ≤ 2000 := by omega
      have HHit := Lib.hid (fun (h : mtB ks ks' err err' X = false) => (hX ▸ clG_hit hnone (by rw [← hX]; exact h) hm1 : clG (mtB ks ks' err err') lo (hi + 1 - lo).toNat = some X))
      have HGo := Lib.hid (fun (h : mtB ks ks' err err' X = true) => clG_step hnone (by rw [← hX]; exact h))
      have hdf := df_bd HV.out HV'.out (x := X) (by omega) (by omega)
      have hfd := fD_frb HV.out HV'.out (x := X) (by omega) (by omega)
      have ho1 : ∀ W, Calls Try.prog 111 #[vFrac (valN ks X) (valD ks X), vFrac (valN ks' X) (valD ks' X)] W fun e w' => e = .returned (vFrac (dfN ks ks' X) (dfD ks ks' X)) ∧ Below W.heap.size W w' :=
        fun W => less_any (valN ks X) (valD ks X) (valN ks' X) (valD ks' X) W (by omega) (by omega) (by omega) (by omega) (by omega) (by omega)
      have HO1 := Lib.hid ho1
      clear ho1
      have HVa := Lib.hid (fun W hW => value_any b off cap err ks X W hW HV.out hX0 hX1)
      have HVb := Lib.hid (fun W hW => value_any b' off' cap' err' ks' X W hW HV'.out hX0 hX1)
      have HKr := Lib.hid (HKn.out.below hb)
      have HKr' := Lib.hid (HKn'.out.below hb)
      have q1 := hfd.n1
      have q2 := hfd.n2
      have q3 := hfd.d1
      have q4 := hfd.d2
      dsimp only at q1 q2 q3 q4
      have HX := Lib.hid hX
      have HMt := Lib.hid (show mtB ks ks' err err' X = decide (((dfN ks ks' X).natAbs : Int) ≤ (err + err') * dfD ks ks' X) from rfl)
      clear hX hdf hfd hnone
      generalize dfN ks ks' X = n3 at *
      generalize dfD ks ks' X = d3 at *
      generalize mtB ks ks' err err' X = bm at *
      generalize valN ks X = n1 at *
      generalize valD ks X = d1 at *
      generalize valN ks' X = n2 at *
      generalize valD ks' X = d2 at *
      have HSz := Lib.hid (fun W => size_any n3 W (by omega) (by omega))
      have rc0 := HRc.out.cell 0
      have rc1 := HRc.out.cell 1
      have rd0 := HRd.out.cell 0
      have rd1 := HRd.out.cell 1
      simp only [List.getElem?_toArray, List.getElem?_cons_zero, List.getElem?_cons_succ] at rc0 rc1 rd0 rd1
      have bc_0 := HRc.out
      have bd_0 := HRd.out
      have bs_0 := hrs
      have B0 := hb
      go_wp2_with fail
      refine wp_region_new 8 7 10 30 #[.int .i64 0, .int .i64 0] (by kernel_rfl) (by kernel_rfl) ?_ ?_
      · intro a' v R hR o ho
        simp only [List.getElem?_cons_succ, List.getElem?_cons_zero, Option.some.injEq] at ho
        subst ho
        simpa [loudAt, loudUpon, go_sem, execOp] using hR
      apply Exists.intro
      refine ⟨?_, ?_⟩
      · intro V hV
        have BV := (B0).trans (hV.mono (B0).size)
        have bc_v := bc_0.below hV
        have bc_vc0 := bc_v.cell 0
        have bc_vc1 := bc_v.cell 1
        simp only [List.getElem?_toArray, List.getElem?_cons_zero, List.getElem?_cons_succ] at bc_vc0 bc_vc1
        have bc_vl := bc_v.lt
        have bd_v := bd_0.below hV
        have bd_vc0 := bd_v.cell 0
        have bd_vc1 := bd_v.cell 1
        simp only [List.getElem?_toArray, List.getElem?_cons_zero, List.getElem?_cons_succ] at bd_vc0 bd_vc1
        have bd_vl := bd_v.lt
        have bs_v := bs_0.below hV
        have bs_vc0 := bs_v.cell 0
        have bs_vc1 := bs_v.cell 1
        simp only [List.getElem?_toArray, List.getElem?_cons_zero, List.getElem?_cons_succ] at bs_vc0 bs_vc1
        have bs_vl := bs_v.lt
        have HKV := Lib.hid (HKr.out.below hV)
        have HKV' := Lib.hid (HKr'.out.below hV)
        obtain ⟨xc, xf⟩ := xcell (W := V)
        simp only [List.take_succ_cons, List.take_zero, qOf, isLoud, List.any_cons, List.any_nil, Nat.reduceBEq, Bool.or_false, Nat.reduceAdd, Bool.false_eq_true, if_true, if_false, beq_self_eq_true, Nat.zero_add]
        repeat (first | go_big_quiet_step (first | (go_at_call 83; with_reducible refine calls_ext (HVa.out _ ?_); exact HKV.out.below (Ext.below _)) | (go_at_call 83; with_reducible refine calls_ext (HVb.out _ ?_); exact HKV'.out.below (Ext.below _)) | (go_at_call 111; with_reducible refine calls_ext (HO1.out _))) | quiet_step (first | (go_at_call 83; with_reducible refine calls_ext (HVa.out _ ?_); exact HKV.out.below (Ext.below _)) | (go_at_call 83; with_reducible refine calls_ext (HVb.out _ ?_); exact HKV'.out.below (Ext.below _)) | (go_at_call 111; with_reducible refine calls_ext (HO1.out _))))
        exact wpQuiet_nil rfl
      intro gn1 vn1 hgn1 hvn1 hbn1
      simp only [List.drop_succ_cons, List.drop_zero, Act.put, List.setIfInBounds_toArray, List.set_cons_succ, List.set_cons_zero]
      have nc0 := hbn1.cell 0
      have nc1 := hbn1.cell 1
      simp only [List.getElem?_toArray, List.getElem?_cons_zero, List.getElem?_cons_succ] at nc0 nc1
      have nf0 := hbn1.frozen 0
      have nf1 := hbn1.frozen 1
      have nl := hbn1.lt
      have bf_1 := ((hbn1.set_ 0 (.int .i64 n3)).set_ 1 (.int .i64 d3))
      simp only [List.setIfInBounds_toArray, List.set_cons_zero, List.set_cons_succ] at bf_1
      have bc_l1 := bc_0.lt
      have bc_1 := (((bc_0.below hvn1).far (p := ⟨gn1, 0, none⟩) (by simp; omega) (.int .i64 n3)).far (p := ⟨gn1, 1, none⟩) (by simp; omega) (.int .i64 d3))
      have bd_l1 := bd_0.lt
      have bd_1 := (((bd_0.below hvn1).far (p := ⟨gn1, 0, none⟩) (by simp; omega) (.int .i64 n3)).far (p := ⟨gn1, 1, none⟩) (by simp; omega) (.int .i64 d3))
      have bs_l1 := bs_0.lt
      have bs_1 := (((bs_0.below hvn1).far (p := ⟨gn1, 0, none⟩) (by simp; omega) (.int .i64 n3)).far (p := ⟨gn1, 1, none⟩) (by simp; omega) (.int .i64 d3))
      have hbv1 := ((hvn1.setCell (p := ⟨gn1, 0, none⟩) hgn1 (.int .i64 n3)).setCell (p := ⟨gn1, 1, none⟩) hgn1 (.int .i64 d3))
      have B1 := (B0).trans (hbv1.mono (B0).size)
      go_wp2_with fail
      generalize hve1 : (vn1.setCell ⟨gn1, 0, none⟩ (.int .i64 n3)).setCell ⟨gn1, 1, none⟩ (.int .i64 d3) = V1 at *
      clear hve1 nc0 nc1 nf0 nf1 nl hbn1 hvn1
      have bc_1c0 := bc_1.cell 0
      have bc_1c1 := bc_1.cell 1
      simp only [List.getElem?_toArray, List.getElem?_cons_zero, List.getElem?_cons_succ] at bc_1c0 bc_1c1
      have bc_1l := bc_1.lt
      have bd_1c0 := bd_1.cell 0
      have bd_1c1 := bd_1.cell 1
      simp only [List.getElem?_toArray, List.getElem?_cons_zero, List.getElem?_cons_succ] at bd_1c0 bd_1c1
      have bd_1l := bd_1.lt
      have bs_1c0 := bs_1.cell 0
      have bs_1c1 := bs_1.cell 1
      simp only [List.getElem?_toArray, List.getElem?_cons_zero, List.getElem?_cons_succ] at bs_1c0 bs_1c1
      have bs_1l := bs_1.lt
      have bf_1c0 := bf_1.cell 0
      have bf_1c1 := bf_1.cell 1
      simp only [List.getElem?_toArray, List.getElem?_cons_zero, List.getElem?_cons_succ] at bf_1c0 bf_1c1
      have bf_1l := bf_1.lt
      have rc0 := bc_1.cell 0
      have hc4 := bc_1
      have hd4 := bd_1
      have hs4 := bs_1
      have hf4 := bf_1
      have hb6 := B1
      obtain ⟨p1, p2⟩ := mul_bd (x := err + err') (y := d3) (A := 8000) (B := 4194304) (by omega) (by omega) (by omega) (by omega)
      have HC4 := Lib.hid hc4
      have HD4 := Lib.hid hd4
      have HS4 := Lib.hid hs4
      have HB6 := Lib.hid hb6
      have hmu : IntKind.i64.wrap (err + err') = err + err' := IntWalk.i64_in _ (by omega)
      have hmv : IntKind.i64.wrap ((err + err') * d3) = (err + err') * d3 := IntWalk.i64_in _ (by omega)
      obtain ⟨xc, xf⟩ := xcell (W := V1)
      refine wp_region_quiet_tail 12 (by kernel_rfl) (by kernel_rfl) ?_
      simp only [List.take_succ_cons, List.take_zero, List.drop_succ_cons, List.drop_zero]
      repeat (first | go_big_quiet_step ((go_at_call 117; with_reducible refine calls_ext_same (HSz.out _))) | quiet_step ((go_at_call 117; with_reducible refine calls_ext_same (HSz.out _))))
      refine wpQuiet_nil ?_
      intro w6 hb7
      have HC7 := Lib.hid (HC4.out.below hb7)
      have HD7 := Lib.hid (HD4.out.below hb7)
      have HS7 := Lib.hid (HS4.out.below hb7)
      have HB7 := Lib.hid (HB6.out.trans (hb7.mono HB6.out.size))
      have hs70 := HS7.out.cell 0
      have hs71 := HS7.out.cell 1
      simp only [List.getElem?_toArray, List.getElem?_cons_zero, List.getElem?_cons_succ] at hs70 hs71
      have hsl7 := HS7.out.lt
      clear xc xf hmu hmv
      clear bc_1c0 bc_1c1 bd_1c0 bd_1c1 bs_1c0 bs_1c1 bf_1c0 bf_1c1
      cases bm with
      | true =>
        have hle : ((n3.natAbs : Int) ≤ (err + err') * d3) := of_decide_eq_true HMt.out.symm
        clear HHit
        go_wp2
        go_roundw
        case rel => exact ⟨m + 1, X + 1, by have := HX.out; omega, by omega, rfl, HGo.out rfl, HC7.out, HD7.out, HS7.out, HB7.out⟩
        case measure => simp [intOf]; omega
      | false =>
        have hle : ¬ ((n3.natAbs : Int) ≤ (err + err') * d3) := of_decide_eq_false HMt.out.symm
        have hh := HHit.out rfl
        have HH2 := Lib.hid hh
        clear HHit hh HGo
        go_wp2
        try rw [Exit.noGoto_ret]
        go_ret3
        exact ⟨by rw [HH2.out]; rfl, HB7.out⟩
    · have hmE : m = (hi + 1 - lo).toNat := by omega
      subst hmE
      have HN := Lib.hid hnone
      clear hnone
      go_wp2
      try rw [Exit.noGoto_ret]
      go_ret3
      exact ⟨by rw [HN.out]; rfl, hb⟩
theorem Clash_any (A A' : Option Addr) (n cap n' cap' : Nat) (err err' : Int) (ks ks' : List (Int × Int)) (w : World) (h : CAt w A n ks) (hm : n ≤ 9223372036854775807) (h' : CAt w A' n' ks') (hm' : n' ≤ 9223372036854775807) :
    Calls Try.prog 57 #[vCv A n cap err, vCv A' n' cap' err'] w (clOut w (clX ks ks' err err') (twErr ks ks' err err')) := by
  by_cases hz : twErr ks ks' err err' = 0
  · rw [hz]; exact Clash_rest A A' n cap n' cap' err err' ks ks' w h hm h' hm' hz
  · exact Clash_err A A' n cap n' cap' err err' ks ks' w h hm h' hm' hz
end Go.Proofs.Ytipablcbkoedbaa
