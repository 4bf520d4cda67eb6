/- Cross. -/
import Derived.RangeFuncNested
import Derived.Shelf.Abstract
import Derived.RangeFuncBound
import Derived.RangeFuncCalls
import Derived.RangeFuncLeaves
import Derived.WalkKit
import Derived.OwnWalkIn
import Derived.OwnWalk
import Derived.TacticsInMore
import Derived.LoopNIn
import Derived.LoopIn
import Derived.WalkLawsBesides
import Derived.Deep.QuietTactic
import Derived.BigQuiet
import Derived.RegionTactic
import Derived.Lib.Hide
import Derived.Outline
import Derived.WalkSmall
import Derived.Test.YtipablcbkoedbaaProg
import Derived.Test.YtipablcbkoedbaaC9
import Derived.Test.YtipablcbkoedbaaF1
import Derived.Lib.SmallJoins
namespace Go.Proofs.Ytipablcbkoedbaa
open Go.RowKit

/-- The error of two curves. -/
def twErr (ks ks' : List (Int × Int)) (err err' : Int) : Int := if check ks err = 0 then check ks' err' else check ks err
def twLo (ks ks' : List (Int × Int)) : Int := max (max 0 (domLo ks)) (domLo ks')
def twHi (ks ks' : List (Int × Int)) : Int := min (min 2000 (domHi ks)) (domHi ks')
/-- The order of two curves at an integer. -/
def twO (ks ks' : List (Int × Int)) (x : Int) : Int := ordF (fV ks x).1 (fV ks x).2 (fV ks' x).1 (fV ks' x).2

def lastHi (p : List (Int × Int)) (x : Int) : List (Int × Int) := p.dropLast ++ [((p.getLastD (0, 0)).1, x)]
/-- What a number adds to the spans. -/
def crStep (lo : Int) (o : Int → Int) (b x : Int) (p : List (Int × Int)) : List (Int × Int) :=
  if o x = 0 ∧ x > lo ∧ b = 0 then lastHi p x
  else if o x = 0 then p ++ [(x, x)]
  else if x > lo ∧ o x = -b then p ++ [(x - 1, x)]
  else p
def crB (lo : Int) (o : Int → Int) : Nat → Int
  | 0 => 0
  | m + 1 => o (lo + m)
def crL (lo : Int) (o : Int → Int) : Nat → List (Int × Int)
  | 0 => []
  | m + 1 => crStep lo o (crB lo o m) (lo + m) (crL lo o m)
/-- The spans of Cross. -/
def crV (ks ks' : List (Int × Int)) (err err' : Int) : List (Int × Int) :=
  if twErr ks ks' err err' = 0 then crL (twLo ks ks') (twO ks ks') (twHi ks ks' + 1 - twLo ks ks').toNat else []

theorem crL_ne (lo : Int) (o : Int → Int) : ∀ m, 0 < m → crB lo o m = 0 → crL lo o m ≠ []
  | 0, h, _ => absurd h (by omega)
  | m + 1, _, h => by
    have h : o (lo + m) = 0 := h
    unfold crL crStep
    split
    · simp [lastHi]
    · simp
theorem crL_len (lo : Int) (o : Int → Int) : ∀ m, (crL lo o m).length ≤ m
  | 0 => by simp [crL]
  | m + 1 => by
    have ih := crL_len lo o m
    unfold crL crStep
    split
    · rename_i h
      have hm : 0 < m := by
        by_cases h0 : m = 0
        · subst h0; exact absurd h.2.1 (by simp)
        · omega
      have : (lastHi (crL lo o m) (lo + m)).length = (crL lo o m).length - 1 + 1 := by simp [lastHi]
      omega
    · split
      · simp; omega
      · split
        · simp; omega
        · omega
theorem tw_all (ks ks' : List (Int × Int)) (err err' : Int) (A A' : Option Addr) (n cap n' cap' : Nat) : checkAll [⟨A, n, cap, err, ks⟩, ⟨A', n', cap', err', ks'⟩] = twErr ks ks' err err' := by
  unfold twErr checkAll checkAll checkAll
  split
  · split <;> simp_all
  · rfl
theorem twO_bd (ks ks' : List (Int × Int)) (x : Int) : -1 ≤ twO ks ks' x ∧ twO ks ks' x ≤ 1 := by
  unfold twO ordF cmpI; split
  · omega
  · split <;> omega
theorem crB_bd (lo : Int) (ks ks' : List (Int × Int)) : ∀ m, -1 ≤ crB lo (twO ks ks') m ∧ crB lo (twO ks ks') m ≤ 1
  | 0 => by simp [crB]
  | m + 1 => twO_bd ks ks' _
theorem set_last (q : List (Int × Int)) (z : Int × Int) (x : Int) : ((q ++ [z]).flatMap encF).set (q.length * 2 + 1) (.int .i64 x) = (q ++ [(z.1, x)]).flatMap encF := by
  have hl : (q.flatMap encF).length = q.length * 2 := flat_len 2 encF (fun _ => rfl) q
  rw [List.flatMap_append, List.flatMap_append, List.set_append_right _ _ (by omega), hl]
  simp [encF]
theorem split_last {p : List (Int × Int)} (h : p ≠ []) : ∃ q z, p = q ++ [z] := ⟨p.dropLast, p.getLast h, (List.dropLast_concat_getLast h).symm⟩
theorem lastHi_at (q : List (Int × Int)) (z : Int × Int) (x : Int) : lastHi (q ++ [z]) x = q ++ [(z.1, x)] := by
  simp [lastHi]

theorem new_cells2 (W : World) (a b : Value) (t : TypeId) : ∀ j u, [a, b][j]? = some u → (W.alloc (.cells #[a, b] t)).cell? ((⟨W.heap.size, 0, none⟩ : Addr).add j) = some u := by
  intro j u hj
  match j, hj with
  | 0, hj => simp at hj; subst hj; simp [Addr.add]
  | 1, hj => simp at hj; subst hj; simp [Addr.add]
theorem one_ints2 (a b : Int) : ∀ u ∈ [Value.int .i64 a, Value.int .i64 b], u.oneCell' = true := by
  intro u hu; simp at hu; rcases hu with rfl | rfl <;> rfl
theorem info_span : (Try.prog.info? 26).map (fun i => (i.zero, i.size, i.bytes)) = some (some (vSpan 0 0), 2, 16) := by kernel_rfl

/-- What Cross returns. -/
def CrOut (w : World) (l : List (Int × Int)) (e : Int) (en : Ending) (w' : World) : Prop :=
  ∃ v, en = .returned (.tuple #[v, .int .i64 e]) ∧ w'.ownsRow w.heap.size 26 2 v l.length (l.flatMap encF) ∧ Below w.heap.size w w'

theorem Cross_err (A A' : Option Addr) (n cap n' cap' : Nat) (err err' : Int) (ks ks' : List (Int × Int)) (w : World) (h : CAt w A n ks) (hm : n ≤ 9223372036854775807) (h' : CAt w A' n' ks') (hm' : n' ≤ 9223372036854775807) (hz : twErr ks ks' err err' ≠ 0) :
    Calls Try.prog 44 #[vCv A n cap err, vCv A' n' cap' err'] w (CrOut w (crV ks ks' err err') (twErr ks ks' err err')) := by
  have hS := fun W (hW : LAt W (some ⟨w.heap.size + 2, 0, none⟩) 2 [⟨A, n, cap, err, ks⟩, ⟨A', n', cap', err', ks'⟩]) => checked_any (some ⟨w.heap.size + 2, 0, none⟩) 2 2 [⟨A, n, cap, err, ks⟩, ⟨A', n', cap', err', ks'⟩] W hW (by omega)
  rw [tw_all] at hS
  have HS := Lib.hid hS
  generalize hW : ((w.alloc (.cells #[.slice A n cap, .int .i64 err] 24)).alloc (.cells #[.slice A' n' cap', .int .i64 err'] 24)).alloc (.cells #[.slice A n cap, .int .i64 err, .slice A' n' cap', .int .i64 err'] 24) = W
  have hbw : Below w.heap.size w W := by rw [← hW]; exact (((Below.refl _ _).alloc (Nat.le_refl _) _).alloc (by simp) _).alloc (by simp; omega) _
  have hlb : Blk W (w.heap.size + 2) 24 #[.slice A n cap, .int .i64 err, .slice A' n' cap', .int .i64 err'] := by rw [← hW]; exact Blk.at_new _ _ (by simp)
  have HL := Lib.hid (lat_two hlb (h.below hbw) hm (h'.below hbw) hm')
  have HWE := Lib.hid hW
  have hcr : crV ks ks' err err' = [] := by unfold crV; rw [if_neg hz]
  rw [hcr]
  have hz1 : (twErr ks ks' err err' != 0) = true := by simpa using hz
  clear hS hW h h' hz hcr
  generalize twErr ks ks' err err' = e0 at *
  go_enter Try.func44, Try.ntmps44
  go_wp2_with fail
  rw [HWE.out]
  refine (HS.out _ HL.out).mono ?_; rintro e w1 ⟨rfl, hb1⟩
  have hb2 := hbw.trans (hb1.mono hbw.size)
  go_wp2
  exact bodyPost_ret (v := .tuple #[.slice none 0 0, .int .i64 e0]) (by simp [results, Try.results44, go_sem]) rfl ⟨_, rfl, World.ownsRow_nil _ _ _ _, hb2⟩

theorem tw_valid {ks ks' : List (Int × Int)} {err err' : Int} (h : twErr ks ks' err err' = 0) : Valid ks ∧ Valid ks' ∧ (0 ≤ err ∧ err ≤ 4000) ∧ (0 ≤ err' ∧ err' ≤ 4000) := by
  unfold twErr at h
  split at h
  · rename_i h0
    exact ⟨(check_zero h0).1, (check_zero h).1, (check_zero h0).2, (check_zero h).2⟩
  · exact absurd h (by assumption)

set_option maxRecDepth 100000 in
set_option maxHeartbeats 1600000 in
theorem Cross_rest (A A' : Option Addr) (n cap n' cap' : Nat) (err err' : Int) (ks ks' : List (Int × Int)) (w : World) (h : CAt w A n ks) (hm : n ≤ 9223372036854775807) (h' : CAt w A' n' ks') (hm' : n' ≤ 9223372036854775807) (hz : twErr ks ks' err err' = 0) :
    Calls Try.prog 44 #[vCv A n cap err, vCv A' n' cap' err'] w (CrOut w (crV ks ks' err err') 0) := by
  have hS := fun W (hW : LAt W (some ⟨w.heap.size + 2, 0, none⟩) 2 [⟨A, n, cap, err, ks⟩, ⟨A', n', cap', err', ks'⟩]) => checked_any (some ⟨w.heap.size + 2, 0, none⟩) 2 2 [⟨A, n, cap, err, ks⟩, ⟨A', n', cap', err', ks'⟩] W hW (by omega)
  rw [tw_all, hz] at hS
  have HS := Lib.hid hS
  generalize hW : ((w.alloc (.cells #[.slice A n cap, .int .i64 err] 24)).alloc (.cells #[.slice A' n' cap', .int .i64 err'] 24)).alloc (.cells #[.slice A n cap, .int .i64 err, .slice A' n' cap', .int .i64 err'] 24) = W
  have hbw : Below w.heap.size w W := by rw [← hW]; exact (((Below.refl _ _).alloc (Nat.le_refl _) _).alloc (by simp) _).alloc (by simp; omega) _
  have hc0 : Blk W w.heap.size 24 #[.slice A n cap, .int .i64 err] := by rw [← hW]; exact ((Blk.at_new _ _ rfl).alloc _).alloc _
  have hd0 : Blk W (w.heap.size + 1) 24 #[.slice A' n' cap', .int .i64 err'] := by rw [← hW]; exact (Blk.at_new _ _ (by simp)).alloc _
  have hlb : Blk W (w.heap.size + 2) 24 #[.slice A n cap, .int .i64 err, .slice A' n' cap', .int .i64 err'] := by rw [← hW]; exact Blk.at_new _ _ (by simp)
  have HL := Lib.hid (lat_two hlb (h.below hbw) hm (h'.below hbw) hm')
  have HWE := Lib.hid hW
  have hcr : crV ks ks' err err' = crL (twLo ks ks') (twO ks ks') (twHi ks ks' + 1 - twLo ks ks').toNat := by unfold crV; rw [if_pos hz]
  rw [hcr]
  obtain ⟨hv, hv', he, he'⟩ := tw_valid hz
  have hAll : AllValid [⟨A, n, cap, err, ks⟩, ⟨A', n', cap', err', ks'⟩] := by
    intro i hi
    match i, hi with
    | 0, _ => exact ⟨hv, he.1, he.2⟩
    | 1, _ => exact ⟨hv', he'.1, he'.2⟩
  have HShd := Lib.hid (fun V (g : Nat) (hV : LAt V (some ⟨g, 0, none⟩) 2 [⟨A, n, cap, err, ks⟩, ⟨A', n', cap', err', ks'⟩]) => (show shLo [⟨A, n, cap, err, ks⟩, ⟨A', n', cap', err', ks'⟩] = twLo ks ks' from rfl) ▸ (show shHi [⟨A, n, cap, err, ks⟩, ⟨A', n', cap', err', ks'⟩] = twHi ks ks' from rfl) ▸ shared_any (some ⟨g, 0, none⟩) 2 2 [⟨A, n, cap, err, ks⟩, ⟨A', n', cap', err', ks'⟩] V hV (by omega) hAll)
  have hpos := hv.pos
  have hpos' := hv'.pos
  have hlen := h.len
  have hlen' := h'.len
  have HAt := Lib.hid (h.below hbw)
  have HAt' := Lib.hid (h'.below hbw)
  obtain ⟨b, off, hAe, hkn⟩ := h.at_ (by omega)
  obtain ⟨b', off', hAe', hkn'⟩ := h'.at_ (by omega)
  subst hAe hAe' hlen hlen'
  have HKn := Lib.hid hkn
  have HKn' := Lib.hid hkn'
  have HK := Lib.hid (hkn.below hbw)
  have HK' := Lib.hid (hkn'.below hbw)
  have hlo0 : 0 ≤ twLo ks ks' := by unfold twLo; omega
  have hhi0 : twHi ks ks' ≤ 2000 := by unfold twHi; omega
  have hlo1 : kx ks 0 ≤ twLo ks ks' := by unfold twLo domLo; omega
  have hlo2 : kx ks' 0 ≤ twLo ks ks' := by unfold twLo domLo; omega
  have hlo3 : twLo ks ks' ≤ 2000 := by have := (hv.x0 0 hpos).2; have := (hv'.x0 0 hpos').2; unfold twLo domLo; omega
  have hhi3 : 0 ≤ twHi ks ks' := by have := (hv.x0 (ks.length - 1) (by omega)).1; have := (hv'.x0 (ks'.length - 1) (by omega)).1; unfold twHi domHi; omega
  have HV := Lib.hid hv
  have HV' := Lib.hid hv'
  clear hS hW h h' hz hcr hAll hkn hkn' he he' hv hv'
  generalize hlo : twLo ks ks' = lo at *
  generalize hhi : twHi ks ks' = hi at *
  clear hlo hhi
  obtain ⟨i0, hi0, hi1, hi2, hi3⟩ := info_parts info_span
  have HI := Lib.hid (show Try.prog.info? 26 = some i0 ∧ i0.zero = some (vSpan 0 0) ∧ i0.size = 2 ∧ i0.bytes = 16 from ⟨hi0, hi1, hi2, hi3⟩)
  clear hi0 hi1 hi2 hi3
  go_enter Try.func44, Try.ntmps44
  go_wp2_with fail
  rw [HWE.out]
  refine (HS.out _ HL.out).mono ?_; rintro e w1 ⟨rfl, hb1⟩
  have hc1 := hc0.below hb1
  have hd1 := hd0.below hb1
  have hk0 := hc1.cell 0
  have hk1 := hc1.cell 1
  have hk2 := hd1.cell 0
  have hk3 := hd1.cell 1
  simp only [List.getElem?_toArray, List.getElem?_cons_zero, List.getElem?_cons_succ] at hk0 hk1 hk2 hk3
  have hcl := hc1.lt
  have hdl := hd1.lt
  have hlb2 := lat_two (Blk.new w1 24 #[.slice (some ⟨b, off, none⟩) ks.length cap, .int .i64 err, .slice (some ⟨b', off', none⟩) ks'.length cap', .int .i64 err']) ((HAt.out.below hb1).below ((Below.refl _ _).alloc (Nat.le_refl _) _)) hm ((HAt'.out.below hb1).below ((Below.refl _ _).alloc (Nat.le_refl _) _)) hm'
  have HL2 := Lib.hid hlb2
  clear hlb2
  go_wp2_with fail
  refine (HShd.out _ _ HL2.out).mono ?_; rintro e w2 ⟨rfl, hb2⟩
  have hb12 := ((Below.refl w1.heap.size w1).alloc (Nat.le_refl _) (.cells #[.slice (some ⟨b, off, none⟩) ks.length cap, .int .i64 err, .slice (some ⟨b', off', none⟩) ks'.length cap', .int .i64 err'] 24)).trans (hb2.mono (by simp))
  have hbb := (hbw.trans (hb1.mono hbw.size)).trans (hb12.mono (by have := hbw.size; have := hb1.size; omega))
  have hKb := (HK.out.below hb1).below hb12
  have hKb' := (HK'.out.below hb1).below hb12
  have hc2 := hc1.below hb12
  have hd2 := hd1.below hb12
  have HB := Lib.hid hbb
  have HKb := Lib.hid hKb
  have HKb' := Lib.hid hKb'
  have HC2 := Lib.hid hc2
  have HD2 := Lib.hid hd2
  have hcl2 := hc2.lt
  have hdl2 := hd2.lt
  have hbl2 := hKb.lt
  have hbl2' := hKb'.lt
  clear hk0 hk1 hk2 hk3 hcl hdl hb2 hb1 hb12 hbb hKb hKb' hc2 hd2 hc1 hd1 hc0 hd0 hlb hbw
  have hbA := HB.out.alloc HB.out.size (.cells #[.int .i64 lo, .int .i64 hi] 26)
  have HC3 := Lib.hid (HC2.out.alloc (.cells #[.int .i64 lo, .int .i64 hi] 26))
  have HD3 := Lib.hid (HD2.out.alloc (.cells #[.int .i64 lo, .int .i64 hi] 26))
  have HS3 := Lib.hid (Blk.new w2 26 #[.int .i64 lo, .int .i64 hi])
  have HBA := Lib.hid hbA
  have hw2 : w.heap.size + 1 < w2.heap.size := hdl2
  clear hbA
  go_wp2_with fail
  go_loopw [7, 9, 10] (fun v bf i wr => ∃ (m : Nat) (X : Int), X = lo + m ∧ m ≤ (hi + 1 - lo).toNat ∧ i = .int .i64 X ∧ bf = .int .i64 (crB lo (twO ks ks') m) ∧
      wr.ownsRow (w2.heap.size + 1) 26 2 v (crL lo (twO ks ks') m).length ((crL lo (twO ks ks') m).flatMap encF) ∧
      Blk wr w.heap.size 24 #[.slice (some ⟨b, off, none⟩) ks.length cap, .int .i64 err] ∧ Blk wr (w.heap.size + 1) 24 #[.slice (some ⟨b', off', none⟩) ks'.length cap', .int .i64 err'] ∧
      Blk wr w2.heap.size 26 #[.int .i64 lo, .int .i64 hi] ∧ Below w.heap.size w wr) (fun _ _ i _ => (hi + 1 - intOf i).toNat)
  case atStart => exact ⟨0, lo, by omega, by omega, rfl, rfl, World.ownsRow_nil _ _ _ _, HC3.out, HD3.out, HS3.out, HBA.out⟩
  case round =>
    obtain ⟨m, X, hX, hmM, rfl, rfl, hown, hrc, hrd, hrs, hb⟩ := hrel
    have HOwn := Lib.hid hown
    have HRc := Lib.hid hrc
    have HRd := Lib.hid hrd
    have hs0 := hrs.cell 0
    have hs1 := hrs.cell 1
    simp only [List.getElem?_toArray, List.getElem?_cons_zero, List.getElem?_cons_succ] at hs0 hs1
    have hsl := hrs.lt
    clear hown hrc hrd
    by_cases hxh : X ≤ hi
    · have hm1 : m < (hi + 1 - lo).toNat := by omega
      have hX0 : 0 ≤ X := by omega
      have hX1 : X ≤ 2000 := by omega
      have hgl : lo < X ↔ 0 < m := by omega
      have HSt := Lib.hid (show crL lo (twO ks ks') (m + 1) = if twO ks ks' X = 0 ∧ X > lo ∧ crB lo (twO ks ks') m = 0 then lastHi (crL lo (twO ks ks') m) X else if twO ks ks' X = 0 then crL lo (twO ks ks') m ++ [(X, X)] else if X > lo ∧ twO ks ks' X = -crB lo (twO ks ks') m then crL lo (twO ks ks') m ++ [(X - 1, X)] else crL lo (twO ks ks') m by rw [hX]; rfl)
      have HNb := Lib.hid (show crB lo (twO ks ks') (m + 1) = twO ks ks' X by rw [hX]; rfl)
      have HNe := Lib.hid (fun (h : lo < X) (h1 : crB lo (twO ks ks') m = 0) => crL_ne lo (twO ks ks') m (hgl.1 h) h1)
      have hpl := crL_len lo (twO ks ks') m
      obtain ⟨hbv1, hbv2⟩ := crB_bd lo ks ks' m
      obtain ⟨hnw1, hnw2⟩ := twO_bd ks ks' X
      have ho1 : ∀ W, Calls Try.prog 91 #[vFrac (valN ks X) (valD ks X), vFrac (valN ks' X) (valD ks' X)] W fun e w' => e = .returned (.int .i64 (twO ks ks' X)) ∧ Below W.heap.size W w' :=
        fun W => order_frb (fV ks X) (fV ks' X) W (fV_frb HV.out (by omega)) (fV_frb HV'.out (by omega))
      have HO1 := Lib.hid ho1
      clear ho1
      have HVa := Lib.hid (fun W hW => value_any b off cap err ks X W hW HV.out hX0 hX1)
      have HVb := Lib.hid (fun W hW => value_any b' off' cap' err' ks' X W hW HV'.out hX0 hX1)
      have HKr := Lib.hid (HKn.out.below hb)
      have HKr' := Lib.hid (HKn'.out.below hb)
      have hlen2 : (crL lo (twO ks ks') m).length ≤ 2001 := by omega
      have HX := Lib.hid hX
      clear hpl hX
      generalize twO ks ks' X = nw at *
      generalize crB lo (twO ks ks') m = bv at *
      generalize hp : crL lo (twO ks ks') m = p at *
      clear hp
      generalize valN ks X = n1 at *
      generalize valD ks X = d1 at *
      generalize valN ks' X = n2 at *
      generalize valD ks' X = d2 at *
      have rc0 := HRc.out.cell 0
      have rc1 := HRc.out.cell 1
      have rd0 := HRd.out.cell 0
      have rd1 := HRd.out.cell 1
      simp only [List.getElem?_toArray, List.getElem?_cons_zero, List.getElem?_cons_succ] at rc0 rc1 rd0 rd1
      have rcl := HRc.out.lt
      have rdl := HRd.out.lt
      go_wp2_with fail
      obtain ⟨xc, xf⟩ := xcell (W := wr)
      refine wp_region_quiet_tail 7 (by kernel_rfl) (by kernel_rfl) ?_
      simp only [List.take_succ_cons, List.take_zero, List.drop_succ_cons, List.drop_zero]
      repeat (first | go_big_quiet_step (first | (go_at_call 83; with_reducible refine calls_ext (HVa.out _ ?_); exact HKr.out.below (Ext.below _)) | (go_at_call 83; with_reducible refine calls_ext (HVb.out _ ?_); exact HKr'.out.below (Ext.below _)) | (go_at_call 91; with_reducible refine calls_ext (HO1.out _))) | quiet_step (first | (go_at_call 83; with_reducible refine calls_ext (HVa.out _ ?_); exact HKr.out.below (Ext.below _)) | (go_at_call 83; with_reducible refine calls_ext (HVb.out _ ?_); exact HKr'.out.below (Ext.below _)) | (go_at_call 91; with_reducible refine calls_ext (HO1.out _))))
      refine wpQuiet_nil ?_
      intro w4 hb4
      have HC4 := Lib.hid (HRc.out.below hb4)
      have HD4 := Lib.hid (HRd.out.below hb4)
      have HS4 := Lib.hid (hrs.below hb4)
      have HOw := Lib.hid (owns_below HOwn.out hb4)
      have hb5 := hb.trans (hb4.mono hb.size)
      have hs40 := HS4.out.cell 0
      have hs41 := HS4.out.cell 1
      have hsl4 := HS4.out.lt
      simp only [List.getElem?_toArray, List.getElem?_cons_zero, List.getElem?_cons_succ] at hs40 hs41
      clear xc xf rc0 rc1 rd0 rd1 rcl rdl hs0 hs1 hsl hrs hb
      by_cases h0 : nw = 0
      · subst h0
        by_cases hgt : lo < X
        · by_cases hb0 : bv = 0
          · subst hb0
            obtain ⟨q, z, rfl⟩ := split_last (HNe.out hgt rfl)
            have hst := HSt.out
            rw [if_pos ⟨rfl, hgt, rfl⟩, lastHi_at] at hst
            have HSt2 := Lib.hid hst
            clear HSt hst
            have how := HOw.out
            rw [show (q ++ [z]).length = q.length + 1 by simp] at how hlen2
            obtain ⟨g, c, rfl⟩ := Joins.ownsRow_form how (by omega)
            have hcell := how.cellAt (q.length * 2 + 1) (by omega)
            have hlq : (q.flatMap encF).length = q.length * 2 := flat_len 2 encF (fun _ => rfl) q
            rw [List.flatMap_append, List.getElem?_append_right (by omega), hlq, show q.length * 2 + 1 - q.length * 2 = 1 by omega, show ([z].flatMap encF)[1]? = some (.int .i64 z.2) from rfl] at hcell
            have hfro := how.frozenAt (q.length * 2 + 1)
            have hstd := how.stored (q.length * 2 + 1) (.int .i64 X)
            have hgl2' := own_lt (g := g) how rfl
            have hset := set_last q z X
            rw [hset] at hstd
            have HStd := Lib.hid hstd
            have hB6 := hb5.grown hstd.2 hb5.size (fun k hk => by have : g = k := by simpa using hk
                                                                  have := hgl2'.1; omega)
            have hC6 := Blk.grown HC4.out hstd.2 (fun e => by have : g = w.heap.size := by simpa using e
                                                              have := hgl2'.1; omega)
            have hD6 := Blk.grown HD4.out hstd.2 (fun e => by have : g = w.heap.size + 1 := by simpa using e
                                                              have := hgl2'.1; omega)
            have hS6 := Blk.grown HS4.out hstd.2 (fun e => by have : g = w2.heap.size := by simpa using e
                                                              have := hgl2'.1; omega)
            have HB6 := Lib.hid hB6
            have HC6 := Lib.hid hC6
            have HD6 := Lib.hid hD6
            have HS6 := Lib.hid hS6
            have hgl2 := hgl2'.2
            have hgne : ¬ w2.heap.size = g := by have := hgl2'.1; omega
            have HOw2 := Lib.hid how
            clear how hstd hset hlq hB6 hC6 hD6 hS6 HOw hgl2' HNe
            generalize hnq : q.length = nq at *
            have HNq := Lib.hid hnq
            clear hnq
            go_wp2
            go_roundw
            case rel =>
              refine ⟨m + 1, X + 1, by have := HX.out; omega, by omega, rfl, by rw [HNb.out], ?_, HC6.out, HD6.out, HS6.out, HB6.out⟩
              rw [HSt2.out]
              have := HStd.out.1
              simpa [HNq.out] using this
            case measure => simp [intOf]; omega
          · have hb1 : (bv == 0) = false := by simpa using hb0
            have hst := HSt.out
            rw [if_neg (fun h => hb0 h.2.2), if_pos rfl] at hst
            have HSt2 := Lib.hid hst
            clear hst HSt
            go_wp2_with (at_builtin; go_loud (refine wpList_append_own _ rfl (.tmp 61) (.tmp 65) 63 rfl (w2.heap.size + 1) 26 i0 (vSpan 0 0) 2 16 Try.underlying63 HI.out.1 HI.out.2.1 HI.out.2.2.1 HI.out.2.2.2 rfl (by decide) _ p.length (p.flatMap encF) rfl (HOw.out.alloc _) ⟨w4.heap.size, 0, none⟩ 1 1 [.int .i64 X, .int .i64 X] rfl rfl (new_cells2 _ _ _ _) (one_ints2 _ _) (by unfold maxLen; omega) (by omega) (by simp; omega) ?_))
            intro v' w5 hown' hgrow hnn
            have hlt2 := fun (k : Nat) hk => own_lt (g := k) HOw.out hk
            have hB6 := (hb5.alloc hb5.size _).grown hgrow (Nat.le_trans hb5.size (by simp)) (fun k hk => by have := (hlt2 _ hk).1; omega)
            have hC6 := Blk.grown (HC4.out.alloc _) hgrow (fun e => by have := (hlt2 _ e).1; omega)
            have hD6 := Blk.grown (HD4.out.alloc _) hgrow (fun e => by have := (hlt2 _ e).1; omega)
            have hS6 := Blk.grown (HS4.out.alloc _) hgrow (fun e => by have := (hlt2 _ e).1; omega)
            have HN := Lib.hid hown'
            have HB6 := Lib.hid hB6
            have HC6 := Lib.hid hC6
            have HD6 := Lib.hid hD6
            have HS6 := Lib.hid hS6
            have hs60 := hS6.cell 0
            have hs61 := hS6.cell 1
            simp only [List.getElem?_toArray, List.getElem?_cons_zero, List.getElem?_cons_succ] at hs60 hs61
            have hsl6 := hS6.lt
            clear hown' hgrow hnn hlt2 hB6 hC6 hD6 hS6 hb5 hs40 hs41 hsl4
            go_wp2
            go_roundw
            case rel =>
              refine ⟨m + 1, X + 1, by have := HX.out; omega, by omega, rfl, by rw [HNb.out], ?_, HC6.out, HD6.out, HS6.out, HB6.out⟩
              rw [HSt2.out]
              have := HN.out
              simpa [encF] using this
            case measure => simp [intOf]; omega
        · have hgt' : X ≤ lo := by omega
          have hst := HSt.out
          rw [if_neg (fun h => hgt h.2.1), if_pos rfl] at hst
          have HSt2 := Lib.hid hst
          clear hst HSt
          go_wp2_with (at_builtin; go_loud (refine wpList_append_own _ rfl (.tmp 61) (.tmp 65) 63 rfl (w2.heap.size + 1) 26 i0 (vSpan 0 0) 2 16 Try.underlying63 HI.out.1 HI.out.2.1 HI.out.2.2.1 HI.out.2.2.2 rfl (by decide) _ p.length (p.flatMap encF) rfl (HOw.out.alloc _) ⟨w4.heap.size, 0, none⟩ 1 1 [.int .i64 X, .int .i64 X] rfl rfl (new_cells2 _ _ _ _) (one_ints2 _ _) (by unfold maxLen; omega) (by omega) (by simp; omega) ?_))
          intro v' w5 hown' hgrow hnn
          have hlt2 := fun (k : Nat) hk => own_lt (g := k) HOw.out hk
          have hB6 := (hb5.alloc hb5.size _).grown hgrow (Nat.le_trans hb5.size (by simp)) (fun k hk => by have := (hlt2 _ hk).1; omega)
          have hC6 := Blk.grown (HC4.out.alloc _) hgrow (fun e => by have := (hlt2 _ e).1; omega)
          have hD6 := Blk.grown (HD4.out.alloc _) hgrow (fun e => by have := (hlt2 _ e).1; omega)
          have hS6 := Blk.grown (HS4.out.alloc _) hgrow (fun e => by have := (hlt2 _ e).1; omega)
          have HN := Lib.hid hown'
          have HB6 := Lib.hid hB6
          have HC6 := Lib.hid hC6
          have HD6 := Lib.hid hD6
          have HS6 := Lib.hid hS6
          have hs60 := hS6.cell 0
          have hs61 := hS6.cell 1
          simp only [List.getElem?_toArray, List.getElem?_cons_zero, List.getElem?_cons_succ] at hs60 hs61
          have hsl6 := hS6.lt
          clear hown' hgrow hnn hlt2 hB6 hC6 hD6 hS6 hb5 hs40 hs41 hsl4
          go_wp2
          go_roundw
          case rel =>
            refine ⟨m + 1, X + 1, by have := HX.out; omega, by omega, rfl, by rw [HNb.out], ?_, HC6.out, HD6.out, HS6.out, HB6.out⟩
            rw [HSt2.out]
            have := HN.out
            simpa [encF] using this
          case measure => simp [intOf]; omega
      · have h01 : (nw == 0) = false := by simpa using h0
        by_cases hgt : lo < X
        · by_cases hc : nw = -bv
          · subst hc
            have hst := HSt.out
            rw [if_neg (fun h => h0 h.1), if_neg h0, if_pos ⟨hgt, rfl⟩] at hst
            have HSt2 := Lib.hid hst
            clear hst HSt
            go_wp2_with (at_builtin; go_loud (refine wpList_append_own _ rfl (.tmp 78) (.tmp 83) 63 rfl (w2.heap.size + 1) 26 i0 (vSpan 0 0) 2 16 Try.underlying63 HI.out.1 HI.out.2.1 HI.out.2.2.1 HI.out.2.2.2 rfl (by decide) _ p.length (p.flatMap encF) rfl (HOw.out.alloc _) ⟨w4.heap.size, 0, none⟩ 1 1 [.int .i64 (X - 1), .int .i64 X] rfl rfl (new_cells2 _ _ _ _) (one_ints2 _ _) (by unfold maxLen; omega) (by omega) (by simp; omega) ?_))
            intro v' w5 hown' hgrow hnn
            have hlt2 := fun (k : Nat) hk => own_lt (g := k) HOw.out hk
            have hB6 := (hb5.alloc hb5.size _).grown hgrow (Nat.le_trans hb5.size (by simp)) (fun k hk => by have := (hlt2 _ hk).1; omega)
            have hC6 := Blk.grown (HC4.out.alloc _) hgrow (fun e => by have := (hlt2 _ e).1; omega)
            have hD6 := Blk.grown (HD4.out.alloc _) hgrow (fun e => by have := (hlt2 _ e).1; omega)
            have hS6 := Blk.grown (HS4.out.alloc _) hgrow (fun e => by have := (hlt2 _ e).1; omega)
            have HN := Lib.hid hown'
            have HB6 := Lib.hid hB6
            have HC6 := Lib.hid hC6
            have HD6 := Lib.hid hD6
            have HS6 := Lib.hid hS6
            have hs60 := hS6.cell 0
            have hs61 := hS6.cell 1
            simp only [List.getElem?_toArray, List.getElem?_cons_zero, List.getElem?_cons_succ] at hs60 hs61
            have hsl6 := hS6.lt
            clear hown' hgrow hnn hlt2 hB6 hC6 hD6 hS6 hb5 hs40 hs41 hsl4
            go_wp2
            go_roundw
            case rel =>
              refine ⟨m + 1, X + 1, by have := HX.out; omega, by omega, rfl, by rw [HNb.out], ?_, HC6.out, HD6.out, HS6.out, HB6.out⟩
              rw [HSt2.out]
              have := HN.out
              simpa [encF] using this
            case measure => simp [intOf]; omega
          · have hc1 : (nw == -bv) = false := by simpa using hc
            have hst := HSt.out
            rw [if_neg (fun h => h0 h.1), if_neg h0, if_neg (fun h => hc h.2)] at hst
            have HSt2 := Lib.hid hst
            clear hst HSt
            go_wp2
            go_roundw
            case rel =>
              refine ⟨m + 1, X + 1, by have := HX.out; omega, by omega, rfl, by rw [HNb.out], ?_, HC4.out, HD4.out, HS4.out, hb5⟩
              rw [HSt2.out]
              exact HOw.out
            case measure => simp [intOf]; omega
        · have hgt' : X ≤ lo := by omega
          have hst := HSt.out
          rw [if_neg (fun h => h0 h.1), if_neg h0, if_neg (fun h => hgt h.1)] at hst
          have HSt2 := Lib.hid hst
          clear hst HSt
          go_wp2
          go_roundw
          case rel =>
            refine ⟨m + 1, X + 1, by have := HX.out; omega, by omega, rfl, by rw [HNb.out], ?_, HC4.out, HD4.out, HS4.out, hb5⟩
            rw [HSt2.out]
            exact HOw.out
          case measure => simp [intOf]; omega
    · have hmE : m = (hi + 1 - lo).toNat := by omega
      subst hmE
      have hown := HOwn.out
      go_wp2
      exact bodyPost_ret (v := .tuple #[_, .int .i64 0]) (by simp [results, Try.results44, go_sem]) rfl ⟨_, rfl, Joins.ownsRow_le hown (by omega), hb⟩

theorem Cross_any (A A' : Option Addr) (n cap n' cap' : Nat) (err err' : Int) (ks ks' : List (Int × Int)) (w : World) (h : CAt w A n ks) (hm : n ≤ 9223372036854775807) (h' : CAt w A' n' ks') (hm' : n' ≤ 9223372036854775807) :
    Calls Try.prog 44 #[vCv A n cap err, vCv A' n' cap' err'] w (CrOut w (crV ks ks' err err') (twErr ks ks' err err')) := by
  by_cases hz : twErr ks ks' err err' = 0
  · rw [hz]; exact Cross_rest A A' n cap n' cap' err err' ks ks' w h hm h' hm' hz
  · exact Cross_err A A' n cap n' cap' err err' ks ks' w h hm h' hm' hz
end Go.Proofs.Ytipablcbkoedbaa
