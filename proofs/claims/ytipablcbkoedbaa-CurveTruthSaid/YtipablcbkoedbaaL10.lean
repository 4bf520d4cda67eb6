/- CurveTruth is proved: for at most 12 curves, and a function within the error of all of them (the first curve, which is shifted by at most so much): no two of them clash, and each value lies in Both; and two curves clash at an integer exactly if Both of them is ErrClash there. No condition. -/
import Derived.WalkKit
import Derived.WalkLawsBesides
import Derived.Deep.QuietTactic
import Derived.BigQuiet
import Derived.RegionTactic
import Derived.OwnWalk
import Derived.Lib.Hide
import Derived.Outline
import Derived.WalkSmall
import Derived.Lib.SmallJoins
import Derived.IntWalk
import Derived.Deep.DeepCutAuto
import Derived.Test.YtipablcbkoedbaaProg
import Derived.Test.YtipablcbkoedbaaReg6
import Derived.Test.YtipablcbkoedbaaReg2
import Derived.Test.YtipablcbkoedbaaN2
import Derived.Test.YtipablcbkoedbaaO5
import Derived.Test.YtipablcbkoedbaaF3
import Derived.Test.YtipablcbkoedbaaRow3
namespace Go.Proofs.Ytipablcbkoedbaa
open Go.RowKit Go.WideShapes Go.ChangeShapes Go.Joins Go.Deep

/-- What the walk leans on. -/
structure TrOk (A : Option Addr) (n cap : Nat) (cs : List CV) (x shift : Int) (r1 r2 r3 r4 be vn vd s1 s2 s3 s4 g2 N D z : Int) (is : Bool) (lo hi : Nat → Int × Int) (l1 l2 : Nat → Bool) : Prop where
  HBo : ∀ W, LAt W A n cs → Calls Try.prog 28 #[.slice A n cap, .int .i64 x] W fun e w' => e = .returned (.tuple #[vRange r1 r2 r3 r4, .int .i64 be]) ∧ Below W.heap.size W w'
  HV0 : ∀ W, CAt W (cvA cs 0) (cvn cs 0) (cvks cs 0) → Calls Try.prog 34 #[vCv (cvA cs 0) (cvn cs 0) (cvcap cs 0) (cverr cs 0), .int .i64 x] W fun e w' => e = .returned (.tuple #[vFrac vn vd, .int .i64 0]) ∧ Below W.heap.size W w'
  be09 : be = 0 ∨ be = 9
  HB2 : 1 < n → ∀ W, LAt W A n cs → Calls Try.prog 28 #[.slice A 2 2, .int .i64 x] W fun e w' => e = .returned (.tuple #[vRange s1 s2 s3 s4, .int .i64 g2]) ∧ Below W.heap.size W w'
  HAp : 1 < n → ∀ W, CAt W (cvA cs 0) (cvn cs 0) (cvks cs 0) → CAt W (cvA cs 1) (cvn cs 1) (cvks cs 1) → Calls Try.prog 45 #[vCv (cvA cs 0) (cvn cs 0) (cvcap cs 0) (cverr cs 0), vCv (cvA cs 1) (cvn cs 1) (cvcap cs 1) (cverr cs 1), .int .i64 x] W fun e w' => e = .returned (vFrac N D) ∧ Below W.heap.size W w'
  g209 : 1 < n → g2 = 0 ∨ g2 = 9
  gif : 1 < n → (g2 = 9 ↔ ((cverr cs 0 + cverr cs 1) * D < N ∨ (cverr cs 0 + cverr cs 1) * D < -N))
  HCl : 1 < n → ∀ W, CAt W (cvA cs 0) (cvn cs 0) (cvks cs 0) → CAt W (cvA cs 1) (cvn cs 1) (cvks cs 1) → Calls Try.prog 57 #[vCv (cvA cs 0) (cvn cs 0) (cvcap cs 0) (cverr cs 0), vCv (cvA cs 1) (cvn cs 1) (cvcap cs 1) (cverr cs 1)] W fun e w' => e = .returned (.tuple #[.int .i64 z, .bool is, .int .i64 0]) ∧ Below W.heap.size W w'
  hcl : 1 < n → g2 = 9 → is = true ∧ z ≤ x
  bd : 1 < n → 0 ≤ cverr cs 0 ∧ cverr cs 0 ≤ 4000 ∧ 0 ≤ cverr cs 1 ∧ cverr cs 1 ≤ 4000 ∧ 1 ≤ D ∧ D ≤ 4194304 ∧ -549755813888 ≤ N ∧ N ≤ 549755813888
  vb : -131072000 ≤ vn ∧ vn ≤ 131072000 ∧ 1 ≤ vd ∧ vd ≤ 2000
  HVk : ∀ k, k < n → ∀ W, CAt W (cvA cs k) (cvn cs k) (cvks cs k) → Calls Try.prog 36 #[vCv (cvA cs k) (cvn cs k) (cvcap cs k) (cverr cs k), .int .i64 x] W fun e w' => e = .returned (.tuple #[vRange (lo k).1 (lo k).2 (hi k).1 (hi k).2, .int .i64 0]) ∧ Below W.heap.size W w'
  HL1 : -4000 ≤ shift → shift ≤ 4000 → ∀ k, k < n → ∀ W, Calls Try.prog 50 #[vFrac (vn + shift * vd) vd, vFrac (lo k).1 (lo k).2] W fun e w' => e = .returned (.bool (l1 k)) ∧ Below W.heap.size W w'
  HL2 : -4000 ≤ shift → shift ≤ 4000 → ∀ k, k < n → ∀ W, Calls Try.prog 50 #[vFrac (hi k).1 (hi k).2, vFrac (vn + shift * vd) vd] W fun e w' => e = .returned (.bool (l2 k)) ∧ Below W.heap.size W w'
  fin : -4000 ≤ shift → shift ≤ 4000 → (∀ k, k < n → l1 k = false ∧ l2 k = false) → be = 0 ∧ (∀ W, Calls Try.prog 50 #[vFrac (vn + shift * vd) vd, vFrac r1 r2] W fun e w' => e = .returned (.bool false) ∧ Below W.heap.size W w') ∧ (∀ W, Calls Try.prog 50 #[vFrac r3 r4, vFrac (vn + shift * vd) vd] W fun e w' => e = .returned (.bool false) ∧ Below W.heap.size W w')

theorem two_of {cs : List CV} (h : 1 < cs.length) : ∃ c0 c1 r, cs = c0 :: c1 :: r := by
  match cs, h with
  | c0 :: c1 :: r, _ => exact ⟨c0, c1, r, rfl⟩
theorem lat_take {W : World} {A : Option Addr} {n : Nat} {c0 c1 : CV} {r : List CV} (h : LAt W A n (c0 :: c1 :: r)) : LAt W A 2 [c0, c1] :=
  ⟨rfl, fun _ => by
    obtain ⟨b, off, e, k⟩ := h.at_ (by have := h.len; simp at this; omega)
    refine ⟨b, off, e, k.lt, fun i hi => ?_, fun i hi => ?_, fun i hi => ?_, fun i hi => ?_⟩ <;> (have hi2 : i = 0 ∨ i = 1 := by (have : i < 2 := hi); omega) <;> rcases hi2 with rfl | rfl
    · exact k.s 0 (by simp)
    · exact k.s 1 (by simp)
    · exact k.e 0 (by simp)
    · exact k.e 1 (by simp)
    · exact k.at_ 0 (by simp)
    · exact k.at_ 1 (by simp)
    · exact k.le 0 (by simp)
    · exact k.le 1 (by simp)⟩
theorem trOk (A : Option Addr) (n cap : Nat) (cs : List CV) (x shift : Int) (w : World) (h : LAt w A n cs) (hm : n ≤ 9223372036854775807) (hz : shErr cs x = 0) (hn : 0 < n) :
    TrOk A n cap cs x shift (boV cs x).1.1 (boV cs x).1.2 (boV cs x).2.1 (boV cs x).2.2 (boErr cs x) (valN (cvks cs 0) x) (valD (cvks cs 0) x) (boV (cs.take 2) x).1.1 (boV (cs.take 2) x).1.2 (boV (cs.take 2) x).2.1 (boV (cs.take 2) x).2.2 (boErr (cs.take 2) x)
      (dfN (cvks cs 0) (cvks cs 1) x) (dfD (cvks cs 0) (cvks cs 1) x) ((clX (cvks cs 0) (cvks cs 1) (cverr cs 0) (cverr cs 1)).getD 0) (clX (cvks cs 0) (cvks cs 1) (cverr cs 0) (cverr cs 1)).isSome
      (fun k => bLo x (cs.getD k ⟨none, 0, 0, 0, []⟩)) (fun k => bHi x (cs.getD k ⟨none, 0, 0, 0, []⟩))
      (fun k => ltF (valN (cvks cs 0) x + shift * valD (cvks cs 0) x, valD (cvks cs 0) x) (bLo x (cs.getD k ⟨none, 0, 0, 0, []⟩))) (fun k => ltF (bHi x (cs.getD k ⟨none, 0, 0, 0, []⟩)) (valN (cvks cs 0) x + shift * valD (cvks cs 0) x, valD (cvks cs 0) x)) := by
  have hl := h.len
  have o := sh_zero hz
  have h0 : 0 < cs.length := by omega
  obtain ⟨b, off, hAe, hk⟩ := h.at_ hn
  have hle := hk.le
  have hv0 := (o.all 0 h0).1
  have hx0 := o.lo 0 h0
  have hvb := val_bd hv0 hx0
  have tok := fun (a : -4000 ≤ shift) (b : shift ≤ 4000) => b_ok (c := cs.getD 0 ⟨none, 0, 0, 0, []⟩) hv0 hx0 shift a b
  have two : 1 < n → ∃ c0 c1 r, cs = c0 :: c1 :: r := fun h1 => two_of (by omega)
  have hbo : boErr cs x = 0 ∨ boErr cs x = 9 := by rw [bo_le hz]; split <;> omega
  refine ⟨fun W hW => Both_any A n cap cs x W hW hm, fun W hW => ?_, hbo, fun h1 W hW => ?_, fun h1 W hW hW' => ?_, fun h1 => ?_, fun h1 => ?_, fun h1 W hW hW' => ?_, fun h1 h9 => ?_, fun h1 => ?_, ?_, fun k hk W hW => ?_, fun a b k hk W => ?_, fun a b k hk W => ?_, fun a b hall => ?_⟩
  · have k := Value_any (cvA cs 0) (cvn cs 0) (cvcap cs 0) (cverr cs 0) (cvks cs 0) x W hW (hle 0 h0)
    have e := sh_val hz h0
    rw [e] at k
    unfold vN vD at k
    rw [if_pos e, if_pos e] at k
    exact k
  · obtain ⟨c0, c1, r, rfl⟩ := two h1
    exact Both_any A 2 2 [c0, c1] x W (lat_take hW) (by omega)
  · exact apart_any _ _ _ _ _ _ _ _ _ _ x W hW (hle 0 h0) hW' (hle 1 (by omega)) (sh_val hz h0) (sh_val hz (by omega))
  · obtain ⟨c0, c1, r, rfl⟩ := two h1
    exact (clash_two (sh_take hz)).1
  · obtain ⟨c0, c1, r, rfl⟩ := two h1
    exact (clash_two (sh_take hz)).2
  · obtain ⟨c0, c1, r, rfl⟩ := two h1
    have k := Clash_any (cvA (c0 :: c1 :: r) 0) (cvA (c0 :: c1 :: r) 1) (cvn (c0 :: c1 :: r) 0) (cvcap (c0 :: c1 :: r) 0) (cvn (c0 :: c1 :: r) 1) (cvcap (c0 :: c1 :: r) 1) (cverr (c0 :: c1 :: r) 0) (cverr (c0 :: c1 :: r) 1) (cvks (c0 :: c1 :: r) 0) (cvks (c0 :: c1 :: r) 1) W hW (hle 0 h0) hW' (hle 1 (by omega))
    have e : twErr (cvks (c0 :: c1 :: r) 0) (cvks (c0 :: c1 :: r) 1) (cverr (c0 :: c1 :: r) 0) (cverr (c0 :: c1 :: r) 1) = 0 := by
      have c := checkAll_each _ (sh_check hz)
      unfold twErr
      rw [if_pos (c 0 h0)]
      exact c 1 (by omega)
    rw [e] at k
    exact k
  · obtain ⟨c0, c1, r, rfl⟩ := two h1
    obtain ⟨_, z, e, hz⟩ := clash_first (sh_take hz) h9
    have e' : clX (cvks (c0 :: c1 :: r) 0) (cvks (c0 :: c1 :: r) 1) (cverr (c0 :: c1 :: r) 0) (cverr (c0 :: c1 :: r) 1) = some z := e
    rw [e']
    exact ⟨rfl, hz⟩
  · have a0 := (o.all 0 h0).2
    obtain ⟨hv1, a1⟩ := o.all 1 (by omega)
    have f := fD_frb hv0 hv1 hx0 (o.lo 1 (by omega))
    exact ⟨a0.1, a0.2, a1.1, a1.2, f.d1, f.d2, f.n1, f.n2⟩
  · exact ⟨hvb.1, hvb.2.1, hvb.2.2.1, hvb.2.2.2⟩
  · have k' := Values_any (cvA cs k) (cvn cs k) (cvcap cs k) (cverr cs k) (cvks cs k) x W hW (hle k (by omega))
    rw [sh_vs hz (by omega), sh_val hz (by omega)] at k'
    exact k'
  · exact less_law (_, _) _ W (tok a b) (sh_ok hz (by omega)).1
  · exact less_law _ (_, _) W (sh_ok hz (by omega)).2 (tok a b)
  · obtain ⟨e, f, g⟩ := truth_in hz (t := (valN (cvks cs 0) x + shift * valD (cvks cs 0) x, valD (cvks cs 0) x)) (by dsimp only; omega) (fun i hi => hall i (by omega))
    obtain ⟨p, q⟩ := boV_ok hz e
    refine ⟨e, fun W => ?_, fun W => ?_⟩
    · have := less_law (valN (cvks cs 0) x + shift * valD (cvks cs 0) x, valD (cvks cs 0) x) (boV cs x).1 W (tok a b) p
      rw [f] at this
      exact this
    · have := less_law (boV cs x).2 (valN (cvks cs 0) x + shift * valD (cvks cs 0) x, valD (cvks cs 0) x) W q (tok a b)
      rw [g] at this
      exact this


set_option maxRecDepth 100000 in
set_option maxHeartbeats 3200000 in
theorem curveTruth_dead (A : Option Addr) (n cap : Nat) (cs : List CV) (x shift : Int) (w : World) (h : LAt w A n cs) (hm : n ≤ 9223372036854775807) (hd : n = 0 ∨ 12 < n) :
    Calls Try.prog 13 #[.slice A n cap, .int .i64 x, .int .i64 shift] w fun e w' => e = .returned (.bool true) ∧ Below w.heap.size w w' := by
  have HH := Lib.hid head_any
  have HLA := Lib.hid h
  have HSf := Lib.hid (fun W hW => lawSheaf2_any A n cap cs W hW hm)
  have hd1 : ¬ (0 < n ∧ n ≤ 12) := by omega
  by_cases hn : n = 0
  · subst hn
    clear h hd hd1
    go_enter Try.func13, Try.ntmps13
    have B1 := (Below.refl w.heap.size w)
    go_wp2_with fail
    refine (HH.out _).mono ?_; rintro e w1 ⟨rfl, hb1⟩
    have B2 := B1.trans (hb1.mono B1.size)
    go_wp2_with fail
    refine (HSf.out _ (HLA.out.below B2)).mono ?_; rintro e w2 ⟨bb, rfl, hb2⟩
    cases bb
    case false =>
      go_wp2
      go_ret
      exact ⟨by simp, B2.trans (hb2.mono B2.size)⟩
    case true =>
      go_wp2
      go_ret
      exact ⟨by simp, B2.trans (hb2.mono B2.size)⟩
  · have hn1 : ((n : Int) == 0) = false := by simpa using hn
    have hn2 : 12 < n := by omega
    clear h hd hd1
    go_enter Try.func13, Try.ntmps13
    have B1 := (Below.refl w.heap.size w)
    go_wp2_with fail
    refine (HH.out _).mono ?_; rintro e w1 ⟨rfl, hb1⟩
    have B2 := B1.trans (hb1.mono B1.size)
    go_wp2_with fail
    refine (HSf.out _ (HLA.out.below B2)).mono ?_; rintro e w2 ⟨bb, rfl, hb2⟩
    cases bb
    case false =>
      go_wp2
      go_ret
      exact ⟨by simp, B2.trans (hb2.mono B2.size)⟩
    case true =>
      go_wp2
      go_ret
      exact ⟨by simp, B2.trans (hb2.mono B2.size)⟩

set_option maxRecDepth 100000 in
set_option maxHeartbeats 3200000 in
theorem curveTruth_err (A : Option Addr) (n cap : Nat) (cs : List CV) (x shift : Int) (w : World) (h : LAt w A n cs) (hm : n ≤ 9223372036854775807) (hn : 0 < n) (h12 : n ≤ 12) (hz : shErr cs x ≠ 0) :
    Calls Try.prog 13 #[.slice A n cap, .int .i64 x, .int .i64 shift] w fun e w' => e = .returned (.bool true) ∧ Below w.heap.size w w' := by
  have HH := Lib.hid head_any
  have HLA := Lib.hid h
  have HSf := Lib.hid (fun W hW => lawSheaf2_any A n cap cs W hW hm)
  have hlen := h.len
  have H0 : 0 < cs.length := by omega
  obtain ⟨b, off, hAe, hcs⟩ := h.at_ hn
  subst hAe
  have HCS := Lib.hid hcs
  have hn1 : ((n : Int) == 0) = false := by simp; omega
  have hn2 : ¬ 12 < n := by omega
  have hn3 : ¬ (12 : Int) < (n : Int) := by omega
  have HBo := Lib.hid (fun W (hW : LAt W (some ⟨b, off, none⟩) n cs) => Both_any (some ⟨b, off, none⟩) n cap cs x W hW hm)
  have HV0 := Lib.hid (fun W hW => Value_any (cvA cs 0) (cvn cs 0) (cvcap cs 0) (cverr cs 0) (cvks cs 0) x W hW (hcs.le 0 H0))
  have HC0 := Lib.hid (hcs.at_ 0 H0)
  have hb0 : boErr cs x ≠ 0 := fun c => hz (bo_sh (.inl c))
  have hb9 : boErr cs x ≠ 9 := fun c => hz (bo_sh (.inr c))
  have hb1 : (boErr cs x != 0) = true := by simpa using hb0
  have hb2 : (boErr cs x != 9) = true := by simpa using hb9
  clear h hcs hb0 hb9 hz hlen
  generalize boErr cs x = be at *
  generalize boV cs x = bv at *
  obtain ⟨⟨r1, r2⟩, ⟨r3, r4⟩⟩ := bv
  generalize vN (cvks cs 0) (cverr cs 0) x = vn at *
  generalize vD (cvks cs 0) (cverr cs 0) x = vd at *
  generalize valErr (cvks cs 0) (cverr cs 0) x = ve at *
  go_enter Try.func13, Try.ntmps13
  have B1 := (Below.refl w.heap.size w)
  go_wp2_with fail
  refine (HH.out _).mono ?_; rintro e w1 ⟨rfl, hb1⟩
  have B2 := B1.trans (hb1.mono B1.size)
  go_wp2_with fail
  refine (HSf.out _ (HLA.out.below B2)).mono ?_; rintro e w2 ⟨bb, rfl, hb2⟩
  cases bb
  case false =>
    go_wp2
    go_ret
    exact ⟨by simp, B2.trans (hb2.mono B2.size)⟩
  have B3 := B2.trans (hb2.mono B2.size)
  go_wp2_with fail
  refine (HBo.out _ (HLA.out.below B3)).mono ?_; rintro e w3 ⟨rfl, hb3⟩
  have hcs_v := HCS.out.below (B3.trans (hb3.mono B3.size))
  have q00 := hcs_v.s 0 H0
  have q01 := hcs_v.e 0 H0
  simp only [Nat.zero_mul, Nat.add_zero] at q00 q01
  have qlt := hcs_v.lt
  have B4 := B3.trans (hb3.mono B3.size)
  have B4a := B4.alloc B4.size (.cells #[.int .i64 r1, .int .i64 r2, .int .i64 r3, .int .i64 r4] 35)
  go_wp2_with fail
  refine (HV0.out _ (HC0.out.below B4a)).mono ?_; rintro e w4 ⟨rfl, hb4⟩
  clear q00 q01 qlt hcs_v
  have r_4 := (Blk.new w3 35 #[.int .i64 r1, .int .i64 r2, .int .i64 r3, .int .i64 r4]).below hb4
  have hcs_v := HCS.out.below (B4a.trans (hb4.mono B4a.size))
  have q00 := hcs_v.s 0 H0
  have q01 := hcs_v.e 0 H0
  simp only [Nat.zero_mul, Nat.add_zero] at q00 q01
  have qlt := hcs_v.lt
  have r_4c0 := r_4.cell 0
  have r_4c1 := r_4.cell 1
  have r_4c2 := r_4.cell 2
  have r_4c3 := r_4.cell 3
  simp only [List.getElem?_toArray, List.getElem?_cons_zero, List.getElem?_cons_succ] at r_4c0 r_4c1 r_4c2 r_4c3
  have r_4l := r_4.lt
  have BY := B4a.trans (hb4.mono B4a.size)
  have BYa := BY.alloc BY.size (.cells #[.int .i64 vn, .int .i64 vd] 30)
  have BZ := BYa
  by_cases hve : ve = 0
  · subst hve
    go_wp2
    go_ret
    exact ⟨by simp, BZ⟩
  · have hv1 : (ve != 0) = true := by simpa using hve
    go_wp2
    go_ret
    exact ⟨by simp, BZ⟩

set_option maxRecDepth 100000 in
set_option maxHeartbeats 12800000 in
theorem curveTruth_main (A : Option Addr) (n cap : Nat) (cs : List CV) (x shift : Int) (r1 r2 r3 r4 be vn vd s1 s2 s3 s4 g2 N D z : Int) (is : Bool) (lo hi : Nat → Int × Int) (l1 l2 : Nat → Bool) (w : World) (h : LAt w A n cs) (hm : n ≤ 9223372036854775807) (hcap : n ≤ cap) (hn : 0 < n) (h12 : n ≤ 12) (K : TrOk A n cap cs x shift r1 r2 r3 r4 be vn vd s1 s2 s3 s4 g2 N D z is lo hi l1 l2) :
    Calls Try.prog 13 #[.slice A n cap, .int .i64 x, .int .i64 shift] w fun e w' => e = .returned (.bool true) ∧ Below w.heap.size w w' := by
  have HH := Lib.hid head_any
  have HLA := Lib.hid h
  have HSf := Lib.hid (fun W hW => lawSheaf2_any A n cap cs W hW hm)
  have hlen := h.len
  have H0 : 0 < cs.length := by omega
  obtain ⟨b, off, hAe, hcs⟩ := h.at_ hn
  subst hAe
  have HCS := Lib.hid hcs
  have hn1 : ((n : Int) == 0) = false := by simp; omega
  have hn2 : ¬ 12 < n := by omega
  have hn3 : ¬ (12 : Int) < (n : Int) := by omega
  have HK := Lib.hid K
  have HBo := Lib.hid K.HBo
  have HV0 := Lib.hid K.HV0
  have HC0 := Lib.hid (hcs.at_ 0 H0)
  have HCC := Lib.hid hcs.at_
  obtain ⟨v1, v2, v3, v4⟩ := K.vb
  have HLEN := Lib.hid hlen
  clear h hcs K hlen
  go_enter Try.func13, Try.ntmps13
  have B1 := (Below.refl w.heap.size w)
  go_wp2_with fail
  refine (HH.out _).mono ?_; rintro e w1 ⟨rfl, hb1⟩
  have B2 := B1.trans (hb1.mono B1.size)
  go_wp2_with fail
  refine (HSf.out _ (HLA.out.below B2)).mono ?_; rintro e w2 ⟨bb, rfl, hb2⟩
  cases bb
  case false =>
    go_wp2
    go_ret
    exact ⟨by simp, B2.trans (hb2.mono B2.size)⟩
  have B3 := B2.trans (hb2.mono B2.size)
  go_wp2_with fail
  refine (HBo.out _ (HLA.out.below B3)).mono ?_; rintro e w3 ⟨rfl, hb3⟩
  have hcs_v := HCS.out.below (B3.trans (hb3.mono B3.size))
  have q00 := hcs_v.s 0 H0
  have q01 := hcs_v.e 0 H0
  simp only [Nat.zero_mul, Nat.add_zero] at q00 q01
  have qlt := hcs_v.lt
  have B4 := B3.trans (hb3.mono B3.size)
  have B4a := B4.alloc B4.size (.cells #[.int .i64 r1, .int .i64 r2, .int .i64 r3, .int .i64 r4] 35)
  go_wp2_with fail
  refine (HV0.out _ (HC0.out.below B4a)).mono ?_; rintro e w4 ⟨rfl, hb4⟩
  clear q00 q01 qlt hcs_v
  have r_4 := (Blk.new w3 35 #[.int .i64 r1, .int .i64 r2, .int .i64 r3, .int .i64 r4]).below hb4
  have hcs_v := HCS.out.below (B4a.trans (hb4.mono B4a.size))
  have q00 := hcs_v.s 0 H0
  have q01 := hcs_v.e 0 H0
  simp only [Nat.zero_mul, Nat.add_zero] at q00 q01
  have qlt := hcs_v.lt
  have r_4c0 := r_4.cell 0
  have r_4c1 := r_4.cell 1
  have r_4c2 := r_4.cell 2
  have r_4c3 := r_4.cell 3
  simp only [List.getElem?_toArray, List.getElem?_cons_zero, List.getElem?_cons_succ] at r_4c0 r_4c1 r_4c2 r_4c3
  have r_4l := r_4.lt
  have B5 := B4a.trans (hb4.mono B4a.size)
  have B5a := B5.alloc B5.size (.cells #[.int .i64 vn, .int .i64 vd] 30)
  go_upto_region 6 with fail
  clear q00 q01 qlt hcs_v r_4c0 r_4c1 r_4c2 r_4c3 r_4l
  have r_5 := (r_4.alloc (.cells #[.int .i64 vn, .int .i64 vd] 30))
  clear r_4
  have v_5 := (Blk.new w4 30 #[.int .i64 vn, .int .i64 vd])
  generalize hV5 : w4.alloc (.cells #[.int .i64 vn, .int .i64 vd] 30) = V5 at *
  generalize hg5 : w4.heap.size = g5 at *
  clear hV5 hg5
  have hcs_v := HCS.out.below (B5a)
  have q00 := hcs_v.s 0 H0
  have q01 := hcs_v.e 0 H0
  simp only [Nat.zero_mul, Nat.add_zero] at q00 q01
  have qlt := hcs_v.lt
  have r_5c0 := r_5.cell 0
  have r_5c1 := r_5.cell 1
  have r_5c2 := r_5.cell 2
  have r_5c3 := r_5.cell 3
  simp only [List.getElem?_toArray, List.getElem?_cons_zero, List.getElem?_cons_succ] at r_5c0 r_5c1 r_5c2 r_5c3
  have r_5l := r_5.lt
  have v_5c0 := v_5.cell 0
  have v_5c1 := v_5.cell 1
  simp only [List.getElem?_toArray, List.getElem?_cons_zero, List.getElem?_cons_succ] at v_5c0 v_5c1
  have v_5l := v_5.lt
  go_cut [61] (fun s wx => s = .bool false ∧ wx = V5)
  case first =>
    rcases HK.out.be09 with rfl | rfl
    · go_wp2
      go_meet
      exact ⟨by simp, rfl⟩
    · go_wp2
      go_meet
      exact ⟨by simp, rfl⟩
  case rest =>
    obtain ⟨hs61, hwc⟩ := hcut
    subst hs61 hwc
    go_upto_if 65 with fail
    go_cut [12, 13, 14, 15, 16, 17, 18] (fun _ _ _ _ _ _ _ wx => Below w.heap.size w wx ∧ Blk wx w3.heap.size 35 #[.int .i64 r1, .int .i64 r2, .int .i64 r3, .int .i64 r4] ∧ Blk wx g5 30 #[.int .i64 vn, .int .i64 vd])
    case first =>
      by_cases h1n : 1 < n
      case neg =>
        have h1m : ¬ (1 : Int) < (n : Int) := by omega
        go_wp2
        go_meet
        exact ⟨(B5a), r_5, v_5⟩
      have h1m : (1 : Int) < (n : Int) := by omega
      have h2c : ¬ (cap : Int) < 2 := by omega
      have H1 : 1 < cs.length := by rw [HLEN.out]; exact h1n
      have HB2 := Lib.hid (HK.out.HB2 h1n)
      have HAp := Lib.hid (HK.out.HAp h1n)
      have HCl := Lib.hid (HK.out.HCl h1n)
      have HC1 := Lib.hid (HCC.out 1 H1)
      obtain ⟨e1, e2, e3, e4, e5, e6, e7, e8⟩ := HK.out.bd h1n
      have HIF := Lib.hid (HK.out.gif h1n)
      have HCf := Lib.hid (HK.out.hcl h1n)
      have HG2 := Lib.hid (HK.out.g209 h1n)
      clear q00 q01 qlt hcs_v r_5c0 r_5c1 r_5c2 r_5c3 r_5l v_5c0 v_5c1 v_5l
      have BQ := B5a
      have hcs_v := HCS.out.below (BQ)
      have q00 := hcs_v.s 0 H0
      have q01 := hcs_v.e 0 H0
      have q10 := hcs_v.s 1 H1
      have q11 := hcs_v.e 1 H1
      simp only [Nat.zero_mul, Nat.add_zero, Nat.one_mul] at q00 q01 q10 q11
      rw [Nat.add_assoc] at q11
      have qlt := hcs_v.lt
      have r_5c0 := r_5.cell 0
      have r_5c1 := r_5.cell 1
      have r_5c2 := r_5.cell 2
      have r_5c3 := r_5.cell 3
      simp only [List.getElem?_toArray, List.getElem?_cons_zero, List.getElem?_cons_succ] at r_5c0 r_5c1 r_5c2 r_5c3
      have r_5l := r_5.lt
      have v_5c0 := v_5.cell 0
      have v_5c1 := v_5.cell 1
      simp only [List.getElem?_toArray, List.getElem?_cons_zero, List.getElem?_cons_succ] at v_5c0 v_5c1
      have v_5l := v_5.lt
      have B6 := BQ
      go_wp2_with fail
      refine (HB2.out _ (HLA.out.below B6)).mono ?_; rintro e w6 ⟨rfl, hb6⟩
      clear q00 q01 q10 q11 qlt hcs_v r_5c0 r_5c1 r_5c2 r_5c3 r_5l v_5c0 v_5c1 v_5l
      have r_6 := r_5.below hb6
      have v_6 := v_5.below hb6
      clear r_5 v_5
      have hcs_v := HCS.out.below (B6.trans (hb6.mono B6.size))
      have q00 := hcs_v.s 0 H0
      have q01 := hcs_v.e 0 H0
      have q10 := hcs_v.s 1 H1
      have q11 := hcs_v.e 1 H1
      simp only [Nat.zero_mul, Nat.add_zero, Nat.one_mul] at q00 q01 q10 q11
      rw [Nat.add_assoc] at q11
      have qlt := hcs_v.lt
      have r_6c0 := r_6.cell 0
      have r_6c1 := r_6.cell 1
      have r_6c2 := r_6.cell 2
      have r_6c3 := r_6.cell 3
      simp only [List.getElem?_toArray, List.getElem?_cons_zero, List.getElem?_cons_succ] at r_6c0 r_6c1 r_6c2 r_6c3
      have r_6l := r_6.lt
      have v_6c0 := v_6.cell 0
      have v_6c1 := v_6.cell 1
      simp only [List.getElem?_toArray, List.getElem?_cons_zero, List.getElem?_cons_succ] at v_6c0 v_6c1
      have v_6l := v_6.lt
      have B7 := B6.trans (hb6.mono B6.size)
      have B7a := B7.alloc B7.size (.cells #[.int .i64 s1, .int .i64 s2, .int .i64 s3, .int .i64 s4] 35)
      go_wp2_with fail
      clear q00 q01 q10 q11 qlt hcs_v r_6c0 r_6c1 r_6c2 r_6c3 r_6l v_6c0 v_6c1 v_6l
      have r_7 := (r_6.alloc (.cells #[.int .i64 s1, .int .i64 s2, .int .i64 s3, .int .i64 s4] 35))
      have v_7 := (v_6.alloc (.cells #[.int .i64 s1, .int .i64 s2, .int .i64 s3, .int .i64 s4] 35))
      clear r_6 v_6
      have r2__7 := (Blk.new w6 35 #[.int .i64 s1, .int .i64 s2, .int .i64 s3, .int .i64 s4])
      generalize hV7 : w6.alloc (.cells #[.int .i64 s1, .int .i64 s2, .int .i64 s3, .int .i64 s4] 35) = V7 at *
      generalize hg7 : w6.heap.size = g7 at *
      clear hV7 hg7
      have hcs_v := HCS.out.below (B7a)
      have q00 := hcs_v.s 0 H0
      have q01 := hcs_v.e 0 H0
      have q10 := hcs_v.s 1 H1
      have q11 := hcs_v.e 1 H1
      simp only [Nat.zero_mul, Nat.add_zero, Nat.one_mul] at q00 q01 q10 q11
      rw [Nat.add_assoc] at q11
      have qlt := hcs_v.lt
      have r_7c0 := r_7.cell 0
      have r_7c1 := r_7.cell 1
      have r_7c2 := r_7.cell 2
      have r_7c3 := r_7.cell 3
      simp only [List.getElem?_toArray, List.getElem?_cons_zero, List.getElem?_cons_succ] at r_7c0 r_7c1 r_7c2 r_7c3
      have r_7l := r_7.lt
      have v_7c0 := v_7.cell 0
      have v_7c1 := v_7.cell 1
      simp only [List.getElem?_toArray, List.getElem?_cons_zero, List.getElem?_cons_succ] at v_7c0 v_7c1
      have v_7l := v_7.lt
      have r2__7c0 := r2__7.cell 0
      have r2__7c1 := r2__7.cell 1
      have r2__7c2 := r2__7.cell 2
      have r2__7c3 := r2__7.cell 3
      simp only [List.getElem?_toArray, List.getElem?_cons_zero, List.getElem?_cons_succ] at r2__7c0 r2__7c1 r2__7c2 r2__7c3
      have r2__7l := r2__7.lt
      refine wp_region_new 9 8 14 30 #[.int .i64 0, .int .i64 0] (by kernel_rfl) (by kernel_rfl) ?_ ?_
      · intro a' v R hR o ho
        simp only [List.getElem?_cons_succ, List.getElem?_cons_zero, Option.some.injEq] at ho
        subst ho
        simpa [loudAt, loudUpon, go_sem, execOp] using hR
      apply Exists.intro
      refine ⟨?_, ?_⟩
      · intro V hV
        have BV := (B7a).trans (hV.mono (B7a).size)
        have r_v := r_7.below hV
        have r_vc0 := r_v.cell 0
        have r_vc1 := r_v.cell 1
        have r_vc2 := r_v.cell 2
        have r_vc3 := r_v.cell 3
        simp only [List.getElem?_toArray, List.getElem?_cons_zero, List.getElem?_cons_succ] at r_vc0 r_vc1 r_vc2 r_vc3
        have r_vl := r_v.lt
        have v_v := v_7.below hV
        have v_vc0 := v_v.cell 0
        have v_vc1 := v_v.cell 1
        simp only [List.getElem?_toArray, List.getElem?_cons_zero, List.getElem?_cons_succ] at v_vc0 v_vc1
        have v_vl := v_v.lt
        have r2__v := r2__7.below hV
        have r2__vc0 := r2__v.cell 0
        have r2__vc1 := r2__v.cell 1
        have r2__vc2 := r2__v.cell 2
        have r2__vc3 := r2__v.cell 3
        simp only [List.getElem?_toArray, List.getElem?_cons_zero, List.getElem?_cons_succ] at r2__vc0 r2__vc1 r2__vc2 r2__vc3
        have r2__vl := r2__v.lt
        have HKV := Lib.hid (HC0.out.below BV)
        have HKV' := Lib.hid (HC1.out.below BV)
        have hcsV := HCS.out.below BV
        have q00 := hcsV.s 0 H0
        have q01 := hcsV.e 0 H0
        have q10 := hcsV.s 1 H1
        have q11 := hcsV.e 1 H1
        simp only [Nat.zero_mul, Nat.add_zero, Nat.one_mul] at q00 q01 q10 q11
        rw [Nat.add_assoc] at q11
        have qlt := hcsV.lt
        obtain ⟨xc, xf⟩ := xcell (W := V)
        simp only [List.take_succ_cons, List.take_zero, qOf, isLoud, List.any_cons, List.any_nil, Nat.reduceBEq, Bool.or_false, Nat.reduceAdd, Bool.false_eq_true, if_true, if_false, beq_self_eq_true, Nat.zero_add]
        repeat (first | go_big_quiet_step (first | (go_at_call 45; with_reducible refine calls_ext (HAp.out _ ?_ ?_); exact HKV.out.below (Ext.below _); exact HKV'.out.below (Ext.below _))) | quiet_step (first | (go_at_call 45; with_reducible refine calls_ext (HAp.out _ ?_ ?_); exact HKV.out.below (Ext.below _); exact HKV'.out.below (Ext.below _))))
        exact wpQuiet_nil rfl
      intro gn8 vn8 hgn8 hvn8 hbn8
      simp only [List.drop_succ_cons, List.drop_zero, Act.put, List.setIfInBounds_toArray, List.set_cons_succ, List.set_cons_zero]
      have nc0 := hbn8.cell 0
      have nc1 := hbn8.cell 1
      simp only [List.getElem?_toArray, List.getElem?_cons_zero, List.getElem?_cons_succ] at nc0 nc1
      have nf0 := hbn8.frozen 0
      have nf1 := hbn8.frozen 1
      have nl := hbn8.lt
      have dd_8 := ((hbn8.set_ 0 (.int .i64 N)).set_ 1 (.int .i64 D))
      simp only [List.setIfInBounds_toArray, List.set_cons_zero, List.set_cons_succ] at dd_8
      have r_l8 := r_7.lt
      have r_8 := (((r_7.below hvn8).far (p := ⟨gn8, 0, none⟩) (by simp; omega) (.int .i64 N)).far (p := ⟨gn8, 1, none⟩) (by simp; omega) (.int .i64 D))
      have v_l8 := v_7.lt
      have v_8 := (((v_7.below hvn8).far (p := ⟨gn8, 0, none⟩) (by simp; omega) (.int .i64 N)).far (p := ⟨gn8, 1, none⟩) (by simp; omega) (.int .i64 D))
      have r2__l8 := r2__7.lt
      have r2__8 := (((r2__7.below hvn8).far (p := ⟨gn8, 0, none⟩) (by simp; omega) (.int .i64 N)).far (p := ⟨gn8, 1, none⟩) (by simp; omega) (.int .i64 D))
      have hbv8 := ((hvn8.setCell (p := ⟨gn8, 0, none⟩) hgn8 (.int .i64 N)).setCell (p := ⟨gn8, 1, none⟩) hgn8 (.int .i64 D))
      have B8 := (B7a).trans (hbv8.mono (B7a).size)
      go_wp2_with fail
      generalize hve8 : (vn8.setCell ⟨gn8, 0, none⟩ (.int .i64 N)).setCell ⟨gn8, 1, none⟩ (.int .i64 D) = V8 at *
      clear hve8 nc0 nc1 nf0 nf1 nl hbn8 hvn8
      have hcs_v := HCS.out.below (B8)
      have q00 := hcs_v.s 0 H0
      have q01 := hcs_v.e 0 H0
      have q10 := hcs_v.s 1 H1
      have q11 := hcs_v.e 1 H1
      simp only [Nat.zero_mul, Nat.add_zero, Nat.one_mul] at q00 q01 q10 q11
      rw [Nat.add_assoc] at q11
      have qlt := hcs_v.lt
      have r_8c0 := r_8.cell 0
      have r_8c1 := r_8.cell 1
      have r_8c2 := r_8.cell 2
      have r_8c3 := r_8.cell 3
      simp only [List.getElem?_toArray, List.getElem?_cons_zero, List.getElem?_cons_succ] at r_8c0 r_8c1 r_8c2 r_8c3
      have r_8l := r_8.lt
      have v_8c0 := v_8.cell 0
      have v_8c1 := v_8.cell 1
      simp only [List.getElem?_toArray, List.getElem?_cons_zero, List.getElem?_cons_succ] at v_8c0 v_8c1
      have v_8l := v_8.lt
      have r2__8c0 := r2__8.cell 0
      have r2__8c1 := r2__8.cell 1
      have r2__8c2 := r2__8.cell 2
      have r2__8c3 := r2__8.cell 3
      simp only [List.getElem?_toArray, List.getElem?_cons_zero, List.getElem?_cons_succ] at r2__8c0 r2__8c1 r2__8c2 r2__8c3
      have r2__8l := r2__8.lt
      have dd_8c0 := dd_8.cell 0
      have dd_8c1 := dd_8.cell 1
      simp only [List.getElem?_toArray, List.getElem?_cons_zero, List.getElem?_cons_succ] at dd_8c0 dd_8c1
      have dd_8l := dd_8.lt
      obtain ⟨p1, p2⟩ := mul_bd (x := cverr cs 0 + cverr cs 1) (y := D) (A := 8000) (B := 4194304) (by omega) (by omega) (by omega) (by omega)
      have hmu : IntKind.i64.wrap (cverr cs 0 + cverr cs 1) = cverr cs 0 + cverr cs 1 := IntWalk.i64_in _ (by omega)
      have hmv : IntKind.i64.wrap ((cverr cs 0 + cverr cs 1) * D) = (cverr cs 0 + cverr cs 1) * D := IntWalk.i64_in _ (by omega)
      obtain ⟨xc, xf⟩ := xcell (W := V8)
      refine wp_region_quiet_tail 12 (by kernel_rfl) (by kernel_rfl) ?_
      simp only [List.take_succ_cons, List.take_zero, List.drop_succ_cons, List.drop_zero]
      repeat (first | go_big_quiet_step (fail) | quiet_step (fail))
      refine wpQuiet_nil ?_
      intro w11 hb11
      clear xc xf hmu hmv
      clear q00 q01 q10 q11 qlt hcs_v r_8c0 r_8c1 r_8c2 r_8c3 r_8l v_8c0 v_8c1 v_8l r2__8c0 r2__8c1 r2__8c2 r2__8c3 r2__8l dd_8c0 dd_8c1 dd_8l
      have B9 := B8
      have r_9 := r_8.below hb11
      have v_9 := v_8.below hb11
      have r2__9 := r2__8.below hb11
      have dd_9 := dd_8.below hb11
      clear r_8 v_8 r2__8 dd_8
      have hcs_v := HCS.out.below (B9.trans (hb11.mono B9.size))
      have q00 := hcs_v.s 0 H0
      have q01 := hcs_v.e 0 H0
      have q10 := hcs_v.s 1 H1
      have q11 := hcs_v.e 1 H1
      simp only [Nat.zero_mul, Nat.add_zero, Nat.one_mul] at q00 q01 q10 q11
      rw [Nat.add_assoc] at q11
      have qlt := hcs_v.lt
      have r_9c0 := r_9.cell 0
      have r_9c1 := r_9.cell 1
      have r_9c2 := r_9.cell 2
      have r_9c3 := r_9.cell 3
      simp only [List.getElem?_toArray, List.getElem?_cons_zero, List.getElem?_cons_succ] at r_9c0 r_9c1 r_9c2 r_9c3
      have r_9l := r_9.lt
      have v_9c0 := v_9.cell 0
      have v_9c1 := v_9.cell 1
      simp only [List.getElem?_toArray, List.getElem?_cons_zero, List.getElem?_cons_succ] at v_9c0 v_9c1
      have v_9l := v_9.lt
      have r2__9c0 := r2__9.cell 0
      have r2__9c1 := r2__9.cell 1
      have r2__9c2 := r2__9.cell 2
      have r2__9c3 := r2__9.cell 3
      simp only [List.getElem?_toArray, List.getElem?_cons_zero, List.getElem?_cons_succ] at r2__9c0 r2__9c1 r2__9c2 r2__9c3
      have r2__9l := r2__9.lt
      have dd_9c0 := dd_9.cell 0
      have dd_9c1 := dd_9.cell 1
      simp only [List.getElem?_toArray, List.getElem?_cons_zero, List.getElem?_cons_succ] at dd_9c0 dd_9c1
      have dd_9l := dd_9.lt
      generalize hww : (cverr cs 0 + cverr cs 1) * D = ww at *
      clear hww
      go_upto_region 12 with fail
      go_cut [106] (fun s wx => s = .bool false ∧ wx = w11)
      case first =>
        have hif := HIF.out
        rcases HG2.out with rfl | rfl
        · have m1 : ¬ ww < N := fun c => by have := hif.2 (.inl c); omega
          have m2 : ¬ ww < -N := fun c => by have := hif.2 (.inr c); omega
          clear hif
          go_wp2
          go_meet
          exact ⟨by simp, rfl⟩
        · have hor := hif.1 rfl
          clear hif
          by_cases m1 : ww < N
          · clear hor
            go_wp2
            go_meet
            exact ⟨by simp, rfl⟩
          · have m2 : ww < -N := hor.resolve_left m1
            clear hor
            go_wp2
            go_meet
            exact ⟨by simp, rfl⟩
      case rest =>
        obtain ⟨hs106, hwc⟩ := hcut
        subst hs106 hwc
        go_wp2_with fail
        have HKV := Lib.hid (HC0.out.below (B9.trans (hb11.mono B9.size)))
        have HKV' := Lib.hid (HC1.out.below (B9.trans (hb11.mono B9.size)))
        obtain ⟨xc, xf⟩ := xcell (W := wc)
        refine wp_region_float 11 [8, 9, 10] (by kernel_rfl) (by kernel_rfl) (by kernel_rfl) ?_
        simp only [List.take_succ_cons, List.take_zero]
        repeat (first | go_big_quiet_step ((go_at_call 57; with_reducible refine calls_ext (HCl.out _ ?_ ?_); exact HKV.out.below (Ext.below _); exact HKV'.out.below (Ext.below _))) | quiet_step ((go_at_call 57; with_reducible refine calls_ext (HCl.out _ ?_ ?_); exact HKV.out.below (Ext.below _); exact HKV'.out.below (Ext.below _))))
        refine wpQuiet_nil ?_
        refine ⟨?_, ?_⟩
        · intro j hj o ho
          simp only [List.mem_cons, List.not_mem_nil, or_false] at hj
          rcases hj with rfl | rfl | rfl
          · simp only [List.getElem?_cons_succ, List.getElem?_cons_zero, Option.some.injEq] at ho
            subst ho
            refine ⟨⟨115, rfl, by simp⟩, fun V => ?_⟩
            repeat (first | go_big_quiet_step (fail) | quiet_step (fail))
            exact wpQuiet_nil rfl
          · simp only [List.getElem?_cons_succ, List.getElem?_cons_zero, Option.some.injEq] at ho
            subst ho
            refine ⟨⟨116, rfl, by simp⟩, fun V => ?_⟩
            repeat (first | go_big_quiet_step (fail) | quiet_step (fail))
            exact wpQuiet_nil rfl
          · simp only [List.getElem?_cons_succ, List.getElem?_cons_zero, Option.some.injEq] at ho
            subst ho
            refine ⟨⟨117, rfl, by simp⟩, fun V => ?_⟩
            repeat (first | go_big_quiet_step (fail) | quiet_step (fail))
            exact wpQuiet_nil rfl
        rintro _ ⟨⟨w14, hb14⟩, rfl⟩
        go_wp2_with fail
        refine ⟨rfl, ?_⟩
        clear xc xf
        clear q00 q01 q10 q11 qlt hcs_v r_9c0 r_9c1 r_9c2 r_9c3 r_9l v_9c0 v_9c1 v_9l r2__9c0 r2__9c1 r2__9c2 r2__9c3 r2__9l dd_9c0 dd_9c1 dd_9l
        have B10 := B9.trans (hb11.mono B9.size)
        have r_10 := r_9.below hb14
        have v_10 := v_9.below hb14
        have r2__10 := r2__9.below hb14
        have dd_10 := dd_9.below hb14
        clear r_9 v_9 r2__9 dd_9
        have hcs_v := HCS.out.below (B10.trans (hb14.mono B10.size))
        have q00 := hcs_v.s 0 H0
        have q01 := hcs_v.e 0 H0
        have q10 := hcs_v.s 1 H1
        have q11 := hcs_v.e 1 H1
        simp only [Nat.zero_mul, Nat.add_zero, Nat.one_mul] at q00 q01 q10 q11
        rw [Nat.add_assoc] at q11
        have qlt := hcs_v.lt
        have r_10c0 := r_10.cell 0
        have r_10c1 := r_10.cell 1
        have r_10c2 := r_10.cell 2
        have r_10c3 := r_10.cell 3
        simp only [List.getElem?_toArray, List.getElem?_cons_zero, List.getElem?_cons_succ] at r_10c0 r_10c1 r_10c2 r_10c3
        have r_10l := r_10.lt
        have v_10c0 := v_10.cell 0
        have v_10c1 := v_10.cell 1
        simp only [List.getElem?_toArray, List.getElem?_cons_zero, List.getElem?_cons_succ] at v_10c0 v_10c1
        have v_10l := v_10.lt
        have r2__10c0 := r2__10.cell 0
        have r2__10c1 := r2__10.cell 1
        have r2__10c2 := r2__10.cell 2
        have r2__10c3 := r2__10.cell 3
        simp only [List.getElem?_toArray, List.getElem?_cons_zero, List.getElem?_cons_succ] at r2__10c0 r2__10c1 r2__10c2 r2__10c3
        have r2__10l := r2__10.lt
        have dd_10c0 := dd_10.cell 0
        have dd_10c1 := dd_10.cell 1
        simp only [List.getElem?_toArray, List.getElem?_cons_zero, List.getElem?_cons_succ] at dd_10c0 dd_10c1
        have dd_10l := dd_10.lt
        rcases HG2.out with rfl | rfl
        · skip
          go_wp2
          go_meet
          exact ⟨(B10.trans (hb14.mono B10.size)), r_10, v_10⟩
        · obtain ⟨rfl, hzx⟩ := HCf.out rfl
          have hzy : ¬ x < z := by omega
          go_wp2
          go_meet
          exact ⟨(B10.trans (hb14.mono B10.size)), r_10, v_10⟩
    case rest =>
      have hcut6 := hcut
      clear hcut
      obtain ⟨Bc6, r_6, v_6⟩ := hcut6
      have hcs_v := HCS.out.below (Bc6)
      have q00 := hcs_v.s 0 H0
      have q01 := hcs_v.e 0 H0
      simp only [Nat.zero_mul, Nat.add_zero] at q00 q01
      have qlt := hcs_v.lt
      have r_6c0 := r_6.cell 0
      have r_6c1 := r_6.cell 1
      have r_6c2 := r_6.cell 2
      have r_6c3 := r_6.cell 3
      simp only [List.getElem?_toArray, List.getElem?_cons_zero, List.getElem?_cons_succ] at r_6c0 r_6c1 r_6c2 r_6c3
      have r_6l := r_6.lt
      have v_6c0 := v_6.cell 0
      have v_6c1 := v_6.cell 1
      simp only [List.getElem?_toArray, List.getElem?_cons_zero, List.getElem?_cons_succ] at v_6c0 v_6c1
      have v_6l := v_6.lt
      by_cases c1 : shift < -4000
      case pos =>
        go_wp2
        go_ret
        exact ⟨by simp, Bc6⟩
      by_cases c2 : 4000 < shift
      case pos =>
        go_wp2
        go_ret
        exact ⟨by simp, Bc6⟩
      obtain ⟨p1, p2⟩ := mul_bd (x := shift) (y := vd) (A := 4000) (B := 2000) (by omega) (by omega) (by omega) (by omega)
      have HL1 := Lib.hid (HK.out.HL1 (by omega) (by omega))
      have HL2 := Lib.hid (HK.out.HL2 (by omega) (by omega))
      have fin := Lib.hid (HK.out.fin (by omega) (by omega))
      have HVk := Lib.hid HK.out.HVk
      have B7 := Bc6
      have B7a := B7.alloc B7.size (.cells #[.int .i64 (vn + shift * vd), .int .i64 vd] 30)
      go_wp2_with fail
      clear q00 q01 qlt hcs_v r_6c0 r_6c1 r_6c2 r_6c3 r_6l v_6c0 v_6c1 v_6l
      have r_7 := (r_6.alloc (.cells #[.int .i64 (vn + shift * vd), .int .i64 vd] 30))
      have v_7 := (v_6.alloc (.cells #[.int .i64 (vn + shift * vd), .int .i64 vd] 30))
      clear r_6 v_6
      have t_7 := (Blk.new wc 30 #[.int .i64 (vn + shift * vd), .int .i64 vd])
      generalize hV7 : wc.alloc (.cells #[.int .i64 (vn + shift * vd), .int .i64 vd] 30) = V7 at *
      generalize hg7 : wc.heap.size = g7 at *
      clear hV7 hg7
      have hcs_v := HCS.out.below (B7a)
      have q00 := hcs_v.s 0 H0
      have q01 := hcs_v.e 0 H0
      simp only [Nat.zero_mul, Nat.add_zero] at q00 q01
      have qlt := hcs_v.lt
      have r_7c0 := r_7.cell 0
      have r_7c1 := r_7.cell 1
      have r_7c2 := r_7.cell 2
      have r_7c3 := r_7.cell 3
      simp only [List.getElem?_toArray, List.getElem?_cons_zero, List.getElem?_cons_succ] at r_7c0 r_7c1 r_7c2 r_7c3
      have r_7l := r_7.lt
      have v_7c0 := v_7.cell 0
      have v_7c1 := v_7.cell 1
      simp only [List.getElem?_toArray, List.getElem?_cons_zero, List.getElem?_cons_succ] at v_7c0 v_7c1
      have v_7l := v_7.lt
      have t_7c0 := t_7.cell 0
      have t_7c1 := t_7.cell 1
      simp only [List.getElem?_toArray, List.getElem?_cons_zero, List.getElem?_cons_succ] at t_7c0 t_7c1
      have t_7l := t_7.lt
      generalize htn : vn + shift * vd = tn at *
      clear htn p1 p2
      go_loopw [20] (fun i wx => ∃ k : Nat, k ≤ n ∧ i = .int .i64 k ∧ (∀ j, j < k → l1 j = false ∧ l2 j = false) ∧ Below w.heap.size w wx ∧ Blk wx w3.heap.size 35 #[.int .i64 r1, .int .i64 r2, .int .i64 r3, .int .i64 r4] ∧ Blk wx g5 30 #[.int .i64 vn, .int .i64 vd] ∧ Blk wx g7 30 #[.int .i64 tn, .int .i64 vd]) (fun i _ => n - (intOf i).toNat)
      case atStart => exact ⟨0, Nat.zero_le _, rfl, fun j hj => absurd hj (by omega), (B7a), r_7, v_7, t_7⟩
      case round =>
        clear q00 q01 qlt hcs_v r_7c0 r_7c1 r_7c2 r_7c3 r_7l v_7c0 v_7c1 v_7l t_7c0 t_7c1 t_7l
        obtain ⟨k, hk, rfl, hall, Br, r_20, v_20, t_20⟩ := hrel
        have HALL := Lib.hid hall
        clear hall
        have r_20c0 := r_20.cell 0
        have r_20c1 := r_20.cell 1
        have r_20c2 := r_20.cell 2
        have r_20c3 := r_20.cell 3
        simp only [List.getElem?_toArray, List.getElem?_cons_zero, List.getElem?_cons_succ] at r_20c0 r_20c1 r_20c2 r_20c3
        have r_20l := r_20.lt
        have v_20c0 := v_20.cell 0
        have v_20c1 := v_20.cell 1
        simp only [List.getElem?_toArray, List.getElem?_cons_zero, List.getElem?_cons_succ] at v_20c0 v_20c1
        have v_20l := v_20.lt
        have t_20c0 := t_20.cell 0
        have t_20c1 := t_20.cell 1
        simp only [List.getElem?_toArray, List.getElem?_cons_zero, List.getElem?_cons_succ] at t_20c0 t_20c1
        have t_20l := t_20.lt
        by_cases hkn : k < n
        case neg =>
          have hkk : k = n := by omega
          subst hkk
          obtain ⟨hbe, hf1, hf2⟩ := fin.out HALL.out
          have HF1 := Lib.hid hf1
          have HF2 := Lib.hid hf2
          subst hbe
          clear hf1 hf2
          have B21 := Br
          go_wp2_with fail
          refine (HF1.out _).mono ?_; rintro e w21 ⟨rfl, hb21⟩
          clear r_20c0 r_20c1 r_20c2 r_20c3 r_20l v_20c0 v_20c1 v_20l t_20c0 t_20c1 t_20l
          have r_21 := r_20.below hb21
          have v_21 := v_20.below hb21
          have t_21 := t_20.below hb21
          clear r_20 v_20 t_20
          have r_21c0 := r_21.cell 0
          have r_21c1 := r_21.cell 1
          have r_21c2 := r_21.cell 2
          have r_21c3 := r_21.cell 3
          simp only [List.getElem?_toArray, List.getElem?_cons_zero, List.getElem?_cons_succ] at r_21c0 r_21c1 r_21c2 r_21c3
          have r_21l := r_21.lt
          have v_21c0 := v_21.cell 0
          have v_21c1 := v_21.cell 1
          simp only [List.getElem?_toArray, List.getElem?_cons_zero, List.getElem?_cons_succ] at v_21c0 v_21c1
          have v_21l := v_21.lt
          have t_21c0 := t_21.cell 0
          have t_21c1 := t_21.cell 1
          simp only [List.getElem?_toArray, List.getElem?_cons_zero, List.getElem?_cons_succ] at t_21c0 t_21c1
          have t_21l := t_21.lt
          have B22 := B21.trans (hb21.mono B21.size)
          go_wp2_with fail
          refine (HF2.out _).mono ?_; rintro e w22 ⟨rfl, hb22⟩
          clear r_21c0 r_21c1 r_21c2 r_21c3 r_21l v_21c0 v_21c1 v_21l t_21c0 t_21c1 t_21l
          have r_22 := r_21.below hb22
          have v_22 := v_21.below hb22
          have t_22 := t_21.below hb22
          clear r_21 v_21 t_21
          have r_22c0 := r_22.cell 0
          have r_22c1 := r_22.cell 1
          have r_22c2 := r_22.cell 2
          have r_22c3 := r_22.cell 3
          simp only [List.getElem?_toArray, List.getElem?_cons_zero, List.getElem?_cons_succ] at r_22c0 r_22c1 r_22c2 r_22c3
          have r_22l := r_22.lt
          have v_22c0 := v_22.cell 0
          have v_22c1 := v_22.cell 1
          simp only [List.getElem?_toArray, List.getElem?_cons_zero, List.getElem?_cons_succ] at v_22c0 v_22c1
          have v_22l := v_22.lt
          have t_22c0 := t_22.cell 0
          have t_22c1 := t_22.cell 1
          simp only [List.getElem?_toArray, List.getElem?_cons_zero, List.getElem?_cons_succ] at t_22c0 t_22c1
          have t_22l := t_22.lt
          go_wp2
          go_ret
          exact ⟨by simp, B22.trans (hb22.mono B22.size)⟩
        have hkl : k < cs.length := by rw [HLEN.out]; exact hkn
        have hks := (HCS.out.below Br).s k hkl
        have hke := (HCS.out.below Br).e k hkl
        have hkb := (HCS.out.below Br).lt
        have HKc := Lib.hid (HCC.out k hkl)
        have HVv := Lib.hid (HVk.out k hkn)
        have HLa := Lib.hid (HL1.out k hkn)
        have HLb := Lib.hid (HL2.out k hkn)
        have hk2 : ∀ u v : Bool, l1 k = u → l2 k = v → u = false → v = false → ∀ j, j < k + 1 → l1 j = false ∧ l2 j = false := fun u v e1 e2 f1 f2 j hj => if e : j = k then by subst e; exact ⟨e1.trans f1, e2.trans f2⟩ else HALL.out j (by omega)
        have HK2 := Lib.hid (hk2 _ _ rfl rfl)
        clear hk2
        generalize cvA cs k = kA at *
        generalize cvn cs k = kn at *
        generalize cvcap cs k = kc at *
        generalize cverr cs k = ke at *
        generalize cvks cs k = kk at *
        generalize l1 k = b1 at *
        generalize l2 k = b2 at *
        generalize lo k = lk at *
        generalize hi k = hik at *
        obtain ⟨a1, a2⟩ := lk
        obtain ⟨a3, a4⟩ := hik
        dsimp only at HVv HLa HLb
        have B21 := Br
        go_wp2_with fail
        refine (HVv.out _ (HKc.out.below B21)).mono ?_; rintro e w21 ⟨rfl, hb21⟩
        clear r_20c0 r_20c1 r_20c2 r_20c3 r_20l v_20c0 v_20c1 v_20l t_20c0 t_20c1 t_20l
        have r_21 := r_20.below hb21
        have v_21 := v_20.below hb21
        have t_21 := t_20.below hb21
        clear r_20 v_20 t_20
        have r_21c0 := r_21.cell 0
        have r_21c1 := r_21.cell 1
        have r_21c2 := r_21.cell 2
        have r_21c3 := r_21.cell 3
        simp only [List.getElem?_toArray, List.getElem?_cons_zero, List.getElem?_cons_succ] at r_21c0 r_21c1 r_21c2 r_21c3
        have r_21l := r_21.lt
        have v_21c0 := v_21.cell 0
        have v_21c1 := v_21.cell 1
        simp only [List.getElem?_toArray, List.getElem?_cons_zero, List.getElem?_cons_succ] at v_21c0 v_21c1
        have v_21l := v_21.lt
        have t_21c0 := t_21.cell 0
        have t_21c1 := t_21.cell 1
        simp only [List.getElem?_toArray, List.getElem?_cons_zero, List.getElem?_cons_succ] at t_21c0 t_21c1
        have t_21l := t_21.lt
        have B22 := B21.trans (hb21.mono B21.size)
        have B22a := B22.alloc B22.size (.cells #[.int .i64 a1, .int .i64 a2, .int .i64 a3, .int .i64 a4] 35)
        go_wp2_with fail
        refine (HLa.out _).mono ?_; rintro e w22 ⟨rfl, hb22⟩
        clear r_21c0 r_21c1 r_21c2 r_21c3 r_21l v_21c0 v_21c1 v_21l t_21c0 t_21c1 t_21l
        have r_22 := (r_21.alloc (.cells #[.int .i64 a1, .int .i64 a2, .int .i64 a3, .int .i64 a4] 35)).below hb22
        have v_22 := (v_21.alloc (.cells #[.int .i64 a1, .int .i64 a2, .int .i64 a3, .int .i64 a4] 35)).below hb22
        have t_22 := (t_21.alloc (.cells #[.int .i64 a1, .int .i64 a2, .int .i64 a3, .int .i64 a4] 35)).below hb22
        clear r_21 v_21 t_21
        have q_22 := (Blk.new w21 35 #[.int .i64 a1, .int .i64 a2, .int .i64 a3, .int .i64 a4]).below hb22
        have r_22c0 := r_22.cell 0
        have r_22c1 := r_22.cell 1
        have r_22c2 := r_22.cell 2
        have r_22c3 := r_22.cell 3
        simp only [List.getElem?_toArray, List.getElem?_cons_zero, List.getElem?_cons_succ] at r_22c0 r_22c1 r_22c2 r_22c3
        have r_22l := r_22.lt
        have v_22c0 := v_22.cell 0
        have v_22c1 := v_22.cell 1
        simp only [List.getElem?_toArray, List.getElem?_cons_zero, List.getElem?_cons_succ] at v_22c0 v_22c1
        have v_22l := v_22.lt
        have t_22c0 := t_22.cell 0
        have t_22c1 := t_22.cell 1
        simp only [List.getElem?_toArray, List.getElem?_cons_zero, List.getElem?_cons_succ] at t_22c0 t_22c1
        have t_22l := t_22.lt
        have q_22c0 := q_22.cell 0
        have q_22c1 := q_22.cell 1
        have q_22c2 := q_22.cell 2
        have q_22c3 := q_22.cell 3
        simp only [List.getElem?_toArray, List.getElem?_cons_zero, List.getElem?_cons_succ] at q_22c0 q_22c1 q_22c2 q_22c3
        have q_22l := q_22.lt
        cases b1 with
        | true =>
          go_wp2
          go_ret
          exact ⟨by simp, B22a.trans (hb22.mono B22a.size)⟩
        | false =>
          have B23 := B22a.trans (hb22.mono B22a.size)
          go_wp2_with fail
          refine (HLb.out _).mono ?_; rintro e w23 ⟨rfl, hb23⟩
          clear r_22c0 r_22c1 r_22c2 r_22c3 r_22l v_22c0 v_22c1 v_22l t_22c0 t_22c1 t_22l q_22c0 q_22c1 q_22c2 q_22c3 q_22l
          have r_23 := r_22.below hb23
          have v_23 := v_22.below hb23
          have t_23 := t_22.below hb23
          have q_23 := q_22.below hb23
          clear r_22 v_22 t_22 q_22
          have r_23c0 := r_23.cell 0
          have r_23c1 := r_23.cell 1
          have r_23c2 := r_23.cell 2
          have r_23c3 := r_23.cell 3
          simp only [List.getElem?_toArray, List.getElem?_cons_zero, List.getElem?_cons_succ] at r_23c0 r_23c1 r_23c2 r_23c3
          have r_23l := r_23.lt
          have v_23c0 := v_23.cell 0
          have v_23c1 := v_23.cell 1
          simp only [List.getElem?_toArray, List.getElem?_cons_zero, List.getElem?_cons_succ] at v_23c0 v_23c1
          have v_23l := v_23.lt
          have t_23c0 := t_23.cell 0
          have t_23c1 := t_23.cell 1
          simp only [List.getElem?_toArray, List.getElem?_cons_zero, List.getElem?_cons_succ] at t_23c0 t_23c1
          have t_23l := t_23.lt
          have q_23c0 := q_23.cell 0
          have q_23c1 := q_23.cell 1
          have q_23c2 := q_23.cell 2
          have q_23c3 := q_23.cell 3
          simp only [List.getElem?_toArray, List.getElem?_cons_zero, List.getElem?_cons_succ] at q_23c0 q_23c1 q_23c2 q_23c3
          have q_23l := q_23.lt
          cases b2 with
          | true =>
            go_wp2
            go_ret
            exact ⟨by simp, B23.trans (hb23.mono B23.size)⟩
          | false =>
            go_wp2
            go_roundw
            case rel => exact ⟨k + 1, by omega, by go_num, HK2.out (by simp) (by simp), (B23.trans (hb23.mono B23.size)), r_23, v_23, t_23⟩
            case measure => simp [intOf]; omega

theorem curveTruth_walk (A : Option Addr) (n cap : Nat) (cs : List CV) (x shift : Int) (w : World) (h : LAt w A n cs) (hm : n ≤ 9223372036854775807) (hcap : n ≤ cap) :
    Calls Try.prog 13 #[.slice A n cap, .int .i64 x, .int .i64 shift] w fun e w' => e = .returned (.bool true) ∧ Below w.heap.size w w' := by
  by_cases hn : 0 < n
  · by_cases h12 : n ≤ 12
    · by_cases hz : shErr cs x = 0
      · exact curveTruth_main A n cap cs x shift _ _ _ _ _ _ _ _ _ _ _ _ _ _ _ _ _ _ _ _ w h hm hcap hn h12 (trOk A n cap cs x shift w h hm hz hn)
      · exact curveTruth_err A n cap cs x shift w h hm hn h12 hz
    · exact curveTruth_dead A n cap cs x shift w h hm (.inr (by omega))
  · exact curveTruth_dead A n cap cs x shift w h hm (.inl (by omega))


set_option maxRecDepth 100000 in
theorem curveTruth_lifted (os : Os) (started : os.Started) (H : Type) (enc : TypeId × Value → H) :
    ReturnsInHanded Rows.curveTruthRow.assume Try.checked os 13 .any (Rows.curveTruthSpec.pre6 enc Try.prog Try.f13 Rows.curveTruthRow.domain false) (Rows.curveTruthSpec.post enc Try.prog Try.f13 false Rows.curveTruthRow.fresh Rows.curveTruthRow.handsOn Rows.curveTruthRow.again) := by
  refine returnsInHanded_of_change (C := Try.checked) (by kernel_rfl) started (by kernel_rfl) Try.func13
    (ChangeSpec.witness6 (enc := enc) (C := Try.checked) false ⟨#[], #[.slice none 0 0, .int .i64 0, .int .i64 0], []⟩ 8 (by kernel_rfl) (by kernel_rfl) (by kernel_rfl) (by kernel_rfl)) ?_
  intro W base args ds gs before hval0 hW hcnd _
  have hval : ∀ (j : Nat) t v, Try.f13.params[j]? = some t → args[j]? = some v → Value.okWide Try.prog W .any base t v := hval0
  have hW' := hW
  obtain ⟨p, q, hA0, hV, rfl, hfz, hnd⟩ := hW
  obtain ⟨rfl, rfl⟩ := trodVars_none hV
  have hA : DataW.TrodAll enc Try.prog W 0 (fun _ => true) true [45, 3, 3] args.toList ds p := hA0
  obtain ⟨v0, v1, v2, d0, d1, d2, p0, p1, p2, rfl, rfl, rfl, h0, h1, h2⟩ := trodAll_three hA
  obtain ⟨A, n, cap, cs, hv0, hC, hm⟩ := open_cvs (hval 0 45 v0 rfl rfl) h0
  have hcp := cvs_cap hv0 h0
  subst hv0
  obtain ⟨x, rfl, rfl, rfl, _⟩ := open_int Try.underlying3 (hval 1 3 v1 rfl rfl) h1
  obtain ⟨y, rfl, rfl, rfl, _⟩ := open_int Try.underlying3 (hval 2 3 v2 rfl rfl) h2
  refine (curveTruth_walk A n cap cs x y W hC hm hcp).mono fun e W' ⟨he, hb⟩ => ⟨_, he, law_post laid_out (by kernel_rfl) rfl Try.underlying4 rfl hW' rfl rfl rfl hb⟩

theorem curveTruth : Rows.CurveTruthSaid :=
  OpenClaim.holds_of_wide 13 Try.f13 rfl rfl rfl rfl rfl rfl rfl ⟨rfl, rfl, rfl, rfl, rfl⟩ rfl rfl rfl rfl rfl (by kernel_rfl) Try.func13 (by kernel_rfl)
    (of_decide_eq_true (by kernel_rfl)) (by unfold Func.isWrapper; first | (rw [if_pos (by decide +kernel)]; kernel_rfl) | (rw [if_neg (by decide +kernel)]; exact ⟨rfl, rfl⟩))
    (fun os started H enc _ => curveTruth_lifted os started H enc)
#print axioms curveTruth

end Go.Proofs.Ytipablcbkoedbaa
