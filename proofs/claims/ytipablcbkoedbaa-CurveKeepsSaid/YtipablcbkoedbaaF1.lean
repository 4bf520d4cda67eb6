/- Both. -/
import Derived.RangeFuncNested
import Derived.Shelf.Abstract
import Derived.RangeFuncBound
import Derived.RangeFuncCalls
import Derived.RangeFuncLeaves
import Derived.WalkKit
import Derived.OwnWalkIn
import Derived.OwnWalk
import Derived.TacticsInMore
import Derived.LoopNIn
import Derived.LoopIn
import Derived.WalkLawsBesides
import Derived.Deep.QuietTactic
import Derived.BigQuiet
import Derived.RegionTactic
import Derived.Lib.Hide
import Derived.Outline
import Derived.WalkSmall
import Derived.Test.YtipablcbkoedbaaProg
import Derived.Test.YtipablcbkoedbaaE1
import Derived.Test.YtipablcbkoedbaaReg5
namespace Go.Proofs.Ytipablcbkoedbaa
open Go.RowKit

theorem shared_in : ∀ (cs : List CV) (lo hi : Int), lo ≤ (sharedFrom lo hi cs).1 ∧ (sharedFrom lo hi cs).2 ≤ hi ∧ ∀ i, i < cs.length → domLo (cvks cs i) ≤ (sharedFrom lo hi cs).1 ∧ (sharedFrom lo hi cs).2 ≤ domHi (cvks cs i)
  | [], lo, hi => ⟨Int.le_refl _, Int.le_refl _, fun i h => absurd h (by simp)⟩
  | c :: cs, lo, hi => by
    obtain ⟨h1, h2, h3⟩ := shared_in cs (max lo (domLo c.ks)) (min hi (domHi c.ks))
    unfold sharedFrom
    refine ⟨by omega, by omega, fun i hi' => ?_⟩
    cases i with
    | zero => exact ⟨by show domLo c.ks ≤ _; omega, by show _ ≤ domHi c.ks; omega⟩
    | succ i => exact h3 i (by simpa using hi')

/-- What sheaf tells of a list without an error. -/
structure ShOk (cs : List CV) (x : Int) : Prop where
  pos : 0 < cs.length
  le : cs.length ≤ 12
  all : AllValid cs
  x0 : 0 ≤ x
  x1 : x ≤ 2000
  lo : ∀ i, i < cs.length → kx (cvks cs i) 0 ≤ x
  hi : ∀ i, i < cs.length → x ≤ kx (cvks cs i) ((cvks cs i).length - 1)
theorem sh_zero {cs : List CV} {x : Int} (h : shErr cs x = 0) : ShOk cs x := by
  unfold shErr at h
  split at h
  · omega
  rename_i h12
  split at h
  · exact absurd h (by assumption)
  rename_i hc
  split at h
  · omega
  rename_i h0
  split at h
  · rename_i hin
    obtain ⟨h1, h2, h3⟩ := shared_in cs 0 2000
    unfold shLo shHi at hin
    refine ⟨by omega, by omega, checkAll_zero cs (by simpa using hc), by omega, by omega, fun i hi => ?_, fun i hi => ?_⟩
    · have := (h3 i hi).1; unfold domLo at this; omega
    · have := (h3 i hi).2; unfold domHi at this; omega
  · omega

def bLo (x : Int) (c : CV) : Int × Int := (valN c.ks x + -c.err * valD c.ks x, valD c.ks x)
def bHi (x : Int) (c : CV) : Int × Int := (valN c.ks x + c.err * valD c.ks x, valD c.ks x)
/-- The greatest low end, and the least high one. -/
def boLo (cs : List CV) (x : Int) : Int × Int := (extr gtF (cs.map (bLo x)) (0, 0)).1
def boHi (cs : List CV) (x : Int) : Int × Int := (extr ltF (cs.map (bHi x)) (0, 0)).1
def boErr (cs : List CV) (x : Int) : Int := if shErr cs x ≠ 0 then shErr cs x else if gtF (boLo cs x) (boHi cs x) = true then 9 else 0
def boV (cs : List CV) (x : Int) : (Int × Int) × (Int × Int) := if boErr cs x = 0 then (boLo cs x, boHi cs x) else ((0, 0), (0, 0))
theorem bo_zero {cs : List CV} {x e : Int} (h : boErr cs x = e) (he : e ≠ 0) : boV cs x = ((0, 0), (0, 0)) := by unfold boV; rw [if_neg (by rw [h]; exact he)]
abbrev vRange' (a b c d : Int) : Value := .agg #[.int .i64 a, .int .i64 b, .int .i64 c, .int .i64 d]
abbrev vRc' (p : (Int × Int) × (Int × Int)) : Value := vRange' p.1.1 p.1.2 p.2.1 p.2.2

theorem map_drop {β : Type} (f : CV → β) (cs : List CV) (k : Nat) (hk : k < cs.length) : (cs.drop k).map f = f (cs.getD k ⟨none, 0, 0, 0, []⟩) :: (cs.drop (k + 1)).map f := by
  rw [List.drop_eq_getElem_cons hk, List.map_cons, List.getD_eq_getElem?_getD, List.getElem?_eq_getElem hk]
  rfl
def encF (z : Int × Int) : List Value := [.int .i64 z.1, .int .i64 z.2]
theorem Fs_of_own {W : World} {base g c : Nat} {zs : List (Int × Int)} (h : W.ownsRow base 30 2 (.slice (some ⟨g, 0, none⟩) zs.length c) zs.length (zs.flatMap encF)) : Fs W g 0 zs := by
  have hf := flat_at 2 encF (fun _ => rfl) zs
  refine ⟨fun j hj => ?_, fun j hj => ?_, ?_⟩
  · rw [Nat.zero_add, h.cellAt (j * 2) (by omega)]
    have := hf j 0 (0, 0) hj (by omega)
    simpa [encF] using this
  · rw [Nat.zero_add, h.cellAt (j * 2 + 1) (by omega)]
    have := hf j 1 (0, 0) hj (by omega)
    simpa [encF] using this
  · exact (h.lt g rfl).2
theorem bLo_frb {c : CV} {x : Int} (hv : Valid c.ks) (h0 : kx c.ks 0 ≤ x) (h1 : 0 ≤ c.err) (h2 : c.err ≤ 4000) : FrB (bLo x c) ∧ FrB (bHi x c) := by
  obtain ⟨a, b, d, e⟩ := val_bd hv h0
  obtain ⟨p, q⟩ := mul_bd (x := -c.err) (y := valD c.ks x) (A := 4000) (B := 2000) (by omega) (by omega) (by omega) (by omega)
  obtain ⟨r, s⟩ := mul_bd (x := c.err) (y := valD c.ks x) (A := 4000) (B := 2000) (by omega) (by omega) (by omega) (by omega)
  exact ⟨⟨by show _ ≤ valN c.ks x + -c.err * valD c.ks x; omega, by show valN c.ks x + -c.err * valD c.ks x ≤ _; omega, d, by show valD c.ks x ≤ _; omega⟩, ⟨by show _ ≤ valN c.ks x + c.err * valD c.ks x; omega, by show valN c.ks x + c.err * valD c.ks x ≤ _; omega, d, by show valD c.ks x ≤ _; omega⟩⟩
theorem eg90 : ∀ args w, (callFunc 90 args).run Try.prog w = .ok (.enter 90 args) w := enters_of Try.func90 (by kernel_rfl) rfl
theorem eg92 : ∀ args w, (callFunc 92 args).run Try.prog w = .ok (.enter 92 args) w := enters_of Try.func92 (by kernel_rfl) rfl

/-- Four cells of a block, and then four others. -/
theorem blk_set4 {W : World} {g : Nat} {t : TypeId} {p q r s : Value} (h : Blk W g t #[p, q, r, s]) (a b c d : Value) :
    Blk ((((W.setCell ⟨g, 0, none⟩ a).setCell ⟨g, 1, none⟩ b).setCell ⟨g, 2, none⟩ c).setCell ⟨g, 3, none⟩ d) g t #[a, b, c, d] := by
  have := (((h.set_ 0 a).set_ 1 b).set_ 2 c).set_ 3 d
  simpa using this
theorem below_set4 {B : Nat} {w W : World} {g : Nat} (h : Below B w W) (hg : B ≤ g) (a b c d : Value) :
    Below B w ((((W.setCell ⟨g, 0, none⟩ a).setCell ⟨g, 1, none⟩ b).setCell ⟨g, 2, none⟩ c).setCell ⟨g, 3, none⟩ d) :=
  (((h.setCell (p := ⟨g, 0, none⟩) hg _).setCell (p := ⟨g, 1, none⟩) hg _).setCell (p := ⟨g, 2, none⟩) hg _).setCell (p := ⟨g, 3, none⟩) hg _

theorem Both_err (A : Option Addr) (n cap : Nat) (cs : List CV) (x : Int) (w : World) (h : LAt w A n cs) (hm : n ≤ 9223372036854775807) (hz : shErr cs x ≠ 0) :
    Calls Try.prog 28 #[.slice A n cap, .int .i64 x] w fun e w' => e = .returned (.tuple #[vRc' (boV cs x), .int .i64 (boErr cs x)]) ∧ Below w.heap.size w w' := by
  have HS := Lib.hid (fun W (hW : LAt W A n cs) => sheaf_any A n cap cs x W hW hm)
  have he : boErr cs x = shErr cs x := by unfold boErr; rw [if_pos hz]
  have HE := Lib.hid he
  have HV := Lib.hid (bo_zero he hz)
  have hz1 : (shErr cs x != 0) = true := by simpa using hz
  have hbw := (Below.refl w.heap.size w).alloc (Nat.le_refl _) (.cells #[.int .i64 0, .int .i64 0, .int .i64 0, .int .i64 0] 35)
  have HA := Lib.hid (h.below hbw)
  clear he hz h
  go_enter Try.func28, Try.ntmps28
  go_wp2_with (go_at_call 87; refine (HS.out _ HA.out).mono ?_; rintro e w1 ⟨rfl, hb1⟩; have hr1 := (Blk.new w 35 #[.int .i64 0, .int .i64 0, .int .i64 0, .int .i64 0]).below hb1; have rc0 := hr1.cell 0; have rc1 := hr1.cell 1; have rc2 := hr1.cell 2; have rc3 := hr1.cell 3; have rf0 := hr1.frozen 0; have rf1 := hr1.frozen 1; have rf2 := hr1.frozen 2; have rf3 := hr1.frozen 3; have rl := hr1.lt; simp only [List.getElem?_toArray, List.getElem?_cons_zero, List.getElem?_cons_succ] at rc0 rc1 rc2 rc3)
  have hb2 := hbw.trans (hb1.mono (by simp))
  exact bodyPost_ret (v := .tuple #[vRange' 0 0 0 0, .int .i64 (shErr cs x)]) (by simp [results, Try.results28, go_sem, rc0, rc1, rc2, rc3]) rfl ⟨by rw [HE.out, HV.out], (((hb2.setCell (p := ⟨w.heap.size, 0, none⟩) (Nat.le_refl _) _).setCell (p := ⟨w.heap.size, 1, none⟩) (Nat.le_refl _) _).setCell (p := ⟨w.heap.size, 2, none⟩) (Nat.le_refl _) _).setCell (p := ⟨w.heap.size, 3, none⟩) (Nat.le_refl _) _⟩

set_option maxRecDepth 100000 in
set_option maxHeartbeats 1600000 in
theorem Both_rest (A : Option Addr) (n cap : Nat) (cs : List CV) (x : Int) (w : World) (h : LAt w A n cs) (hm : n ≤ 9223372036854775807) (hz : shErr cs x = 0) :
    Calls Try.prog 28 #[.slice A n cap, .int .i64 x] w fun e w' => e = .returned (.tuple #[vRc' (boV cs x), .int .i64 (boErr cs x)]) ∧ Below w.heap.size w w' := by
  have HS := Lib.hid (fun W (hW : LAt W A n cs) => hz ▸ sheaf_any A n cap cs x W hW hm)
  have ho := sh_zero hz
  have HO := Lib.hid ho
  have he : boErr cs x = if gtF (boLo cs x) (boHi cs x) = true then 9 else 0 := by unfold boErr; rw [if_neg (by simp [hz])]
  have HE := Lib.hid he
  have hn0 : 0 < n := by have := ho.pos; have := h.len; omega
  have hn12 : n ≤ 12 := by have := ho.le; have := h.len; omega
  have hx0 := ho.x0
  have hx1 := ho.x1
  have HL := Lib.hid h.len
  have hbw := (Below.refl w.heap.size w).alloc (Nat.le_refl _) (.cells #[.int .i64 0, .int .i64 0, .int .i64 0, .int .i64 0] 35)
  have HA := Lib.hid (h.below hbw)
  have HA0 := Lib.hid h
  obtain ⟨i0, hi0, hi1, hi2, hi3⟩ := info_parts info_frac
  have HI := Lib.hid (show Try.prog.info? 30 = some i0 ∧ i0.zero = some (vFrac 0 0) ∧ i0.size = 2 ∧ i0.bytes = 16 from ⟨hi0, hi1, hi2, hi3⟩)
  clear he hz h ho hi0 hi1 hi2 hi3
  go_enter Try.func28, Try.ntmps28
  go_wp2_with (go_at_call 87; refine (HS.out _ HA.out).mono ?_; rintro e w1 ⟨rfl, hb1⟩; have hr1 := (Blk.new w 35 #[.int .i64 0, .int .i64 0, .int .i64 0, .int .i64 0]).below hb1; have hb2 := hbw.trans (hb1.mono (by simp)))
  have Hr := Lib.hid hr1
  have Hb2 := Lib.hid hb2
  clear hr1 hb1 hb2 hbw
  go_loopw [7, 8, 25] (fun v u i wr => ∃ (k : Nat) (lo hi : List (Int × Int)), k ≤ n ∧ i = .int .i64 k ∧ lo.length = k ∧ hi.length = k ∧ cs.map (bLo x) = lo ++ (cs.drop k).map (bLo x) ∧ cs.map (bHi x) = hi ++ (cs.drop k).map (bHi x) ∧
      wr.ownsRow (w.heap.size + 1) 30 2 v k (lo.flatMap encF) ∧ wr.ownsRow (w.heap.size + 1) 30 2 u k (hi.flatMap encF) ∧ (∀ g, v.ownBlock = some g → u.ownBlock ≠ some g) ∧
      Blk wr w.heap.size 35 #[.int .i64 0, .int .i64 0, .int .i64 0, .int .i64 0] ∧ Below w.heap.size w wr) (fun _ _ i _ => n - (intOf i).toNat)
  case atStart => exact ⟨0, [], [], Nat.zero_le _, rfl, rfl, rfl, rfl, rfl, World.ownsRow_nil _ _ _ _, World.ownsRow_nil _ _ _ _, fun g h => (by cases h), Hr.out, Hb2.out⟩
  case round =>
    obtain ⟨k, lo, hi, hk, rfl, hll, hlh, hac, hacH, hown, howh, hdis, hs0, hb⟩ := hrel
    have HAc := Lib.hid hac
    have HAh := Lib.hid hacH
    have HLl := Lib.hid hll
    have HLh := Lib.hid hlh
    have HDis := Lib.hid hdis
    have HOwn := Lib.hid hown
    have HOwh := Lib.hid howh
    clear hac hacH hll hlh hdis hown howh
    have hs1 := hs0.lt
    by_cases hkn : k < n
    · obtain ⟨b, off, hAe, hcs⟩ := HA0.out.at_ (by omega)
      subst hAe
      have hlt := hcs.lt
      have hcs' := hcs.below hb
      have hkl : k < cs.length := by rw [HL.out]; exact hkn
      have hs := hcs'.s k hkl
      have he := hcs'.e k hkl
      have hat := hcs'.at_ k hkl
      obtain ⟨hvk, hek1, hek2⟩ := HO.out.all k hkl
      have hxk := HO.out.lo k hkl
      have HDl := Lib.hid (map_drop (bLo x) cs k hkl)
      have HDh := Lib.hid (map_drop (bHi x) cs k hkl)
      have hel : bLo x (cs.getD k ⟨none, 0, 0, 0, []⟩) = (valN (cvks cs k) x + -(cverr cs k) * valD (cvks cs k) x, valD (cvks cs k) x) := rfl
      have heh : bHi x (cs.getD k ⟨none, 0, 0, 0, []⟩) = (valN (cvks cs k) x + cverr cs k * valD (cvks cs k) x, valD (cvks cs k) x) := rfl
      have HEl := Lib.hid hel
      have HEh := Lib.hid heh
      obtain ⟨vb1, vb2, vb3, vb4⟩ := val_bd hvk hxk
      clear hcs hcs' hel heh
      generalize cvA cs k = cA at *
      generalize cvn cs k = cn at *
      generalize cvcap cs k = cc at *
      generalize cverr cs k = ce at *
      generalize cvks cs k = ck at *
      clear hkl
      have hpos := hvk.pos
      have hvle := hvk.le
      have hlen := hat.len
      obtain ⟨b', off', hAe', hkn'⟩ := hat.at_ (by omega)
      subst hAe'
      subst hlen
      have HVal := Lib.hid (fun W (hW2 : Kn W b' off' ck) => value_any b' off' cc ce ck x W hW2 hvk hx0 hx1)
      have HT := Lib.hid hkn'
      clear hkn' hat hvk
      generalize valN ck x = vn at *
      generalize valD ck x = vd at *
      obtain ⟨pp, qq⟩ := mul_bd (x := -ce) (y := vd) (A := 4000) (B := 2000) (by omega) (by omega) (by omega) (by omega)
      obtain ⟨rr, ss⟩ := mul_bd (x := ce) (y := vd) (A := 4000) (B := 2000) (by omega) (by omega) (by omega) (by omega)
      have HPl := Lib.hid (fun W => plus_any vn vd (-ce) W (by omega) (by omega) (by omega) (by omega))
      have HPh := Lib.hid (fun W => plus_any vn vd ce W (by omega) (by omega) (by omega) (by omega))
      clear pp qq rr ss
      generalize vn + -ce * vd = pn at *
      generalize vn + ce * vd = qn at *
      have hg10 : w.heap.size < wr.heap.size := hs1
      go_wp2_with fail
      refine (HVal.out _ (HT.out.below ((Below.refl _ _).alloc (Nat.le_refl _) _))).mono ?_; rintro e w1 ⟨rfl, hb1⟩
      have hba := hb.alloc hb.size (.cells #[.slice (some ⟨b', off', none⟩) ck.length cc, .int .i64 ce] 24)
      have hc1 := (Blk.new wr 24 #[.slice (some ⟨b', off', none⟩) ck.length cc, .int .i64 ce]).below hb1
      have hs2 := (hs0.alloc (.cells #[.slice (some ⟨b', off', none⟩) ck.length cc, .int .i64 ce] 24)).below hb1
      have hb2 := hba.trans (hb1.mono hba.size)
      have hol := owns_below (HOwn.out.alloc (.cells #[.slice (some ⟨b', off', none⟩) ck.length cc, .int .i64 ce] 24)) hb1
      have hoh := owns_below (HOwh.out.alloc (.cells #[.slice (some ⟨b', off', none⟩) ck.length cc, .int .i64 ce] 24)) hb1
      have HL1 := Lib.hid hol
      have HH1 := Lib.hid hoh
      clear hol hoh
      go_wp2
      have hg11 : wr.heap.size < w1.heap.size := hc1.lt
      refine wp_region_preC 15 [(6, 38), (7, 39), (13, 45), (14, 46)]
        (fun v' => Below w.heap.size w v' ∧ Blk v' w.heap.size 35 #[.int .i64 0, .int .i64 0, .int .i64 0, .int .i64 0] ∧ Blk v' wr.heap.size 24 #[.slice (some ⟨b', off', none⟩) ck.length cc, .int .i64 ce] ∧ Blk v' w1.heap.size 30 #[.int .i64 vn, .int .i64 vd])
        (TwoRows 30 2 (w.heap.size + 1) k [wr.heap.size, w1.heap.size] 6 7 u7 (lo.flatMap encF) [.int .i64 pn, .int .i64 vd] 13 14 u8 (hi.flatMap encF) [.int .i64 qn, .int .i64 vd]) (by kernel_rfl) (by kernel_rfl) ?hw ?hC ?h0 ?hP ?ex
      case hw => exact ⟨hb2.alloc hb2.size _, hs2.alloc _, hc1.alloc _, Blk.new _ _ _⟩
      case hC => exact fun v v' h k => ⟨h.1.trans (k.mono h.1.size), h.2.1.below k, h.2.2.1.below k, h.2.2.2.below k⟩
      case h0 =>
        intro v' hv'
        refine TwoRows.below (W := w1.alloc _) ?_ hv'
        refine ⟨by simpa using HL1.out.alloc _, by simpa using HH1.out.alloc _, fun g hg => ⟨?_, HDis.out g hg⟩, fun g hg => ⟨?_, fun hh => HDis.out g hh hg⟩, fun h => (by cases h), fun h => (by cases h), fun g hg => ?_⟩
        · have := (own_lt HOwn.out hg).2
          simp; omega
        · have := (own_lt HOwh.out hg).2
          simp; omega
        · simp at hg; simp; omega
      case hP => exact fun ls vs v v' _ h k => h.below k
      case ex =>
       apply Exists.intro
       refine ⟨?walk, ?loud⟩
       case walk =>
        rintro W ⟨hW1, hW2, hW3, hW4⟩
        have c0 := hW3.cell 1
        have d0 := hW4.cell 0
        have d1 := hW4.cell 1
        simp only [List.getElem?_toArray, List.getElem?_cons_zero, List.getElem?_cons_succ] at c0 d0 d1
        have l3 := hW3.lt
        have l4 := hW4.lt
        obtain ⟨xc, xf⟩ := xcell (W := W)
        simp only [List.take_succ_cons, List.take_zero, qOf, isLoud, List.any_cons, List.any_nil, Nat.reduceBEq, Bool.or_false, Bool.or_true, Nat.reduceAdd, Bool.false_eq_true, if_true, if_false, beq_self_eq_true, Nat.zero_add]
        repeat (first | go_big_quiet_step (first | (go_at_call 88; with_reducible refine calls_ext (HPl.out _)) | (go_at_call 88; with_reducible refine calls_ext (HPh.out _))) | quiet_step (first | (go_at_call 88; with_reducible refine calls_ext (HPl.out _)) | (go_at_call 88; with_reducible refine calls_ext (HPh.out _))))
        exact wpQuiet_nil rfl
       case loud =>
        simp only [List.drop_succ_cons, List.drop_zero]
        refine ⟨?_, ?_⟩
        · rintro p hp vs W ⟨hW1, hW2, hW3, hW4⟩ ls hI hls hw o ho
          simp only [List.mem_cons, List.not_mem_nil, or_false] at hp
          rcases hp with rfl | rfl | rfl | rfl
          · simp only [List.getElem?_cons_succ, List.getElem?_cons_zero, Option.some.injEq] at ho
            subst ho
            simp [loudAt, loudUpon, go_sem, execOp, putsL, Act.put]
            exact ⟨⟨hW1.alloc (Nat.le_of_lt hW2.lt) _, hW2.alloc _, hW3.alloc _, hW4.alloc _⟩, hI.lay (by decide)⟩
          · have h6 := hw (6, 38) (by simp) (by kernel_rfl)
            obtain ⟨g, e, hbk, hne⟩ := hI.tl h6 hls
            have hrow := hI.rl
            have h7 := hls
            simp only [h7, cond_false, Nat.add_zero, List.append_nil] at hrow
            simp only [List.getElem?_cons_succ, List.getElem?_cons_zero, Option.some.injEq] at ho
            subst ho
            refine loudAt_append (.tmp 32) (.tmp 38) 117 rfl (w.heap.size + 1) 30 i0 (vFrac 0 0) 2 16 Try.underlying117 HI.out.1 HI.out.2.1 HI.out.2.2.1 HI.out.2.2.2 rfl (by decide) u7 k (lo.flatMap encF) rfl hrow ⟨g, 0, none⟩ 1 1 [.int .i64 pn, .int .i64 vd] e rfl ?c1 ?c2 ?c3 ?c4 ?c5 ?_
            case c1 =>
              have g0 := hbk.cell 0
              have g1 := hbk.cell 1
              simp only [List.getElem?_toArray, List.getElem?_cons_zero, List.getElem?_cons_succ] at g0 g1
              intro j' u hj'
              match j', hj' with
              | 0, hj' => simp at hj'; subst hj'; simpa [Addr.add] using g0
              | 1, hj' => simp at hj'; subst hj'; simpa [Addr.add] using g1
            case c2 => intro u hu; simp at hu; rcases hu with rfl | rfl <;> rfl
            case c3 => unfold maxLen; omega
            case c4 => omega
            case c5 => have := hW2.lt; omega
            intro v' w2 hown' hgrow hat
            have hst := app_step hW1 (Nat.le_of_lt hW2.lt) hW2 hrow hgrow
            have hne10 := (hI.ol wr.heap.size)
            refine ⟨⟨hst.1, hst.2, hW3.grown hgrow ?_, hW4.grown hgrow ?_⟩, hI.app (by decide) hls v' hown' hgrow hat⟩
            · intro hh
              have := hI.ol wr.heap.size (by simpa [h7] using hh)
              simp at this
            · intro hh
              have := hI.ol w1.heap.size (by simpa [h7] using hh)
              simp at this
          · simp only [List.getElem?_cons_succ, List.getElem?_cons_zero, Option.some.injEq] at ho
            subst ho
            simp [loudAt, loudUpon, go_sem, execOp, putsL, Act.put]
            exact ⟨⟨hW1.alloc (Nat.le_of_lt hW2.lt) _, hW2.alloc _, hW3.alloc _, hW4.alloc _⟩, (hI.swap.lay (by decide)).swap⟩
          · have h6 := hw (13, 45) (by simp) (by kernel_rfl)
            obtain ⟨g, e, hbk, hne⟩ := hI.th h6 hls
            have hrow := hI.rh
            have h7 := hls
            simp only [h7, cond_false, Nat.add_zero, List.append_nil] at hrow
            simp only [List.getElem?_cons_succ, List.getElem?_cons_zero, Option.some.injEq] at ho
            subst ho
            refine loudAt_append (.tmp 40) (.tmp 45) 117 rfl (w.heap.size + 1) 30 i0 (vFrac 0 0) 2 16 Try.underlying117 HI.out.1 HI.out.2.1 HI.out.2.2.1 HI.out.2.2.2 rfl (by decide) u8 k (hi.flatMap encF) rfl hrow ⟨g, 0, none⟩ 1 1 [.int .i64 qn, .int .i64 vd] e rfl ?c1 ?c2 ?c3 ?c4 ?c5 ?_
            case c1 =>
              have g0 := hbk.cell 0
              have g1 := hbk.cell 1
              simp only [List.getElem?_toArray, List.getElem?_cons_zero, List.getElem?_cons_succ] at g0 g1
              intro j' u hj'
              match j', hj' with
              | 0, hj' => simp at hj'; subst hj'; simpa [Addr.add] using g0
              | 1, hj' => simp at hj'; subst hj'; simpa [Addr.add] using g1
            case c2 => intro u hu; simp at hu; rcases hu with rfl | rfl <;> rfl
            case c3 => unfold maxLen; omega
            case c4 => omega
            case c5 => have := hW2.lt; omega
            intro v' w2 hown' hgrow hat
            have hst := app_step hW1 (Nat.le_of_lt hW2.lt) hW2 hrow hgrow
            have hne10 := (hI.oh wr.heap.size)
            refine ⟨⟨hst.1, hst.2, hW3.grown hgrow ?_, hW4.grown hgrow ?_⟩, (hI.swap.app (by decide) hls v' hown' hgrow hat).swap⟩
            · intro hh
              have := hI.oh wr.heap.size (by simpa [h7] using hh)
              simp at this
            · intro hh
              have := hI.oh w1.heap.size (by simpa [h7] using hh)
              simp at this
        · rintro ls vs W ⟨hW1, hW2, hW3, hW4⟩ hI hls
          have h7 := hls (7, 39) (by simp)
          have h14 := hls (14, 46) (by simp)
          have hrl := hI.rl
          have hrh := hI.rh
          have hol := fun g => (hI.ol g)
          simp only [h7, h14, cond_true] at hrl hrh hol
          have HN := Lib.hid hrl
          have HNh := Lib.hid hrh
          have HOl := Lib.hid (fun g hg => (hol g hg).2)
          have HW1 := Lib.hid hW1
          have HW2 := Lib.hid hW2
          clear hrl hrh hol hI hls h7 h14 hW1 hW2 hW3 hW4 hc1 hs2 hb2 hba hb1 hg11 hs0 hb
          simp only [putsL, List.foldl_cons, List.foldl_nil, Act.put, List.setIfInBounds_toArray, List.set_cons_succ, List.set_cons_zero]
          generalize vs 7 = v7 at *
          generalize vs 14 = v14 at *
          go_wp2
          go_roundw
          case rel =>
            refine ⟨k + 1, lo ++ [(pn, vd)], hi ++ [(qn, vd)], by omega, by go_num, by simp [HLl.out], by simp [HLh.out], ?_, ?_, ?_, ?_, HOl.out, HW2.out, HW1.out⟩
            · rw [HAc.out, HDl.out, HEl.out, List.append_assoc]; rfl
            · rw [HAh.out, HDh.out, HEh.out, List.append_assoc]; rfl
            · have := HN.out
              simpa [encF] using this
            · have := HNh.out
              simpa [encF] using this
          case measure => simp [intOf]; omega
    · have hkk : k = n := by omega
      subst hkk
      have hL0 : cs.map (bLo x) = lo := by rw [HAc.out, List.drop_eq_nil_of_le (by rw [HL.out]; omega)]; simp
      have hH0 : cs.map (bHi x) = hi := by rw [HAh.out, List.drop_eq_nil_of_le (by rw [HL.out]; omega)]; simp
      have hlb : ∀ z ∈ lo, FrB z := by
        rw [← hL0]; intro z hz
        obtain ⟨c, hc, rfl⟩ := List.mem_map.1 hz
        obtain ⟨i, hi', rfl⟩ := List.mem_iff_getElem.1 hc
        obtain ⟨a1, a2, a3⟩ := HO.out.all i hi'
        have e : cs.getD i ⟨none, 0, 0, 0, []⟩ = cs[i] := by simp [List.getD_eq_getElem?_getD, hi']
        have a0 := HO.out.lo i hi'
        unfold cvks cverr at *
        rw [e] at a0 a1 a2 a3
        exact (bLo_frb a1 a0 a2 a3).1
      have hhb : ∀ z ∈ hi, FrB z := by
        rw [← hH0]; intro z hz
        obtain ⟨c, hc, rfl⟩ := List.mem_map.1 hz
        obtain ⟨i, hi', rfl⟩ := List.mem_iff_getElem.1 hc
        obtain ⟨a1, a2, a3⟩ := HO.out.all i hi'
        have e : cs.getD i ⟨none, 0, 0, 0, []⟩ = cs[i] := by simp [List.getD_eq_getElem?_getD, hi']
        have a0 := HO.out.lo i hi'
        unfold cvks cverr at *
        rw [e] at a0 a1 a2 a3
        exact (bLo_frb a1 a0 a2 a3).2
      have hown := HOwn.out
      have howh := HOwh.out
      have hll := HLl.out
      have hlh := HLh.out
      rcases hown.2 with ⟨_, h0⟩ | ⟨g, c, cur, hv, hg, _⟩
      · omega
      rcases howh.2 with ⟨_, h0⟩ | ⟨g', c', cur', hv', hg', _⟩
      · omega
      subst hv hv'
      have hF1 : Fs wr g 0 lo := Fs_of_own (by rw [hll]; exact hown)
      have hF2 : Fs wr g' 0 hi := Fs_of_own (by rw [hlh]; exact howh)
      have hX1 := extremeF_any 90 eg90 gtF g 0 c lo wr (fun W a b ha hb => both1_any a b W (hlb a ha) (hlb b hb)) hF1 (by omega)
      have hX2 := fun W (hW : Below wr.heap.size wr W) => extremeF_any 92 eg92 ltF g' 0 c' hi W (fun W a b ha hb => both2_any a b W (hhb a ha) (hhb b hb)) (hF2.below hF2.lt hW) (by omega)
      have hE1 : boLo cs x = (extr gtF lo (0, 0)).1 := by unfold boLo; rw [hL0]
      have hE2 : boHi cs x = (extr ltF hi (0, 0)).1 := by unfold boHi; rw [hH0]
      have hm1 := hlb _ ((exGo_two gtF lo (0, 0) lo.length (Nat.le_refl _)).2.2.2 (by omega))
      have hm2 := hhb _ ((exGo_two ltF hi (0, 0) hi.length (Nat.le_refl _)).2.2.2 (by omega))
      rw [hll] at hX1
      rw [hlh] at hX2
      have HX1 := Lib.hid hX1
      have HX2 := Lib.hid hX2
      have HE1 := Lib.hid hE1
      have HE2 := Lib.hid hE2
      clear hX1 hX2 hE1 hE2 hF1 hF2 hlb hhb hown howh hL0 hH0 HAc HAh HOwn HOwh HDis
      change FrB (extr gtF lo (0, 0)).1 at hm1
      change FrB (extr ltF hi (0, 0)).1 at hm2
      have hgt : gtF (boLo cs x) (boHi cs x) = decide (ordF (boLo cs x).1 (boLo cs x).2 (boHi cs x).1 (boHi cs x).2 > 0) := rfl
      rw [HE1.out, HE2.out] at hgt
      have HG := Lib.hid hgt
      clear hgt
      generalize extr gtF lo (0, 0) = m1 at *
      generalize extr ltF hi (0, 0) = m2 at *
      obtain ⟨⟨ln, ld⟩, la⟩ := m1
      obtain ⟨⟨hn, hd⟩, ha⟩ := m2
      have HOrd := Lib.hid (fun W => order_frb (ln, ld) (hn, hd) W hm1 hm2)
      clear hm1 hm2
      dsimp only at HX1 HX2 HE1 HE2 HOrd HG
      generalize ordF ln ld hn hd = o at *
      go_wp2_with fail
      refine HX1.out.mono ?_; rintro e w2 ⟨rfl, hb1⟩
      have hr1 := hs0.below hb1
      have hb2 := hb.trans (hb1.mono hb.size)
      have hb3 := hb2.alloc hb2.size (.cells #[.int .i64 ln, .int .i64 ld] 30)
      have hbx := hb1.alloc hb1.size (.cells #[.int .i64 ln, .int .i64 ld] 30)
      go_wp2_with fail
      refine (HX2.out _ hbx).mono ?_; rintro e w3 ⟨rfl, hb4⟩
      have hr3 := (hr1.alloc (.cells #[.int .i64 ln, .int .i64 ld] 30)).below hb4
      have ha3 := (Blk.new w2 30 #[.int .i64 ln, .int .i64 ld]).below hb4
      have hb5 := hb3.trans (hb4.mono hb3.size)
      have hb6 := hb5.alloc hb5.size (.cells #[.int .i64 hn, .int .i64 hd] 30)
      have a0 := ha3.cell 0
      have a1 := ha3.cell 1
      have al := ha3.lt
      simp only [List.getElem?_toArray, List.getElem?_cons_zero, List.getElem?_cons_succ] at a0 a1
      go_wp2_with (go_at_call 91; refine (HOrd.out _).mono ?_; rintro e w4 ⟨rfl, hb7⟩; have hr4 := (hr3.alloc (.cells #[.int .i64 hn, .int .i64 hd] 30)).below hb7; have ha4 := (ha3.alloc (.cells #[.int .i64 hn, .int .i64 hd] 30)).below hb7; have hc4 := (Blk.new w3 30 #[.int .i64 hn, .int .i64 hd]).below hb7; have hb8 := hb6.trans (hb7.mono hb6.size); have p0 := ha4.cell 0; have p1 := ha4.cell 1; have q0 := hc4.cell 0; have q1 := hc4.cell 1; simp only [List.getElem?_toArray, List.getElem?_cons_zero, List.getElem?_cons_succ] at p0 p1 q0 q1; have rc0 := hr4.cell 0; have rc1 := hr4.cell 1; have rc2 := hr4.cell 2; have rc3 := hr4.cell 3; simp only [List.getElem?_toArray, List.getElem?_cons_zero, List.getElem?_cons_succ] at rc0 rc1 rc2 rc3; have rf0 := hr4.frozen 0; have rf1 := hr4.frozen 1; have rf2 := hr4.frozen 2; have rf3 := hr4.frozen 3; have rl := hr4.lt; by_cases ho0 : 0 < o)
      · have hF := blk_set4 hr4 (.int .i64 0) (.int .i64 0) (.int .i64 0) (.int .i64 0)
        have k0 := hF.cell 0
        have k1 := hF.cell 1
        have k2 := hF.cell 2
        have k3 := hF.cell 3
        simp only [List.getElem?_toArray, List.getElem?_cons_zero, List.getElem?_cons_succ] at k0 k1 k2 k3
        have hE0 : boErr cs x = 9 := by rw [HE.out, HE1.out, HE2.out, HG.out]; simp; omega
        exact bodyPost_ret (v := .tuple #[vRange' 0 0 0 0, .int .i64 9]) (by simp [results, Try.results28, go_sem, k0, k1, k2, k3]) rfl ⟨by rw [hE0, bo_zero hE0 (by omega)], below_set4 hb8 (Nat.le_refl _) _ _ _ _⟩
      · have hF := blk_set4 hr4 (.int .i64 ln) (.int .i64 ld) (.int .i64 hn) (.int .i64 hd)
        have k0 := hF.cell 0
        have k1 := hF.cell 1
        have k2 := hF.cell 2
        have k3 := hF.cell 3
        simp only [List.getElem?_toArray, List.getElem?_cons_zero, List.getElem?_cons_succ] at k0 k1 k2 k3
        have hE0 : boErr cs x = 0 := by rw [HE.out, HE1.out, HE2.out, HG.out]; simp; omega
        exact bodyPost_ret (v := .tuple #[vRange' ln ld hn hd, .int .i64 0]) (by simp [results, Try.results28, go_sem, k0, k1, k2, k3]) rfl ⟨by unfold boV; rw [hE0, if_pos rfl, HE1.out, HE2.out], below_set4 hb8 (Nat.le_refl _) _ _ _ _⟩

theorem Both_any (A : Option Addr) (n cap : Nat) (cs : List CV) (x : Int) (w : World) (h : LAt w A n cs) (hm : n ≤ 9223372036854775807) :
    Calls Try.prog 28 #[.slice A n cap, .int .i64 x] w fun e w' => e = .returned (.tuple #[vRc' (boV cs x), .int .i64 (boErr cs x)]) ∧ Below w.heap.size w w' := by
  by_cases hz : shErr cs x = 0
  · exact Both_rest A n cap cs x w h hm hz
  · exact Both_err A n cap cs x w h hm hz
end Go.Proofs.Ytipablcbkoedbaa
