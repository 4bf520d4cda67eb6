/- The reference: over, peak. -/
import Derived.RangeFuncNested
import Derived.Shelf.Abstract
import Derived.RangeFuncBound
import Derived.RangeFuncCalls
import Derived.RangeFuncLeaves
import Derived.WalkKit
import Derived.OwnWalkIn
import Derived.OwnWalk
import Derived.TacticsInMore
import Derived.LoopNIn
import Derived.LoopIn
import Derived.WalkLawsBesides
import Derived.Deep.QuietTactic
import Derived.BigQuiet
import Derived.RegionTactic
import Derived.Lib.Hide
import Derived.Outline
import Derived.WalkSmall
import Derived.Test.YtipablcbkoedbaaProg
import Derived.Test.YtipablcbkoedbaaI1
import Derived.Test.YtipablcbkoedbaaC7
namespace Go.Proofs.Ytipablcbkoedbaa
open Go.RowKit

theorem shared_all2 : ∀ (cs : List CV) (a b lo hi : Int), a ≤ lo → hi ≤ b → (∀ i, i < cs.length → domLo (cvks cs i) ≤ lo ∧ hi ≤ domHi (cvks cs i)) → (sharedFrom a b cs).1 ≤ lo ∧ hi ≤ (sharedFrom a b cs).2
  | [], a, b, lo, hi, h1, h2, _ => ⟨h1, h2⟩
  | c :: cs, a, b, lo, hi, h1, h2, h => by
    have h0 := h 0 (by simp)
    have e : cvks (c :: cs) 0 = c.ks := rfl
    rw [e] at h0
    exact shared_all2 cs _ _ lo hi (by omega) (by omega) fun i hi' => h (i + 1) (by simpa using hi')
theorem span_iff {cs : List CV} {lo hi : Int} (hv : AllValid cs) (hp : 0 < cs.length) : ¬ (lo < shLo cs ∨ shHi cs < hi) ↔ ∀ i, i < cs.length → domLo (cvks cs i) ≤ lo ∧ hi ≤ domHi (cvks cs i) := by
  constructor
  · intro h i hi'
    have := (shared_in cs 0 2000).2.2 i hi'
    unfold shLo shHi at h
    omega
  · intro h
    obtain ⟨v, _, _⟩ := hv 0 hp
    have h0 := h 0 hp
    have hvp := v.pos
    have a := v.x0 0 hvp
    have b := v.x0 ((cvks cs 0).length - 1) (by omega)
    unfold domLo domHi at h0
    have := shared_all2 cs 0 2000 lo hi (by omega) (by omega) h
    unfold shLo shHi
    omega

set_option maxRecDepth 100000 in
set_option maxHeartbeats 1600000 in
theorem Rover_any (A : Option Addr) (n cap : Nat) (cs : List CV) (lo hi : Int) (w : World) (h : LAt w A n cs) (hm : n ≤ 9223372036854775807) (hn0 : 0 < n) :
    Calls Try.prog 84 #[.slice A n cap, vSpan lo hi] w fun e w' => e = .returned (.int .i64 (spanErr cs lo hi)) ∧ Below w.heap.size w w' := by
  have hlen := h.len
  have HE0 := Lib.hid (show spanErr cs lo hi = if checkAll cs ≠ 0 then checkAll cs else if hi < lo then 1 else if lo < shLo cs ∨ shHi cs < hi then 3 else 0 from rfl)
  have HL := Lib.hid hlen
  have HA0 := Lib.hid h
  have HB0 := Lib.hid ((Below.refl w.heap.size w).alloc (Nat.le_refl _) (.cells #[.int .i64 lo, .int .i64 hi] 26))
  have HS0 := Lib.hid (Blk.new w 26 #[.int .i64 lo, .int .i64 hi])
  clear h hlen
  go_enter Try.func84, Try.ntmps84
  go_wp2_with fail
  go_loopw [5] (fun i wr => ∃ (k : Nat), k ≤ n ∧ i = .int .i64 k ∧ checkAll cs = checkAll (cs.drop k) ∧ Blk wr w.heap.size 26 #[.int .i64 lo, .int .i64 hi] ∧ Below w.heap.size w wr) (fun i _ => n - (intOf i).toNat)
  case atStart => exact ⟨0, Nat.zero_le _, rfl, rfl, HS0.out, HB0.out⟩
  case round =>
    obtain ⟨k, hk, rfl, hch, hsp, hb⟩ := hrel
    have HCh := Lib.hid hch
    have HSp := Lib.hid hsp
    clear hch
    by_cases hkn : k < n
    · obtain ⟨b, off, hAe, hcs⟩ := HA0.out.at_ (by omega)
      subst hAe
      have hlt := hcs.lt
      have hcs' := hcs.below hb
      have hkl : k < cs.length := by rw [HL.out]; exact hkn
      have hs := hcs'.s k hkl
      have he := hcs'.e k hkl
      have hat := hcs'.at_ k hkl
      have HD := Lib.hid (checkAll_drop cs k hkl)
      have hcn := hcs.le k hkl
      clear hcs hcs' hkl hsp
      generalize cvA cs k = cA at *
      generalize cvn cs k = cn at *
      generalize cvcap cs k = cc at *
      generalize cverr cs k = ce at *
      generalize cvks cs k = ck at *
      have HC := Lib.hid (RCheck_any cA cn cc ce ck wr hat hcn)
      clear hat
      by_cases hz : check ck ce = 0
      · have HD2 := Lib.hid (HD.out.trans (if_pos hz))
        rw [hz] at HC
        clear HD hz
        go_wp2_with fail
        refine HC.out.mono ?_; rintro e w1 ⟨rfl, hb1⟩
        have hb2 := hb.trans (hb1.mono hb.size)
        have hsp1 := HSp.out.below hb1
        go_wp2
        go_roundw
        case rel => exact ⟨k + 1, by omega, by go_num, by rw [HCh.out, HD2.out], hsp1, hb2⟩
        case measure => simp [intOf]; omega
      · have hz1 : (check ck ce != 0) = true := by simpa using hz
        have HD2 := Lib.hid (HD.out.trans (if_neg hz))
        have HZ := Lib.hid hz
        clear HD hz
        generalize check ck ce = e0 at *
        go_wp2_with fail
        refine HC.out.mono ?_; rintro e w1 ⟨rfl, hb1⟩
        have hb2 := hb.trans (hb1.mono hb.size)
        go_wp2
        go_ret
        exact ⟨ret_int (by rw [HE0.out, HCh.out, HD2.out, if_pos HZ.out]), hb2⟩
    · have hc0 : checkAll cs = 0 := by rw [HCh.out, List.drop_eq_nil_of_le (by rw [HL.out]; omega)]; rfl
      have HAll := Lib.hid (checkAll_zero cs hc0)
      have HE1 := Lib.hid (show spanErr cs lo hi = if hi < lo then 1 else if lo < shLo cs ∨ shHi cs < hi then 3 else 0 by rw [HE0.out, if_neg (by simp [hc0])])
      have HB := Lib.hid hb
      clear hc0 HCh HE0
      have sc0 := hsp.cell 0
      have sc1 := hsp.cell 1
      simp only [List.getElem?_toArray, List.getElem?_cons_zero, List.getElem?_cons_succ] at sc0 sc1
      have sl := hsp.lt
      by_cases hlh : hi < lo
      · have HZ := Lib.hid (show spanErr cs lo hi = 1 by rw [HE1.out, if_pos hlh])
        go_wp2
        go_ret
        exact ⟨ret_int HZ.out.symm, hb⟩
      have HE2 := Lib.hid (show spanErr cs lo hi = if lo < shLo cs ∨ shHi cs < hi then 3 else 0 by rw [HE1.out, if_neg hlh])
      go_wp2_with fail
      clear hk hkn hb hsp sc0 sc1 sl
      go_loopw [7] (fun i wr => ∃ (k : Nat), k ≤ n ∧ i = .int .i64 k ∧ (∀ j, j < k → domLo (cvks cs j) ≤ lo ∧ hi ≤ domHi (cvks cs j)) ∧ Blk wr w.heap.size 26 #[.int .i64 lo, .int .i64 hi] ∧ Below w.heap.size w wr) (fun i _ => n - (intOf i).toNat)
      case atStart => exact ⟨0, Nat.zero_le _, rfl, fun j hj => absurd hj (by omega), HSp.out, HB.out⟩
      case round =>
       clear HSp HB
       obtain ⟨k, hk, rfl, hin, hsp, hb⟩ := hrel
       have HIn := Lib.hid hin
       have HSp := Lib.hid hsp
       clear hin
       by_cases hkn : k < n
       · obtain ⟨b, off, hAe, hcs⟩ := HA0.out.at_ (by omega)
         subst hAe
         have hlt := hcs.lt
         have hcs' := hcs.below hb
         have hkl : k < cs.length := by rw [HL.out]; exact hkn
         have hs := hcs'.s k hkl
         have he := hcs'.e k hkl
         have hat := hcs'.at_ k hkl
         obtain ⟨hvk, hek1, hek2⟩ := HAll.out k hkl
         have hge := fun j (hj : j < k + 1) (hc : domLo (cvks cs k) ≤ lo ∧ hi ≤ domHi (cvks cs k)) => (show domLo (cvks cs j) ≤ lo ∧ hi ≤ domHi (cvks cs j) by
           by_cases e : j = k
           · subst e; exact hc
           · exact HIn.out j (by omega))
         have hno := fun (hc : ¬ (domLo (cvks cs k) ≤ lo ∧ hi ≤ domHi (cvks cs k))) => (show spanErr cs lo hi = 3 by
           rw [HE2.out, if_pos (Classical.byContradiction fun hh => hc ((span_iff HAll.out (by omega)).1 hh k hkl))])
         have hcp := hvk.pos
         have hcle := hvk.le
         have hlk := hat.len
         obtain ⟨b', off', hAe', hkn'⟩ := hat.at_ (by omega)
         rw [hAe', ← hlk] at hs
         have HDm := Lib.hid (Rdomain_any b' off' (cvks cs k).length (cvcap cs k) (cverr cs k) (cvks cs k) wr hkn' rfl hcp (by omega))
         clear hcs hcs' hat hAe' hkn' hlk hvk hkl
         generalize cvcap cs k = cc at *
         generalize cverr cs k = ce at *
         have hsl := hsp.lt
         by_cases hc : domLo (cvks cs k) ≤ lo ∧ hi ≤ domHi (cvks cs k)
         · have HGe := Lib.hid (fun j hj => hge j hj hc)
           obtain ⟨hc1, hc2⟩ := hc
           clear hge hno
           generalize hdl : domLo (cvks cs k) = dl at *
           generalize hdh : domHi (cvks cs k) = dh at *
           generalize hll : (cvks cs k).length = ll at *
           clear hdl hdh hll
           go_wp2_with fail
           refine HDm.out.mono ?_; rintro e w1 ⟨rfl, hb1⟩
           have hb3 := hb.trans (hb1.mono hb.size)
           have hb4 := hb3.alloc hb3.size (.cells #[.int .i64 dl, .int .i64 dh] 26)
           have hs1 := HSp.out.below hb1
           have HS2 := Lib.hid (hs1.alloc (.cells #[.int .i64 dl, .int .i64 dh] 26))
           have sc0 := hs1.cell 0
           have sc1 := hs1.cell 1
           simp only [List.getElem?_toArray, List.getElem?_cons_zero, List.getElem?_cons_succ] at sc0 sc1
           have sl := hs1.lt
           go_wp2
           go_roundw
           case rel => exact ⟨k + 1, by omega, by go_num, HGe.out, HS2.out, hb4⟩
           case measure => simp [intOf]; omega
         · have HNo := Lib.hid (hno hc)
           clear hge hno
           generalize hdl : domLo (cvks cs k) = dl at *
           generalize hdh : domHi (cvks cs k) = dh at *
           generalize hll : (cvks cs k).length = ll at *
           clear hdl hdh hll
           by_cases hc1 : lo < dl
           · clear hc
             go_wp2_with fail
             refine HDm.out.mono ?_; rintro e w1 ⟨rfl, hb1⟩
             have hb3 := hb.trans (hb1.mono hb.size)
             have hb4 := hb3.alloc hb3.size (.cells #[.int .i64 dl, .int .i64 dh] 26)
             have hs1 := HSp.out.below hb1
             have sc0 := hs1.cell 0
             have sc1 := hs1.cell 1
             simp only [List.getElem?_toArray, List.getElem?_cons_zero, List.getElem?_cons_succ] at sc0 sc1
             have sl := hs1.lt
             go_wp2
             go_ret
             exact ⟨ret_int HNo.out.symm, hb4⟩
           · have hc2 : dh < hi := by omega
             clear hc
             go_wp2_with fail
             refine HDm.out.mono ?_; rintro e w1 ⟨rfl, hb1⟩
             have hb3 := hb.trans (hb1.mono hb.size)
             have hb4 := hb3.alloc hb3.size (.cells #[.int .i64 dl, .int .i64 dh] 26)
             have hs1 := HSp.out.below hb1
             have sc0 := hs1.cell 0
             have sc1 := hs1.cell 1
             simp only [List.getElem?_toArray, List.getElem?_cons_zero, List.getElem?_cons_succ] at sc0 sc1
             have sl := hs1.lt
             go_wp2
             go_ret
             exact ⟨ret_int HNo.out.symm, hb4⟩
       · have HZ := Lib.hid (show spanErr cs lo hi = 0 by
           rw [HE2.out, if_neg ((span_iff HAll.out (by rw [HL.out]; omega)).2 fun i hi' => HIn.out i (by have := HL.out; omega))])
         go_wp2
         go_ret
         exact ⟨ret_int HZ.out.symm, hb⟩

/-! ### peak -/
theorem blk_set6 {W : World} {g : Nat} {t : TypeId} {p q r s u v : Value} (h : Blk W g t #[p, q, r, s, u, v]) (a b c d e f : Value) :
    Blk ((((((W.setCell ⟨g, 0, none⟩ a).setCell ⟨g, 1, none⟩ b).setCell ⟨g, 2, none⟩ c).setCell ⟨g, 3, none⟩ d).setCell ⟨g, 4, none⟩ e).setCell ⟨g, 5, none⟩ f) g t #[a, b, c, d, e, f] := by
  have := (((((h.set_ 0 a).set_ 1 b).set_ 2 c).set_ 3 d).set_ 4 e).set_ 5 f
  simpa using this
theorem below_set6 {B : Nat} {w W : World} {g : Nat} (h : Below B w W) (hg : B ≤ g) (a b c d e f : Value) :
    Below B w ((((((W.setCell ⟨g, 0, none⟩ a).setCell ⟨g, 1, none⟩ b).setCell ⟨g, 2, none⟩ c).setCell ⟨g, 3, none⟩ d).setCell ⟨g, 4, none⟩ e).setCell ⟨g, 5, none⟩ f) :=
  ((below_set4 h hg a b c d).setCell (p := ⟨g, 4, none⟩) hg _).setCell (p := ⟨g, 5, none⟩) hg _
theorem far6 {W : World} {g g' : Nat} {t : TypeId} {cs : Array Value} (h : Blk W g' t cs) (hne : g' ≠ g) (a b c d e f : Value) :
    Blk ((((((W.setCell ⟨g, 0, none⟩ a).setCell ⟨g, 1, none⟩ b).setCell ⟨g, 2, none⟩ c).setCell ⟨g, 3, none⟩ d).setCell ⟨g, 4, none⟩ e).setCell ⟨g, 5, none⟩ f) g' t cs :=
  (((((h.far (p := ⟨g, 0, none⟩) hne a).far (p := ⟨g, 1, none⟩) hne b).far (p := ⟨g, 2, none⟩) hne c).far (p := ⟨g, 3, none⟩) hne d).far (p := ⟨g, 4, none⟩) hne e).far (p := ⟨g, 5, none⟩) hne f

set_option maxRecDepth 100000 in
set_option maxHeartbeats 3200000 in
theorem Rpeak_any (fr : Int) (b off cap : Nat) (zs : List (Int × Int)) (w : World) (hF : Fs w b off zs) (hz : ∀ z ∈ zs, FrB z) (h0 : 0 < zs.length) (h1 : zs.length ≤ 1000000) (hf1 : -1000000 ≤ fr) (hf2 : fr ≤ 1000000) :
    Calls Try.prog 86 #[.int .i64 fr, .slice (some ⟨b, off, none⟩) zs.length cap] w fun e w' =>
      e = .returned (vPeak (extr ltF zs (0, 0)).1.1 (extr ltF zs (0, 0)).1.2 (extr gtF zs (0, 0)).1.1 (extr gtF zs (0, 0)).1.2 (fr + (extr ltF zs (0, 0)).2) (fr + (extr gtF zs (0, 0)).2)) ∧ Below w.heap.size w w' := by
  have HFs := Lib.hid hF
  have HFr := Lib.hid hz
  have hlb := hF.lt
  have hbw := (Below.refl w.heap.size w).alloc (Nat.le_refl _) (.cells #[.int .i64 0, .int .i64 0, .int .i64 0, .int .i64 0, .int .i64 0, .int .i64 0] 40)
  have hrb := Blk.new w 40 #[.int .i64 0, .int .i64 0, .int .i64 0, .int .i64 0, .int .i64 0, .int .i64 0]
  have hz0 := HFs.out.n 0 h0
  have hz1 := HFs.out.d 0 h0
  simp only [Nat.zero_mul, Nat.add_zero] at hz0 hz1
  have hx1 : exGo ltF zs (0, 0) 1 = (zs.getD 0 (0, 0), 0) := by rw [exGo_first _ _ _ _ (by simp [exGo])]; rfl
  have hx2 : exGo gtF zs (0, 0) 1 = (zs.getD 0 (0, 0), 0) := by rw [exGo_first _ _ _ _ (by simp [exGo])]; rfl
  have HX1 := Lib.hid hx1
  have HX2 := Lib.hid hx2
  have HE1 := Lib.hid (show extr ltF zs (0, 0) = exGo ltF zs (0, 0) zs.length from rfl)
  have HE2 := Lib.hid (show extr gtF zs (0, 0) = exGo gtF zs (0, 0) zs.length from rfl)
  clear hF hz hx1 hx2
  generalize hn : zs.length = n at *
  have HN := Lib.hid hn
  clear hn
  obtain ⟨z0n, z0d, hz0e⟩ : ∃ a b, zs.getD 0 (0, 0) = (a, b) := ⟨_, _, rfl⟩
  rw [hz0e] at hz0 hz1 HX1 HX2
  dsimp only at hz0 hz1
  go_enter Try.func86, Try.ntmps86
  go_wp2_with fail
  generalize hWk : w.alloc (.cells #[.int .i64 0, .int .i64 0, .int .i64 0, .int .i64 0, .int .i64 0, .int .i64 0] 40) = W at *
  clear hWk
  have c0 := (hbw.cell (p := ⟨b, off, none⟩) hlb).trans hz0
  have c1 := (hbw.cell (p := ⟨b, off + 1, none⟩) hlb).trans hz1
  have hlb2 := Nat.lt_of_lt_of_le hlb hbw.size
  refine wp_region_new 10 9 5 40 #[.int .i64 0, .int .i64 0, .int .i64 0, .int .i64 0, .int .i64 0, .int .i64 0] (by kernel_rfl) (by kernel_rfl) ?_ ?_
  · intro a' v R hR o ho
    simp only [List.getElem?_cons_succ, List.getElem?_cons_zero, Option.some.injEq] at ho
    subst ho
    simpa [loudAt, loudUpon, go_sem, execOp] using hR
  apply Exists.intro
  refine ⟨?_, ?_⟩
  · intro V hV
    have d0 := (hV.cell (p := ⟨b, off, none⟩) hlb2).trans c0
    have d1 := (hV.cell (p := ⟨b, off + 1, none⟩) hlb2).trans c1
    have hlbV := Nat.lt_of_lt_of_le hlb2 hV.size
    obtain ⟨xc, xf⟩ := xcell (W := V)
    simp only [List.take_succ_cons, List.take_zero, qOf, isLoud, List.any_cons, List.any_nil, Nat.reduceBEq, Bool.or_false, Nat.reduceAdd, Bool.false_eq_true, if_true, if_false, beq_self_eq_true, Nat.zero_add]
    repeat (first | go_big_quiet_step (fail) | quiet_step (fail))
    exact wpQuiet_nil rfl
  intro gP v hgP hv hbP
  simp only [List.drop_succ_cons, List.drop_zero, Act.put, List.setIfInBounds_toArray, List.set_cons_succ, List.set_cons_zero]
  have pc0 := hbP.cell 0
  have pc1 := hbP.cell 1
  have pc2 := hbP.cell 2
  have pc3 := hbP.cell 3
  have pc4 := hbP.cell 4
  have pc5 := hbP.cell 5
  simp only [List.getElem?_toArray, List.getElem?_cons_zero, List.getElem?_cons_succ] at pc0 pc1 pc2 pc3 pc4 pc5
  have pf0 := hbP.frozen 0
  have pf1 := hbP.frozen 1
  have pf2 := hbP.frozen 2
  have pf3 := hbP.frozen 3
  have pf4 := hbP.frozen 4
  have pf5 := hbP.frozen 5
  have hgP1 : w.heap.size < gP := by have := hrb.lt; omega
  have HP4 := Lib.hid (blk_set6 hbP (.int .i64 z0n) (.int .i64 z0d) (.int .i64 z0n) (.int .i64 z0d) (.int .i64 fr) (.int .i64 fr))
  have HR4 := Lib.hid (far6 (hrb.below hv) (g := gP) (by omega) (.int .i64 z0n) (.int .i64 z0d) (.int .i64 z0n) (.int .i64 z0d) (.int .i64 fr) (.int .i64 fr))
  have hb3 := hbw.trans (hv.mono hbw.size)
  have HB4 := Lib.hid (below_set6 hb3 (g := gP) (by omega) (.int .i64 z0n) (.int .i64 z0d) (.int .i64 z0n) (.int .i64 z0d) (.int .i64 fr) (.int .i64 fr))
  go_wp2_with fail
  go_loopw [6] (fun i wr => ∃ (k : Nat) (ln ld li hn hd hi : Int), 1 ≤ k ∧ k ≤ n ∧ i = .int .i64 k ∧ exGo ltF zs (0, 0) k = ((ln, ld), li) ∧ exGo gtF zs (0, 0) k = ((hn, hd), hi) ∧
      Blk wr w.heap.size 40 #[.int .i64 0, .int .i64 0, .int .i64 0, .int .i64 0, .int .i64 0, .int .i64 0] ∧ Blk wr gP 40 #[.int .i64 ln, .int .i64 ld, .int .i64 hn, .int .i64 hd, .int .i64 (fr + li), .int .i64 (fr + hi)] ∧ Below w.heap.size w wr) (fun i _ => n - (intOf i).toNat)
  case atStart => exact ⟨1, z0n, z0d, 0, z0n, z0d, 0, Nat.le_refl _, h0, rfl, HX1.out, HX2.out, HR4.out, by rw [Int.add_zero]; exact HP4.out, HB4.out⟩
  case round =>
    clear HX1 HX2 HR4 HP4 HB4 hbP hv pc0 pc1 pc2 pc3 pc4 pc5 pf0 pf1 pf2 pf3 pf4 pf5 hb3 hrb hgP c0 c1 hlb2 hbw
    obtain ⟨k, ln, ld, li, hn, hd, hi, hk1, hk2, rfl, hexl, hexh, hrr, hgg, hb⟩ := hrel
    have HExl := Lib.hid hexl
    have HExh := Lib.hid hexh
    have hln : zs.length = n := HN.out
    have tl := exGo_two ltF zs (0, 0) k (by omega)
    have th := exGo_two gtF zs (0, 0) k (by omega)
    have hbl := tl.2.2.2 (by omega)
    have hbh := th.2.2.2 (by omega)
    have hil := tl.2.2.1 (by omega)
    have hih := th.2.2.1 (by omega)
    have hil2 := tl.2.1
    have hih2 := th.2.1
    rw [hexl] at hbl hil hil2
    rw [hexh] at hbh hih hih2
    dsimp only at hbl hil hil2 hbh hih hih2
    have HGl := Lib.hid (HFr.out _ hbl)
    have HGh := Lib.hid (HFr.out _ hbh)
    have HRr := Lib.hid hrr
    have HGg := Lib.hid hgg
    clear hexl hexh hbl hbh tl th
    by_cases hkn : k < n
    · have hkl : k < zs.length := by omega
      have hzn := (hb.cell (p := ⟨b, off + k * 2, none⟩) hlb).trans (HFs.out.n k hkl)
      have hzd := (hb.cell (p := ⟨b, off + k * 2 + 1, none⟩) hlb).trans (HFs.out.d k hkl)
      have hfk := HFr.out _ (getD_mem zs k (0, 0) hkl)
      obtain ⟨vn, vd, hve⟩ : ∃ a b, zs.getD k (0, 0) = (a, b) := ⟨_, _, rfl⟩
      rw [hve] at hzn hzd hfk
      dsimp only at hzn hzd
      have HVe := Lib.hid hve
      have hlbr := Nat.lt_of_lt_of_le hlb hb.size
      have hol : ∀ W, Calls Try.prog 95 #[vFrac vn vd, vFrac ln ld] W fun e w' => e = .returned (.int .i64 (ordF vn vd ln ld)) ∧ Below W.heap.size W w' :=
        fun W => Order_any vn vd ln ld W (hfk.prod HGl.out).1 (hfk.prod HGl.out).2 (HGl.out.prod hfk).1 (HGl.out.prod hfk).2
      have hoh : ∀ W, Calls Try.prog 95 #[vFrac vn vd, vFrac hn hd] W fun e w' => e = .returned (.int .i64 (ordF vn vd hn hd)) ∧ Below W.heap.size W w' :=
        fun W => Order_any vn vd hn hd W (hfk.prod HGh.out).1 (hfk.prod HGh.out).2 (HGh.out.prod hfk).1 (HGh.out.prod hfk).2
      have HOl := Lib.hid hol
      have HOh := Lib.hid hoh
      have HLl := Lib.hid (show ltF (zs.getD k (0, 0)) (ln, ld) = decide (ordF vn vd ln ld < 0) by rw [hve])
      have HLh := Lib.hid (show gtF (zs.getD k (0, 0)) (hn, hd) = decide (ordF vn vd hn hd > 0) by rw [hve])
      have HIl := Lib.hid hil
      have HIh := Lib.hid hih
      clear hol hoh hve hfk hkl
      generalize ordF vn vd ln ld = ol at *
      generalize ordF vn vd hn hd = oh at *
      have gc0 := hgg.cell 0
      have gc1 := hgg.cell 1
      have gc2 := hgg.cell 2
      have gc3 := hgg.cell 3
      have gc4 := hgg.cell 4
      have gc5 := hgg.cell 5
      simp only [List.getElem?_toArray, List.getElem?_cons_zero, List.getElem?_cons_succ] at gc0 gc1 gc2 gc3 gc4 gc5
      have ggl := hgg.lt
      go_wp2_with fail
      obtain ⟨xc, xf⟩ := xcell (W := wr)
      refine wp_region_quiet_tail 8 (by kernel_rfl) (by kernel_rfl) ?_
      simp only [List.take_succ_cons, List.take_zero, List.drop_succ_cons, List.drop_zero]
      repeat (first | go_big_quiet_step ((go_at_call 95; with_reducible refine calls_ext (HOl.out _))) | quiet_step ((go_at_call 95; with_reducible refine calls_ext (HOl.out _))))
      refine wpQuiet_nil ?_
      intro w1 hb1
      have hbA := hb.trans (hb1.mono hb.size)
      have hzn1 := (hb1.cell (p := ⟨b, off + k * 2, none⟩) hlbr).trans hzn
      have hzd1 := (hb1.cell (p := ⟨b, off + k * 2 + 1, none⟩) hlbr).trans hzd
      have hlbr1 := Nat.lt_of_lt_of_le hlbr hb1.size
      have hg1 := hgg.below hb1
      have hr1 := hrr.below hb1
      clear xc xf gc0 gc1 gc2 gc3 gc4 gc5 ggl hzn hzd
      have gc0 := hg1.cell 0
      have gc1 := hg1.cell 1
      have gc2 := hg1.cell 2
      have gc3 := hg1.cell 3
      have gc4 := hg1.cell 4
      have gc5 := hg1.cell 5
      simp only [List.getElem?_toArray, List.getElem?_cons_zero, List.getElem?_cons_succ] at gc0 gc1 gc2 gc3 gc4 gc5
      have gf0 := hg1.frozen 0
      have gf1 := hg1.frozen 1
      have gf4 := hg1.frozen 4
      have ggl := hg1.lt
      have hne : gP ≠ w.heap.size := by omega
      by_cases hol0 : ol < 0
      · have HEl := Lib.hid (show exGo ltF zs (0, 0) (k + 1) = ((vn, vd), (k : Int)) by
          rw [exGo_yes _ _ _ _ (by rw [HExl.out, HLl.out]; simpa using hol0), HVe.out])
        have hgY := ((hg1.set_ 0 (.int .i64 vn)).set_ 1 (.int .i64 vd)).set_ 4 (.int .i64 (fr + k))
        simp only [List.setIfInBounds_toArray, List.set_cons_zero, List.set_cons_succ] at hgY
        have hrY := ((hr1.far (p := ⟨gP, 0, none⟩) (by simp; omega) (.int .i64 vn)).far (p := ⟨gP, 1, none⟩) (by simp; omega) (.int .i64 vd)).far (p := ⟨gP, 4, none⟩) (by simp; omega) (.int .i64 (fr + k))
        have hbY := ((hbA.setCell (p := ⟨gP, 0, none⟩) (show w.heap.size ≤ gP by omega) (.int .i64 vn)).setCell (p := ⟨gP, 1, none⟩) (show w.heap.size ≤ gP by omega) (.int .i64 vd)).setCell (p := ⟨gP, 4, none⟩) (show w.heap.size ≤ gP by omega) (.int .i64 (fr + k))
        go_wp2_with fail
        generalize hve : ((w1.setCell ⟨gP, 0, none⟩ (.int .i64 vn)).setCell ⟨gP, 1, none⟩ (.int .i64 vd)).setCell ⟨gP, 4, none⟩ (.int .i64 (fr + k)) = v2 at *
        clear hve gc0 gc1 gc2 gc3 gc4 gc5 gf0 gf1 gf4 ggl
        have hznY := (hbY.cell (p := ⟨b, off + k * 2, none⟩) hlb).trans (HFs.out.n k (by omega))
        have hzdY := (hbY.cell (p := ⟨b, off + k * 2 + 1, none⟩) hlb).trans (HFs.out.d k (by omega))
        have hlbY := Nat.lt_of_lt_of_le hlb hbY.size
        rw [HVe.out] at hznY hzdY
        dsimp only at hznY hzdY
        have gc0 := hgY.cell 0
        have gc1 := hgY.cell 1
        have gc2 := hgY.cell 2
        have gc3 := hgY.cell 3
        have gc4 := hgY.cell 4
        have gc5 := hgY.cell 5
        simp only [List.getElem?_toArray, List.getElem?_cons_zero, List.getElem?_cons_succ] at gc0 gc1 gc2 gc3 gc4 gc5
        have ggl := hgY.lt
        obtain ⟨xc, xf⟩ := xcell (W := v2)
        refine wp_region_quiet_tail 8 (by kernel_rfl) (by kernel_rfl) ?_
        simp only [List.take_succ_cons, List.take_zero, List.drop_succ_cons, List.drop_zero]
        repeat (first | go_big_quiet_step ((go_at_call 95; with_reducible refine calls_ext (HOh.out _))) | quiet_step ((go_at_call 95; with_reducible refine calls_ext (HOh.out _))))
        refine wpQuiet_nil ?_
        intro v3 hb5
        have hbZ := hbY.trans (hb5.mono hbY.size)
        have hgZ := hgY.below hb5
        have hrZ := hrY.below hb5
        have hznZ := (hb5.cell (p := ⟨b, off + k * 2, none⟩) hlbY).trans hznY
        have hzdZ := (hb5.cell (p := ⟨b, off + k * 2 + 1, none⟩) hlbY).trans hzdY
        have hlbZ := Nat.lt_of_lt_of_le hlbY hb5.size
        clear xc xf gc0 gc1 gc2 gc3 gc4 gc5 ggl hznY hzdY
        have gc0 := hgZ.cell 0
        have gc1 := hgZ.cell 1
        have gc2 := hgZ.cell 2
        have gc3 := hgZ.cell 3
        have gc4 := hgZ.cell 4
        have gc5 := hgZ.cell 5
        simp only [List.getElem?_toArray, List.getElem?_cons_zero, List.getElem?_cons_succ] at gc0 gc1 gc2 gc3 gc4 gc5
        have gf2 := hgZ.frozen 2
        have gf3 := hgZ.frozen 3
        have gf5 := hgZ.frozen 5
        have ggl := hgZ.lt
        by_cases hoh0 : 0 < oh
        · have HEh := Lib.hid (show exGo gtF zs (0, 0) (k + 1) = ((vn, vd), (k : Int)) by
            rw [exGo_yes _ _ _ _ (by rw [HExh.out, HLh.out]; simpa using hoh0), HVe.out])
          have hgF := ((hgZ.set_ 2 (.int .i64 vn)).set_ 3 (.int .i64 vd)).set_ 5 (.int .i64 (fr + k))
          simp only [List.setIfInBounds_toArray, List.set_cons_zero, List.set_cons_succ] at hgF
          have hrF := ((hrZ.far (p := ⟨gP, 2, none⟩) (by simp; omega) (.int .i64 vn)).far (p := ⟨gP, 3, none⟩) (by simp; omega) (.int .i64 vd)).far (p := ⟨gP, 5, none⟩) (by simp; omega) (.int .i64 (fr + k))
          have hbF := ((hbZ.setCell (p := ⟨gP, 2, none⟩) (show w.heap.size ≤ gP by omega) (.int .i64 vn)).setCell (p := ⟨gP, 3, none⟩) (show w.heap.size ≤ gP by omega) (.int .i64 vd)).setCell (p := ⟨gP, 5, none⟩) (show w.heap.size ≤ gP by omega) (.int .i64 (fr + k))
          go_wp2
          go_roundw
          case rel => exact ⟨k + 1, vn, vd, k, vn, vd, k, by omega, by omega, by go_num, HEl.out, HEh.out, hrF, hgF, hbF⟩
          case measure => simp [intOf]; omega
        · have HEh := Lib.hid (show exGo gtF zs (0, 0) (k + 1) = ((hn, hd), hi) by
            rw [exGo_no _ _ _ _ (by rw [HExh.out]; have := HIh.out; dsimp only; omega) (by rw [HExh.out, HLh.out]; simpa using hoh0), HExh.out])
          go_wp2
          go_roundw
          case rel => exact ⟨k + 1, vn, vd, k, hn, hd, hi, by omega, by omega, by go_num, HEl.out, HEh.out, hrZ, hgZ, hbZ⟩
          case measure => simp [intOf]; omega
      · have HEl := Lib.hid (show exGo ltF zs (0, 0) (k + 1) = ((ln, ld), li) by
          rw [exGo_no _ _ _ _ (by rw [HExl.out]; have := HIl.out; dsimp only; omega) (by rw [HExl.out, HLl.out]; simpa using hol0), HExl.out])
        have hgY := hg1
        have hrY := hr1
        have hbY := hbA
        go_wp2_with fail
        have hznY := hzn1
        have hzdY := hzd1
        have hlbY := hlbr1
        clear gc0 gc1 gc2 gc3 gc4 gc5 gf0 gf1 gf4 ggl
        generalize w1 = v2 at *
        have gc0 := hgY.cell 0
        have gc1 := hgY.cell 1
        have gc2 := hgY.cell 2
        have gc3 := hgY.cell 3
        have gc4 := hgY.cell 4
        have gc5 := hgY.cell 5
        simp only [List.getElem?_toArray, List.getElem?_cons_zero, List.getElem?_cons_succ] at gc0 gc1 gc2 gc3 gc4 gc5
        have ggl := hgY.lt
        obtain ⟨xc, xf⟩ := xcell (W := v2)
        refine wp_region_quiet_tail 8 (by kernel_rfl) (by kernel_rfl) ?_
        simp only [List.take_succ_cons, List.take_zero, List.drop_succ_cons, List.drop_zero]
        repeat (first | go_big_quiet_step ((go_at_call 95; with_reducible refine calls_ext (HOh.out _))) | quiet_step ((go_at_call 95; with_reducible refine calls_ext (HOh.out _))))
        refine wpQuiet_nil ?_
        intro v3 hb5
        have hbZ := hbY.trans (hb5.mono hbY.size)
        have hgZ := hgY.below hb5
        have hrZ := hrY.below hb5
        have hznZ := (hb5.cell (p := ⟨b, off + k * 2, none⟩) hlbY).trans hznY
        have hzdZ := (hb5.cell (p := ⟨b, off + k * 2 + 1, none⟩) hlbY).trans hzdY
        have hlbZ := Nat.lt_of_lt_of_le hlbY hb5.size
        clear xc xf gc0 gc1 gc2 gc3 gc4 gc5 ggl hznY hzdY
        have gc0 := hgZ.cell 0
        have gc1 := hgZ.cell 1
        have gc2 := hgZ.cell 2
        have gc3 := hgZ.cell 3
        have gc4 := hgZ.cell 4
        have gc5 := hgZ.cell 5
        simp only [List.getElem?_toArray, List.getElem?_cons_zero, List.getElem?_cons_succ] at gc0 gc1 gc2 gc3 gc4 gc5
        have gf2 := hgZ.frozen 2
        have gf3 := hgZ.frozen 3
        have gf5 := hgZ.frozen 5
        have ggl := hgZ.lt
        by_cases hoh0 : 0 < oh
        · have HEh := Lib.hid (show exGo gtF zs (0, 0) (k + 1) = ((vn, vd), (k : Int)) by
            rw [exGo_yes _ _ _ _ (by rw [HExh.out, HLh.out]; simpa using hoh0), HVe.out])
          have hgF := ((hgZ.set_ 2 (.int .i64 vn)).set_ 3 (.int .i64 vd)).set_ 5 (.int .i64 (fr + k))
          simp only [List.setIfInBounds_toArray, List.set_cons_zero, List.set_cons_succ] at hgF
          have hrF := ((hrZ.far (p := ⟨gP, 2, none⟩) (by simp; omega) (.int .i64 vn)).far (p := ⟨gP, 3, none⟩) (by simp; omega) (.int .i64 vd)).far (p := ⟨gP, 5, none⟩) (by simp; omega) (.int .i64 (fr + k))
          have hbF := ((hbZ.setCell (p := ⟨gP, 2, none⟩) (show w.heap.size ≤ gP by omega) (.int .i64 vn)).setCell (p := ⟨gP, 3, none⟩) (show w.heap.size ≤ gP by omega) (.int .i64 vd)).setCell (p := ⟨gP, 5, none⟩) (show w.heap.size ≤ gP by omega) (.int .i64 (fr + k))
          go_wp2
          go_roundw
          case rel => exact ⟨k + 1, ln, ld, li, vn, vd, k, by omega, by omega, by go_num, HEl.out, HEh.out, hrF, hgF, hbF⟩
          case measure => simp [intOf]; omega
        · have HEh := Lib.hid (show exGo gtF zs (0, 0) (k + 1) = ((hn, hd), hi) by
            rw [exGo_no _ _ _ _ (by rw [HExh.out]; have := HIh.out; dsimp only; omega) (by rw [HExh.out, HLh.out]; simpa using hoh0), HExh.out])
          go_wp2
          go_roundw
          case rel => exact ⟨k + 1, ln, ld, li, hn, hd, hi, by omega, by omega, by go_num, HEl.out, HEh.out, hrZ, hgZ, hbZ⟩
          case measure => simp [intOf]; omega
    · have hkk : k = n := by omega
      subst hkk
      have HRl := Lib.hid (show extr ltF zs (0, 0) = ((ln, ld), li) by rw [HE1.out, HExl.out])
      have HRh := Lib.hid (show extr gtF zs (0, 0) = ((hn, hd), hi) by rw [HE2.out, HExh.out])
      have gc0 := hgg.cell 0
      have gc1 := hgg.cell 1
      have gc2 := hgg.cell 2
      have gc3 := hgg.cell 3
      have gc4 := hgg.cell 4
      have gc5 := hgg.cell 5
      simp only [List.getElem?_toArray, List.getElem?_cons_zero, List.getElem?_cons_succ] at gc0 gc1 gc2 gc3 gc4 gc5
      have rc0 := hrr.cell 0
      have rc1 := hrr.cell 1
      have rc2 := hrr.cell 2
      have rc3 := hrr.cell 3
      have rc4 := hrr.cell 4
      have rc5 := hrr.cell 5
      simp only [List.getElem?_toArray, List.getElem?_cons_zero, List.getElem?_cons_succ] at rc0 rc1 rc2 rc3 rc4 rc5
      have rf0 := hrr.frozen 0
      have rf1 := hrr.frozen 1
      have rf2 := hrr.frozen 2
      have rf3 := hrr.frozen 3
      have rf4 := hrr.frozen 4
      have rf5 := hrr.frozen 5
      go_wp2
      have hF := blk_set6 hrr (.int .i64 ln) (.int .i64 ld) (.int .i64 hn) (.int .i64 hd) (.int .i64 (fr + li)) (.int .i64 (fr + hi))
      have k0 := hF.cell 0
      have k1 := hF.cell 1
      have k2 := hF.cell 2
      have k3 := hF.cell 3
      have k4 := hF.cell 4
      have k5 := hF.cell 5
      simp only [List.getElem?_toArray, List.getElem?_cons_zero, List.getElem?_cons_succ] at k0 k1 k2 k3 k4 k5
      exact bodyPost_ret (v := vPeak ln ld hn hd (fr + li) (fr + hi)) (by simp [results, Try.results86, go_sem, k0, k1, k2, k3, k4, k5]) rfl ⟨by rw [HRl.out, HRh.out], below_set6 hb (Nat.le_refl _) _ _ _ _ _ _⟩
end Go.Proofs.Ytipablcbkoedbaa
