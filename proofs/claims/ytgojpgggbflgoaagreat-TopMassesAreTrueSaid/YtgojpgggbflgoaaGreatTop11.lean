/- The first loading in which a ship is not steady. Whether a ship is steady in all loadings. How deep a ship lies: bounds, and what stands while the deepest draught is sought. How deep a ship can lie. Whether a ship floats clear of the ground. Eighteen cells. find of surveys. The volumes that a ship can have by a survey. The masses that are possible by a survey. -/
import Derived.Maps.OwnIn
import Derived.Deep.MidRow
import Derived.BigQuiet
import Derived.OwnWalkIn
import Derived.Deep.WholeRow
import Derived.Test.YtgojpgggbflgoaaGreatTop10
import Derived.Test.YtgojpgggbflgoaaGreatTop09
import Derived.Test.YtgojpgggbflgoaaGreatTop05
import Derived.Test.YtgojpgggbflgoaaGreatTop06
import Derived.Test.YtgojpgggbflgoaaGreatTop02
import Derived.Test.YtgojpgggbflgoaaGreatTop08
namespace Go.Proofs.YtgojpgggbflgoaaGreat
open Go.RowKit

theorem BestOk.ld {hs : List Hl} {fs : List Int} {t : Int} {xs : List Int} (h : BestOk (hs.map Hl.room) fs t xs) : ldE hs xs = 0 := by
  have hl : xs.length = hs.length := by simpa using h.len
  unfold ldE
  rw [if_neg (by simp [hl])]
  refine firstE_all fun i hi => ?_
  rw [ldF_of (by omega) hi]
  have := h.rng i (by simpa [← hl] using hi)
  rw [getD_at hi, rs_at (by omega)] at this
  rw [if_neg]
  simp only [inB, Bool.not_eq_false, decide_eq_true_eq]
  exact this
/-- At a total the greatest rise is one with which the ship is steady. -/
def ShkP (light height : Int) (hs : List Hl) (mt : List (Int × Int)) (terr least t : Int) : Prop :=
  ∃ xs, BestOk (hs.map Hl.room) (hs.map Hl.height) t xs ∧ stdB light height hs mt terr least xs = true
def ShkI (n : Nat) (hs : List Hl) (t : Int) (ls : Nat → Bool) (vs : Nat → Value) (v : World) : Prop :=
  (ls 2 = true → ∃ F fc, vs 2 = .slice F n fc ∧ SAt encI 1 v F n (hs.map Hl.height)) ∧ (ls 4 = true → ∃ X xc xs, vs 4 = .slice X n xc ∧ SAt encI 1 v X n xs ∧ BestOk (hs.map Hl.room) (hs.map Hl.height) t xs) ∧
  (ls 5 = true → ∃ X xc xs, vs 5 = .slice X n xc ∧ SAt encI 1 v X n xs ∧ BestOk (hs.map Hl.room) (hs.map Hl.height) t xs)
attribute [local go_sem] Oper.semAt_some
set_option maxRecDepth 100000 in
set_option maxHeartbeats 6400000 in
theorem shaky_any (id light lever height : Int) (A : Option Addr) (n c : Nat) (B : Option Addr) (m d : Nat) (merr : Int) (C : Option Addr) (q r : Nat) (terr turn least : Int) (hs : List Hl) (mn mt : List (Int × Int)) (Lh : Option Addr) (ch : Nat) (a z : Int) (w : World) (hA : SAt encL 4 w A n hs) (hC : CAt w C q mt) (hok : ShipOk id light lever height turn least hs mn merr mt terr) (hL : SAt encS 2 w Lh n (rsL hs)) (k : LdOk hs a z) :
    Calls Tryz.prog 55 #[.agg (cSp id light lever height A n c B m d merr C q r terr turn least), vLd Lh n ch a z] w fun e w' => (∃ X p pc b, e = .returned (.tuple #[.slice X p pc, .bool b]) ∧ (b = false → ∀ t, a ≤ t → t ≤ z → ShkP light height hs mt terr least t)) ∧ Below w.heap.size w w' := by
  have hkb := k.bd
  have hlen := hok.len
  have hnl : hs.length = n := hA.len
  have HHe := Lib.hid (fun (u : World) (hu : Below w.heap.size w u) => heights_any id light lever height A n c B m d merr C q r terr turn least hs u (hA.below hu) (by omega))
  have HLm := Lib.hid (show (hs.map Hl.height).length = n by rw [List.length_map]; exact hnl)
  have HBe := Lib.hid (fun (u : World) (hu : Below w.heap.size w u) (F : Option Addr) (fc : Nat) (t : Int) (h0 : a ≤ t) (h1 : t ≤ z) (hF : SAt encI 1 u F n (hs.map Hl.height)) => best_any Lh n ch a z hs F fc (hs.map Hl.height) t u (hL.below hu) k hF (by have := k.lo; omega) (by have := k.hi; omega))
  have HSt := Lib.hid (fun (u : World) (hu : Below w.heap.size w u) (X : Option Addr) (xc : Nat) (xs : List Int) (t : Int) (hX : SAt encI 1 u X n xs) (hb : BestOk (hs.map Hl.room) (hs.map Hl.height) t xs) =>
    let b := load_bd hok hb.ld
    steady_any id light lever height A n c B m d merr C q r terr turn least hs mt X xc xs u (hA.below hu) (by omega) (fun x hx => (hok.hl x hx).2.2) (hC.below hu) hok.mtv hX b.2.1 hok.lightB hok.heightB ⟨b.2.2.1, by have := b.2.2.2.1; have := hok.lightB; omega⟩ hok.terrB hok.leastB b.2.2.2.2.1.1 b.2.2.2.2.1.2)
  have hka := k.lo
  have hkl := k.le
  dsimp only [vLd]
  refine (callsIn_wide (n := 3)).1 (callsIn_of_wp_marks Tryz.func55 rfl trivial ?_ rfl)
  simp only [Tryz.ntmps55, List.size_toArray, List.length_cons, List.length_nil, Nat.reduceAdd, Nat.reduceSub, Array.replicate_succ, Array.replicate_zero, List.push_toArray, List.append_toArray, List.nil_append, List.cons_append]
  gi_wp2_with (refine ⟨trivial, ?_⟩; gi_at_call 78; refine (callsIn_wide.2 (each_any _ _ _ _ _ _)).mono ?_; rintro e w' ⟨rfl, rfl⟩)
  generalize hW0 : ((((w.alloc (.cells (cSp id light lever height A n c B m d merr C q r terr turn least) 27)).alloc (.cells #[.slice Lh n ch, .int .i64 a, .int .i64 z] 49)).alloc (.cells #[.slice none 0 0] 32)).alloc (.cells #[.bool false] 4)).alloc (.cells #[.slice Lh n ch, .int .i64 a, .int .i64 z] 49) = W0
  have hs0 : W0.heap.size = w.heap.size + 5 := by rw [← hW0]; simp
  have k0 : Blk W0 w.heap.size 27 (cSp id light lever height A n c B m d merr C q r terr turn least) := by rw [← hW0]; exact ((((Blk.at_new _ _ rfl).alloc _).alloc _).alloc _).alloc _
  have k1 : Blk W0 (w.heap.size + 1) 49 #[.slice Lh n ch, .int .i64 a, .int .i64 z] := by rw [← hW0]; exact (((Blk.at_new _ _ (by simp)).alloc _).alloc _).alloc _
  have k2 : Blk W0 (w.heap.size + 2) 32 #[.slice none 0 0] := by rw [← hW0]; exact ((Blk.at_new _ _ (by simp)).alloc _).alloc _
  have k3 : Blk W0 (w.heap.size + 3) 4 #[.bool false] := by rw [← hW0]; exact (Blk.at_new _ _ (by simp)).alloc _
  have k4 : Blk W0 (w.heap.size + 4) 49 #[.slice Lh n ch, .int .i64 a, .int .i64 z] := by rw [← hW0]; exact Blk.at_new _ _ (by simp)
  have hbw : Below w.heap.size w W0 := by rw [← hW0]; exact (((((Below.refl _ _).alloc (Nat.le_refl _) _).alloc (by simp) _).alloc (by simp; omega) _).alloc (by simp; omega) _).alloc (by simp; omega) _
  clear hW0
  have hL0 := hL.below hbw
  refine wpIn_rangeFunc_ownH (α := TIn a z) rfl (by omega) (gf := 100) (lb := #[.pointer (some ⟨w.heap.size + 4, 0, none⟩)]) rfl trivial (enters_of Tryz.func100 (by kernel_rfl) rfl)
    (each_stops _ (w.heap.size + 4) [] Lh n ch a z hs k W0 (fun g hg => (by cases hg)) k4 hL0) keepC_t (keepC_b (L := []) (w := W0)) (Below.refl _ _) (fun x => (rfl : (encO x.1).size = 1))
    (fun pre W => (∀ t ∈ pre, ShkP light height hs mt terr least t.1) ∧ Blk W w.heap.size 27 (cSp id light lever height A n c B m d merr C q r terr turn least) ∧ Blk W (w.heap.size + 1) 49 #[.slice Lh n ch, .int .i64 a, .int .i64 z] ∧ Blk W (w.heap.size + 2) 32 #[.slice none 0 0] ∧ Blk W (w.heap.size + 3) 4 #[.bool false] ∧ Below w.heap.size w W ∧ W0.heap.size ≤ W.heap.size)
    (fun c _ W => c = .ret ∧ (∃ X p pc, Blk W (w.heap.size + 2) 32 #[.slice X p pc]) ∧ Blk W (w.heap.size + 3) 4 #[.bool true] ∧ Below w.heap.size w W)
    ((ownFrom_pure _ _).and ((Blk.own _ _ _ _).and ((Blk.own _ _ _ _).and ((Blk.own _ _ _ _).and ((Blk.own _ _ _ _).and ((ownFrom_below (Nat.le_refl _) (by omega)).and (fun _ _ _ _ hs hg _ => Nat.le_trans hs hg.size)))))))
    ?hIx ⟨by simp, k0, k1, k2, k3, hbw, Nat.le_refl _⟩
    (fun t a' _ => a' = { tmps := #[.agg (cSp id light lever height A n c B m d merr C q r terr turn least), .agg #[.slice Lh n ch, .int .i64 a, .int .i64 z], .pointer (some ⟨w.heap.size, 0, none⟩), .pointer (some ⟨w.heap.size + 1, 0, none⟩), .pointer (some ⟨w.heap.size + 2, 0, none⟩), .pointer (some ⟨w.heap.size + 3, 0, none⟩), .int .i64 t.1, undef, .agg #[.slice Lh n ch, .int .i64 a, .int .i64 z], .func (.func 100) #[] #[.pointer (some ⟨w.heap.size + 4, 0, none⟩)], .int .i64 t, undef, undef, undef, undef, undef, undef, undef, undef, undef, undef], defers := [] })
    ?hAx ?assign ?body ?done ?stop
  case hIx =>
    rintro c s X Y row ⟨h1, ⟨X', p, pc, h2⟩, h3, h4⟩ hg hr
    exact ⟨h1, ⟨X', p, pc, Blk.own (β := Unit) _ _ _ _ () X Y row h2 hg hr⟩, Blk.own (β := Unit) _ _ _ _ () X Y row h3 hg hr, ownFrom_below (β := Unit) (Nat.le_refl _) (show w.heap.size ≤ W0.heap.size by omega) () X Y row h4 hg hr⟩
  case hAx => exact fun _ _ _ _ _ _ h _ _ => h
  case assign =>
    rintro l pre t W K ⟨hi1, hi2, hi3, hi4, hi5, hi6, hi7⟩ hK
    unfold encO
    gi_wp2
    exact hK _ _ (KeepsFrom.refl _ _) (keepC_refl _ _) ⟨hi1, hi2, hi3, hi4, hi5, hi6, hi7⟩ rfl
  case body =>
    rintro l pre t _ W hl ⟨rr, hr⟩ ⟨hi1, hi2, hi3, hi4, hi5, hi6, hi7⟩ rfl hlen
    obtain ⟨t, ht1, ht2⟩ := t
    dsimp only
    have HTo := Lib.hid (show ∀ (u : World) (hu : Below w.heap.size w u) (F : Option Addr) (fc : Nat) (hF : SAt encI 1 u F n (hs.map Hl.height)), _ from fun u hu F fc hF => HBe.out u hu F fc t ht1 ht2 hF)
    have H1 := Lib.hid hi1
    have H2 := Lib.hid hi2
    have H3 := Lib.hid hi3
    have H4 := Lib.hid hi4
    have H5 := Lib.hid hi5
    have H6 := Lib.hid hi6
    have HLn := Lib.hid (show t = t from rfl)
    clear hi1 hi2 hi3 hi4 hi5 hi6 k0 k1 k2 k3 k4 hL0 hbw hA hC hL hok k HBe hlen
    gi_wp2
    refine wpIn_region_preC 6 [(2, 13), (4, 15), (5, 7)] (fun v => Below W.heap.size W v) (ShkI n hs t) (openRound _ _) (by kernel_rfl) (by kernel_rfl) (Below.refl _ _) (fun v1 v2 h kk => h.trans (kk.mono h.size)) (fun v' hv' => ⟨fun a => (by cases a), fun a => (by cases a), fun a => (by cases a)⟩)
      (fun ls vs v v' _ h kk => ⟨fun a => let ⟨F, fc, e, k⟩ := h.1 a; ⟨F, fc, e, k.below kk⟩, fun a => let ⟨F, fc, xs, e, k, b⟩ := h.2.1 a; ⟨F, fc, xs, e, k.below kk, b⟩, fun a => let ⟨F, fc, xs, e, k, b⟩ := h.2.2 a; ⟨F, fc, xs, e, k.below kk, b⟩⟩) ?ex
    case ex =>
    apply Exists.intro
    refine ⟨?walk, ?loud, ?last⟩
    case walk =>
      intro U hU
      obtain ⟨tl, s0, s1, s2, s3, s4, s5, s6, s7, s8, s9, s10⟩ := blk11 (H2.out.below hU)
      obtain ⟨y0, y1, y2, yl⟩ := cells3 (H3.out.below hU)
      obtain ⟨xc, xf'⟩ := xcell (W := U)
      simp only [List.take_succ_cons, List.take_nil, qOf, isLoud, List.any_cons, List.any_nil, Nat.reduceBEq, Bool.or_false, Bool.or_true, Nat.reduceAdd, Bool.false_eq_true, if_true, if_false, beq_self_eq_true, Nat.zero_add]
      repeat (first | go_big_quiet_step (fail) | quiet_step (fail))
      exact wpQuiet_nil rfl
    case loud =>
      rintro pp hpp vs v hC ls hI hls hw o ho
      simp only [List.mem_cons, List.not_mem_nil, or_false] at hpp
      obtain ⟨i2, i4, i5⟩ := hI
      rcases hpp with rfl | rfl | rfl
      · simp only [List.getElem?_cons_succ, List.getElem?_cons_zero, Option.some.injEq] at ho
        subst ho
        have HC := Lib.hid (HHe.out v (H6.out.trans (hC.mono H6.out.size)))
        simp [loudAt, loudUpon, go_sem, putsL, Act.put]
        refine HC.out.mono ?_
        rintro e v' ⟨x, rfl, hox, hb⟩
        obtain ⟨F, fc, rfl, hsF, _, _⟩ := SAt_of_row encI_len HLm.out hox
        exact ⟨_, rfl, hC.trans (hb.mono hC.size), fun _ => ⟨F, fc, by simp [upd], hsF⟩, fun a => by
          obtain ⟨X, xc, xs, e, k, b⟩ := i4 (by simpa [updB] using a)
          exact ⟨X, xc, xs, by simpa [upd] using e, k.below hb, b⟩, fun a => by
          obtain ⟨X, xc, xs, e, k, b⟩ := i5 (by simpa [updB] using a)
          exact ⟨X, xc, xs, by simpa [upd] using e, k.below hb, b⟩⟩
      · obtain ⟨F, fc, e2, hF⟩ := i2 (hw (2, 13) (by simp) (by kernel_rfl))
        simp only [List.getElem?_cons_succ, List.getElem?_cons_zero, Option.some.injEq] at ho
        subst ho
        have HC := Lib.hid (HTo.out v (H6.out.trans (hC.mono H6.out.size)) F fc hF)
        simp [loudAt, loudUpon, go_sem, putsL, Act.put, e2]
        refine HC.out.mono ?_
        rintro e v' ⟨⟨X, xc, xs, rfl, hX, hbo⟩, hb⟩
        exact ⟨_, rfl, hC.trans (hb.mono hC.size), fun _ => ⟨F, fc, by simpa [upd] using e2, hF.below hb⟩, fun _ => ⟨X, xc, xs, by simp [upd], hX, hbo⟩, fun a => by
          obtain ⟨X, xc, xs, e, k, b⟩ := i5 (by simpa [updB] using a)
          exact ⟨X, xc, xs, by simpa [upd] using e, k.below hb, b⟩⟩
      · obtain ⟨X, xc, xs, e4, hX, hbo⟩ := i4 (hw (4, 15) (by simp) (by kernel_rfl))
        simp only [List.getElem?_cons_succ, List.getElem?_cons_zero, Option.some.injEq] at ho
        subst ho
        simp [loudAt, loudUpon, go_sem, execOp, putsL, Act.put, e4]
        exact ⟨hC, fun a => by simpa [updB, upd] using i2 (by simpa [updB] using a), fun a => by simpa [updB, upd] using i4 (by simpa [updB] using a), fun _ => ⟨X, xc, xs, by simp [upd], hX, hbo⟩⟩
    case last =>
    rintro ls vs V' hV hI hls
    obtain ⟨X, xc, xs, e5, hX, hbo⟩ := hI.2.2 (hls (5, 7) (by simp))
    simp only [putsL, List.foldl_cons, List.foldl_nil, List.drop_succ_cons, List.drop_nil, Act.put, e5, List.setIfInBounds_toArray, List.set_cons_succ, List.set_cons_zero]
    generalize vs 2 = x2 at *
    generalize vs 4 = x4 at *
    clear hI hls e5 vs ls
    have HV := Lib.hid hV
    have HSb := Lib.hid (HSt.out V' (H6.out.trans (hV.mono H6.out.size)) X xc xs t hX hbo)
    obtain ⟨tl, s0, s1, s2, s3, s4, s5, s6, s7, s8, s9, s10⟩ := blk11 (H2.out.below hV)
    have HBO := Lib.hid hbo
    have HSP := Lib.hid (show stdB light height hs mt terr least xs = true → ShkP light height hs mt terr least t from fun h => ⟨xs, hbo, h⟩)
    clear hbo hX hV
    generalize stdB light height hs mt terr least xs = sb at *
    cases sb with
    | true =>
      gi_wp2_with (refine ⟨trivial, ?_⟩; gi_at_call 81; refine (CallsIn.inRound _ (callsIn_wide.2 HSb.out)).mono ?_; rintro e w2 ⟨rfl, hb2⟩)
      have hb := HV.out.trans (hb2.mono HV.out.size)
      refine ⟨keepsFrom_below hb, keepC_below hb, fun y hy => ?_, H2.out.below hb, H3.out.below hb, H4.out.below hb, H5.out.below hb, H6.out.trans (hb.mono H6.out.size), Nat.le_trans hi7 hb.size⟩
      rcases List.mem_append.1 hy with hy | hy
      · exact H1.out y hy
      · have : y = ⟨t, ht1, ht2⟩ := by simpa using hy
        rw [this]; exact HSP.out (by simp)
    | false =>
      gi_wp2_with (refine ⟨trivial, ?_⟩; gi_at_call 81; refine (CallsIn.inRound _ (callsIn_wide.2 HSb.out)).mono ?_; rintro e w2 ⟨rfl, hb2⟩; have hb := HV.out.trans (hb2.mono HV.out.size); have c4 := H4.out.below hb; have c5 := H5.out.below hb; have r0 := c4.cell 0; have r1 := c5.cell 0; have f0 := c4.frozen 0; have f1 := c5.frozen 0; have l1 := c4.lt; have l2 := c5.lt; simp only [List.getElem?_toArray, List.getElem?_cons_zero] at r0 r1)
      have HB := Lib.hid hb
      have HC4 := Lib.hid c4
      have HC5 := Lib.hid c5
      clear hb c4 c5
      refine ⟨(keepsFrom_below HB.out).trans (((KeepsOthers.setCell _ _ _).trans (KeepsOthers.setCell _ _ _)).from _), rfl, ⟨X, n, xc, ?_⟩, ?_, ((H6.out.trans (HB.out.mono H6.out.size)).setCell (p := ⟨w.heap.size + 2, 0, none⟩) (by simp) _).setCell (p := ⟨w.heap.size + 3, 0, none⟩) (by simp) _⟩
      · exact (HC4.out.set_ 0 _).far (by simp) _
      · exact (HC5.out.far (p := ⟨w.heap.size + 2, 0, none⟩) (by simp) _).set_ 0 _
  case done =>
    rintro D xs W hD hxs ⟨hi1, hi2, hi3, hi4, hi5, hi6, hi7⟩ hK
    have HP := Lib.hid (show ∀ t, a ≤ t → t ≤ z → ShkP light height hs mt terr least t from fun t h1 h2 => by
      obtain ⟨y, hy, rfl⟩ := List.mem_map.1 (hxs ▸ tsL_mem.2 ⟨h1, by omega⟩ : t ∈ xs.map Subtype.val)
      exact hi1 y hy)
    have r0 := hi4.cell 0
    have r1 := hi5.cell 0
    have f0 := hi4.frozen 0
    have f1 := hi5.frozen 0
    simp only [List.getElem?_toArray, List.getElem?_cons_zero] at r0 r1
    have l1 := hi4.lt
    have l2 := hi5.lt
    have H4 := Lib.hid hi4
    have H5 := Lib.hid hi5
    have H6 := Lib.hid hi6
    have HKD := Lib.hid (show ((W.setCell ⟨w.heap.size + 2, 0, none⟩ (.slice none 0 0)).setCell ⟨w.heap.size + 3, 0, none⟩ (.bool false)).heap[D]? = some (.deferred (some [])) from
      (Below.heap_setCell _ ⟨w.heap.size + 3, 0, none⟩ _ D (by simp; omega)).trans ((Below.heap_setCell _ ⟨w.heap.size + 2, 0, none⟩ _ D (by simp; omega)).trans hK))
    clear hi1 hi2 hi3 hi4 hi5 hi6 hxs hK k0 k1 k2 k3 k4
    gi_wp2
    refine leave_one (D := D) HKD.out ?_
    have z4 := ((((H4.out.set_ 0 (.slice none 0 0)).far (p := ⟨w.heap.size + 3, 0, none⟩) (by simp) (.bool false))).put (D := D) (o := .deferred none) (by omega)).cell 0
    have z5 := (((H5.out.far (p := ⟨w.heap.size + 2, 0, none⟩) (by simp) (.slice none 0 0)).set_ 0 (.bool false)).put (D := D) (o := .deferred none) (by omega)).cell 0
    simp only [List.setIfInBounds_toArray, List.set_cons_zero, List.getElem?_toArray, List.getElem?_cons_zero] at z4 z5
    exact ⟨.tuple #[.slice none 0 0, .bool false], by simp [results, Tryz.results55, go_sem, z4, z5], ⟨none, 0, 0, false, rfl, fun _ => HP.out⟩, below_put ((H6.out.setCell (p := ⟨w.heap.size + 2, 0, none⟩) (by simp) _).setCell (p := ⟨w.heap.size + 3, 0, none⟩) (by simp) _) (by omega)⟩
  case stop =>
    rintro D c' pre W hD hpre ⟨rfl, ⟨X, p, pc, h1⟩, h2, h3⟩ hK
    clear k0 k1 k2 k3 k4
    gi_wp2
    refine leave_one (D := D) hK ?_
    have z4 := (h1.put (D := D) (o := .deferred none) (by omega)).cell 0
    have z5 := (h2.put (D := D) (o := .deferred none) (by omega)).cell 0
    simp only [List.getElem?_toArray, List.getElem?_cons_zero] at z4 z5
    exact ⟨.tuple #[.slice X p pc, .bool true], by simp [results, Tryz.results55, go_sem, z4, z5], ⟨X, p, pc, true, rfl, fun h => (by cases h)⟩, below_put h3 (by omega)⟩
end Go.Proofs.YtgojpgggbflgoaaGreat

namespace Go.Proofs.YtgojpgggbflgoaaGreat
open Go.RowKit

set_option maxRecDepth 100000 in
set_option maxHeartbeats 6400000 in
theorem Steady_any (id light lever height : Int) (A : Option Addr) (n c : Nat) (B : Option Addr) (m d : Nat) (merr : Int) (C : Option Addr) (q r : Nat) (terr turn least : Int) (hs : List Hl) (mn mt : List (Int × Int)) (Lh : Option Addr) (ch : Nat) (a z : Int) (w : World) (hA : SAt encL 4 w A n hs) (hB : CAt w B m mn) (hC : CAt w C q mt) (hn : n ≤ 9223372036854775807) (hm : m ≤ 9223372036854775807) (hq : q ≤ 9223372036854775807) (hc : n ≤ c) (hE : shipE id light lever height turn least hs mn merr mt terr = 0) (hL : SAt encS 2 w Lh n (rsL hs)) (k : LdOk hs a z) (h4 : z - a < 4000) :
    Calls Tryz.prog 30 #[.agg (cSp id light lever height A n c B m d merr C q r terr turn least), vLd Lh n ch a z] w fun e w' => (∃ X p pc b, e = .returned (.tuple #[.slice X p pc, .bool b, .int .i64 0]) ∧ (b = true → ∀ t, a ≤ t → t ≤ z → ShkP light height hs mt terr least t)) ∧ Below w.heap.size w w' := by
  have hb0 := ((Below.refl w.heap.size w).alloc (Nat.le_refl _) (.cells (cSp id light lever height A n c B m d merr C q r terr turn least) 27)).alloc (by simp) (.cells #[.slice Lh n ch, .int .i64 a, .int .i64 z] 49)
  have t0 := (Blk.new w 27 (cSp id light lever height A n c B m d merr C q r terr turn least)).alloc (.cells #[.slice Lh n ch, .int .i64 a, .int .i64 z] 49)
  have l0 := Blk.at_new (W := w.alloc (.cells (cSp id light lever height A n c B m d merr C q r terr turn least) 27)) (g := w.heap.size + 1) 49 #[.slice Lh n ch, .int .i64 a, .int .i64 z] (by simp)
  have HCk := Lib.hid (CheckLoad_any id light lever height A n c B m d merr C q r terr turn least hs mn mt Lh ch a z _ (hA.below hb0) (hB.below hb0) (hC.below hb0) hn hm hq hc hE (hL.below hb0) k)
  rw [if_neg (show ¬ 4000 ≤ z - a by omega)] at HCk
  have hok := shipE_zero hE
  have HSh := Lib.hid (fun (u : World) (hu : Below w.heap.size w u) => shaky_any id light lever height A n c B m d merr C q r terr turn least hs mn mt Lh ch a z u (hA.below hu) (hC.below hu) hok (hL.below hu) k)
  clear hA hB hC hL hE hok k
  dsimp only [vLd] at *
  go_enter Tryz.func30, Tryz.ntmps30
  go_upto_region 1 with fail
  generalize hW : (w.alloc (.cells (cSp id light lever height A n c B m d merr C q r terr turn least) 27)).alloc (.cells #[.slice Lh n ch, .int .i64 a, .int .i64 z] 49) = W at *
  clear hW
  have HT := Lib.hid t0
  have HL := Lib.hid l0
  have HB0 := Lib.hid hb0
  obtain ⟨tl, s0, s1, s2, s3, s4, s5, s6, s7, s8, s9, s10⟩ := blk11 t0
  obtain ⟨y0, y1, y2, yl⟩ := cells3 l0
  clear t0 l0 hb0
  go_upto_region 4 with (go_at_call 28; (with_reducible refine HCk.out.mono ?_); rintro e u1 ⟨rfl, hb1⟩)
  have HB1 := Lib.hid (HB0.out.trans (hb1.mono HB0.out.size))
  have HT1 := Lib.hid (HT.out.below hb1)
  have HL1 := Lib.hid (HL.out.below hb1)
  clear hb1 HCk tl s0 s1 s2 s3 s4 s5 s6 s7 s8 s9 s10 y0 y1 y2 yl HT HL HB0
  obtain ⟨tl, s0, s1, s2, s3, s4, s5, s6, s7, s8, s9, s10⟩ := blk11 HT1.out
  obtain ⟨y0, y1, y2, yl⟩ := cells3 HL1.out
  have HC2 := Lib.hid (HSh.out u1 HB1.out)
  go_wp2_with (go_at_call 55; (with_reducible refine HC2.out.mono ?_); rintro e u2 ⟨⟨X, p, pc, b, rfl, hp⟩, hb2⟩; have HP := Lib.hid hp; clear hp)
  exact bodyPost_ret (v := .tuple #[.slice X p pc, .bool (!b), .int .i64 0]) (by simp [results, Tryz.results30, go_sem]) rfl ⟨⟨X, p, pc, !b, rfl, fun h => HP.out (by simpa using h)⟩, HB1.out.trans (hb2.mono HB1.out.size)⟩
end Go.Proofs.YtgojpgggbflgoaaGreat

namespace Go.Proofs.YtgojpgggbflgoaaGreat
open Go.RowKit

theorem ediv_in {y d Y : Int} (h1 : -Y ≤ y) (h2 : y ≤ Y) (hd : 1 ≤ d) (hY : 0 ≤ Y) : -Y ≤ y / d ∧ y / d ≤ Y := by
  have hm : Y ≤ Y * d := by
    have := Int.mul_le_mul_of_nonneg_left hd hY
    omega
  constructor
  · refine Int.le_ediv_of_mul_le (by omega) ?_
    rw [Int.neg_mul]
    omega
  · have := Int.ediv_lt_of_lt_mul (a := y) (b := Y + 1) (c := d) (by omega) (by rw [Int.add_mul]; omega)
    omega
theorem flt_bd {id light lever height turn least : Int} {hs : List Hl} {mn mt : List (Int × Int)} {merr terr : Int} {xs : List Int} (k : ShipOk id light lever height turn least hs mn merr mt terr) (h : ldE hs xs = 0) {s : Int} (hs1 : s = 1 ∨ s = -1) :
    -100000000000000000 ≤ (fltS light lever hs mn merr turn xs s).2 ∧ (fltS light lever hs mn merr turn xs s).2 ≤ 100000000000000000 := by
  obtain ⟨b1, b2, b3, b4, b5, b6⟩ := load_bd k h
  have hm := (mom_bd (total := light + isum xs) k.lightB.1 ⟨k.leverB, k.heightB⟩ k.hl b2 rfl b4).1
  obtain ⟨ha, hb⟩ := atR_bd k.mnv b6.1 b6.2
  have ht := k.turnB
  have he := k.merrB
  unfold fltS endS
  dsimp only
  generalize (atR mn (light + isum xs)).1 = num at *
  generalize (atR mn (light + isum xs)).2 = den at *
  generalize momS light lever hs xs = mom at *
  have hsm : -2000000000 ≤ s * mom ∧ s * mom ≤ 2000000000 := by rcases hs1 with rfl | rfl <;> omega
  generalize s * mom = m at *
  have m1 := mul_bd (A := 40000000000) (B := 1048576) (x := num * 2) (y := turn) (by omega) (by omega) (by omega) (by omega)
  have m2 := mul_bd (A := 2000000000) (B := 80000) (x := m) (y := den) (by omega) (by omega) (by omega) (by omega)
  have m3 : 1 ≤ den * 2 * turn := by
    have := Int.mul_le_mul (show (2 : Int) ≤ den * 2 by omega) ht.1 (by omega) (by omega)
    omega
  generalize num * 2 * turn = p at *
  generalize m * den = u at *
  generalize den * 2 * turn = d at *
  have := ediv_in (y := -(p + u)) (d := d) (Y := 50000000000000000) (by omega) (by omega) m3 (by omega)
  omega
/-- No loading with a total lies deeper forward than D. -/
def DpA (light lever : Int) (hs : List Hl) (mn : List (Int × Int)) (merr turn t D : Int) : Prop :=
  ∃ xs, BestOk (hs.map Hl.room) (hs.map Hl.lever) t xs ∧ (fltS light lever hs mn merr turn xs 1).2 ≤ D
/-- Nor aft. -/
def DpB (light lever : Int) (hs : List Hl) (mn : List (Int × Int)) (merr turn t D : Int) : Prop :=
  ∃ xs, BestOk (hs.map Hl.room) (hs.map fun x => -x.lever) t xs ∧ (fltS light lever hs mn merr turn xs (-1)).2 ≤ D
theorem DpA.mono {light lever : Int} {hs : List Hl} {mn : List (Int × Int)} {merr turn t D E : Int} (h : DpA light lever hs mn merr turn t D) (k : D ≤ E) : DpA light lever hs mn merr turn t E := let ⟨xs, a, b⟩ := h; ⟨xs, a, Int.le_trans b k⟩
theorem DpB.mono {light lever : Int} {hs : List Hl} {mn : List (Int × Int)} {merr turn t D E : Int} (h : DpB light lever hs mn merr turn t D) (k : D ≤ E) : DpB light lever hs mn merr turn t E := let ⟨xs, a, b⟩ := h; ⟨xs, a, Int.le_trans b k⟩
/-- What stands while the deepest draught is sought: nothing below a block is written. -/
structure DpI (w : World) (S L : Array Value) (g8 gD n : Nat) (F : Option Addr) (fc : Nat) (G : Option Addr) (gc : Nat) (lv ng : List Int) (W : World) : Prop where
  s : Blk W w.heap.size 27 S
  l : Blk W (w.heap.size + 1) 49 L
  f : Blk W g8 32 #[.slice F n fc]
  g : Blk W (g8 + 1) 32 #[.slice G n gc]
  fs : SAt encI 1 W F n lv
  gs : SAt encI 1 W G n ng
  bel : Below w.heap.size w W
  o1 : w.heap.size + 1 < g8
  o2 : g8 + 1 < gD
  o3 : ∀ b off, F = some ⟨b, off, none⟩ → b < gD
  o4 : ∀ b off, G = some ⟨b, off, none⟩ → b < gD
  o5 : gD ≤ W.heap.size
theorem SAt.under {α : Type} {enc : α → List Value} {k : Nat} {w w' : World} {B : Nat} {A : Option Addr} {n : Nat} {l : List α} (h : SAt enc k w A n l) (hb : Below B w w') (hB : ∀ b off, A = some ⟨b, off, none⟩ → b < B) : SAt enc k w' A n l :=
  ⟨h.len, fun hn => let ⟨b, off, e, kk⟩ := h.at_ hn; ⟨b, off, e, Nat.lt_of_lt_of_le kk.lt hb.size, fun i x hi j v hv => by
    have := kk.c i x hi j v hv
    unfold World.cell? at this ⊢
    dsimp only at this ⊢
    rw [hb.block b (hB b off e)]
    exact this⟩⟩
theorem Blk.under {w w' : World} {B g : Nat} {t : TypeId} {cs : Array Value} (h : Blk w g t cs) (hb : Below B w w') (hg : g < B) : Blk w' g t cs := (hb.block g hg).trans h
theorem DpI.under {w : World} {S L : Array Value} {g8 gD n : Nat} {F : Option Addr} {fc : Nat} {G : Option Addr} {gc : Nat} {lv ng : List Int} {W W' : World} (h : DpI w S L g8 gD n F fc G gc lv ng W) (hb : Below gD W W') : DpI w S L g8 gD n F fc G gc lv ng W' :=
  have o1 := h.o1
  have o2 := h.o2
  ⟨h.s.under hb (by omega), h.l.under hb (by omega), h.f.under hb (by omega), h.g.under hb o2, h.fs.under hb h.o3, h.gs.under hb h.o4, h.bel.trans (hb.mono (by omega)), o1, o2, h.o3, h.o4, Nat.le_trans h.o5 hb.size⟩
theorem below_grown {X Y : World} {B : Nat} {r : Option Nat} (hg : X.grownBy Y r) (hB : B ≤ X.heap.size) (hr : ∀ g, r = some g → B ≤ g) : Below B X Y := below_of_grown hg hB hr
end Go.Proofs.YtgojpgggbflgoaaGreat

namespace Go.Proofs.YtgojpgggbflgoaaGreat
open Go.RowKit

def DpC (gD : Nat) (D : Int) (X : Option Addr) (p pc : Nat) (sm : Bool) (W : World) : Prop := Blk W gD 3 #[.int .i64 D] ∧ Blk W (gD + 1) 32 #[.slice X p pc] ∧ Blk W (gD + 1 + 1) 4 #[.bool sm]
theorem DpC.below {gD : Nat} {D : Int} {X : Option Addr} {p pc : Nat} {sm : Bool} {W W' : World} (h : DpC gD D X p pc sm W) (hb : Below W.heap.size W W') : DpC gD D X p pc sm W' := ⟨h.1.below hb, h.2.1.below hb, h.2.2.below hb⟩
theorem DpC.set {gD : Nat} {D : Int} {X : Option Addr} {p pc : Nat} {sm : Bool} {W : World} (h : DpC gD D X p pc sm W) (D' : Int) (X' : Option Addr) (p' pc' : Nat) (sm' : Bool) :
    DpC gD D' X' p' pc' sm' (((W.setCell ⟨gD, 0, none⟩ (.int .i64 D')).setCell ⟨gD + 1, 0, none⟩ (.slice X' p' pc')).setCell ⟨gD + 1 + 1, 0, none⟩ (.bool sm')) := by
  refine ⟨?_, ?_, ?_⟩
  · exact ((h.1.set_ 0 _).far (p := ⟨gD + 1, 0, none⟩) (by simp) _).far (p := ⟨gD + 1 + 1, 0, none⟩) (by simp; omega) _
  · exact ((h.2.1.far (p := ⟨gD, 0, none⟩) (by simp) _).set_ 0 _).far (p := ⟨gD + 1 + 1, 0, none⟩) (by simp) _
  · exact ((h.2.2.far (p := ⟨gD, 0, none⟩) (by simp; omega) _).far (p := ⟨gD + 1, 0, none⟩) (by simp) _).set_ 0 _
theorem below_set3 {B gD : Nat} {w W : World} (h : Below B w W) (hg : B ≤ gD) (a b c : Value) : Below B w (((W.setCell ⟨gD, 0, none⟩ a).setCell ⟨gD + 1, 0, none⟩ b).setCell ⟨gD + 1 + 1, 0, none⟩ c) :=
  ((h.setCell (p := ⟨gD, 0, none⟩) hg _).setCell (p := ⟨gD + 1, 0, none⟩) (by simp; omega) _).setCell (p := ⟨gD + 1 + 1, 0, none⟩) (by simp; omega) _
attribute [local go_sem] Oper.semAt_some
set_option maxRecDepth 100000 in
set_option maxHeartbeats 12800000 in
theorem Deepest_any (id light lever height : Int) (A : Option Addr) (n c : Nat) (B : Option Addr) (m d : Nat) (merr : Int) (C : Option Addr) (q r : Nat) (terr turn least : Int) (hs : List Hl) (mn mt : List (Int × Int)) (Lh : Option Addr) (ch : Nat) (a z : Int) (w : World) (hA : SAt encL 4 w A n hs) (hB : CAt w B m mn) (hC : CAt w C q mt) (hn : n ≤ 9223372036854775807) (hm : m ≤ 9223372036854775807) (hq : q ≤ 9223372036854775807) (hc : n ≤ c) (hE : shipE id light lever height turn least hs mn merr mt terr = 0) (hL : SAt encS 2 w Lh n (rsL hs)) (k : LdOk hs a z) (h4 : z - a < 4000) :
    Calls Tryz.prog 56 #[.agg (cSp id light lever height A n c B m d merr C q r terr turn least), vLd Lh n ch a z] w fun e w' => (∃ D X p pc, e = .returned (.tuple #[.int .i64 D, .slice X p pc, .int .i64 0]) ∧ (-100000000000000000 ≤ D ∧ D ≤ 100000000000000000) ∧ (∀ t, a ≤ t → t ≤ z → DpA light lever hs mn merr turn t D ∧ DpB light lever hs mn merr turn t D)) ∧ Below w.heap.size w w' := by
  have hb0 := ((Below.refl w.heap.size w).alloc (Nat.le_refl _) (.cells (cSp id light lever height A n c B m d merr C q r terr turn least) 27)).alloc (by simp) (.cells #[.slice Lh n ch, .int .i64 a, .int .i64 z] 49)
  have t0 := (Blk.new w 27 (cSp id light lever height A n c B m d merr C q r terr turn least)).alloc (.cells #[.slice Lh n ch, .int .i64 a, .int .i64 z] 49)
  have l0 := Blk.at_new (W := w.alloc (.cells (cSp id light lever height A n c B m d merr C q r terr turn least) 27)) (g := w.heap.size + 1) 49 #[.slice Lh n ch, .int .i64 a, .int .i64 z] (by simp)
  have hok := shipE_zero hE
  have hlen := hok.len
  have hnl : hs.length = n := hA.len
  have hka := k.lo
  have hkl := k.le
  have HKo := Lib.hid k
  have HOk := Lib.hid hok
  have hn8 : n ≤ 8 := by omega
  have HCk := Lib.hid (fun (u : World) (hu : Below w.heap.size w u) => CheckLoad_any id light lever height A n c B m d merr C q r terr turn least hs mn mt Lh ch a z u (hA.below hu) (hB.below hu) (hC.below hu) hn hm hq hc hE (hL.below hu) k)
  rw [if_neg (show ¬ 4000 ≤ z - a by omega)] at HCk
  have HLh := Lib.hid (fun (u : World) (hu : Below w.heap.size w u) => hL.below hu)
  have HLv := Lib.hid (fun (u : World) (hu : Below w.heap.size w u) => levers_any id light lever height A n c B m d merr C q r terr turn least hs u (hA.below hu) hn8)
  have HLm := Lib.hid (show (hs.map Hl.lever).length = n by rw [List.length_map]; exact hnl)
  have HLb := Lib.hid (show ∀ x ∈ hs.map Hl.lever, -20000 ≤ x ∧ x ≤ 20000 from fun x hx => by obtain ⟨y, hy, rfl⟩ := List.mem_map.1 hx; exact (hok.hl y hy).2.1)
  obtain ⟨ng, hng⟩ : ∃ ng : List Int, ng = hs.map (fun x => -x.lever) := ⟨_, rfl⟩
  have HNl := Lib.hid (show ng.length = n by rw [hng, List.length_map]; exact hnl)
  have HNt := Lib.hid (show ∀ k (q : k < (hs.map Hl.lever).length), ng.take (k + 1) = ng.take k ++ [-((hs.map Hl.lever)[k])] from fun k q => by rw [List.take_succ_eq_append_getElem (by rw [hng]; simpa using q)]; simp [hng])
  have HNg := Lib.hid hng
  clear hng
  have HBe := Lib.hid (fun (u : World) (hu : Below w.heap.size w u) (F : Option Addr) (fc : Nat) (fs : List Int) (t : Int) (h0 : a ≤ t) (h1 : t ≤ z) (hF : SAt encI 1 u F n fs) => best_any Lh n ch a z hs F fc fs t u (hL.below hu) k hF (by have := k.lo; omega) (by have := k.hi; omega))
  have HAf := Lib.hid (fun (u : World) (hu : Below w.heap.size w u) (X : Option Addr) (xc : Nat) (xs : List Int) (hX : SAt encI 1 u X n xs) (hld : ldE hs xs = 0) => hafloat_any id light lever height A n c B m d merr C q r terr turn least hs mn mt X xc xs u (hA.below hu) (hB.below hu) hX hok hld)
  clear hA hB hC hL hE hok k
  dsimp only [vLd] at *
  obtain ⟨ii, hi0, hi1, hi2, hi3⟩ := info_parts info_int
  obtain ⟨tl, s0, s1, s2, s3, s4, s5, s6, s7, s8, s9, s10⟩ := blk11 t0
  obtain ⟨y0, y1, y2, yl⟩ := cells3 l0
  have HT := Lib.hid t0
  have HL := Lib.hid l0
  have HB0 := Lib.hid hb0
  clear t0 l0
  refine (callsIn_wide (n := 3)).1 (callsIn_of_wp_marks Tryz.func56 rfl trivial ?_ rfl)
  simp only [Tryz.ntmps56, List.size_toArray, List.length_cons, List.length_nil, Nat.reduceAdd, Nat.reduceSub, Array.replicate_succ, Array.replicate_zero, List.push_toArray, List.append_toArray, List.nil_append, List.cons_append]
  gi_wp2_with (refine ⟨trivial, ?_⟩; gi_at_call 28; refine (callsIn_wide.2 (HCk.out _ hb0)).mono ?_; rintro e u1 ⟨rfl, hb1⟩; obtain ⟨tl', p0, p1, p2, p3, p4, p5, p6, p7, p8, p9, p10⟩ := blk11 (HT.out.below hb1); obtain ⟨x0, x1, x2, xl⟩ := cells3 (HL.out.below hb1))
  have HB1 := Lib.hid (HB0.out.trans (hb1.mono HB0.out.size))
  have HT1 := Lib.hid (HT.out.below hb1)
  have HL1 := Lib.hid (HL.out.below hb1)
  have hu1 := HB1.out.size
  clear HCk HT HL HB0 hb0 tl s0 s1 s2 s3 s4 s5 s6 s7 s8 s9 s10 y0 y1 y2 yl
  refine ⟨trivial, (callsIn_wide.2 (HLv.out u1 HB1.out)).mono ?_⟩
  rintro e u2 ⟨v, rfl, hov, hb2⟩
  have hFl := fun g (hg : _) => (own_lt (g := g) hov hg).2
  obtain ⟨F, fc, rfl, hsF, hFb, hFc⟩ := SAt_of_row encI_len HLm.out hov
  have HFl := Lib.hid (show ∀ b off, F = some ⟨b, off, none⟩ → b < u2.heap.size from fun b off e => hFl b (by rw [e]; rfl))
  have HFs := Lib.hid hsF
  have HB2 := Lib.hid (HB1.out.trans (hb2.mono HB1.out.size))
  have HT2 := Lib.hid (HT1.out.below hb2)
  have HL2 := Lib.hid (HL1.out.below hb2)
  have hu2 := HB2.out.size
  have hu2' := hb2.size
  have HsW := Lib.hid (show w.heap.size + 2 ≤ u2.heap.size by have := HL1.out.lt; omega)
  clear hov hFl hsF hFb hFc HT1 HL1 HB1 hb1 hb2 HLv tl' p0 p1 p2 p3 p4 p5 p6 p7 p8 p9 p10 x0 x1 x2 xl
  gi_wp2
  have hV0 := ((Below.refl u2.heap.size u2).alloc (Nat.le_refl _) (.cells #[.slice F n fc] 32)).alloc (by simp) (.cells #[.slice none 0 0] 32)
  have v8 := (Blk.new u2 32 #[.slice F n fc]).alloc (.cells #[.slice none 0 0] 32)
  have v9 := Blk.at_new (W := u2.alloc (.cells #[.slice F n fc] 32)) (g := u2.heap.size + 1) 32 #[.slice none 0 0] (by simp)
  generalize hV : (u2.alloc (.cells #[.slice F n fc] 32)).alloc (.cells #[.slice none 0 0] 32) = V at *
  have hVs : V.heap.size = u2.heap.size + 2 := by rw [← hV]; simp
  clear hV
  have HVb := Lib.hid hV0
  have HV8 := Lib.hid v8
  have HV9 := Lib.hid v9
  clear hV0 v8 v9
  gi_loopw [11, 31] (fun _ i wr => ∃ k : Nat, k ≤ n ∧ i = .int .i64 (k : Int) ∧ ∃ vo, Blk wr (u2.heap.size + 1) 32 #[vo] ∧ wr.ownsRow (u2.heap.size + 2) 3 1 vo k ((ng.take k).flatMap encI) ∧ Below (u2.heap.size + 1) V wr)
    (fun _ i _ => n - (intOf i).toNat)
  case atStart => exact ⟨0, Nat.zero_le _, rfl, _, HV9.out, by simpa using World.ownsRow_nil _ _ _ _, Below.refl _ _⟩
  case round =>
    obtain ⟨k, hk, rfl, vo, hvo, how, hb⟩ := hrel
    have HB := Lib.hid hb
    have HVo := Lib.hid hvo
    have HOw := Lib.hid how
    have hws := hb.size
    obtain ⟨Ao, co, rfl⟩ := owns_slice how
    by_cases hkn : k < n
    case pos =>
      have hkl : k < (hs.map Hl.lever).length := by rw [HLm.out]; exact hkn
      obtain ⟨b, off, rfl, hls⟩ := (HFs.out.below (HVb.out.trans (hb.mono (by omega)))).at_ (by omega)
      have c0 := hls.c k _ (List.getElem?_eq_getElem hkl) 0 _ rfl
      rw [Nat.mul_one, Nat.add_zero] at c0
      have cl := hls.lt
      have e0 := hvo.cell 0
      have ef := hvo.frozen 0
      have el := hvo.lt
      simp only [List.getElem?_toArray, List.getElem?_cons_zero] at e0
      have HTk := Lib.hid (HNt.out k hkl)
      have hx := HLb.out _ (List.getElem_mem hkl)
      generalize (hs.map Hl.lever)[k] = x at *
      have HOw2 := Lib.hid (HOw.out.alloc (.cells #[.int .i64 (-x)] 3))
      have HVo2 := Lib.hid (HVo.out.alloc (.cells #[.int .i64 (-x)] 3))
      have HB2x := Lib.hid (HB.out.alloc (by omega) (.cells #[.int .i64 (-x)] 3))
      have hne := own_ne HOw2.out HVo2.out (by decide)
      have HNe := Lib.hid hne
      clear hne hvo how hb hls
      gi_wp2_with (gi_at_builtin; refine wpListIn_append_own_at _ rfl (.tmp 35) (.tmp 38) 32 rfl (u2.heap.size + 2) 3 ii (.int .i64 0) 1 8 Tryz.underlying32 hi0 hi1 hi2 hi3 rfl (by decide) _ k _ rfl HOw2.out ⟨wr.heap.size, 0, none⟩ 1 1 [.int .i64 (-x)] rfl rfl (fun j u h => by match j, h with | 0, h => (simp at h; subst h; exact (Blk.at_new (W := wr) (g := wr.heap.size) _ _ rfl).cell 0)) (one_intsL [-x]) (by unfold maxLen; omega) (by omega) (by simp; omega) ?_)
      intro v' w4 ho hgr _ hbl
      obtain ⟨g5, c5, rfl⟩ := ownsRow_succ ho
      have q0 := HVo2.out.grown hgr HNe.out
      have e1 := q0.cell 0
      have ef1 := q0.frozen 0
      have el1 := q0.lt
      simp only [List.getElem?_toArray, List.getElem?_cons_zero] at e1
      have hb4 := HB2x.out.trans (below_of_grown hgr (by simp; omega) (fun g hg => by have := (own_lt HOw2.out hg).1; omega))
      have hn4 := own_ne ho q0 (by decide)
      have HQ := Lib.hid q0
      have HO := Lib.hid ho
      have HB4 := Lib.hid hb4
      have HN4 := Lib.hid hn4
      clear q0 ho hgr hbl hb4 hn4
      gi_wp2
      go_roundw
      case rel => exact ⟨k + 1, by omega, by go_num, _, HQ.out.set_ 0 _, owns_grown (by rw [HTk.out, List.flatMap_append]; exact HO.out) (grownBy_set _ _ _ _) (fun g hg e => HN4.out (by rw [hg, Option.some.inj e])), HB4.out.setCell (p := ⟨u2.heap.size + 1, 0, none⟩) (by simp) _⟩
      case measure => simp [intOf]; omega
    case neg =>
      rename World => v2
      have hkn2 : k = n := by omega
      subst k
      have how' := HOw.out
      have hsW := HsW.out
      rw [List.take_of_length_le (by rw [HNl.out]; exact Nat.le_refl _)] at how'
      have hGl := fun g (hg : _) => (own_lt (g := g) how' hg).2
      obtain ⟨G, gc, eG, hsG, _, _⟩ := SAt_of_row encI_len HNl.out how'
      obtain ⟨e1, e2⟩ : Ao = G ∧ co = gc := by simpa using eG
      subst e1 e2
      have HGl := Lib.hid (show ∀ b off, Ao = some ⟨b, off, none⟩ → b < v2.heap.size from fun b off e => hGl b (by rw [e]; rfl))
      have HGs := Lib.hid hsG
      have hbu : Below u2.heap.size u2 v2 := HVb.out.trans (hb.mono (by omega))
      have HI := Lib.hid (show DpI w (cSp id light lever height A n c B m d merr C q r terr turn least) #[.slice Lh n ch, .int .i64 a, .int .i64 z] u2.heap.size v2.heap.size n F fc Ao co (hs.map Hl.lever) ng v2 from
        ⟨HT2.out.below hbu, HL2.out.below hbu, HV8.out.under hb (by omega), HVo.out, HFs.out.below hbu, hsG, HB2.out.trans (hbu.mono HB2.out.size), by omega, by omega, fun b off e => by have := HFl.out b off e; omega, HGl.out, Nat.le_refl _⟩)
      have hl3 := ((HI.out.l.alloc (.cells #[.int .i64 0] 3)).alloc (.cells #[.slice none 0 0] 32)).alloc (.cells #[.bool false] 4)
      obtain ⟨ya, yb, yc, ylx⟩ := cells3 hl3
      clear hl3 how' hGl eG hsG hb hbu hvo how HB HVo HOw HFs HFl HGs HGl HVb HV8 HV9 HT2 HL2 HB2 HNt
      have HEa := Lib.hid (fun (u : World) => each_any Lh n ch a z u)
      gi_wp2_with (refine ⟨trivial, ?_⟩; gi_at_call 78; refine (callsIn_wide.2 (HEa.out _)).mono ?_; rintro e w' ⟨rfl, rfl⟩)
      generalize hW0 : (((v2.alloc (.cells #[.int .i64 0] 3)).alloc (.cells #[.slice none 0 0] 32)).alloc (.cells #[.bool false] 4)).alloc (.cells #[.slice Lh n ch, .int .i64 a, .int .i64 z] 49) = W0
      have hs0 : W0.heap.size = v2.heap.size + 4 := by rw [← hW0]; simp
      have kD : Blk W0 v2.heap.size 3 #[.int .i64 0] := by rw [← hW0]; exact (((Blk.at_new _ _ rfl).alloc _).alloc _).alloc _
      have kX : Blk W0 (v2.heap.size + 1) 32 #[.slice none 0 0] := by rw [← hW0]; exact ((Blk.at_new _ _ (by simp)).alloc _).alloc _
      have kS : Blk W0 (v2.heap.size + 1 + 1) 4 #[.bool false] := by rw [← hW0]; exact (Blk.at_new _ _ (by simp)).alloc _
      have k4 : Blk W0 (v2.heap.size + 1 + 1 + 1) 49 #[.slice Lh n ch, .int .i64 a, .int .i64 z] := by rw [← hW0]; exact Blk.at_new _ _ (by simp)
      have hbw : Below v2.heap.size v2 W0 := by rw [← hW0]; exact ((((Below.refl _ _).alloc (Nat.le_refl _) _).alloc (by simp) _).alloc (by simp; omega) _).alloc (by simp; omega) _
      clear hW0 ya yb yc ylx
      have hI0 := HI.out.under hbw
      have hKL : ∀ g ∈ [v2.heap.size, v2.heap.size + 1, v2.heap.size + 1 + 1], g < W0.heap.size := fun g hg => by
        simp only [List.mem_cons, List.not_mem_nil, or_false] at hg
        rcases hg with rfl | rfl | rfl <;> omega
      refine wpIn_rangeFunc_ownH (α := TIn a z) rfl (by omega) (gf := 100) (lb := #[.pointer (some ⟨v2.heap.size + 1 + 1 + 1, 0, none⟩)]) rfl trivial (enters_of Tryz.func100 (by kernel_rfl) rfl)
        (each_stops _ (v2.heap.size + 1 + 1 + 1) [v2.heap.size, v2.heap.size + 1, v2.heap.size + 1 + 1] Lh n ch a z hs HKo.out W0 hKL k4 (HLh.out W0 hI0.bel)) keepC_t (keepC_b (L := [v2.heap.size, v2.heap.size + 1, v2.heap.size + 1 + 1]) (w := W0)) (Below.refl _ _) (fun x => (rfl : (encO x.1).size = 1))
        (fun pre W => ∃ D X p pc sm, DpI w (cSp id light lever height A n c B m d merr C q r terr turn least) #[.slice Lh n ch, .int .i64 a, .int .i64 z] u2.heap.size v2.heap.size n F fc Ao co (hs.map Hl.lever) ng W ∧ DpC v2.heap.size D X p pc sm W ∧ (-100000000000000000 ≤ D ∧ D ≤ 100000000000000000) ∧ (sm = false → pre = []) ∧ (∀ y ∈ pre, DpA light lever hs mn merr turn y.1 D ∧ DpB light lever hs mn merr turn y.1 D) ∧ W0.heap.size ≤ W.heap.size)
        (fun _ _ _ => False)
        ?hI (fun _ _ _ _ _ h => h.elim) ⟨0, none, 0, 0, false, hI0, ⟨kD, kX, kS⟩, by omega, fun _ => rfl, by simp, Nat.le_refl _⟩
        (fun t a' _ => a' = { tmps := #[.agg (cSp id light lever height A n c B m d merr C q r terr turn least), .agg #[.slice Lh n ch, .int .i64 a, .int .i64 z], .pointer (some ⟨w.heap.size, 0, none⟩), .pointer (some ⟨w.heap.size + 1, 0, none⟩), .int .i64 0, .slice none 0 0, .int .i64 0, .int .i64 0, .pointer (some ⟨u2.heap.size, 0, none⟩), .pointer (some ⟨u2.heap.size + 1, 0, none⟩), undef, u11, .pointer (some ⟨v2.heap.size, 0, none⟩), .pointer (some ⟨v2.heap.size + 1, 0, none⟩), .pointer (some ⟨v2.heap.size + 1 + 1, 0, none⟩), .int .i64 t.1, undef, undef, undef, undef, undef, .agg (cSp id light lever height A n c B m d merr C q r terr turn least), .agg #[.slice Lh n ch, .int .i64 a, .int .i64 z], .int .i64 0, .int .i64 0, .bool false, undef, .agg (cSp id light lever height A n c B m d merr C q r terr turn least), .slice F n fc, .slice F n fc, .int .i64 (n : Int), .int .i64 (n : Int), .bool false, u33, u34, u35, u36, u37, u38, u39, u40, .agg #[.slice Lh n ch, .int .i64 a, .int .i64 z], .func (.func 100) #[] #[.pointer (some ⟨v2.heap.size + 1 + 1 + 1, 0, none⟩)], .int .i64 t.1, undef, undef, undef, undef, undef, undef, undef, undef, undef, undef, undef, undef, undef, undef, undef, undef, undef, undef, undef, undef, undef, undef, undef, undef, undef, undef, undef, undef, undef, undef, undef, undef, undef, undef], defers := [] })
        ?hAx ?assign ?body ?done ?stop
      case hI =>
        rintro pre X Y row ⟨D, X', p, pc, sm, h1, ⟨c1, c2, c3⟩, h3, h4, h5, h6⟩ hg hr
        exact ⟨D, X', p, pc, sm, h1.under (below_of_grown hg h1.o5 (fun g e => by have := (hr g e).1; omega)), ⟨Blk.own (β := Unit) _ _ _ _ () X Y row c1 hg hr, Blk.own (β := Unit) _ _ _ _ () X Y row c2 hg hr, Blk.own (β := Unit) _ _ _ _ () X Y row c3 hg hr⟩, h3, h4, h5, Nat.le_trans h6 hg.size⟩
      case hAx => exact fun _ _ _ _ _ _ h _ _ => h
      case assign =>
        rintro l pre t W K hi hK
        unfold encO
        gi_wp2
        exact hK _ _ (KeepsFrom.refl _ _) (keepC_refl _ _) hi rfl
      case body =>
        rintro l pre t _ W hl ⟨rr, hr⟩ ⟨D0, X0, p0, pc0, sm0, hi1, hi2, hi3, hi4, hi5, hi6⟩ rfl hlen
        obtain ⟨t, ht1, ht2⟩ := t
        dsimp only
        obtain ⟨m0, m1, m2, ml⟩ := cells3 hi1.l
        have f0 := hi1.f.cell 0
        have g0 := hi1.g.cell 0
        have fl := hi1.f.lt
        have gl := hi1.g.lt
        simp only [List.getElem?_toArray, List.getElem?_cons_zero] at f0 g0
        have hb1 := below_new W (.cells #[.slice F n fc, .slice Ao n co] 32)
        have hgs := Blk.new W 32 #[.slice F n fc, .slice Ao n co]
        have HI1 := Lib.hid (hi1.under (hb1.mono hi1.o5))
        have HI2 := Lib.hid (hi2.below hb1)
        have HK1 := Lib.hid (keepsFrom_below (B := W0.heap.size) hb1)
        have HK2 := Lib.hid (keepC_below (L := [v2.heap.size, v2.heap.size + 1, v2.heap.size + 1 + 1]) hb1)
        have HGs := Lib.hid hgs
        have HP5 := Lib.hid hi5
        have HP4 := Lib.hid hi4
        have HW6 := Lib.hid (Nat.le_trans hi6 hb1.size)
        clear hi1 hi2 hi4 hi5 hb1 hgs kD kX kS k4 hI0 hbw HEa HI hr
        gi_wp2
        generalize W.alloc (.cells #[.slice F n fc, .slice Ao n co] 32) = W1 at *
        clear m0 m1 m2 ml f0 g0 fl gl
        gi_loopw [17, 18, 19, 20, 48] (fun _ _ _ _ i wq => ∃ k : Nat, k ≤ 2 ∧ i = .int .i64 (k : Int) ∧ ∃ D X p pc sm, DpI w (cSp id light lever height A n c B m d merr C q r terr turn least) #[.slice Lh n ch, .int .i64 a, .int .i64 z] u2.heap.size v2.heap.size n F fc Ao co (hs.map Hl.lever) ng wq ∧ DpC v2.heap.size D X p pc sm wq ∧ Blk wq W.heap.size 32 #[.slice F n fc, .slice Ao n co] ∧ (-100000000000000000 ≤ D ∧ D ≤ 100000000000000000) ∧ (sm = false → pre = [] ∧ k = 0) ∧ (∀ y ∈ pre, DpA light lever hs mn merr turn y.1 D ∧ DpB light lever hs mn merr turn y.1 D) ∧ (1 ≤ k → DpA light lever hs mn merr turn t D) ∧ (2 ≤ k → DpB light lever hs mn merr turn t D) ∧ KeepsFrom W0.heap.size W wq ∧ KeepC [v2.heap.size, v2.heap.size + 1, v2.heap.size + 1 + 1] W wq ∧ W0.heap.size ≤ wq.heap.size)
          (fun _ _ _ _ i _ => 2 - (intOf i).toNat)
        case atStart => exact ⟨0, by omega, rfl, D0, X0, p0, pc0, sm0, HI1.out, HI2.out, HGs.out, hi3, fun h => ⟨HP4.out h, rfl⟩, HP5.out, fun h => absurd h (by omega), fun h => absurd h (by omega), HK1.out, HK2.out, HW6.out⟩
        case round =>
          obtain ⟨k, hk, rfl, D, X, p, pc, sm, h1, h2, h3, h4, h5, h6, h7, h8, h9, h10, h11⟩ := hrel
          have HD1 := Lib.hid h1
          have HD2 := Lib.hid h2
          have HD3 := Lib.hid h3
          have HD9 := Lib.hid h9
          have HD10 := Lib.hid h10
          by_cases hkn : k < 2
          case neg =>
            have hk2 : k = 2 := by omega
            subst hk2
            have H6 := Lib.hid h6
            have H7 := Lib.hid (h7 (by omega))
            have H8 := Lib.hid (h8 (by omega))
            have H5 := Lib.hid (show sm = true by cases sm with | true => rfl | false => exact absurd (h5 rfl).2 (by omega))
            clear h1 h2 h3 h5 h6 h7 h8 h9 h10
            gi_wp2
            refine ⟨HD9.out, HD10.out, D, X, p, pc, sm, HD1.out, HD2.out, h4, fun h => absurd (H5.out.symm.trans h) (by decide), fun y hy => ?_, h11⟩
            rcases List.mem_append.1 hy with hy | hy
            · exact H6.out y hy
            · have : y = ⟨t, ht1, ht2⟩ := by simpa using hy
              rw [this]; exact ⟨H7.out, H8.out⟩
          case pos =>
            obtain ⟨Fk, fk, fs, hck, hFk, hst⟩ : ∃ (Fk : Option Addr) (fk : Nat) (fs : List Int), wr.cell? ⟨W.heap.size, k, none⟩ = some (.slice Fk n fk) ∧ SAt encI 1 wr Fk n fs ∧ ∀ xs D', BestOk (hs.map Hl.room) fs t xs → (fltS light lever hs mn merr turn xs 1).2 ≤ D' → (fltS light lever hs mn merr turn xs (-1)).2 ≤ D' → (sm = true → D ≤ D') →
                (∀ y ∈ pre, DpA light lever hs mn merr turn y.1 D' ∧ DpB light lever hs mn merr turn y.1 D') ∧ (1 ≤ k + 1 → DpA light lever hs mn merr turn t D') ∧ (2 ≤ k + 1 → DpB light lever hs mn merr turn t D') := by
              have hpre : ∀ D', (sm = true → D ≤ D') → ∀ y ∈ pre, DpA light lever hs mn merr turn y.1 D' ∧ DpB light lever hs mn merr turn y.1 D' := fun D' hD y hy => by
                cases sm with
                | true => exact ⟨(h6 y hy).1.mono (hD rfl), (h6 y hy).2.mono (hD rfl)⟩
                | false => rw [(h5 rfl).1] at hy; cases hy
              match k, hkn with
              | 0, _ => exact ⟨F, fc, _, by simpa using h3.cell 0, h1.fs, fun xs D' hb q1 q2 q3 => ⟨hpre D' q3, fun _ => ⟨xs, hb, q1⟩, fun h => absurd h (by omega)⟩⟩
              | 1, _ =>
                have hsm : sm = true := by cases sm with | true => rfl | false => exact absurd (h5 rfl).2 (by omega)
                exact ⟨Ao, co, ng, by simpa using h3.cell 1, h1.gs, fun xs D' hb q1 q2 q3 => ⟨hpre D' q3, fun _ => (h7 (by omega)).mono (q3 hsm), fun _ => ⟨xs, HNg.out ▸ hb, q2⟩⟩⟩
            have HSt := Lib.hid hst
            have HC1 := Lib.hid (HBe.out wr h1.bel Fk fk fs t ht1 ht2 hFk)
            obtain ⟨m0, m1, m2, ml⟩ := cells3 h1.l
            have d3 := h3.lt
            have HD11 := Lib.hid h11
            clear h1 h2 h3 h5 h6 h7 h8 h9 h10 h11 hst hFk
            gi_wp2_with (refine ⟨trivial, ?_⟩; gi_at_call 79; refine (CallsIn.inRound _ (callsIn_wide.2 HC1.out)).mono ?_; rintro e w3 ⟨⟨X3, xc3, xs, rfl, hX3, hbo⟩, hb3⟩; obtain ⟨tl, s0, s1, s2, s3, s4, s5, s6, s7, s8, s9, s10⟩ := blk11 (HD1.out.s.below hb3))
            have HS2 := Lib.hid (HSt.out xs · hbo)
            have bf1 := flt_bd HOk.out hbo.ld (s := 1) (.inl rfl)
            have bf2 := flt_bd HOk.out hbo.ld (s := -1) (.inr rfl)
            have HC2 := Lib.hid (HAf.out w3 (HD1.out.bel.trans (hb3.mono HD1.out.bel.size)) X3 xc3 xs hX3 hbo.ld)
            have h11' : W0.heap.size ≤ wr.heap.size := HD11.out
            have hol : v2.heap.size + 4 ≤ W.heap.size := by omega
            clear hbo hX3 HSt HC1
            generalize fltS light lever hs mn merr turn xs 1 = f at *
            generalize fltS light lever hs mn merr turn xs (-1) = g at *
            obtain ⟨f1, f2⟩ := f
            obtain ⟨a1, a2⟩ := g
            try dsimp only at HC2 HS2 bf1 bf2
            try dsimp only [vDr] at HC2
            cases sm with
            | false =>
              gi_wp2_with (first | (refine ⟨trivial, ?_⟩; gi_at_call 60; refine (CallsIn.inRound _ (callsIn_wide.2 HC2.out)).mono ?_; rintro e w4 ⟨rfl, hb4⟩; have hbq := (hb3.trans (hb4.mono hb3.size)); have hbz := hbq.trans ((below_new w4 (.cells #[.int .i64 f1, .int .i64 f2, .int .i64 a1, .int .i64 a2] 93)).mono hbq.size); obtain ⟨j1, j2, j3⟩ := HD2.out.below hbz; have z1 := j1.cell 0; have z2 := j2.cell 0; have z3 := j3.cell 0; have zf1 := j1.frozen 0; have zf2 := j2.frozen 0; have zf3 := j3.frozen 0; have zl1 := j1.lt; have zl2 := j2.lt; have zl3 := j3.lt; simp only [List.getElem?_toArray, List.getElem?_cons_zero] at z1 z2 z3) | (refine ⟨trivial, ?_⟩; gi_at_call 77; refine (CallsIn.inRound _ (callsIn_wide.2 (greater_any _ _ _))).mono ?_; rintro e w5 ⟨rfl, rfl⟩))
              have hbk := h11'
              go_roundw
              case rel =>
                obtain ⟨q1, q2, q3⟩ := HS2.out (max f2 a2) (by omega) (by omega) (by intro h; cases h)
                exact ⟨k + 1, by omega, by go_num, max f2 a2, X3, n, xc3, true, HD1.out.under (below_set3 (hbz.mono HD1.out.o5) (Nat.le_refl _) _ _ _), (HD2.out.below hbz).set _ _ _ _ _, ((((HD3.out.below hbz).far (p := ⟨v2.heap.size, 0, none⟩) (by simp; omega) _).far (p := ⟨v2.heap.size + 1, 0, none⟩) (by simp; omega) _).far (p := ⟨v2.heap.size + 1 + 1, 0, none⟩) (by simp; omega) _), by omega, fun h => (by cases h), q1, q2, q3,
                  (HD9.out.trans (keepsFrom_below hbz)).trans ((((KeepsOthers.setCell _ _ _).trans (KeepsOthers.setCell _ _ _)).trans (KeepsOthers.setCell _ _ _)).from _), keepC_t (keepC_t HD10.out (keepC_below hbz)) (keepC_t (keepC_t (keepC_set (by simp)) (keepC_set (by simp))) (keepC_set (by simp))), by have := hbz.size; simp [World.setCell] at this ⊢; omega⟩
              case measure => simp [intOf]; omega

            | true =>
              by_cases hgt : D < max f2 a2
              · gi_wp2_with (first | (refine ⟨trivial, ?_⟩; gi_at_call 60; refine (CallsIn.inRound _ (callsIn_wide.2 HC2.out)).mono ?_; rintro e w4 ⟨rfl, hb4⟩; have hbq := (hb3.trans (hb4.mono hb3.size)); have hbz := hbq.trans ((below_new w4 (.cells #[.int .i64 f1, .int .i64 f2, .int .i64 a1, .int .i64 a2] 93)).mono hbq.size); obtain ⟨j1, j2, j3⟩ := HD2.out.below hbz; have z1 := j1.cell 0; have z2 := j2.cell 0; have z3 := j3.cell 0; have zf1 := j1.frozen 0; have zf2 := j2.frozen 0; have zf3 := j3.frozen 0; have zl1 := j1.lt; have zl2 := j2.lt; have zl3 := j3.lt; simp only [List.getElem?_toArray, List.getElem?_cons_zero] at z1 z2 z3) | (refine ⟨trivial, ?_⟩; gi_at_call 77; refine (CallsIn.inRound _ (callsIn_wide.2 (greater_any _ _ _))).mono ?_; rintro e w5 ⟨rfl, rfl⟩))
                have hbk := h11'
                go_roundw
                case rel =>
                  obtain ⟨q1, q2, q3⟩ := HS2.out (max f2 a2) (by omega) (by omega) (by intro _; omega)
                  exact ⟨k + 1, by omega, by go_num, max f2 a2, X3, n, xc3, true, HD1.out.under (below_set3 (hbz.mono HD1.out.o5) (Nat.le_refl _) _ _ _), (HD2.out.below hbz).set _ _ _ _ _, ((((HD3.out.below hbz).far (p := ⟨v2.heap.size, 0, none⟩) (by simp; omega) _).far (p := ⟨v2.heap.size + 1, 0, none⟩) (by simp; omega) _).far (p := ⟨v2.heap.size + 1 + 1, 0, none⟩) (by simp; omega) _), by omega, fun h => (by cases h), q1, q2, q3,
                    (HD9.out.trans (keepsFrom_below hbz)).trans ((((KeepsOthers.setCell _ _ _).trans (KeepsOthers.setCell _ _ _)).trans (KeepsOthers.setCell _ _ _)).from _), keepC_t (keepC_t HD10.out (keepC_below hbz)) (keepC_t (keepC_t (keepC_set (by simp)) (keepC_set (by simp))) (keepC_set (by simp))), by have := hbz.size; simp [World.setCell] at this ⊢; omega⟩
                case measure => simp [intOf]; omega

              · gi_wp2_with (first | (refine ⟨trivial, ?_⟩; gi_at_call 60; refine (CallsIn.inRound _ (callsIn_wide.2 HC2.out)).mono ?_; rintro e w4 ⟨rfl, hb4⟩; have hbq := (hb3.trans (hb4.mono hb3.size)); have hbz := hbq.trans ((below_new w4 (.cells #[.int .i64 f1, .int .i64 f2, .int .i64 a1, .int .i64 a2] 93)).mono hbq.size); obtain ⟨j1, j2, j3⟩ := HD2.out.below hbz; have z1 := j1.cell 0; have z2 := j2.cell 0; have z3 := j3.cell 0; have zf1 := j1.frozen 0; have zf2 := j2.frozen 0; have zf3 := j3.frozen 0; have zl1 := j1.lt; have zl2 := j2.lt; have zl3 := j3.lt; simp only [List.getElem?_toArray, List.getElem?_cons_zero] at z1 z2 z3) | (refine ⟨trivial, ?_⟩; gi_at_call 77; refine (CallsIn.inRound _ (callsIn_wide.2 (greater_any _ _ _))).mono ?_; rintro e w5 ⟨rfl, rfl⟩))
                have hbk := h11'
                go_roundw
                case rel =>
                  obtain ⟨q1, q2, q3⟩ := HS2.out D (by omega) (by omega) (fun _ => Int.le_refl _)
                  exact ⟨k + 1, by omega, by go_num, D, X, p, pc, true, HD1.out.under (hbz.mono HD1.out.o5), HD2.out.below hbz, HD3.out.below hbz, by omega, fun h => (by cases h), q1, q2, q3, HD9.out.trans (keepsFrom_below hbz), keepC_t HD10.out (keepC_below hbz), by have := hbz.size; omega⟩
                case measure => simp [intOf]; omega

      case done =>
        rintro D xs W hD hxs ⟨D0, X0, p0, pc0, sm0, hi1, ⟨c1, c2, c3⟩, hi3, hi4, hi5, hi6⟩ hK
        have HP := Lib.hid (show ∀ t, a ≤ t → t ≤ z → DpA light lever hs mn merr turn t D0 ∧ DpB light lever hs mn merr turn t D0 from fun t h1 h2 => by
          obtain ⟨y, hy, rfl⟩ := List.mem_map.1 (hxs ▸ tsL_mem.2 ⟨h1, by omega⟩ : t ∈ xs.map Subtype.val)
          exact hi5 y hy)
        have r0 := c1.cell 0
        have r1 := c2.cell 0
        simp only [List.getElem?_toArray, List.getElem?_cons_zero] at r0 r1
        have l1 := c1.lt
        have l2 := c2.lt
        have HBl := Lib.hid hi1.bel
        clear hi1 hi4 hi5 c1 c2 c3 hxs
        obtain ⟨xc, xf'⟩ := xcell (W := W)
        gi_wp2
        refine wpIn_region_quiet_tail 5 (openWide _) (by kernel_rfl) (by kernel_rfl) ?_
        simp only [List.take_succ_cons, List.take_zero, List.drop_succ_cons, List.drop_zero]
        repeat (first | go_big_quiet_step (fail) | quiet_step (fail))
        refine wpQuiet_nil ?_
        intro w6 hb6
        have HB6 := Lib.hid (HBl.out.trans (hb6.mono HBl.out.size))
        have HK6 := Lib.hid ((hb6.block D (Array.getElem?_eq_some_iff.1 hK).1).trans hK)
        clear hb6 hK
        gi_wp2
        refine leave_one (D := D) HK6.out ?_
        exact ⟨.tuple #[.int .i64 D0, .slice X0 p0 pc0, .int .i64 0], by simp [results, Tryz.results56, go_sem], ⟨D0, X0, p0, pc0, rfl, hi3, HP.out⟩, below_put HB6.out (by omega)⟩
      case stop => exact fun _ _ _ _ _ _ h => h.elim
end Go.Proofs.YtgojpgggbflgoaaGreat

namespace Go.Proofs.YtgojpgggbflgoaaGreat
open Go.RowKit

def ClrP (light lever : Int) (hs : List Hl) (mn : List (Int × Int)) (merr turn a z depth keel : Int) : Prop :=
  (0 ≤ keel ∧ keel ≤ 5000) ∧ ∃ D, D + keel ≤ depth ∧ ∀ t, a ≤ t → t ≤ z → DpA light lever hs mn merr turn t D ∧ DpB light lever hs mn merr turn t D
set_option maxRecDepth 100000 in
set_option maxHeartbeats 6400000 in
theorem Clear_any (id light lever height : Int) (A : Option Addr) (n c : Nat) (B : Option Addr) (m d : Nat) (merr : Int) (C : Option Addr) (q r : Nat) (terr turn least : Int) (hs : List Hl) (mn mt : List (Int × Int)) (Lh : Option Addr) (ch : Nat) (a z depth keel : Int) (w : World) (hA : SAt encL 4 w A n hs) (hB : CAt w B m mn) (hC : CAt w C q mt) (hn : n ≤ 9223372036854775807) (hm : m ≤ 9223372036854775807) (hq : q ≤ 9223372036854775807) (hc : n ≤ c) (hE : shipE id light lever height turn least hs mn merr mt terr = 0) (hL : SAt encS 2 w Lh n (rsL hs)) (k : LdOk hs a z) (h4 : z - a < 4000) :
    Calls Tryz.prog 31 #[.agg (cSp id light lever height A n c B m d merr C q r terr turn least), vLd Lh n ch a z, .int .i64 depth, .int .i64 keel] w fun e w' => (∃ b s, e = .returned (.tuple #[.bool b, .int .i64 s]) ∧ (b = true → ClrP light lever hs mn merr turn a z depth keel)) ∧ Below w.heap.size w w' := by
  have hb0 := ((Below.refl w.heap.size w).alloc (Nat.le_refl _) (.cells (cSp id light lever height A n c B m d merr C q r terr turn least) 27)).alloc (by simp) (.cells #[.slice Lh n ch, .int .i64 a, .int .i64 z] 49)
  have t0 := (Blk.new w 27 (cSp id light lever height A n c B m d merr C q r terr turn least)).alloc (.cells #[.slice Lh n ch, .int .i64 a, .int .i64 z] 49)
  have l0 := Blk.at_new (W := w.alloc (.cells (cSp id light lever height A n c B m d merr C q r terr turn least) 27)) (g := w.heap.size + 1) 49 #[.slice Lh n ch, .int .i64 a, .int .i64 z] (by simp)
  have HDp := Lib.hid (Deepest_any id light lever height A n c B m d merr C q r terr turn least hs mn mt Lh ch a z _ (hA.below hb0) (hB.below hb0) (hC.below hb0) hn hm hq hc hE (hL.below hb0) k h4)
  clear hA hB hC hL hE k
  dsimp only [vLd] at *
  go_enter Tryz.func31, Tryz.ntmps31
  go_upto_region 1 with fail
  generalize hW : (w.alloc (.cells (cSp id light lever height A n c B m d merr C q r terr turn least) 27)).alloc (.cells #[.slice Lh n ch, .int .i64 a, .int .i64 z] 49) = W at *
  clear hW
  have HB0 := Lib.hid hb0
  obtain ⟨tl, s0, s1, s2, s3, s4, s5, s6, s7, s8, s9, s10⟩ := blk11 t0
  obtain ⟨y0, y1, y2, yl⟩ := cells3 l0
  clear t0 l0 hb0
  go_upto_region 4 with (go_at_call 56; (with_reducible refine HDp.out.mono ?_); rintro e u1 ⟨⟨D, X, p, pc, rfl, hD, hP⟩, hb1⟩)
  have HP := Lib.hid hP
  have HB1 := Lib.hid (HB0.out.trans (hb1.mono HB0.out.size))
  clear hb1 hP HDp HB0 tl s0 s1 s2 s3 s4 s5 s6 s7 s8 s9 s10 y0 y1 y2 yl
  cases hdI : inB depth 0 65536 with
  | true =>
    cases hkI : inB keel 0 5000 with
    | true =>
      have hk : 0 ≤ keel ∧ keel ≤ 5000 := by simpa [inB] using hkI
      go_wp2_with (go_at_call 35; (with_reducible refine (hwithin_any _ _ _ _).mono ?_); rintro e u2 ⟨rfl, rfl⟩; first | rw [hdI] | rw [hkI])
      exact bodyPost_ret (v := .tuple #[.bool (decide (D + keel ≤ depth)), .int .i64 0]) (by simp [results, Tryz.results31, go_sem]) rfl ⟨⟨_, _, rfl, fun h => ⟨hk, D, by simpa using h, HP.out⟩⟩, HB1.out⟩
    | false =>
      go_wp2_with (go_at_call 35; (with_reducible refine (hwithin_any _ _ _ _).mono ?_); rintro e u2 ⟨rfl, rfl⟩; first | rw [hdI] | rw [hkI])
      exact bodyPost_ret (v := .tuple #[.bool false, .int .i64 1]) (by simp [results, Tryz.results31, go_sem]) rfl ⟨⟨_, _, rfl, fun h => (by cases h)⟩, HB1.out⟩
  | false =>
    go_wp2_with (go_at_call 35; (with_reducible refine (hwithin_any _ _ _ _).mono ?_); rintro e u2 ⟨rfl, rfl⟩; rw [hdI])
    exact bodyPost_ret (v := .tuple #[.bool false, .int .i64 1]) (by simp [results, Tryz.results31, go_sem]) rfl ⟨⟨_, _, rfl, fun h => (by cases h)⟩, HB1.out⟩
end Go.Proofs.YtgojpgggbflgoaaGreat

namespace Go.Proofs.YtgojpgggbflgoaaGreat
open Go.RowKit

theorem cells18 {W : World} {g : Nat} {t : TypeId} {v0 v1 v2 v3 v4 v5 v6 v7 v8 v9 v10 v11 v12 v13 v14 v15 v16 v17 : Value} (h : Blk W g t #[v0, v1, v2, v3, v4, v5, v6, v7, v8, v9, v10, v11, v12, v13, v14, v15, v16, v17]) : W.cell? ⟨g, 0, none⟩ = some v0 ∧ W.cell? ⟨g, 1, none⟩ = some v1 ∧ W.cell? ⟨g, 2, none⟩ = some v2 ∧ W.cell? ⟨g, 3, none⟩ = some v3 ∧ W.cell? ⟨g, 4, none⟩ = some v4 ∧ W.cell? ⟨g, 5, none⟩ = some v5 ∧ W.cell? ⟨g, 6, none⟩ = some v6 ∧ W.cell? ⟨g, 7, none⟩ = some v7 ∧ W.cell? ⟨g, 8, none⟩ = some v8 ∧ W.cell? ⟨g, 9, none⟩ = some v9 ∧ W.cell? ⟨g, 10, none⟩ = some v10 ∧ W.cell? ⟨g, 11, none⟩ = some v11 ∧ W.cell? ⟨g, 12, none⟩ = some v12 ∧ W.cell? ⟨g, 13, none⟩ = some v13 ∧ W.cell? ⟨g, 14, none⟩ = some v14 ∧ W.cell? ⟨g, 15, none⟩ = some v15 ∧ W.cell? ⟨g, 16, none⟩ = some v16 ∧ W.cell? ⟨g, 17, none⟩ = some v17 ∧ g < W.heap.size :=
  ⟨by simpa using h.cell 0, by simpa using h.cell 1, by simpa using h.cell 2, by simpa using h.cell 3, by simpa using h.cell 4, by simpa using h.cell 5, by simpa using h.cell 6, by simpa using h.cell 7, by simpa using h.cell 8, by simpa using h.cell 9, by simpa using h.cell 10, by simpa using h.cell 11, by simpa using h.cell 12, by simpa using h.cell 13, by simpa using h.cell 14, by simpa using h.cell 15, by simpa using h.cell 16, by simpa using h.cell 17, h.lt⟩
theorem range_blk {W : World} {g : Nat} {t : TypeId} {cs : List Value} (h : Blk W g t cs.toArray) : W.rangeAt g 0 cs := fun j v hv => by
  rw [Nat.zero_add, h.cell j]
  simpa using hv
theorem info_sv : (Tryz.prog.info? 62).map (·.size) = some 18 := by kernel_rfl
theorem quiet_load_mid {P : Program} {C : World → Prop} {K : Act → Prop} {a : Act} {o : Oper} (ty : TypeId) (x : Operand) (ho : o.op = .load ty x) (b off : Nat) (hx : a.eval x = .pointer (some ⟨b, off, none⟩)) (cs : List Value) (d : TypeDesc) (hc : ∀ w, C w → w.rangeAt b off cs)
    (hu : P.underlying ty = some d) (hd : d.isRow = true) (hi : (P.info? ty).map (·.size) = some cs.length) (hk : K (a.put o.dst (.agg cs.toArray))) : o.quiet P a C K :=
  ⟨_, fun w hw => by
    unfold Oper.quietAt execOp
    simp only [ho, hx, Instr.loadAt, Instr.sureAddr, Sem.run_bind, Sem.run_pure, Result.andThen_ok, run_loadVar_mid w b off ty cs d (hc w hw) hu hd hi]
    exact ⟨rfl, rfl⟩, hk⟩
theorem wpQuiet_load_mid {P : Program} {ops : Array Oper} {C : World → Prop} {Q : Act → Prop} {a : Act} {o : Oper} {rest : List Oper} (hg : Region.wanted o (yielded ops a.tmps) = true) (ty : TypeId) (x : Operand) (ho : o.op = .load ty x) (b off : Nat) (hx : a.eval x = .pointer (some ⟨b, off, none⟩)) (cs : List Value) (d : TypeDesc) (hc : ∀ w, C w → w.rangeAt b off cs)
    (hu : P.underlying ty = some d) (hd : d.isRow = true) (hi : (P.info? ty).map (·.size) = some cs.length) (hk : wpQuiet P ops C Q rest (a.put o.dst (.agg cs.toArray))) : wpQuiet P ops C Q (o :: rest) a :=
  wpQuiet_step fun K hK => by rw [if_pos hg]; exact quiet_load_mid ty x ho b off hx cs d hc hu hd hi (hK _ hk)
theorem wpListIn_load_mid {F : Fence} {n : Nat} {P : Program} {ops : Array Oper} {rest : List Oper} {o : Oper} {a : Act} {w : World} {Q : Exit → Act → World → Prop} (hg : o.guard = none) (ty : TypeId) (x : Operand) (ho : o.op = .load ty x) (b off : Nat) (hx : a.eval x = .pointer (some ⟨b, off, none⟩)) (cs : List Value) (d : TypeDesc) (hc : w.rangeAt b off cs)
    (hu : P.underlying ty = some d) (hd : d.isRow = true) (hi : (P.info? ty).map (·.size) = some cs.length) (h : wpListIn F n P ops Q rest (a.put o.dst (.agg cs.toArray)) w) : wpListIn F n P ops Q (o :: rest) a w := by
  refine wpListIn_plain hg fun K hK => ?_
  unfold Oper.wpIn
  refine ⟨by simp [Oper.about, ho], ?_⟩
  rw [Oper.semAt_plain F _ _ (by rw [ho]; intro c hc'; cases hc')]
  unfold execOp
  simp only [ho, hx, Instr.loadAt, Instr.sureAddr, Sem.run_bind, Sem.run_pure, Result.andThen_ok, run_loadVar_mid w b off ty cs d hc hu hd hi]
  exact hK _ _ h
theorem wpList_store_new {P : Program} {ops : Array Oper} {rest : List Oper} {o : Oper} {a : Act} {w : World} {Q : Exit → Act → World → Prop} (hg : o.guard = none) (ty : TypeId) (x y : Operand) (ho : o.op = .store ty x y) (c c' : Array Value) (hx : a.eval x = .pointer (some ⟨w.heap.size, 0, none⟩)) (hy : a.eval y = .agg c')
    (hi : (P.info? ty).map (·.size) = some c'.size) (hs : c.size = c'.size) (h1 : c'.all (·.oneCell') = true) (h : wpList P ops Q rest (a.put o.dst undef) (w.alloc (.cells c' ty))) : wpList P ops Q (o :: rest) a (w.alloc (.cells c ty)) :=
  wpList_plain hg fun K hK => by
    unfold Oper.wp execOp
    simp only [ho, hx, hy, Instr.storeAt, Instr.sureAddr, Sem.run_bind, Sem.run_pure, Result.andThen_ok, run_storeVar_new w ty c c' hi hs h1]
    exact hK _ _ h
theorem wpListIn_store_new {F : Fence} {n : Nat} {P : Program} {ops : Array Oper} {rest : List Oper} {o : Oper} {a : Act} {w : World} {Q : Exit → Act → World → Prop} (hg : o.guard = none) (ty : TypeId) (x y : Operand) (ho : o.op = .store ty x y) (c c' : Array Value) (hx : a.eval x = .pointer (some ⟨w.heap.size, 0, none⟩)) (hy : a.eval y = .agg c')
    (hi : (P.info? ty).map (·.size) = some c'.size) (hs : c.size = c'.size) (h1 : c'.all (·.oneCell') = true) (h : wpListIn F n P ops Q rest (a.put o.dst undef) (w.alloc (.cells c' ty))) : wpListIn F n P ops Q (o :: rest) a (w.alloc (.cells c ty)) := by
  refine wpListIn_plain hg fun K hK => ?_
  unfold Oper.wpIn
  refine ⟨by simp [Oper.about, ho], ?_⟩
  rw [Oper.semAt_plain F _ _ (by rw [ho]; intro c hc'; cases hc')]
  unfold execOp
  simp only [ho, hx, hy, Instr.storeAt, Instr.sureAddr, Sem.run_bind, Sem.run_pure, Result.andThen_ok, run_storeVar_new w ty c c' hi hs h1]
  exact hK _ _ h
theorem all18 (x0 x1 x2 x3 x4 x5 x6 x7 x8 x9 x10 x11 x12 x13 x14 x15 x16 x17 : Int) : (#[.int .i64 x0, .int .i64 x1, .int .i64 x2, .int .i64 x3, .int .i64 x4, .int .i64 x5, .int .i64 x6, .int .i64 x7, .int .i64 x8, .int .i64 x9, .int .i64 x10, .int .i64 x11, .int .i64 x12, .int .i64 x13, .int .i64 x14, .int .i64 x15, .int .i64 x16, .int .i64 x17] : Array Value).all (·.oneCell') = true := all_oneCell_toArray (one_intsL [x0, x1, x2, x3, x4, x5, x6, x7, x8, x9, x10, x11, x12, x13, x14, x15, x16, x17])
end Go.Proofs.YtgojpgggbflgoaaGreat

namespace Go.Proofs.YtgojpgggbflgoaaGreat
open Go.RowKit

theorem results_ct {P : Program} {fn : Func} {tmps : Array Value} {W : World} {a b : Tmp} {t : TypeId} {p : Addr} {v : Value} (h : fn.results = #[.cell a t, .tmp b]) (ha : tmps.getD a undef = .pointer (some p)) (hl : Sem.run P (loadVar t p) W = .ok v W) :
    Sem.run P (results fn tmps) W = .ok (.tuple #[v, tmps.getD b undef]) W := by
  have ha' : tmps[a]?.getD undef = .pointer (some p) := by simpa using ha
  simp [results, h, asAddr, ha', hl]
theorem below_setCells {B : Nat} {w : World} {g : Nat} (hg : B ≤ g) : ∀ (vs : List Value) (o : Nat) {W : World} (_ : Below B w W), Below B w (W.setCells g o vs)
  | [], _, _, h => h
  | v :: r, o, W, h => by
    rw [World.setCells]
    exact below_setCells hg r (o + 1) (h.setCell (p := ⟨g, o, none⟩) hg v)
theorem there_blk {W : World} {g : Nat} {t : TypeId} {cs : Array Value} (h : Blk W g t cs) : W.there g 0 cs.size := fun j hj => by
  rw [Nat.zero_add]
  exact ⟨by rw [h.cell j, Array.getElem?_eq_getElem hj]; rfl, h.frozen j⟩
set_option maxRecDepth 100000 in
set_option maxHeartbeats 6400000 in
theorem fdV_any (A : Option Addr) (n c : Nat) (l : List Sv) (id : Int) (B k : Nat) (w : World) (h : SAt encV 18 w A n l) (hn : n ≤ 9223372036854775807) (hB : B < w.heap.size) (hc : w.cell? ⟨B, 0, none⟩ = some (.int .i64 id)) (hk : idx (fun x => x.id == id) l = (k : Int)) (hkl : k < l.length) :
    Calls Tryz.prog 49 #[.slice A n c, .func (.func 50) #[] #[.pointer (some ⟨B, 0, none⟩)]] w fun e w' => ∃ y, e = .returned (.tuple #[vSv y, .int .i64 (k : Int)]) ∧ Below w.heap.size w w' := by
  have hb0 := below_new w (.cells #[.int .i64 0, .int .i64 0, .int .i64 0, .int .i64 0, .int .i64 0, .int .i64 0, .int .i64 0, .int .i64 0, .int .i64 0, .int .i64 0, .int .i64 0, .int .i64 0, .int .i64 0, .int .i64 0, .int .i64 0, .int .i64 0, .int .i64 0, .int .i64 0] 62)
  have r0 := Blk.new w 62 #[.int .i64 0, .int .i64 0, .int .i64 0, .int .i64 0, .int .i64 0, .int .i64 0, .int .i64 0, .int .i64 0, .int .i64 0, .int .i64 0, .int .i64 0, .int .i64 0, .int .i64 0, .int .i64 0, .int .i64 0, .int .i64 0, .int .i64 0, .int .i64 0]
  have hkn : k < n := by rw [← h.len]; exact hkl
  have HA := Lib.hid (h.below hb0)
  have HC := Lib.hid (ixV_any A n c l id B _ (h.below hb0) hn (Nat.lt_of_lt_of_le hB hb0.size) ((hb0.cell (p := ⟨B, 0, none⟩) hB).trans hc))
  rw [hk] at HC
  clear h hc hk
  go_enter Tryz.func49, Tryz.ntmps49
  go_upto_region 1 with fail
  generalize hW : w.alloc (.cells #[.int .i64 0, .int .i64 0, .int .i64 0, .int .i64 0, .int .i64 0, .int .i64 0, .int .i64 0, .int .i64 0, .int .i64 0, .int .i64 0, .int .i64 0, .int .i64 0, .int .i64 0, .int .i64 0, .int .i64 0, .int .i64 0, .int .i64 0, .int .i64 0] 62) = W at *
  clear hW
  go_upto_region 2 with (go_at_call 74; (with_reducible refine HC.out.mono ?_); rintro e w1 ⟨rfl, hb1⟩)
  have HR := Lib.hid (r0.below hb1)
  have HA1 := Lib.hid (HA.out.below hb1)
  have HB1 := Lib.hid (hb0.trans (hb1.mono hb0.size))
  clear r0 hb0 hb1 HC HA hB
  obtain ⟨b, off, rfl, hl⟩ := HA1.out.at_ (by omega)
  have hra : w1.rangeAt b (off + k * 18) (encV l[k]) := fun j v hv => hl.c k _ (List.getElem?_eq_getElem hkl) j v hv
  have cl := hl.lt
  clear hl HA1
  generalize l[k] = x at *
  obtain ⟨x0, x1, x2, x3, x4, x5, x6, x7, x8, x9, x10, x11, x12, x13, x14, x15, x16, x17⟩ := x
  dsimp only [encV] at hra
  have HRa := Lib.hid hra
  clear hkl hra
  have hth := there_blk HR.out
  have HTh := Lib.hid (show w1.there w.heap.size 0 18 from hth)
  have HAll := Lib.hid (show (#[.int .i64 x0, .int .i64 x1, .int .i64 x2, .int .i64 x3, .int .i64 x4, .int .i64 x5, .int .i64 x6, .int .i64 x7, .int .i64 x8, .int .i64 x9, .int .i64 x10, .int .i64 x11, .int .i64 x12, .int .i64 x13, .int .i64 x14, .int .i64 x15, .int .i64 x16, .int .i64 x17] : Array Value).all (·.oneCell') = true from all_oneCell_toArray (one_intsL [x0, x1, x2, x3, x4, x5, x6, x7, x8, x9, x10, x11, x12, x13, x14, x15, x16, x17]))
  clear hth
  go_wp2_with (first | (refine wpList_load_mid rfl 62 (.tmp 16) rfl b (off + k * 18) rfl [.int .i64 x0, .int .i64 x1, .int .i64 x2, .int .i64 x3, .int .i64 x4, .int .i64 x5, .int .i64 x6, .int .i64 x7, .int .i64 x8, .int .i64 x9, .int .i64 x10, .int .i64 x11, .int .i64 x12, .int .i64 x13, .int .i64 x14, .int .i64 x15, .int .i64 x16, .int .i64 x17] _ HRa.out Tryz.underlying62 rfl info_sv ?_) | (refine wpList_store_mid rfl 62 (.tmp 4) (.tmp 17) rfl w.heap.size 0 #[.int .i64 x0, .int .i64 x1, .int .i64 x2, .int .i64 x3, .int .i64 x4, .int .i64 x5, .int .i64 x6, .int .i64 x7, .int .i64 x8, .int .i64 x9, .int .i64 x10, .int .i64 x11, .int .i64 x12, .int .i64 x13, .int .i64 x14, .int .i64 x15, .int .i64 x16, .int .i64 x17] rfl rfl HTh.out info_sv HAll.out ?_))
  have hr := World.rangeAt_setCells_same w1 w.heap.size 0 [.int .i64 x0, .int .i64 x1, .int .i64 x2, .int .i64 x3, .int .i64 x4, .int .i64 x5, .int .i64 x6, .int .i64 x7, .int .i64 x8, .int .i64 x9, .int .i64 x10, .int .i64 x11, .int .i64 x12, .int .i64 x13, .int .i64 x14, .int .i64 x15, .int .i64 x16, .int .i64 x17] HTh.out
  have hbz := below_setCells (g := w.heap.size) (Nat.le_refl _) [.int .i64 x0, .int .i64 x1, .int .i64 x2, .int .i64 x3, .int .i64 x4, .int .i64 x5, .int .i64 x6, .int .i64 x7, .int .i64 x8, .int .i64 x9, .int .i64 x10, .int .i64 x11, .int .i64 x12, .int .i64 x13, .int .i64 x14, .int .i64 x15, .int .i64 x16, .int .i64 x17] 0 HB1.out
  try simp only [List.toList_toArray]
  generalize w1.setCells w.heap.size 0 [.int .i64 x0, .int .i64 x1, .int .i64 x2, .int .i64 x3, .int .i64 x4, .int .i64 x5, .int .i64 x6, .int .i64 x7, .int .i64 x8, .int .i64 x9, .int .i64 x10, .int .i64 x11, .int .i64 x12, .int .i64 x13, .int .i64 x14, .int .i64 x15, .int .i64 x16, .int .i64 x17] = V at *
  have hLd := run_loadVar_mid (P := Tryz.prog) V w.heap.size 0 62 [.int .i64 x0, .int .i64 x1, .int .i64 x2, .int .i64 x3, .int .i64 x4, .int .i64 x5, .int .i64 x6, .int .i64 x7, .int .i64 x8, .int .i64 x9, .int .i64 x10, .int .i64 x11, .int .i64 x12, .int .i64 x13, .int .i64 x14, .int .i64 x15, .int .i64 x16, .int .i64 x17] _ hr Tryz.underlying62 rfl info_sv
  have HBz := Lib.hid hbz
  clear hr hbz HTh HAll HR HB1 cl HRa
  go_wp2
  exact bodyPost_ret (v := .tuple #[vSv ⟨x0, x1, x2, x3, x4, x5, x6, x7, x8, x9, x10, x11, x12, x13, x14, x15, x16, x17⟩, .int .i64 k]) (results_ct Tryz.results49 rfl hLd) rfl ⟨_, rfl, HBz.out⟩
end Go.Proofs.YtgojpgggbflgoaaGreat

namespace Go.Proofs.YtgojpgggbflgoaaGreat
open Go.RowKit

/-- Sixteen times the least and the greatest mean draught, with the curve's error, within the curve. -/
def voY (mn : List (Int × Int)) (merr : Int) (x : Sv) : Int × Int :=
  (max ((exR x).1.1 + 6 * (exR x).1.2.1 - 16 * merr) (16 * ky mn 0), min ((exR x).1.2.2.1 + 6 * (exR x).1.2.2.2 + 16 * merr) (16 * ky mn (mn.length - 1)))
theorem exR_bd {x : Sv} (h : MkOk x) : (-1000000 ≤ (exR x).1.1 ∧ (exR x).1.1 ≤ 1000000) ∧ (-1000000 ≤ (exR x).1.2.1 ∧ (exR x).1.2.1 ≤ 1000000) ∧ (-1000000 ≤ (exR x).1.2.2.1 ∧ (exR x).1.2.2.1 ≤ 1000000) ∧ (-1000000 ≤ (exR x).1.2.2.2 ∧ (exR x).1.2.2.2 ≤ 1000000) := by
  unfold MkOk at h
  unfold exR
  split
  · simp
  · simp only [exL, exH, exE, exM]
    omega
abbrev vQ4 (a b : Int × Int) : Value := .agg #[.int .i64 a.1, .int .i64 a.2, .int .i64 b.1, .int .i64 b.2]
set_option maxRecDepth 100000 in
set_option maxHeartbeats 12800000 in
theorem volumes_any (id light lever height : Int) (A : Option Addr) (n c : Nat) (B : Option Addr) (m d : Nat) (merr : Int) (C : Option Addr) (q r : Nat) (terr turn least : Int) (mn : List (Int × Int)) (x : Sv) (w : World) (hB : CAt w B m mn) (hv : Valid mn) (hme : 0 ≤ merr ∧ merr ≤ 4000) (hx : MkOk x) (hy : (voY mn merr x).1 ≤ (voY mn merr x).2) :
    Calls Tryz.prog 73 #[.agg (cSp id light lever height A n c B m d merr C q r terr turn least), vSv x] w fun e w' => e = .returned (.tuple #[vQ4 (whR mn (voY mn merr x).1) (whR mn (voY mn merr x).2), .bool true]) ∧ Below w.heap.size w w' := by
  have hYb : (-2000000 ≤ (voY mn merr x).1 ∧ (voY mn merr x).1 ≤ 2000000) ∧ (-2000000 ≤ (voY mn merr x).2 ∧ (voY mn merr x).2 ≤ 2000000) := by
    have hb := exR_bd hx
    have h1 := hv.y0 0 hv.pos
    have h2 := hv.y0 (mn.length - 1) (by have := hv.pos; omega)
    unfold voY at hy ⊢
    dsimp only at hy ⊢
    omega
  obtain ⟨b, off, rfl, hk⟩ := hB.at_ (by have := hB.len; have := hv.pos; omega)
  have HEx := Lib.hid (fun (u : World) => extremes_any x u hx)
  have HW1 := Lib.hid (fun (u : World) (hu : Below w.heap.size w u) => swhere_any b off d merr mn (voY mn merr x).1 u (hk.below hu) hv hYb.1)
  have HW2 := Lib.hid (fun (u : World) (hu : Below w.heap.size w u) => swhere_any b off d merr mn (voY mn merr x).2 u (hk.below hu) hv hYb.2)
  have hbd := exR_bd hx
  have hlen : mn.length = m := hB.len
  have hp := hv.pos
  have hle := hv.le
  have y0 := hv.y0 0 hp
  have y1 := hv.y0 (mn.length - 1) (by omega)
  have HY1 := Lib.hid (show (voY mn merr x).1 = max ((exR x).1.1 + 6 * (exR x).1.2.1 - 16 * merr) (16 * ky mn 0) from rfl)
  have HY2 := Lib.hid (show (voY mn merr x).2 = min ((exR x).1.2.2.1 + 6 * (exR x).1.2.2.2 + 16 * merr) (16 * ky mn (mn.length - 1)) from rfl)
  have HK0 := Lib.hid (show ∀ u, Below w.heap.size w u → u.cell? ⟨b, off + 1, none⟩ = some (.int .i64 (ky mn 0)) ∧ u.cell? ⟨b, off + (m - 1) * 2 + 1, none⟩ = some (.int .i64 (ky mn (mn.length - 1))) ∧ b < u.heap.size from fun u hu => by
    have c0 := (hk.below hu).y 0 hp
    rw [Nat.zero_mul, Nat.add_zero] at c0
    have c1 := (hk.below hu).y (mn.length - 1) (by omega)
    rw [hlen] at c1
    rw [hlen]
    exact ⟨c0, c1, (hk.below hu).lt⟩)
  have HT := Lib.hid (show (exR x).2 = true ∨ (exR x).2 = false by cases (exR x).2 <;> simp)
  rw [hlen] at hp hle HW1 HW2 HY2 HK0 y1
  generalize voY mn merr x = Y at *
  obtain ⟨Y1, Y2⟩ := Y
  dsimp only at HY1 HY2 HW1 HW2 hYb hy ⊢
  generalize whR mn Y1 = v1 at *
  generalize whR mn Y2 = v2 at *
  obtain ⟨p1, p2⟩ := v1
  obtain ⟨q1, q2⟩ := v2
  generalize ky mn 0 = ya at *
  generalize ky mn (m - 1) = yz at *
  generalize exR x = E at *
  obtain ⟨⟨e1, e2, e3, e4⟩, eb⟩ := E
  dsimp only at HEx HY1 HY2 HW1 HW2 hbd HT ⊢
  obtain ⟨kk, rfl⟩ : ∃ kk, m = kk + 1 := ⟨m - 1, by omega⟩
  rw [Nat.add_sub_cancel] at HK0
  obtain ⟨xi, xt, a0, b0, a1, b1, a2, b2, a3, b3, a4, b4, a5, b5, xs, xh, xl, xu⟩ := x
  dsimp only [vSv, vQ4]
  have hb0 := ((Below.refl w.heap.size w).alloc (Nat.le_refl _) (.cells (cSp id light lever height A n c (some ⟨b, off, none⟩) (kk + 1) d merr C q r terr turn least) 27)).alloc (by simp) (.cells #[.int .i64 xi, .int .i64 xt, .int .i64 a0, .int .i64 b0, .int .i64 a1, .int .i64 b1, .int .i64 a2, .int .i64 b2, .int .i64 a3, .int .i64 b3, .int .i64 a4, .int .i64 b4, .int .i64 a5, .int .i64 b5, .int .i64 xs, .int .i64 xh, .int .i64 xl, .int .i64 xu] 62)
  have hb1 := hb0.alloc (by simp; omega) (.cells #[.int .i64 0, .int .i64 0, .int .i64 0, .int .i64 0] 152)
  have t0 := ((Blk.new w 27 (cSp id light lever height A n c (some ⟨b, off, none⟩) (kk + 1) d merr C q r terr turn least)).alloc (.cells #[.int .i64 xi, .int .i64 xt, .int .i64 a0, .int .i64 b0, .int .i64 a1, .int .i64 b1, .int .i64 a2, .int .i64 b2, .int .i64 a3, .int .i64 b3, .int .i64 a4, .int .i64 b4, .int .i64 a5, .int .i64 b5, .int .i64 xs, .int .i64 xh, .int .i64 xl, .int .i64 xu] 62)).alloc (.cells #[.int .i64 0, .int .i64 0, .int .i64 0, .int .i64 0] 152)
  have x0 := (Blk.at_new (W := w.alloc (.cells (cSp id light lever height A n c (some ⟨b, off, none⟩) (kk + 1) d merr C q r terr turn least) 27)) (g := w.heap.size + 1) 62 #[.int .i64 xi, .int .i64 xt, .int .i64 a0, .int .i64 b0, .int .i64 a1, .int .i64 b1, .int .i64 a2, .int .i64 b2, .int .i64 a3, .int .i64 b3, .int .i64 a4, .int .i64 b4, .int .i64 a5, .int .i64 b5, .int .i64 xs, .int .i64 xh, .int .i64 xl, .int .i64 xu] (by simp)).alloc (.cells #[.int .i64 0, .int .i64 0, .int .i64 0, .int .i64 0] 152)
  have r0 := Blk.at_new (W := (w.alloc (.cells (cSp id light lever height A n c (some ⟨b, off, none⟩) (kk + 1) d merr C q r terr turn least) 27)).alloc (.cells #[.int .i64 xi, .int .i64 xt, .int .i64 a0, .int .i64 b0, .int .i64 a1, .int .i64 b1, .int .i64 a2, .int .i64 b2, .int .i64 a3, .int .i64 b3, .int .i64 a4, .int .i64 b4, .int .i64 a5, .int .i64 b5, .int .i64 xs, .int .i64 xh, .int .i64 xl, .int .i64 xu] 62)) (g := w.heap.size + 2) 152 #[.int .i64 0, .int .i64 0, .int .i64 0, .int .i64 0] (by simp)
  clear hb0 hB hv hx hk
  go_enter Tryz.func73, Tryz.ntmps73
  go_upto_region 1 with fail
  generalize hW : ((w.alloc (.cells (cSp id light lever height A n c (some ⟨b, off, none⟩) (kk + 1) d merr C q r terr turn least) 27)).alloc (.cells #[.int .i64 xi, .int .i64 xt, .int .i64 a0, .int .i64 b0, .int .i64 a1, .int .i64 b1, .int .i64 a2, .int .i64 b2, .int .i64 a3, .int .i64 b3, .int .i64 a4, .int .i64 b4, .int .i64 a5, .int .i64 b5, .int .i64 xs, .int .i64 xh, .int .i64 xl, .int .i64 xu] 62)).alloc (.cells #[.int .i64 0, .int .i64 0, .int .i64 0, .int .i64 0] 152) = W at *
  have HWs := Lib.hid (show W.heap.size = w.heap.size + 3 by rw [← hW]; simp)
  clear hW
  have HT0 := Lib.hid t0
  have HR0 := Lib.hid r0
  have HB0 := Lib.hid hb1
  obtain ⟨xc, xf'⟩ := xcell (W := W)
  have HRx := Lib.hid (range_blk (cs := [.int .i64 xi, .int .i64 xt, .int .i64 a0, .int .i64 b0, .int .i64 a1, .int .i64 b1, .int .i64 a2, .int .i64 b2, .int .i64 a3, .int .i64 b3, .int .i64 a4, .int .i64 b4, .int .i64 a5, .int .i64 b5, .int .i64 xs, .int .i64 xh, .int .i64 xl, .int .i64 xu]) x0)
  go_upto_region 2 with (first | (refine wpList_load_mid rfl 62 (.tmp 3) rfl (w.heap.size + 1) 0 rfl [.int .i64 xi, .int .i64 xt, .int .i64 a0, .int .i64 b0, .int .i64 a1, .int .i64 b1, .int .i64 a2, .int .i64 b2, .int .i64 a3, .int .i64 b3, .int .i64 a4, .int .i64 b4, .int .i64 a5, .int .i64 b5, .int .i64 xs, .int .i64 xh, .int .i64 xl, .int .i64 xu] _ HRx.out Tryz.underlying62 rfl info_sv ?_) | (go_at_call 72; (with_reducible refine (HEx.out _).mono ?_); rintro e u1 ⟨rfl, hb1⟩))
  have bq := below_new u1 (.cells #[.int .i64 e1, .int .i64 e2, .int .i64 e3, .int .i64 e4] 147)
  have bn := hb1.trans (bq.mono hb1.size)
  have HT1 := Lib.hid (HT0.out.below bn)
  have HR1 := Lib.hid (HR0.out.below bn)
  have HB1 := Lib.hid (HB0.out.trans (bn.mono HB0.out.size))
  have HN1 := Lib.hid (Blk.new u1 147 #[.int .i64 e1, .int .i64 e2, .int .i64 e3, .int .i64 e4])
  have HRl := Lib.hid (show w.heap.size + 2 < u1.heap.size by have := HR0.out.lt; have := hb1.size; omega)
  generalize hV : u1.alloc (.cells #[.int .i64 e1, .int .i64 e2, .int .i64 e3, .int .i64 e4] 147) = V at *
  generalize hg : u1.heap.size = g6 at *
  clear hV hg bq bn hb1 HRx xc xf' t0 r0 x0 HT0 HR0 HB0 HEx HT
  obtain ⟨tl, s0, s1, s2, s3, s4, s5, s6, s7, s8, s9, s10⟩ := blk11 HT1.out
  go_upto_region 3 with fail
  clear tl s0 s1 s2 s3 s4 s5 s6 s7 s8 s9 s10
  have HM := Lib.hid (fun u => meet_any (e1 + 6 * e2 - 16 * merr) (e3 + 6 * e4 + 16 * merr) (16 * ya) (16 * yz) u)
  rw [← HY1.out, ← HY2.out] at HM
  have HS1 := Lib.hid (fun u => sum16_any e1 e2 u (by omega) (by omega))
  have HS2 := Lib.hid (fun u => sum16_any e3 e4 u (by omega) (by omega))
  clear HY1 HY2
  refine wp_region_new 33 32 9 43 #[.int .i64 0, .int .i64 0] (by kernel_rfl) (by kernel_rfl) ?_ ?_
  · intro a' v R hR o ho
    simp only [List.getElem?_cons_succ, List.getElem?_cons_zero, Option.some.injEq] at ho
    subst ho
    simpa [loudAt, loudUpon, go_sem, execOp] using hR
  apply Exists.intro
  refine ⟨?_, ?_⟩
  · intro U hV
    obtain ⟨tl, s0, s1, s2, s3, s4, s5, s6, s7, s8, s9, s10⟩ := blk11 (HT1.out.below hV)
    obtain ⟨n0, n1, n2, n3, nl⟩ := cells4 (HN1.out.below hV)
    obtain ⟨k0, k1, kl⟩ := HK0.out U (HB1.out.trans (hV.mono HB1.out.size))
    obtain ⟨xc, xf'⟩ := xcell (W := U)
    simp only [List.take_succ_cons, List.take_zero, qOf, isLoud, List.any_cons, List.any_nil, Nat.reduceBEq, Bool.or_false, Nat.reduceAdd, Bool.false_eq_true, if_true, if_false, beq_self_eq_true, Nat.zero_add]
    repeat (first | go_big_quiet_step (first | (go_at_call 98; with_reducible refine calls_ext (HS1.out _)) | (go_at_call 98; with_reducible refine calls_ext (HS2.out _)) | (go_at_call 53; with_reducible refine calls_ext (HM.out _))) | quiet_step (first | (go_at_call 98; with_reducible refine calls_ext (HS1.out _)) | (go_at_call 98; with_reducible refine calls_ext (HS2.out _)) | (go_at_call 53; with_reducible refine calls_ext (HM.out _))))
    exact wpQuiet_nil rfl
  intro g9 v9 h9 hv9 hb9
  simp only [List.drop_succ_cons, List.drop_zero, Act.put, List.setIfInBounds_toArray, List.set_cons_succ, List.set_cons_zero]
  have hRl := HRl.out
  have hWs := HWs.out
  have hlt := HT1.out.lt
  have HT9 := Lib.hid (HT1.out.below hv9)
  have HR9 := Lib.hid (HR1.out.below hv9)
  have HB9 := Lib.hid (HB1.out.trans (hv9.mono HB1.out.size))
  have H99 := Lib.hid hb9
  have hRg : w.heap.size + 2 < g9 := by have := HR1.out.lt; omega
  have hTg : w.heap.size < g9 := by omega
  obtain ⟨z0, z1, zl⟩ := cells2 hb9
  have f0 := hb9.frozen 0
  have f1 := hb9.frozen 1
  clear hv9 hb9 HT1 HR1 HB1 HN1 HM HS1 HS2 HK0
  go_upto_region 4 with fail
  have g3 := grown_set2 v9 g9 (.int .i64 Y1) (.int .i64 Y2)
  have HTa := Lib.hid (HT9.out.grown g3 (by intro e; have := Option.some.inj e; omega))
  have HRa := Lib.hid (HR9.out.grown g3 (by intro e; have := Option.some.inj e; omega))
  have HBa := Lib.hid (below_set2 HB9.out (g := g9) (by omega) (.int .i64 Y1) (.int .i64 Y2))
  have HGa := Lib.hid (blk_set2 H99.out (.int .i64 Y1) (.int .i64 Y2))
  generalize hVa : (v9.setCell ⟨g9, 0, none⟩ (.int .i64 Y1)).setCell ⟨g9, 1, none⟩ (.int .i64 Y2) = va at *
  clear hVa g3 z0 z1 zl f0 f1 HT9 HR9 HB9 H99
  obtain ⟨z0, z1, zl⟩ := cells2 HGa.out
  have hd : decide (Y2 < Y1) = false := decide_eq_false (by omega)
  go_upto_region 6 with (go_at_call 27; (with_reducible refine (void_any _ _ _).mono ?_); rintro e u3 ⟨rfl, hb3⟩)
  have HTb := Lib.hid (HTa.out.below hb3)
  have HRb := Lib.hid (HRa.out.below hb3)
  have HBb := Lib.hid (HBa.out.trans (hb3.mono HBa.out.size))
  have HGb := Lib.hid (HGa.out.below hb3)
  clear hb3 z0 z1 zl HTa HRa HBa HGa
  obtain ⟨z0, z1, zl⟩ := cells2 HGb.out
  obtain ⟨tl, s0, s1, s2, s3, s4, s5, s6, s7, s8, s9, s10⟩ := blk11 HTb.out
  obtain ⟨xc, xf'⟩ := xcell (W := u3)
  refine wp_region_quiet_tail 11 (by kernel_rfl) (by kernel_rfl) ?_
  simp only [List.take_succ_cons, List.take_zero, List.drop_succ_cons, List.drop_zero]
  repeat (first | go_big_quiet_step (first | (go_at_call 99; with_reducible refine calls_ext (HW1.out _ ?_); exact HBb.out.trans ((Ext.below _).mono HBb.out.size)) | (go_at_call 99; with_reducible refine calls_ext (HW2.out _ ?_); exact HBb.out.trans ((Ext.below _).mono HBb.out.size))) | quiet_step (first | (go_at_call 99; with_reducible refine calls_ext (HW1.out _ ?_); exact HBb.out.trans ((Ext.below _).mono HBb.out.size)) | (go_at_call 99; with_reducible refine calls_ext (HW2.out _ ?_); exact HBb.out.trans ((Ext.below _).mono HBb.out.size))))
  refine wpQuiet_nil ?_
  intro w4 hb4
  have HRc := Lib.hid (HRb.out.below hb4)
  have HBc := Lib.hid (HBb.out.trans (hb4.mono HBb.out.size))
  clear xc xf' hb4 z0 z1 zl tl s0 s1 s2 s3 s4 s5 s6 s7 s8 s9 s10
  obtain ⟨r0, r1, r2, r3, rl⟩ := cells4 HRc.out
  obtain ⟨f0, f1, f2, f3⟩ := frz4 HRc.out
  go_wp2
  obtain ⟨x0, x1, x2, x3, _⟩ := cells4 (blk_set4 HRc.out (.int .i64 p1) (.int .i64 p2) (.int .i64 q1) (.int .i64 q2))
  exact bodyPost_ret (v := .tuple #[.agg #[.int .i64 p1, .int .i64 p2, .int .i64 q1, .int .i64 q2], .bool true]) (by simp [results, Tryz.results73, go_sem, x0, x1, x2, x3]) rfl ⟨rfl, below_set4 HBc.out (by omega) _ _ _ _⟩
end Go.Proofs.YtgojpgggbflgoaaGreat

namespace Go.Proofs.YtgojpgggbflgoaaGreat
open Go.RowKit

theorem rising_up {ks : List (Int × Int)} (h : risingI ks = 1) {i : Nat} (hi : i + 1 < ks.length) : ky ks i < ky ks (i + 1) := by
  unfold risingI at h
  split at h
  · rename_i hu
    unfold upTo at hu
    rw [List.all_eq_true] at hu
    have := hu i (List.mem_range.2 (by omega))
    simp only [decide_eq_true_eq] at this
    omega
  · split at h <;> omega
theorem whR_bd {ks : List (Int × Int)} (hv : Valid ks) (hr : risingI ks = 1) (y : Int) (_ : -2000000 ≤ y ∧ y ≤ 2000000) : (0 ≤ (whR ks y).1 ∧ (whR ks y).1 ≤ 20000000000) ∧ (1 ≤ (whR ks y).2 ∧ (whR ks y).2 ≤ 2097152) := by
  have h0 := hv.x0 0 hv.pos
  unfold whR
  split
  · rename_i i hf
    have hi := List.mem_range.1 (List.mem_of_find?_eq_some hf)
    have hp := List.find?_some hf
    unfold whP inB at hp
    simp only [decide_eq_true_eq] at hp
    have hx1 := hv.x0 i (by omega)
    have hx2 := hv.x0 (i + 1) (by omega)
    have hy1 := hv.y0 i (by omega)
    have hy2 := hv.y0 (i + 1) (by omega)
    have hup := hv.up i (by omega)
    have hri := rising_up hr (i := i) (by omega)
    unfold whV
    dsimp only
    have m1 := mul_bd (A := 2000) (B := 2097152) (x := kx ks i) (y := 16 * (ky ks (i + 1) - ky ks i)) (by omega) (by omega) (by omega) (by omega)
    have m2 := mul_bd (A := 3000000) (B := 2000) (x := y - 16 * ky ks i) (y := kx ks (i + 1) - kx ks i) (by omega) (by omega) (by omega) (by omega)
    have p1 := Int.mul_nonneg (a := kx ks i) (b := 16 * (ky ks (i + 1) - ky ks i)) (by omega) (by omega)
    have p2 := Int.mul_nonneg (a := y - 16 * ky ks i) (b := kx ks (i + 1) - kx ks i) (by omega) (by omega)
    generalize kx ks i * (16 * (ky ks (i + 1) - ky ks i)) = u at *
    generalize (y - 16 * ky ks i) * (kx ks (i + 1) - kx ks i) = u2 at *
    omega
  · dsimp only
    omega
/-- The masses that are possible by a survey. -/
def maS (light R : Int) (mn : List (Int × Int)) (merr : Int) (ys : List Hy) (gs : List Gs) (x : Sv) : Int × Int :=
  (max (((whR mn (voY mn merr x).1).1 * (denR ys gs x.hy x.lo x.hi).1.1 + 25 * (whR mn (voY mn merr x).1).2 - 1) / (25 * (whR mn (voY mn merr x).1).2)) light,
    min ((whR mn (voY mn merr x).2).1 * (denR ys gs x.hy x.lo x.hi).1.2 / (25 * (whR mn (voY mn merr x).2).2)) R)
theorem denR_ok {ys : List Hy} {gs : List Gs} {hy lo hi : Int} (h : (denR ys gs hy lo hi).2 = 0) : 900 ≤ (denR ys gs hy lo hi).1.1 ∧ (denR ys gs hy lo hi).1.1 ≤ (denR ys gs hy lo hi).1.2 ∧ (denR ys gs hy lo hi).1.2 ≤ 1100 := by
  unfold denR at h ⊢
  split at h
  · exact absurd h ‹_›
  · rw [if_neg ‹_›]
    split at h
    · exact absurd h (by decide)
    · rw [if_neg ‹_›]
      dsimp only
      omega
/-- What is known of a survey whose mass is asked. -/
structure MaOk (mn : List (Int × Int)) (merr : Int) (ys : List Hy) (gs : List Gs) (x : Sv) : Prop where
  mks : MkOk x
  lo : -1000000 ≤ x.lo ∧ x.lo ≤ 1000000
  hi : -1000000 ≤ x.hi ∧ x.hi ≤ 1000000
  den : (denR ys gs x.hy x.lo x.hi).2 = 0
  vol : (voY mn merr x).1 ≤ (voY mn merr x).2
theorem voY_bd {mn : List (Int × Int)} {merr : Int} {x : Sv} (hv : Valid mn) (_ : 0 ≤ merr ∧ merr ≤ 4000) (hx : MkOk x) (hy : (voY mn merr x).1 ≤ (voY mn merr x).2) : (-2000000 ≤ (voY mn merr x).1 ∧ (voY mn merr x).1 ≤ 2000000) ∧ (-2000000 ≤ (voY mn merr x).2 ∧ (voY mn merr x).2 ≤ 2000000) := by
  have hb := exR_bd hx
  have h1 := hv.y0 0 hv.pos
  have h2 := hv.y0 (mn.length - 1) (by have := hv.pos; omega)
  unfold voY at hy ⊢
  dsimp only at hy ⊢
  omega
set_option maxRecDepth 100000 in
set_option maxHeartbeats 12800000 in
theorem mass_any (id light lever height : Int) (A : Option Addr) (n c : Nat) (B : Option Addr) (m d : Nat) (merr : Int) (C : Option Addr) (q r : Nat) (terr turn least : Int) (hs : List Hl) (mn mt : List (Int × Int)) (Y : Option Addr) (ny cy : Nat) (G : Option Addr) (ng cg : Nat) (ys : List Hy) (gs : List Gs) (x : Sv) (w : World) (hA : SAt encL 4 w A n hs) (hB : CAt w B m mn) (hok : ShipOk id light lever height turn least hs mn merr mt terr) (hY : SAt encY 3 w Y ny ys) (hG : SAt encG 5 w G ng gs) (hny : ny ≤ 1000000) (hng : ng ≤ 1000000) (hys : YsOk ys) (hgs : GsOk gs) (hx : MaOk mn merr ys gs x) :
    Calls Tryz.prog 48 #[.agg (cSp id light lever height A n c B m d merr C q r terr turn least), .agg #[.slice Y ny cy, .slice G ng cg], vSv x] w fun e w' => e = .returned (vSp (maS light (roomS light hs) mn merr ys gs x).1 (maS light (roomS light hs) mn merr ys gs x).2) ∧ Below w.heap.size w w' := by
  have hYb := voY_bd hok.mnv hok.merrB hx.mks hx.vol
  have hw1 := whR_bd hok.mnv hok.ris (voY mn merr x).1 hYb.1
  have hw2 := whR_bd hok.mnv hok.ris (voY mn merr x).2 hYb.2
  have hde := denR_ok hx.den
  have HDe := Lib.hid (fun (u : World) (hu : Below w.heap.size w u) => density_any Y ny cy G ng cg ys gs x u (hY.below hu) (hG.below hu) hny hng hys hgs hx.lo hx.hi)
  rw [hx.den] at HDe
  have HVo := Lib.hid (fun (u : World) (hu : Below w.heap.size w u) => volumes_any id light lever height A n c B m d merr C q r terr turn least mn x u (hB.below hu) hok.mnv hok.merrB hx.mks hx.vol)
  have HHe := Lib.hid (fun (u : World) (hu : Below w.heap.size w u) => heaviest_any id light lever height A n c B m d merr C q r terr turn least hs u (hA.below hu) (fun x hx => (hok.hl x hx).1) hok.len hok.lightB)
  have HS1 := Lib.hid (show (maS light (roomS light hs) mn merr ys gs x).1 = max (((whR mn (voY mn merr x).1).1 * (denR ys gs x.hy x.lo x.hi).1.1 + 25 * (whR mn (voY mn merr x).1).2 - 1) / (25 * (whR mn (voY mn merr x).1).2)) light from rfl)
  have HS2 := Lib.hid (show (maS light (roomS light hs) mn merr ys gs x).2 = min ((whR mn (voY mn merr x).2).1 * (denR ys gs x.hy x.lo x.hi).1.2 / (25 * (whR mn (voY mn merr x).2).2)) (roomS light hs) from rfl)
  have hlb := hok.lightB
  have hrb : 0 ≤ roomS light hs ∧ roomS light hs ≤ 65536 := by
    have h1 := hok.rooms
    have h2 := (room_bd (fun x hx => (hok.hl x hx).1) hok.len hs.length).1
    rw [List.take_length] at h2
    unfold roomS at h1 ⊢
    omega
  generalize maS light (roomS light hs) mn merr ys gs x = S at *
  generalize roomS light hs = R at *
  generalize denR ys gs x.hy x.lo x.hi = dd at *
  generalize whR mn (voY mn merr x).1 = v1 at *
  generalize whR mn (voY mn merr x).2 = v2 at *
  obtain ⟨S1, S2⟩ := S
  obtain ⟨⟨d1, d2⟩, de⟩ := dd
  obtain ⟨p1, p2⟩ := v1
  obtain ⟨u1, u2⟩ := v2
  dsimp only at HS1 HS2 HDe HVo hde hw1 hw2 ⊢
  clear hA hB hok hY hG hys hgs hx hYb
  obtain ⟨xi, xt, a0, b0, a1, b1, a2, b2, a3, b3, a4, b4, a5, b5, xs, xh, xl, xu⟩ := x
  dsimp only [vSv, vQ4] at HDe HVo ⊢
  have hb0 := ((Below.refl w.heap.size w).alloc (Nat.le_refl _) (.cells (cSp id light lever height A n c B m d merr C q r terr turn least) 27)).alloc (by simp) (.cells #[.slice Y ny cy, .slice G ng cg] 31)
  have hb1 := hb0.alloc (by simp; omega) (.cells #[.int .i64 xi, .int .i64 xt, .int .i64 a0, .int .i64 b0, .int .i64 a1, .int .i64 b1, .int .i64 a2, .int .i64 b2, .int .i64 a3, .int .i64 b3, .int .i64 a4, .int .i64 b4, .int .i64 a5, .int .i64 b5, .int .i64 xs, .int .i64 xh, .int .i64 xl, .int .i64 xu] 62)
  have hb2 := hb1.alloc (by simp; omega) (.cells #[.int .i64 0, .int .i64 0] 43)
  have t0 := (((Blk.new w 27 (cSp id light lever height A n c B m d merr C q r terr turn least)).alloc (.cells #[.slice Y ny cy, .slice G ng cg] 31)).alloc (.cells #[.int .i64 xi, .int .i64 xt, .int .i64 a0, .int .i64 b0, .int .i64 a1, .int .i64 b1, .int .i64 a2, .int .i64 b2, .int .i64 a3, .int .i64 b3, .int .i64 a4, .int .i64 b4, .int .i64 a5, .int .i64 b5, .int .i64 xs, .int .i64 xh, .int .i64 xl, .int .i64 xu] 62)).alloc (.cells #[.int .i64 0, .int .i64 0] 43)
  have g0 := ((Blk.at_new (W := w.alloc (.cells (cSp id light lever height A n c B m d merr C q r terr turn least) 27)) (g := w.heap.size + 1) 31 #[.slice Y ny cy, .slice G ng cg] (by simp)).alloc (.cells #[.int .i64 xi, .int .i64 xt, .int .i64 a0, .int .i64 b0, .int .i64 a1, .int .i64 b1, .int .i64 a2, .int .i64 b2, .int .i64 a3, .int .i64 b3, .int .i64 a4, .int .i64 b4, .int .i64 a5, .int .i64 b5, .int .i64 xs, .int .i64 xh, .int .i64 xl, .int .i64 xu] 62)).alloc (.cells #[.int .i64 0, .int .i64 0] 43)
  have x0 := (Blk.at_new (W := (w.alloc (.cells (cSp id light lever height A n c B m d merr C q r terr turn least) 27)).alloc (.cells #[.slice Y ny cy, .slice G ng cg] 31)) (g := w.heap.size + 2) 62 #[.int .i64 xi, .int .i64 xt, .int .i64 a0, .int .i64 b0, .int .i64 a1, .int .i64 b1, .int .i64 a2, .int .i64 b2, .int .i64 a3, .int .i64 b3, .int .i64 a4, .int .i64 b4, .int .i64 a5, .int .i64 b5, .int .i64 xs, .int .i64 xh, .int .i64 xl, .int .i64 xu] (by simp)).alloc (.cells #[.int .i64 0, .int .i64 0] 43)
  have r0 := Blk.at_new (W := ((w.alloc (.cells (cSp id light lever height A n c B m d merr C q r terr turn least) 27)).alloc (.cells #[.slice Y ny cy, .slice G ng cg] 31)).alloc (.cells #[.int .i64 xi, .int .i64 xt, .int .i64 a0, .int .i64 b0, .int .i64 a1, .int .i64 b1, .int .i64 a2, .int .i64 b2, .int .i64 a3, .int .i64 b3, .int .i64 a4, .int .i64 b4, .int .i64 a5, .int .i64 b5, .int .i64 xs, .int .i64 xh, .int .i64 xl, .int .i64 xu] 62)) (g := w.heap.size + 3) 43 #[.int .i64 0, .int .i64 0] (by simp)
  clear hb0 hb1
  go_enter Tryz.func48, Tryz.ntmps48
  go_upto_region 1 with fail
  generalize hW : (((w.alloc (.cells (cSp id light lever height A n c B m d merr C q r terr turn least) 27)).alloc (.cells #[.slice Y ny cy, .slice G ng cg] 31)).alloc (.cells #[.int .i64 xi, .int .i64 xt, .int .i64 a0, .int .i64 b0, .int .i64 a1, .int .i64 b1, .int .i64 a2, .int .i64 b2, .int .i64 a3, .int .i64 b3, .int .i64 a4, .int .i64 b4, .int .i64 a5, .int .i64 b5, .int .i64 xs, .int .i64 xh, .int .i64 xl, .int .i64 xu] 62)).alloc (.cells #[.int .i64 0, .int .i64 0] 43) = W at *
  have HWs := Lib.hid (show W.heap.size = w.heap.size + 4 by rw [← hW]; simp)
  clear hW
  have HT0 := Lib.hid t0
  have HG0 := Lib.hid g0
  have HX0 := Lib.hid x0
  have HR0 := Lib.hid r0
  have HB0 := Lib.hid hb2
  have HRx := Lib.hid (range_blk (cs := [.int .i64 xi, .int .i64 xt, .int .i64 a0, .int .i64 b0, .int .i64 a1, .int .i64 b1, .int .i64 a2, .int .i64 b2, .int .i64 a3, .int .i64 b3, .int .i64 a4, .int .i64 b4, .int .i64 a5, .int .i64 b5, .int .i64 xs, .int .i64 xh, .int .i64 xl, .int .i64 xu]) x0)
  obtain ⟨tl, s0, s1, s2, s3, s4, s5, s6, s7, s8, s9, s10⟩ := blk11 t0
  clear t0 g0 x0 r0 hb2
  have HC := Lib.hid (HVo.out W HB0.out)
  go_upto_region 2 with (first | (refine wpList_load_mid rfl 62 (.tmp 5) rfl (w.heap.size + 2) 0 rfl [.int .i64 xi, .int .i64 xt, .int .i64 a0, .int .i64 b0, .int .i64 a1, .int .i64 b1, .int .i64 a2, .int .i64 b2, .int .i64 a3, .int .i64 b3, .int .i64 a4, .int .i64 b4, .int .i64 a5, .int .i64 b5, .int .i64 xs, .int .i64 xh, .int .i64 xl, .int .i64 xu] _ HRx.out Tryz.underlying62 rfl info_sv ?_) | (go_at_call 73; (with_reducible refine HC.out.mono ?_); rintro e w1 ⟨rfl, hb1⟩))
  have bq := below_new w1 (.cells #[.int .i64 p1, .int .i64 p2, .int .i64 u1, .int .i64 u2] 152)
  have bn := hb1.trans (bq.mono hb1.size)
  have HT1 := Lib.hid (HT0.out.below bn)
  have HG1 := Lib.hid (HG0.out.below bn)
  have HX1 := Lib.hid (HX0.out.below bn)
  have HR1 := Lib.hid (HR0.out.below bn)
  have HB1 := Lib.hid (HB0.out.trans (bn.mono HB0.out.size))
  have HV1 := Lib.hid (Blk.new w1 152 #[.int .i64 p1, .int .i64 p2, .int .i64 u1, .int .i64 u2])
  have HRl := Lib.hid (show w.heap.size + 3 < w1.heap.size by have := HR0.out.lt; have := hb1.size; omega)
  generalize hV : w1.alloc (.cells #[.int .i64 p1, .int .i64 p2, .int .i64 u1, .int .i64 u2] 152) = V at *
  generalize hg : w1.heap.size = g7 at *
  clear hV hg bq bn hb1 HRx tl s0 s1 s2 s3 s4 s5 s6 s7 s8 s9 s10 HT0 HG0 HX0 HR0 HB0 HC HVo
  have HRx := Lib.hid (range_blk (cs := [.int .i64 xi, .int .i64 xt, .int .i64 a0, .int .i64 b0, .int .i64 a1, .int .i64 b1, .int .i64 a2, .int .i64 b2, .int .i64 a3, .int .i64 b3, .int .i64 a4, .int .i64 b4, .int .i64 a5, .int .i64 b5, .int .i64 xs, .int .i64 xh, .int .i64 xl, .int .i64 xu]) HX1.out)
  obtain ⟨y0, y1, yl⟩ := cells2 HG1.out
  have HC := Lib.hid (HDe.out V HB1.out)
  go_upto_region 3 with (first | (refine wpList_load_mid rfl 62 (.tmp 5) rfl (w.heap.size + 2) 0 rfl [.int .i64 xi, .int .i64 xt, .int .i64 a0, .int .i64 b0, .int .i64 a1, .int .i64 b1, .int .i64 a2, .int .i64 b2, .int .i64 a3, .int .i64 b3, .int .i64 a4, .int .i64 b4, .int .i64 a5, .int .i64 b5, .int .i64 xs, .int .i64 xh, .int .i64 xl, .int .i64 xu] _ HRx.out Tryz.underlying62 rfl info_sv ?_) | (go_at_call 71; (with_reducible refine HC.out.mono ?_); rintro e w2 ⟨rfl, hb1⟩))
  have bq := below_new w2 (.cells #[.int .i64 d1, .int .i64 d2] 43)
  have bn := hb1.trans (bq.mono hb1.size)
  have HT2 := Lib.hid (HT1.out.below bn)
  have HR2 := Lib.hid (HR1.out.below bn)
  have HV2 := Lib.hid (HV1.out.below bn)
  have HB2 := Lib.hid (HB1.out.trans (bn.mono HB1.out.size))
  have HD2 := Lib.hid (Blk.new w2 43 #[.int .i64 d1, .int .i64 d2])
  generalize hV : w2.alloc (.cells #[.int .i64 d1, .int .i64 d2] 43) = V2 at *
  generalize hg : w2.heap.size = g9 at *
  clear hV hg bq bn hb1 HRx y0 y1 yl HT1 HG1 HX1 HR1 HB1 HV1 HC HDe
  as_aux_lemma =>
    go_upto_region 5 with fail
    refine wp_region_preC 8 [(4, 11), (5, 12), (6, 1000), (7, 1001)] (fun v => Below V2.heap.size V2 v) (TwB V2.heap.size 151 (.int .i64 p1) (.int .i64 p2) (.int .i64 u1) (.int .i64 u2)) (by kernel_rfl) (by kernel_rfl) (Below.refl _ _) (fun v1 v2 h kk => h.trans (kk.mono h.size)) (fun v' hv' => TwB.init) (fun ls vs v v' _ h kk => h.below kk) ?ex
    case ex =>
    apply Exists.intro
    refine ⟨?walk, ?loud, ?last⟩
    case walk =>
      as_aux_lemma =>
        intro U hU
        obtain ⟨n0, n1, n2, n3, nl⟩ := cells4 (HV2.out.below hU)
        obtain ⟨xc, xf'⟩ := xcell (W := U)
        simp only [List.take_succ_cons, List.take_nil, qOf, isLoud, List.any_cons, List.any_nil, Nat.reduceBEq, Bool.or_false, Bool.or_true, Nat.reduceAdd, Bool.false_eq_true, if_true, if_false, beq_self_eq_true, Nat.zero_add]
        repeat (first | go_big_quiet_step (fail) | quiet_step (fail))
        exact wpQuiet_nil rfl
    case loud =>
      as_aux_lemma =>
        rintro pp hpp vs v hC ls hI hls hw o ho
        simp only [List.mem_cons, List.not_mem_nil, or_false] at hpp
        rcases hpp with rfl | rfl | rfl | rfl
        · simp only [List.getElem?_cons_succ, List.getElem?_cons_zero, Option.some.injEq] at ho
          subst ho
          simp [loudAt, loudUpon, go_sem, execOp]
          exact ⟨hC.alloc hC.size _, hI.s1 hls hC.size⟩
        · simp only [List.getElem?_cons_succ, List.getElem?_cons_zero, Option.some.injEq] at ho
          subst ho
          simp [loudAt, loudUpon, go_sem, execOp]
          exact ⟨hC.alloc hC.size _, hI.s2 hls hC.size⟩
        · have h1 := hw (4, 11) (by simp) (by kernel_rfl)
          obtain ⟨g, e1, hg, hbk⟩ := hI.p1 h1
          have hl1 : ls 6 = false := hls
          rw [hl1, cond_false] at hbk
          obtain ⟨b0, b1, bl⟩ := cells2 hbk
          have f0 := hbk.frozen 0
          have f1 := hbk.frozen 1
          simp only [List.getElem?_cons_succ, List.getElem?_cons_zero, Option.some.injEq] at ho
          subst ho
          simp [loudAt, loudUpon, go_sem, execOp, putsL, Act.put, e1, f0, f1, b0, b1]
          exact ⟨below_set2 hC hg _ _, hI.w1 h1 hls e1 hbk _⟩
        · have h1 := hw (5, 12) (by simp) (by kernel_rfl)
          obtain ⟨g, e1, hg, hbk⟩ := hI.p2 h1
          have hl1 : ls 7 = false := hls
          rw [hl1, cond_false] at hbk
          obtain ⟨b0, b1, bl⟩ := cells2 hbk
          have f0 := hbk.frozen 0
          have f1 := hbk.frozen 1
          simp only [List.getElem?_cons_succ, List.getElem?_cons_zero, Option.some.injEq] at ho
          subst ho
          simp [loudAt, loudUpon, go_sem, execOp, putsL, Act.put, e1, f0, f1, b0, b1]
          exact ⟨below_set2 hC hg _ _, hI.w2 h1 hls e1 hbk _⟩
    case last =>
    rintro ls vs v4 hV hI hls
    obtain ⟨ga, gb, e6, e7, h6, h7, hne, hb6, hb7⟩ := hI.done (hls (6, 1000) (by simp)) (hls (7, 1001) (by simp))
    simp only [putsL, List.foldl_cons, List.foldl_nil, List.drop_succ_cons, List.drop_nil, Act.put, e6, e7, List.setIfInBounds_toArray, List.set_cons_succ, List.set_cons_zero, List.set_nil]
    have H6b := Lib.hid hb6
    have H7b := Lib.hid hb7
    have HT3 := Lib.hid (HT2.out.below hV)
    have HR3 := Lib.hid (HR2.out.below hV)
    have HD3 := Lib.hid (HD2.out.below hV)
    have HB3 := Lib.hid (HB2.out.trans (hV.mono HB2.out.size))
    clear hI hls e6 e7 hV hb6 hb7 HT2 HR2 HD2 HB2 HV2
    generalize vs 6 = x13 at *
    generalize vs 7 = x14 at *
    clear vs ls
    go_upto_region 6 with fail
    as_aux_lemma =>
      obtain ⟨a0', a1', al⟩ := cells2 H6b.out
      obtain ⟨b0', b1', bl⟩ := cells2 H7b.out
      obtain ⟨z0, z1, zl⟩ := cells2 HD3.out
      obtain ⟨tl, s0, s1, s2, s3, s4, s5, s6, s7, s8, s9, s10⟩ := blk11 HT3.out
      obtain ⟨xc, xf'⟩ := xcell (W := v4)
      have m1 := mul_bd (A := 20000000000) (B := 1100) (x := p1) (y := d1) (by omega) (by omega) (by omega) (by omega)
      have m2 := mul_bd (A := 20000000000) (B := 1100) (x := u1) (y := d2) (by omega) (by omega) (by omega) (by omega)
      have n1 := Int.mul_nonneg (a := p1) (b := d1) (by omega) (by omega)
      have n2 := Int.mul_nonneg (a := u1) (b := d2) (by omega) (by omega)
      have q1 : Int.tdiv (p1 * d1 + 25 * p2 - 1) (25 * p2) = (p1 * d1 + 25 * p2 - 1) / (25 * p2) := Int.tdiv_eq_ediv_of_nonneg (by omega)
      have q2 : Int.tdiv (u1 * d2) (25 * u2) = u1 * d2 / (25 * u2) := Int.tdiv_eq_ediv_of_nonneg n2
      have j1 : ¬ 25 * p2 = 0 := by omega
      have j2 : ¬ 25 * u2 = 0 := by omega
      have o1 := ediv_bd (p1 * d1 + 25 * p2 - 1) (25 * p2) (by omega) (by omega)
      have o2 := ediv_bd (u1 * d2) (25 * u2) (by omega) (by omega)
      have HM := Lib.hid (fun u => meet_any ((p1 * d1 + 25 * p2 - 1) / (25 * p2)) (u1 * d2 / (25 * u2)) light R u)
      rw [← HS1.out, ← HS2.out] at HM
      clear HS1 HS2
      generalize hz1 : (p1 * d1 + 25 * p2 - 1) / (25 * p2) = t1 at *
      generalize hz2 : u1 * d2 / (25 * u2) = t2 at *
      clear hz1 hz2
      refine wp_region_quiet_tail 30 (by kernel_rfl) (by kernel_rfl) ?_
      simp only [List.take_succ_cons, List.take_zero, List.drop_succ_cons, List.drop_zero]
      repeat (first | go_big_quiet_step (first | (go_at_call 51; with_reducible refine calls_ext (HHe.out _ ?_); exact HB3.out.trans ((Ext.below _).mono HB3.out.size)) | (go_at_call 53; with_reducible refine calls_ext (HM.out _))) | quiet_step (first | (go_at_call 51; with_reducible refine calls_ext (HHe.out _ ?_); exact HB3.out.trans ((Ext.below _).mono HB3.out.size)) | (go_at_call 53; with_reducible refine calls_ext (HM.out _))))
      refine wpQuiet_nil ?_
      intro w5 hb5
      have HRc := Lib.hid (HR3.out.below hb5)
      have HBc := Lib.hid (HB3.out.trans (hb5.mono HB3.out.size))
      clear xc xf' hb5 z0 z1 zl tl s0 s1 s2 s3 s4 s5 s6 s7 s8 s9 s10 a0' a1' al b0' b1' bl
      obtain ⟨r0, r1, rl⟩ := cells2 HRc.out
      have f0 := HRc.out.frozen 0
      have f1 := HRc.out.frozen 1
      go_wp2
      obtain ⟨x0, x1, _⟩ := cells2 (blk_set2 HRc.out (.int .i64 S1) (.int .i64 S2))
      exact bodyPost_ret (v := vSp S1 S2) (by simp [results, Tryz.results48, go_sem, x0, x1]) rfl ⟨rfl, below_set2 HBc.out (by omega) _ _⟩
end Go.Proofs.YtgojpgggbflgoaaGreat
