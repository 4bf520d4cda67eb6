/- The specification's Limits. -/
import Derived.Laws.AppendOwnNone
import Derived.Test.YtighfmgkoepfkaaGreatMB
namespace Go.Proofs.YtighfmgkoepfkaaGreat
open Go.RowKit

def ofV (hs : List Hd) (ms : List Mv) (kind id : Int) : Int × Int := if placeE hs ms kind id = 0 then (spanLo hs ms (placeN hs ms kind id), spanHi hs ms (placeN hs ms kind id)) else (0, 0)
section
variable {hs : List Hd} {ms : List Mv} {kind id : Int}
theorem ofV_no {e : Int} (h : placeE hs ms kind id = e) (he : e ≠ 0) : ofV hs ms kind id = (0, 0) := by unfold ofV; rw [h, if_neg he]
theorem ofV_kind (h : ¬ (1 ≤ kind ∧ kind ≤ 3)) : placeE hs ms kind id = 1 ∧ ofV hs ms kind id = (0, 0) := by
  have e : placeE hs ms kind id = 1 := by unfold placeE; rw [if_neg (by omega), if_neg (by omega)]
  exact ⟨e, ofV_no e (by decide)⟩
theorem ofV_mass {k : Nat} (h1 : kind = 1) (hk : k < ms.length) (e : (mat ms k).id = id) (hno : ∀ i, i < k → (mat ms i).id ≠ id) : placeE hs ms kind id = 0 ∧ ofV hs ms kind id = ((mat ms k).lo, (mat ms k).hi) := by
  have hp := posM_hit hk e hno
  have e0 : placeE hs ms kind id = 0 := by unfold placeE; rw [if_pos h1, hp, if_pos hk]
  refine ⟨e0, ?_⟩
  unfold ofV spanLo spanHi placeN
  rw [if_pos e0]
  simp only [if_pos h1, hp]
  rw [if_neg (by omega), if_neg (by omega), if_neg (by omega), if_neg (by omega), Nat.add_sub_cancel_left]
theorem ofV_nomass (h1 : kind = 1) (hno : ∀ i, i < ms.length → (mat ms i).id ≠ id) : placeE hs ms kind id = 5 ∧ ofV hs ms kind id = (0, 0) := by
  have e : placeE hs ms kind id = 5 := by
    unfold placeE
    rw [if_pos h1, if_neg]
    intro c
    exact hno _ c (by rw [mat_eq c]; exact posM_at ms id c)
  exact ⟨e, ofV_no e (by decide)⟩
theorem ofV_nohd (h1 : kind ≠ 1) (h2 : 1 ≤ kind ∧ kind ≤ 3) (hp : pos hs id < 0) : placeE hs ms kind id = 5 ∧ ofV hs ms kind id = (0, 0) := by
  have e : placeE hs ms kind id = 5 := by
    unfold placeE
    rw [if_neg h1, if_pos (by omega), if_neg]
    intro c
    rw [pos_in c] at hp
    omega
  exact ⟨e, ofV_no e (by decide)⟩
theorem ofV_hd (h1 : kind ≠ 1) (h2 : 1 ≤ kind ∧ kind ≤ 3) (hp : ¬ pos hs id < 0) : ∃ i : Nat, pos hs id = (i : Int) ∧ i < hs.length ∧ placeE hs ms kind id = 0 ∧ ofV hs ms kind id = if kind = 2 then ((hat hs i).sl, (hat hs i).sh) else ((hat hs i).el, (hat hs i).eh) := by
  have c : posN hs id < hs.length := by
    unfold pos at hp
    by_cases c : posN hs id < hs.length
    · exact c
    · rw [if_neg c] at hp; omega
  have e : placeE hs ms kind id = 0 := by unfold placeE; rw [if_neg h1, if_pos (by omega), if_pos c]
  refine ⟨posN hs id, pos_in c, c, e, ?_⟩
  unfold ofV spanLo spanHi placeN
  rw [if_pos e]
  simp only [if_neg h1]
  by_cases c2 : kind = 2
  · simp only [if_pos c2, if_pos c]
  · simp only [if_neg c2]
    rw [if_neg (by omega), if_pos (by omega), if_neg (by omega), if_pos (by omega), Nat.add_sub_cancel_left]
end
set_option maxRecDepth 100000 in
set_option maxHeartbeats 12800000 in
theorem Of_any (t : TR) (kind id : Int) (w : World) (h : t.Ok w) (hn : t.n ≤ 1000000) (hm : t.m ≤ 1000000) :
    Calls Tryz.prog 96 #[t.v, vAt kind id] w fun e w' => e = .returned (.tuple #[vSp (ofV t.hs t.ms kind id).1 (ofV t.hs t.ms kind id).2, .int .i64 (placeE t.hs t.ms kind id)]) ∧ Below w.heap.size w w' := by
  obtain ⟨A, n, c, B, m, d, hs, ms⟩ := t
  have HPl := Lib.hid (fun (u : World) (hu : TR.Ok u ⟨A, n, c, B, m, d, hs, ms⟩) => Place_any ⟨A, n, c, B, m, d, hs, ms⟩ id u hu (show n ≤ 4611686018427387904 by have h1 : n ≤ 1000000 := hn; omega))
  dsimp only [TR.v] at *
  have hb0 := (((Below.refl w.heap.size w).alloc (Nat.le_refl _) (.cells #[.slice A n c, .slice B m d] 25)).alloc (by simp) (.cells #[.int .i64 kind, .int .i64 id] 83)).alloc (by simp; omega) (.cells #[.int .i64 0, .int .i64 0] 57)
  have t0 := (((Blk.new w 25 #[.slice A n c, .slice B m d]).alloc (.cells #[.int .i64 kind, .int .i64 id] 83)).alloc (.cells #[.int .i64 0, .int .i64 0] 57))
  have x0 := (Blk.at_new (W := w.alloc (.cells #[.slice A n c, .slice B m d] 25)) (g := w.heap.size + 1) 83 #[.int .i64 kind, .int .i64 id] (by simp)).alloc (.cells #[.int .i64 0, .int .i64 0] 57)
  have r0 := Blk.at_new (W := (w.alloc (.cells #[.slice A n c, .slice B m d] 25)).alloc (.cells #[.int .i64 kind, .int .i64 id] 83)) (g := w.heap.size + 1 + 1) 57 #[.int .i64 0, .int .i64 0] (by simp)
  have HOk := Lib.hid h
  have HLh := Lib.hid (show hs.length = n from h.h.len)
  have HLm := Lib.hid (show ms.length = m from h.m.len)
  have HB0 := Lib.hid hb0
  have HT0 := Lib.hid t0
  have HX0 := Lib.hid x0
  have HR0 := Lib.hid r0
  clear h hb0 t0 x0 r0
  go_enter Tryz.func96, Tryz.ntmps96
  go_upto_region 1 with fail
  generalize hW : ((w.alloc (.cells #[.slice A n c, .slice B m d] 25)).alloc (.cells #[.int .i64 kind, .int .i64 id] 83)).alloc (.cells #[.int .i64 0, .int .i64 0] 57) = W at *
  clear hW
  have HWi := Lib.hid (rwithin_any kind 1 3 W)
  have a0 := HX0.out.cell 0
  have a1 := HX0.out.cell 1
  simp only [List.getElem?_toArray, List.getElem?_cons_zero, List.getElem?_cons_succ] at a0 a1
  have al := HX0.out.lt
  by_cases hk : 1 ≤ kind ∧ kind ≤ 3
  case neg =>
    rw [decide_eq_false hk] at HWi
    have HE := Lib.hid (ofV_kind (hs := hs) (ms := ms) (id := id) hk)
    go_wp2_with (go_at_call 123; with_reducible refine HWi.out.mono ?_; rintro e w1 ⟨rfl, hb1⟩; have HR1 := Lib.hid (HR0.out.below hb1); have z0 := HR1.out.cell 0; have z1 := HR1.out.cell 1; simp only [List.getElem?_toArray, List.getElem?_cons_zero, List.getElem?_cons_succ] at z0 z1; have zl := HR1.out.lt; have f0 := HR1.out.frozen 0; have f1 := HR1.out.frozen 1; have HB1 := Lib.hid (HB0.out.trans (hb1.mono HB0.out.size)))
    have hf := blk_set2 HR1.out (.int .i64 0) (.int .i64 0)
    have x0 := hf.cell 0
    have x1 := hf.cell 1
    simp only [List.getElem?_toArray, List.getElem?_cons_zero, List.getElem?_cons_succ] at x0 x1
    exact bodyPost_ret (v := .tuple #[vSp 0 0, .int .i64 1]) (by simp [results, Tryz.results96, go_sem, x0, x1]) rfl ⟨by rw [HE.out.1, HE.out.2], below_set2 HB1.out (by omega) _ _⟩
  case pos =>
  rw [decide_eq_true hk] at HWi
  go_upto_region 5 with (go_at_call 123; with_reducible refine HWi.out.mono ?_; rintro e w1 ⟨rfl, hb1⟩)
  have HB1 := Lib.hid (HB0.out.trans (hb1.mono HB0.out.size))
  have HT1 := Lib.hid (HT0.out.below hb1)
  have HX1 := Lib.hid (HX0.out.below hb1)
  have HR1 := Lib.hid (HR0.out.below hb1)
  clear a0 a1 al hb1 HWi HB0 HT0 HX0 HR0
  go_loopw [7] (fun i wx => ∃ k : Nat, k ≤ m ∧ i = .int .i64 (k : Int) ∧ (kind = 1 → ∀ i, i < k → (mat ms i).id ≠ id) ∧ Below w1.heap.size w1 wx) (fun i _ => m - (intOf i).toNat)
  case atStart => exact ⟨0, Nat.zero_le _, rfl, fun _ i h => absurd h (Nat.not_lt_zero _), Below.refl _ _⟩
  case round =>
    obtain ⟨k, hkm, rfl, hq, hb⟩ := hrel
    have HQ := Lib.hid hq
    have HBr := Lib.hid hb
    have HB := Lib.hid (HB1.out.trans (hb.mono HB1.out.size))
    have HT := Lib.hid (HT1.out.below hb)
    have HX := Lib.hid (HX1.out.below hb)
    have HR := Lib.hid (HR1.out.below hb)
    clear hq hb
    have y0 := HT.out.cell 0
    have y1 := HT.out.cell 1
    have a0 := HX.out.cell 0
    have a1 := HX.out.cell 1
    simp only [List.getElem?_toArray, List.getElem?_cons_zero, List.getElem?_cons_succ] at y0 y1 a0 a1
    have yl := HT.out.lt
    have al := HX.out.lt
    by_cases c1 : kind = 1
    case pos =>
      have c1b : (kind == 1) = true := by simpa using c1
      by_cases hlt : k < m
      case pos =>
        have hkl : k < ms.length := by rw [HLm.out]; exact hlt
        obtain ⟨b, off, eB, hl⟩ := HOk.out.m.at_ (by dsimp only; omega)
        dsimp only at eB
        subst eB
        have HLs := Lib.hid hl
        have hl2 := hl.below HB.out
        obtain ⟨u0, u1, u2, u3, u4⟩ := Mvs.at_ hl2 (List.getElem?_eq_getElem hkl)
        rw [← mat_eq hkl] at u0 u3 u4
        have ul := hl2.lt
        obtain ⟨md, hmd⟩ : ∃ x, (mat ms k).id = x := ⟨_, rfl⟩
        rw [hmd] at u0
        have HMd := Lib.hid hmd
        have HC1 := Lib.hid c1
        clear hl hl2 hmd u1 u2 u3 u4 c1
        go_upto_region 7 with fail
        obtain ⟨xc, xf'⟩ := xcell (W := wr)
        refine wp_region_quiet_tail 9 (by kernel_rfl) (by kernel_rfl) ?_
        simp only [List.take_succ_cons, List.take_zero, List.drop_succ_cons, List.drop_zero]
        repeat (first | go_big_quiet_step (fail) | quiet_step (fail))
        refine wpQuiet_nil ?_
        intro w2 hb2
        have HT2 := Lib.hid (HT.out.below hb2)
        have HR2 := Lib.hid (HR.out.below hb2)
        have HB2 := Lib.hid (HB.out.trans (hb2.mono HB.out.size))
        have HBs := Lib.hid (HBr.out.trans (hb2.mono HBr.out.size))
        clear y0 y1 a0 a1 yl al u0 ul xc xf' hb2
        by_cases c2 : md = id
        case pos =>
          rw [show (md == id) = true by simpa using c2]
          have HE := Lib.hid (ofV_mass (hs := hs) (ms := ms) HC1.out hkl (HMd.out.trans c2) (HQ.out HC1.out))
          obtain ⟨lo, hlo⟩ : ∃ x, (mat ms k).lo = x := ⟨_, rfl⟩
          obtain ⟨hi, hhi⟩ : ∃ x, (mat ms k).hi = x := ⟨_, rfl⟩
          rw [hlo, hhi] at HE
          have y0 := HT2.out.cell 0
          have y1 := HT2.out.cell 1
          have z0 := HR2.out.cell 0
          have z1 := HR2.out.cell 1
          simp only [List.getElem?_toArray, List.getElem?_cons_zero, List.getElem?_cons_succ] at y0 y1 z0 z1
          have yl := HT2.out.lt
          have zl := HR2.out.lt
          have f0 := HR2.out.frozen 0
          have f1 := HR2.out.frozen 1
          have hl2 := HLs.out.below HB2.out
          obtain ⟨u0, u1, u2, u3, u4⟩ := Mvs.at_ hl2 (List.getElem?_eq_getElem hkl)
          rw [← mat_eq hkl] at u3 u4
          rw [hlo] at u3
          rw [hhi] at u4
          have ul := hl2.lt
          clear hl2 u0 u1 u2 hlo hhi c2
          go_wp2
          have hf := blk_set2 HR2.out (.int .i64 lo) (.int .i64 hi)
          have x0 := hf.cell 0
          have x1 := hf.cell 1
          simp only [List.getElem?_toArray, List.getElem?_cons_zero, List.getElem?_cons_succ] at x0 x1
          exact bodyPost_ret (v := .tuple #[vSp lo hi, .int .i64 0]) (by simp [results, Tryz.results96, go_sem, x0, x1]) rfl ⟨by rw [HE.out.1, HE.out.2], below_set2 HB2.out (by omega) _ _⟩
        case neg =>
          rw [show (md == id) = false by simpa using c2]
          have HNe := Lib.hid (show (mat ms k).id ≠ id by rw [HMd.out]; exact c2)
          clear c2
          go_wp2
          go_roundw
          case rel => exact ⟨k + 1, by omega, by go_num, fun h i hi => by
            rcases Nat.lt_succ_iff_lt_or_eq.1 hi with hi | hi
            · exact HQ.out h i hi
            · subst hi; exact HNe.out, HBs.out⟩
          case measure => simp [intOf]; omega
      case neg =>
        have HE := Lib.hid (ofV_nomass (hs := hs) (ms := ms) c1 (fun i hi => HQ.out c1 i (by have := HLm.out; omega)))
        obtain ⟨p, hp⟩ : ∃ p, pos hs id = p := ⟨_, rfl⟩
        have HP := Lib.hid (HPl.out wr (HOk.out.below HB.out))
        rw [hp] at HP
        clear hp c1
        go_wp2_with (go_at_call 94; with_reducible refine HP.out.mono ?_; rintro e w2 ⟨rfl, hb2⟩; have HX2 := Lib.hid (HX.out.below hb2); have HR2 := Lib.hid (HR.out.below hb2); have aa0 := HX2.out.cell 0; have aa1 := HX2.out.cell 1; have z0 := HR2.out.cell 0; have z1 := HR2.out.cell 1; simp only [List.getElem?_toArray, List.getElem?_cons_zero, List.getElem?_cons_succ] at aa0 aa1 z0 z1; have aal := HX2.out.lt; have zl := HR2.out.lt; have f0 := HR2.out.frozen 0; have f1 := HR2.out.frozen 1; have HB2 := Lib.hid (HB.out.trans (hb2.mono HB.out.size)))
        have hf := blk_set2 HR2.out (.int .i64 0) (.int .i64 0)
        have x0 := hf.cell 0
        have x1 := hf.cell 1
        simp only [List.getElem?_toArray, List.getElem?_cons_zero, List.getElem?_cons_succ] at x0 x1
        exact bodyPost_ret (v := .tuple #[vSp 0 0, .int .i64 5]) (by simp [results, Tryz.results96, go_sem, x0, x1]) rfl ⟨by rw [HE.out.1, HE.out.2], below_set2 HB2.out (by omega) _ _⟩
    case neg =>
      have c1b : (kind == 1) = false := by simpa using c1
      have HP := Lib.hid (HPl.out wr (HOk.out.below HB.out))
      by_cases c2 : pos hs id < 0
      case pos =>
        have HE := Lib.hid (ofV_nohd (hs := hs) (ms := ms) c1 hk c2)
        obtain ⟨p, hp⟩ : ∃ p, pos hs id = p := ⟨_, rfl⟩
        rw [hp] at HP c2
        have c2b : decide (p < 0) = true := decide_eq_true c2
        clear hp c1 c2
        go_wp2_with (go_at_call 94; with_reducible refine HP.out.mono ?_; rintro e w2 ⟨rfl, hb2⟩; have HX2 := Lib.hid (HX.out.below hb2); have HR2 := Lib.hid (HR.out.below hb2); have aa0 := HX2.out.cell 0; have aa1 := HX2.out.cell 1; have z0 := HR2.out.cell 0; have z1 := HR2.out.cell 1; simp only [List.getElem?_toArray, List.getElem?_cons_zero, List.getElem?_cons_succ] at aa0 aa1 z0 z1; have aal := HX2.out.lt; have zl := HR2.out.lt; have f0 := HR2.out.frozen 0; have f1 := HR2.out.frozen 1; have HB2 := Lib.hid (HB.out.trans (hb2.mono HB.out.size)))
        all_goals
          have hf := blk_set2 HR2.out (.int .i64 0) (.int .i64 0)
          have x0 := hf.cell 0
          have x1 := hf.cell 1
          simp only [List.getElem?_toArray, List.getElem?_cons_zero, List.getElem?_cons_succ] at x0 x1
          exact bodyPost_ret (v := .tuple #[vSp 0 0, .int .i64 5]) (by simp [results, Tryz.results96, go_sem, x0, x1]) rfl ⟨by rw [HE.out.1, HE.out.2], below_set2 HB2.out (by omega) _ _⟩
      case neg =>
        obtain ⟨i, hi, hil, hE⟩ := ofV_hd (ms := ms) c1 hk c2
        rw [hi] at HP
        have HE := Lib.hid hE
        have hib : decide ((i : Int) < 0) = false := decide_eq_false (by omega)
        have hin : i < n := by rw [← HLh.out]; exact hil
        obtain ⟨b, off, eA, hl⟩ := HOk.out.h.at_ (show 0 < n by omega)
        dsimp only at eA
        subst eA
        have HLs := Lib.hid hl
        obtain ⟨x, hx⟩ : ∃ x, hat hs i = x := ⟨_, rfl⟩
        rw [hx] at HE
        have HXe := Lib.hid (show hs[i]'hil = x by rw [← hat_eq hil]; exact hx)
        obtain ⟨xd, xsl, xsh, xel, xeh, xbk⟩ := x
        clear hl hx hi hE c1 c2
        by_cases c3 : kind = 2
        case pos =>
          have c3b : (kind == 2) = true := by simpa using c3
          rw [if_pos c3] at HE
          clear c3
          go_wp2_with (go_at_call 94; with_reducible refine HP.out.mono ?_; rintro e w2 ⟨rfl, hb2⟩; have HT2 := Lib.hid (HT.out.below hb2); have HX2 := Lib.hid (HX.out.below hb2); have HR2 := Lib.hid (HR.out.below hb2); have aa0 := HX2.out.cell 0; have aa1 := HX2.out.cell 1; have z0 := HR2.out.cell 0; have z1 := HR2.out.cell 1; have yy0 := HT2.out.cell 0; have yy1 := HT2.out.cell 1; simp only [List.getElem?_toArray, List.getElem?_cons_zero, List.getElem?_cons_succ] at aa0 aa1 z0 z1 yy0 yy1; have aal := HX2.out.lt; have zl := HR2.out.lt; have yyl := HT2.out.lt; have f0 := HR2.out.frozen 0; have f1 := HR2.out.frozen 1; have HB2 := Lib.hid (HB.out.trans (hb2.mono HB.out.size)); have hl2 := HLs.out.below HB2.out; obtain ⟨u0, u1, u2, u3, u4, u5⟩ := Hds.at_ hl2 (List.getElem?_eq_getElem hil); rw [HXe.out] at u0 u1 u2 u3 u4 u5; dsimp only at u0 u1 u2 u3 u4 u5; have ul := hl2.lt; clear hl2)
          all_goals
            have hf := blk_set2 HR2.out (.int .i64 xsl) (.int .i64 xsh)
            have x0 := hf.cell 0
            have x1 := hf.cell 1
            simp only [List.getElem?_toArray, List.getElem?_cons_zero, List.getElem?_cons_succ] at x0 x1
            exact bodyPost_ret (v := .tuple #[vSp xsl xsh, .int .i64 0]) (by simp [results, Tryz.results96, go_sem, x0, x1]) rfl ⟨by rw [HE.out.1, HE.out.2], below_set2 HB2.out (by omega) _ _⟩
        case neg =>
          have c3b : (kind == 2) = false := by simpa using c3
          rw [if_neg c3] at HE
          clear c3
          go_wp2_with (go_at_call 94; with_reducible refine HP.out.mono ?_; rintro e w2 ⟨rfl, hb2⟩; have HT2 := Lib.hid (HT.out.below hb2); have HX2 := Lib.hid (HX.out.below hb2); have HR2 := Lib.hid (HR.out.below hb2); have aa0 := HX2.out.cell 0; have aa1 := HX2.out.cell 1; have z0 := HR2.out.cell 0; have z1 := HR2.out.cell 1; have yy0 := HT2.out.cell 0; have yy1 := HT2.out.cell 1; simp only [List.getElem?_toArray, List.getElem?_cons_zero, List.getElem?_cons_succ] at aa0 aa1 z0 z1 yy0 yy1; have aal := HX2.out.lt; have zl := HR2.out.lt; have yyl := HT2.out.lt; have f0 := HR2.out.frozen 0; have f1 := HR2.out.frozen 1; have HB2 := Lib.hid (HB.out.trans (hb2.mono HB.out.size)); have hl2 := HLs.out.below HB2.out; obtain ⟨u0, u1, u2, u3, u4, u5⟩ := Hds.at_ hl2 (List.getElem?_eq_getElem hil); rw [HXe.out] at u0 u1 u2 u3 u4 u5; dsimp only at u0 u1 u2 u3 u4 u5; have ul := hl2.lt; clear hl2)
          all_goals
            have hf := blk_set2 HR2.out (.int .i64 xel) (.int .i64 xeh)
            have x0 := hf.cell 0
            have x1 := hf.cell 1
            simp only [List.getElem?_toArray, List.getElem?_cons_zero, List.getElem?_cons_succ] at x0 x1
            exact bodyPost_ret (v := .tuple #[vSp xel xeh, .int .i64 0]) (by simp [results, Tryz.results96, go_sem, x0, x1]) rfl ⟨by rw [HE.out.1, HE.out.2], below_set2 HB2.out (by omega) _ _⟩
end Go.Proofs.YtighfmgkoepfkaaGreat

namespace Go.Proofs.YtighfmgkoepfkaaGreat
open Go.RowKit

theorem run_append_owned_nil {P : Program} {w : World} (base : Nat) (t ty e : TypeId) (i : TypeInfo) (size : Nat) (ht : P.underlying t = some (.slice e)) (hi : P.info? e = some i)
    (v : Value) (n : Nat) (xs : List Value) (hown : w.ownsRow base e size v n xs) (c : Nat) : (Builtin.append_ #[t, t] ty #[v, .slice none 0 c]).run P w = .ok v w := by
  rcases hown.2 with ⟨rfl, rfl⟩ | ⟨g, cap, cur, rfl, _, _, hnc, _⟩
  · simp [Builtin.append_, run_underlying ht, sizeOf, typeInfo, hi, Builtin.lenOf, Builtin.firstCells]
  · simp [Builtin.append_, run_underlying ht, sizeOf, typeInfo, hi, Builtin.lenOf, Builtin.firstCells, hnc, storeCells]
theorem loudAt_append_nil {P : Program} {o : Oper} {a : Act} {w : World} {R : Value → World → Prop} (s x : Operand) (t : TypeId)
    (ho : o.op = .call { callee := .builtin .append, args := #[s, x], argTypes := #[t, t] })
    (base : Nat) (e : TypeId) (i : TypeInfo) (size : Nat) (ht : P.underlying t = some (.slice e)) (hi : P.info? e = some i)
    (v : Value) (n : Nat) (xs : List Value) (hs : a.eval s = v) (hown : w.ownsRow base e size v n xs) (c : Nat) (hx : a.eval x = .slice none 0 c) (h : R v w) : loudAt P o a w R := by
  have hr := run_append_owned_nil (P := P) (w := w) base t o.type e i size ht hi v n xs hown c
  unfold loudAt execOp
  simp only [ho, resolve, invoke, builtin, Sem.run_bind, Sem.run_pure, Result.andThen_ok, List.map_toArray, List.map_cons, List.map_nil, hs, hx, hr]
  exact h
theorem wpList_append_own_nil {P : Program} {w : World} {ops : Array Oper} {rest : List Oper} {o : Oper} {a : Act} {Q : Exit → Act → World → Prop} (hgd : o.guard = none) (s x : Operand) (t : TypeId)
    (ho : o.op = .call { callee := .builtin .append, args := #[s, x], argTypes := #[t, t] })
    (base : Nat) (e : TypeId) (i : TypeInfo) (size : Nat) (ht : P.underlying t = some (.slice e)) (hi : P.info? e = some i)
    (v : Value) (n : Nat) (xs : List Value) (hs : a.eval s = v) (hown : w.ownsRow base e size v n xs) (c : Nat) (hx : a.eval x = .slice none 0 c)
    (h : wpList P ops Q rest (a.put o.dst v) w) : wpList P ops Q (o :: rest) a w := by
  refine wpList_plain hgd fun K hK => ?_
  have hrun := run_append_owned_nil (P := P) (w := w) base t o.type e i size ht hi v n xs hown c
  unfold Oper.wp
  simp [execOp, ho, resolve, invoke, builtin, hs, hx, hrun, Result.andThen]
  exact hK _ _ h
structure CpP (L n m : Nat) (hs : List Hd) (ms : List Mv) (ls : Nat → Bool) (vs : Nat → Value) (v : World) : Prop where
  b0 : ls 0 = true → ls 3 = false → v.ownsRow L 118 6 (vs 0) 0 []
  r3 : ls 3 = true → v.ownsRow L 118 6 (vs 3) n (hs.flatMap encH)
  b4 : ls 4 = true → ls 7 = false → v.ownsRow L 59 5 (vs 4) 0 []
  r7 : ls 7 = true → v.ownsRow L 59 5 (vs 7) m (ms.flatMap encM)
  p8 : ls 8 = true → ls 3 = true ∧ ls 7 = true ∧ vs 8 = .agg #[vs 3, vs 7]
  p9 : ls 9 = true → ∃ g, vs 9 = .pointer (some ⟨g, 0, none⟩) ∧ L ≤ g ∧ Blk v g 25 #[.slice none 0 0, .slice none 0 0]
section
variable {L n m : Nat} {hs : List Hd} {ms : List Mv} {ls : Nat → Bool} {vs : Nat → Value} {v v' : World}
theorem CpP.init : CpP L n m hs ms (fun _ => false) (fun _ => undef) v := ⟨fun h _ => (by cases h), fun h => (by cases h), fun h _ => (by cases h), fun h => (by cases h), fun h => (by cases h), fun h => (by cases h)⟩
theorem CpP.below (h : CpP L n m hs ms ls vs v) (hb : Below v.heap.size v v') : CpP L n m hs ms ls vs v' :=
  ⟨fun a b => owns_below (h.b0 a b) hb, fun a => owns_below (h.r3 a) hb, fun a b => owns_below (h.b4 a b) hb, fun a => owns_below (h.r7 a) hb, h.p8, fun a => let ⟨g, x, y, z⟩ := h.p9 a; ⟨g, x, y, z.below hb⟩⟩
theorem CpP.s0 (h : CpP L n m hs ms ls vs v) (hL : L ≤ v.heap.size) : CpP L n m hs ms (updB ls 0) (upd vs 0 (.slice (some ⟨v.heap.size, 0, none⟩) 0 0)) (v.alloc (.cells #[] 118)) := by
  have h2 := h.below (below_new v (.cells #[] 118))
  refine ⟨fun _ _ => by simpa [upd] using World.ownsRow_made (base := L) v #[] 0 hL (Nat.zero_le _) (by simp), fun a => ?_, fun a b => ?_, fun a => ?_, fun a => ?_, fun a => ?_⟩
  · simpa [updB, upd] using h2.r3 (by simpa [updB] using a)
  · simpa [updB, upd] using h2.b4 (by simpa [updB] using a) (by simpa [updB] using b)
  · simpa [updB, upd] using h2.r7 (by simpa [updB] using a)
  · simpa [updB, upd] using h2.p8 (by simpa [updB] using a)
  · simpa [updB, upd] using h2.p9 (by simpa [updB] using a)
theorem CpP.s4 (h : CpP L n m hs ms ls vs v) (hL : L ≤ v.heap.size) : CpP L n m hs ms (updB ls 4) (upd vs 4 (.slice (some ⟨v.heap.size, 0, none⟩) 0 0)) (v.alloc (.cells #[] 59)) := by
  have h2 := h.below (below_new v (.cells #[] 59))
  refine ⟨fun a b => ?_, fun a => ?_, fun _ _ => by simpa [upd] using World.ownsRow_made (base := L) v #[] 0 hL (Nat.zero_le _) (by simp), fun a => ?_, fun a => ?_, fun a => ?_⟩
  · simpa [updB, upd] using h2.b0 (by simpa [updB] using a) (by simpa [updB] using b)
  · simpa [updB, upd] using h2.r3 (by simpa [updB] using a)
  · simpa [updB, upd] using h2.r7 (by simpa [updB] using a)
  · simpa [updB, upd] using h2.p8 (by simpa [updB] using a)
  · simpa [updB, upd] using h2.p9 (by simpa [updB] using a)
theorem CpP.s3 (h : CpP L n m hs ms ls vs v) (h3 : ls 3 = false) {u x : Value} {k : Nat} {xs : List Value} (hu : v.ownsRow L 118 6 u k xs) (hg : v.grownBy v' u.ownBlock) (hr : v'.ownsRow L 118 6 x n (hs.flatMap encH)) : CpP L n m hs ms (updB ls 3) (upd vs 3 x) v' := by
  refine ⟨fun _ b => by simp [updB] at b, fun _ => by simpa [upd] using hr, fun a b => ?_, fun a => ?_, fun a => ?_, fun a => ?_⟩
  · have := h.b4 (by simpa [updB] using a) (by simpa [updB] using b)
    simpa [upd] using owns_grown this hg (fun r hr e => own_ne2 this hu (by decide) e hr)
  · have := h.r7 (by simpa [updB] using a)
    simpa [upd] using owns_grown this hg (fun r hr e => own_ne2 this hu (by decide) e hr)
  · have := h.p8 (by simpa [updB] using a)
    rw [h3] at this
    exact absurd this.1 (by decide)
  · obtain ⟨g, e1, e2, e3⟩ := h.p9 (by simpa [updB] using a)
    exact ⟨g, by simpa [upd] using e1, e2, e3.grown hg (own_ne hu e3 (by decide))⟩
theorem CpP.s7 (h : CpP L n m hs ms ls vs v) (h7 : ls 7 = false) {u x : Value} {k : Nat} {xs : List Value} (hu : v.ownsRow L 59 5 u k xs) (hg : v.grownBy v' u.ownBlock) (hr : v'.ownsRow L 59 5 x m (ms.flatMap encM)) : CpP L n m hs ms (updB ls 7) (upd vs 7 x) v' := by
  refine ⟨fun a b => ?_, fun a => ?_, fun _ b => by simp [updB] at b, fun _ => by simpa [upd] using hr, fun a => ?_, fun a => ?_⟩
  · have := h.b0 (by simpa [updB] using a) (by simpa [updB] using b)
    simpa [upd] using owns_grown this hg (fun r hr e => own_ne2 this hu (by decide) e hr)
  · have := h.r3 (by simpa [updB] using a)
    simpa [upd] using owns_grown this hg (fun r hr e => own_ne2 this hu (by decide) e hr)
  · have := h.p8 (by simpa [updB] using a)
    rw [h7] at this
    exact absurd this.2.1 (by decide)
  · obtain ⟨g, e1, e2, e3⟩ := h.p9 (by simpa [updB] using a)
    exact ⟨g, by simpa [upd] using e1, e2, e3.grown hg (own_ne hu e3 (by decide))⟩
theorem CpP.s8 (h : CpP L n m hs ms ls vs v) (h3 : ls 3 = true) (h7 : ls 7 = true) : CpP L n m hs ms (updB ls 8) (upd vs 8 (.agg #[vs 3, vs 7])) v := by
  refine ⟨fun a b => ?_, fun a => ?_, fun a b => ?_, fun a => ?_, fun _ => ⟨by simpa [updB] using h3, by simpa [updB] using h7, by simp [upd]⟩, fun a => ?_⟩
  · simpa [updB, upd] using h.b0 (by simpa [updB] using a) (by simpa [updB] using b)
  · simpa [updB, upd] using h.r3 (by simpa [updB] using a)
  · simpa [updB, upd] using h.b4 (by simpa [updB] using a) (by simpa [updB] using b)
  · simpa [updB, upd] using h.r7 (by simpa [updB] using a)
  · simpa [updB, upd] using h.p9 (by simpa [updB] using a)
theorem CpP.s9 (h : CpP L n m hs ms ls vs v) (hL : L ≤ v.heap.size) : CpP L n m hs ms (updB ls 9) (upd vs 9 (.pointer (some ⟨v.heap.size, 0, none⟩))) (v.alloc (.cells #[.slice none 0 0, .slice none 0 0] 25)) := by
  have h2 := h.below (below_new v (.cells #[.slice none 0 0, .slice none 0 0] 25))
  refine ⟨fun a b => ?_, fun a => ?_, fun a b => ?_, fun a => ?_, fun a => ?_, fun _ => ⟨v.heap.size, by simp [upd], hL, Blk.new _ _ _⟩⟩
  · simpa [updB, upd] using h2.b0 (by simpa [updB] using a) (by simpa [updB] using b)
  · simpa [updB, upd] using h2.r3 (by simpa [updB] using a)
  · simpa [updB, upd] using h2.b4 (by simpa [updB] using a) (by simpa [updB] using b)
  · simpa [updB, upd] using h2.r7 (by simpa [updB] using a)
  · simpa [updB, upd] using h2.p8 (by simpa [updB] using a)
end
/-- A list that is mapped from the left, k steps. -/
def mapT {α : Type} (f : α → α) (l : List α) (k : Nat) : List α := (l.take k).map f ++ l.drop k
section
variable {α : Type} {f : α → α} {l : List α} {k : Nat}
theorem mapT_zero : mapT f l 0 = l := by simp [mapT]
theorem mapT_end (h : l.length ≤ k) : mapT f l k = l.map f := by simp [mapT, List.take_of_length_le h, List.drop_of_length_le h]
theorem mapT_len : (mapT f l k).length = l.length := by simp [mapT]; omega
theorem mapT_at (h : k < l.length) : (mapT f l k)[k]'(by rw [mapT_len]; exact h) = l[k] := by
  have e : (mapT f l k)[k]? = some l[k] := by
    unfold mapT
    rw [List.getElem?_append_right (by rw [List.length_map, List.length_take]; exact Nat.min_le_left _ _), List.getElem?_drop, List.length_map, List.length_take, Nat.min_eq_left (by omega), Nat.sub_self, Nat.add_zero, List.getElem?_eq_getElem h]
  rw [List.getElem?_eq_getElem (by rw [mapT_len]; exact h)] at e
  exact Option.some.inj e
theorem mapT_step (h : k < l.length) : mapT f l (k + 1) = (mapT f l k).set k (f l[k]) := by
  unfold mapT
  have e : l.drop k = l[k] :: l.drop (k + 1) := List.drop_eq_getElem_cons h
  rw [List.take_succ_eq_append_getElem h, List.map_append, List.set_append_right _ _ (by rw [List.length_map, List.length_take]; exact Nat.min_le_left _ _), List.length_map, List.length_take, Nat.min_eq_left (by omega), Nat.sub_self, e, List.append_assoc]
  rfl
theorem mapT_same (h : k < l.length) (e : f l[k] = l[k]) : mapT f l (k + 1) = mapT f l k := by
  rw [mapT_step h, e, ← mapT_at (f := f) h, List.set_getElem_self]
end
end Go.Proofs.YtighfmgkoepfkaaGreat

namespace Go.Proofs.YtighfmgkoepfkaaGreat
open Go.RowKit

def fM (kind id lo hi : Int) (m : Mv) : Mv := if kind = 1 ∧ m.id = id then setM lo hi m else m
def fH (kind id lo hi : Int) (h : Hd) : Hd := if kind = 2 ∧ h.id = id then setS lo hi h else if kind = 3 ∧ h.id = id then setE lo hi h else h
theorem putIM_eq (ms : List Mv) (kind id lo hi : Int) : putIM ms kind id lo hi = ms.map (fM kind id lo hi) := rfl
theorem putIH_eq (hs : List Hd) (kind id lo hi : Int) : putIH hs kind id lo hi = hs.map (fH kind id lo hi) := rfl
set_option maxRecDepth 100000 in
set_option maxHeartbeats 12800000 in
theorem Put_any (t : TR) (kind id lo hi : Int) (w : World) (h : t.Ok w) (hn : t.n ≤ 1000000) (hm : t.m ≤ 1000000) :
    Calls Tryz.prog 54 #[t.v, vAt kind id, vSp lo hi] w fun e w' => ∃ v1 v2, e = .returned (.agg #[v1, v2]) ∧ OwnT w' w.heap.size v1 v2 (putIH t.hs kind id lo hi) (putIM t.ms kind id lo hi) ∧ Below w.heap.size w w' := by
  obtain ⟨A, n, c, B, m, d, hs, ms⟩ := t
  dsimp only [TR.v, vAt] at *
  have HOk := Lib.hid h
  have HLh := Lib.hid (show hs.length = n from h.h.len)
  have HLm := Lib.hid (show ms.length = m from h.m.len)
  have HBw : Hid (Below w.heap.size w ((((w.alloc (.cells #[.slice A n c, .slice B m d] 25)).alloc (.cells #[.int .i64 kind, .int .i64 id] 83)).alloc (.cells #[.int .i64 lo, .int .i64 hi] 57)).alloc (.cells #[.slice none 0 0, .slice none 0 0] 25))) := Lib.hid (((((Below.refl w.heap.size w).alloc (Nat.le_refl _) _).alloc (by simp) _).alloc (by simp; omega) _).alloc (by simp; omega) _)
  have HT0 : Hid (Blk ((((w.alloc (.cells #[.slice A n c, .slice B m d] 25)).alloc (.cells #[.int .i64 kind, .int .i64 id] 83)).alloc (.cells #[.int .i64 lo, .int .i64 hi] 57)).alloc (.cells #[.slice none 0 0, .slice none 0 0] 25)) (w.heap.size) 25 #[.slice A n c, .slice B m d]) := Lib.hid ((((Blk.at_new 25 #[.slice A n c, .slice B m d] rfl).alloc _).alloc _).alloc _)
  have HX0 : Hid (Blk ((((w.alloc (.cells #[.slice A n c, .slice B m d] 25)).alloc (.cells #[.int .i64 kind, .int .i64 id] 83)).alloc (.cells #[.int .i64 lo, .int .i64 hi] 57)).alloc (.cells #[.slice none 0 0, .slice none 0 0] 25)) (w.heap.size + 1) 83 #[.int .i64 kind, .int .i64 id]) := Lib.hid (((Blk.at_new 83 #[.int .i64 kind, .int .i64 id] (by simp)).alloc _).alloc _)
  have HS0 : Hid (Blk ((((w.alloc (.cells #[.slice A n c, .slice B m d] 25)).alloc (.cells #[.int .i64 kind, .int .i64 id] 83)).alloc (.cells #[.int .i64 lo, .int .i64 hi] 57)).alloc (.cells #[.slice none 0 0, .slice none 0 0] 25)) (w.heap.size + 1 + 1) 57 #[.int .i64 lo, .int .i64 hi]) := Lib.hid ((Blk.at_new 57 #[.int .i64 lo, .int .i64 hi] (by simp)).alloc _)
  have HR0 : Hid (Blk ((((w.alloc (.cells #[.slice A n c, .slice B m d] 25)).alloc (.cells #[.int .i64 kind, .int .i64 id] 83)).alloc (.cells #[.int .i64 lo, .int .i64 hi] 57)).alloc (.cells #[.slice none 0 0, .slice none 0 0] 25)) (w.heap.size + 1 + 1 + 1) 25 #[.slice none 0 0, .slice none 0 0]) := Lib.hid (Blk.at_new 25 #[.slice none 0 0, .slice none 0 0] (by simp))
  clear h
  go_enter Tryz.func54, Tryz.ntmps54
  go_upto_region 1 with fail
  have hWs : ((((w.alloc (.cells #[.slice A n c, .slice B m d] 25)).alloc (.cells #[.int .i64 kind, .int .i64 id] 83)).alloc (.cells #[.int .i64 lo, .int .i64 hi] 57)).alloc (.cells #[.slice none 0 0, .slice none 0 0] 25)).heap.size = w.heap.size + 4 := by simp
  generalize hW : (((w.alloc (.cells #[.slice A n c, .slice B m d] 25)).alloc (.cells #[.int .i64 kind, .int .i64 id] 83)).alloc (.cells #[.int .i64 lo, .int .i64 hi] 57)).alloc (.cells #[.slice none 0 0, .slice none 0 0] 25) = W at *
  have HWs := Lib.hid hWs
  clear hW hWs
  obtain ⟨i0, hi0, hi1, hi2, hi3⟩ := info_parts info_hd
  obtain ⟨i1, hj0, hj1, hj2, hj3⟩ := info_parts info_mv
  have HIh := Lib.hid (And.intro hi0 (And.intro hi1 (And.intro hi2 hi3)))
  have HIm := Lib.hid (And.intro hj0 (And.intro hj1 (And.intro hj2 hj3)))
  clear hi0 hi1 hi2 hi3 hj0 hj1 hj2 hj3
  refine wp_region_preC 10 [(0, 10), (3, 13), (4, 14), (7, 17), (8, 18), (9, 7)] (fun v => Below W.heap.size W v) (CpP W.heap.size n m hs ms) (by kernel_rfl) (by kernel_rfl) (Below.refl _ _) (fun v v' h kk => h.trans (kk.mono h.size)) (fun v _ => CpP.init) (fun ls vs v v' _ h kk => h.below kk) ?_
  apply Exists.intro
  refine ⟨?walk, ?loud, ?last⟩
  case walk =>
    intro V hV
    have HTv := HT0.out.below hV
    have y0 := HTv.cell 0
    have y1 := HTv.cell 1
    simp only [List.getElem?_toArray, List.getElem?_cons_zero, List.getElem?_cons_succ] at y0 y1
    have yl := HTv.lt
    clear HTv
    obtain ⟨xc, xf'⟩ := xcell (W := V)
    simp only [List.take_succ_cons, List.take_zero, qOf, isLoud, List.any_cons, List.any_nil, Nat.reduceBEq, Bool.or_false, Bool.or_true, Nat.reduceAdd, Bool.false_eq_true, if_true, if_false, beq_self_eq_true, Nat.zero_add]
    repeat (first | go_big_quiet_step (fail) | quiet_step (fail))
    exact wpQuiet_nil rfl
  case loud =>
    rintro pp hpp vs v hC ls hI hls hw o ho
    simp only [List.mem_cons, List.not_mem_nil, or_false] at hpp
    rcases hpp with rfl | rfl | rfl | rfl | rfl | rfl
    · simp only [List.getElem?_cons_zero, Option.some.injEq] at ho
      subst ho
      simp [loudAt, loudUpon, go_sem, execOp, putsL, Act.put]
      exact ⟨hC.alloc hC.size _, hI.s0 hC.size⟩
    · have r0 := hI.b0 (hw (0, 10) (by simp) (by kernel_rfl)) hls
      simp only [List.getElem?_cons_succ, List.getElem?_cons_zero, Option.some.injEq] at ho
      subst ho
      cases A with
      | none =>
        obtain rfl : n = 0 := by
          refine Nat.eq_zero_of_not_pos fun q => ?_
          obtain ⟨b, off, e, _⟩ := HOk.out.h.at_ q
          cases e
        obtain rfl : hs = [] := List.eq_nil_of_length_eq_zero HLh.out
        exact loudAt_append_nil (.tmp 10) (.tmp 12) 22 rfl W.heap.size 118 i0 6 Tryz.underlying22 HIh.out.1 (vs 0) 0 [] rfl r0 c rfl ⟨hC, hI.s3 hls r0 (grown_refl _ _) (by simpa using r0)⟩
      | some a =>
        have hf := ((HOk.out.h.below HBw.out).below hC).flat encH_len (by decide)
        refine loudAt_append (.tmp 10) (.tmp 12) 22 rfl W.heap.size 118 i0 (.agg #[.int .i64 0, .int .i64 0, .int .i64 0, .int .i64 0, .int .i64 0, .int .i64 0]) 6 48 Tryz.underlying22 HIh.out.1 HIh.out.2.1 HIh.out.2.2.1 HIh.out.2.2.2 rfl (by decide) (vs 0) 0 [] rfl r0 a n c (hs.flatMap encH) rfl (by rw [flat_len encH_len, HLh.out]) hf (encH_one hs) (by unfold maxLen; omega) (by omega) hC.size ?_
        intro v' w3 hown hgrow hat
        exact ⟨hC.grown hgrow hC.size (fun r hr => (own_lt r0 hr).1), hI.s3 hls r0 hgrow (by simpa using hown)⟩
    · simp only [List.getElem?_cons_succ, List.getElem?_cons_zero, Option.some.injEq] at ho
      subst ho
      simp [loudAt, loudUpon, go_sem, execOp, putsL, Act.put]
      exact ⟨hC.alloc hC.size _, hI.s4 hC.size⟩
    · have r0 := hI.b4 (hw (4, 14) (by simp) (by kernel_rfl)) hls
      simp only [List.getElem?_cons_succ, List.getElem?_cons_zero, Option.some.injEq] at ho
      subst ho
      cases B with
      | none =>
        obtain rfl : m = 0 := by
          refine Nat.eq_zero_of_not_pos fun q => ?_
          obtain ⟨b, off, e, _⟩ := HOk.out.m.at_ q
          cases e
        obtain rfl : ms = [] := List.eq_nil_of_length_eq_zero HLm.out
        exact loudAt_append_nil (.tmp 14) (.tmp 16) 23 rfl W.heap.size 59 i1 5 Tryz.underlying23 HIm.out.1 (vs 4) 0 [] rfl r0 d rfl ⟨hC, hI.s7 hls r0 (grown_refl _ _) (by simpa using r0)⟩
      | some a =>
        have hf := ((HOk.out.m.below HBw.out).below hC).flat encM_len (by decide)
        refine loudAt_append (.tmp 14) (.tmp 16) 23 rfl W.heap.size 59 i1 (.agg #[.int .i64 0, .int .i64 0, .int .i64 0, .int .i64 0, .int .i64 0]) 5 40 Tryz.underlying23 HIm.out.1 HIm.out.2.1 HIm.out.2.2.1 HIm.out.2.2.2 rfl (by decide) (vs 4) 0 [] rfl r0 a m d (ms.flatMap encM) rfl (by rw [flat_len encM_len, HLm.out]) hf (encM_one ms) (by unfold maxLen; omega) (by omega) hC.size ?_
        intro v' w3 hown hgrow hat
        exact ⟨hC.grown hgrow hC.size (fun r hr => (own_lt r0 hr).1), hI.s7 hls r0 hgrow (by simpa using hown)⟩
    · have h3 := hw (3, 13) (by simp) (by kernel_rfl)
      have h7 := hw (7, 17) (by simp) (by kernel_rfl)
      obtain ⟨A1, c1, e3⟩ := owns_slice (hI.r3 h3)
      obtain ⟨B1, d1, e7⟩ := owns_slice (hI.r7 h7)
      have hI8 := hI.s8 h3 h7
      simp only [List.getElem?_cons_succ, List.getElem?_cons_zero, Option.some.injEq] at ho
      subst ho
      simp [loudAt, loudUpon, go_sem, execOp, putsL, Act.put, e3, e7]
      rw [e3, e7] at hI8
      exact ⟨hC, hI8⟩
    · simp only [List.getElem?_cons_succ, List.getElem?_cons_zero, Option.some.injEq] at ho
      subst ho
      simp [loudAt, loudUpon, go_sem, execOp]
      exact ⟨hC.alloc hC.size _, hI.s9 hC.size⟩
  case last =>
  rintro ls vs V hV hI hls
  have r3 := hI.r3 (hls (3, 13) (by simp))
  have r7 := hI.r7 (hls (7, 17) (by simp))
  obtain ⟨-, -, e8⟩ := hI.p8 (hls (8, 18) (by simp))
  obtain ⟨g, e9, hgL, hbk⟩ := hI.p9 (hls (9, 7) (by simp))
  obtain ⟨A1, c1, e3⟩ := owns_slice r3
  obtain ⟨B1, d1, e7⟩ := owns_slice r7
  rw [e3, e7] at e8
  rw [e3] at r3
  rw [e7] at r7
  have HVb := Lib.hid hV
  have HVg := Lib.hid hgL
  have HVk := Lib.hid hbk
  have HVh := Lib.hid r3
  have HVm := Lib.hid r7
  clear hI hls hV hgL hbk r3 r7
  simp only [putsL, List.foldl_cons, List.foldl_nil, List.drop_succ_cons, List.drop_zero, Act.put, e3, e7, e8, e9, List.setIfInBounds_toArray, List.set_cons_succ, List.set_cons_zero]
  generalize vs 0 = v0 at *
  generalize vs 4 = v4 at *
  clear e3 e7 e8 e9
  have k0 := HVk.out.cell 0
  have k1 := HVk.out.cell 1
  simp only [List.getElem?_toArray, List.getElem?_cons_zero, List.getElem?_cons_succ] at k0 k1
  have kl := HVk.out.lt
  have kf0 := HVk.out.frozen 0
  have kf1 := HVk.out.frozen 1
  have hWs := HWs.out
  have hgL := HVg.out
  have hgr := grown_set2 V g (.slice A1 n c1) (.slice B1 m d1)
  have hnh := own_ne HVh.out HVk.out (by decide)
  have hnm := own_ne HVm.out HVk.out (by decide)
  have HB1 := Lib.hid (below_set2 (HBw.out.trans (HVb.out.mono HBw.out.size)) (g := g) (by omega) (.slice A1 n c1) (.slice B1 m d1))
  have HT1 := Lib.hid ((HT0.out.below HVb.out).grown hgr (fun e => by have e2 := Option.some.inj e; omega))
  have HX1 := Lib.hid ((HX0.out.below HVb.out).grown hgr (fun e => by have e2 := Option.some.inj e; omega))
  have HS1 := Lib.hid ((HS0.out.below HVb.out).grown hgr (fun e => by have e2 := Option.some.inj e; omega))
  have HR1 := Lib.hid ((HR0.out.below HVb.out).grown hgr (fun e => by have e2 := Option.some.inj e; omega))
  have HQ1 := Lib.hid (blk_set2 HVk.out (.slice A1 n c1) (.slice B1 m d1))
  have HH1 := Lib.hid (owns_grown HVh.out hgr (fun r hr e => hnh (by rw [hr, ← e])))
  have HM1 := Lib.hid (owns_grown HVm.out hgr (fun r hr e => hnm (by rw [hr, ← e])))
  clear hgr hnh hnm HVb HVk HVh HVm HBw HT0 HX0 HS0 HR0
  go_upto_region 3 with fail
  clear k0 k1 kl kf0 kf1
  generalize hV1 : (V.setCell ⟨g, 0, none⟩ (.slice A1 n c1)).setCell ⟨g, 1, none⟩ (.slice B1 m d1) = V1 at *
  generalize hL : W.heap.size = L at *
  have HVg2 := Lib.hid hgL
  have HWs2 := Lib.hid hWs
  clear hV1 hL HVg HWs
  go_loopw [8] (fun i wx => ∃ k : Nat, k ≤ m ∧ i = .int .i64 (k : Int) ∧ wx.ownsRow L 59 5 (.slice B1 m d1) m ((mapT (fM kind id lo hi) ms k).flatMap encM) ∧ wx.ownsRow L 118 6 (.slice A1 n c1) n (hs.flatMap encH) ∧ Below w.heap.size w wx ∧ Blk wx w.heap.size 25 #[.slice A n c, .slice B m d] ∧ Blk wx (w.heap.size + 1) 83 #[.int .i64 kind, .int .i64 id] ∧ Blk wx (w.heap.size + 1 + 1) 57 #[.int .i64 lo, .int .i64 hi] ∧ Blk wx (w.heap.size + 1 + 1 + 1) 25 #[.slice none 0 0, .slice none 0 0] ∧ Blk wx g 25 #[.slice A1 n c1, .slice B1 m d1]) (fun i _ => m - (intOf i).toNat)
  case atStart => exact ⟨0, Nat.zero_le _, rfl, by rw [mapT_zero]; exact HM1.out, HH1.out, HB1.out, HT1.out, HX1.out, HS1.out, HR1.out, HQ1.out⟩
  case round =>
    clear HM1 HH1 HB1 HT1 HX1 HS1 HR1 HQ1
    obtain ⟨k, hk, rfl, om, oh, hb, ht, hx, hs', hr, hq⟩ := hrel
    have OM := Lib.hid om
    have OH := Lib.hid oh
    have HBk := Lib.hid hb
    have HTk := Lib.hid ht
    have HXk := Lib.hid hx
    have HSk := Lib.hid hs'
    have HRk := Lib.hid hr
    have HQk := Lib.hid hq
    clear om oh hb ht hx hs' hr hq
    have y0 := HXk.out.cell 0
    have y1 := HXk.out.cell 1
    have q0 := HQk.out.cell 0
    have q1 := HQk.out.cell 1
    have s0 := HSk.out.cell 0
    have s1 := HSk.out.cell 1
    simp only [List.getElem?_toArray, List.getElem?_cons_zero, List.getElem?_cons_succ] at y0 y1 q0 q1 s0 s1
    have yl := HXk.out.lt
    have ql := HQk.out.lt
    have sl := HSk.out.lt
    by_cases hkm : k < m
    case pos =>
      have hkl : k < ms.length := by rw [HLm.out]; exact hkm
      by_cases ck : kind = 1
      case neg =>
        have ckb : (kind == 1) = false := by simpa using ck
        have HSm := Lib.hid (mapT_same (f := fM kind id lo hi) hkl (by unfold fM; rw [if_neg (fun q => ck q.1)]))
        clear ck
        go_upto_region 5 with fail
        obtain ⟨xc, xf'⟩ := xcell (W := wr)
        refine wp_region_quiet_tail 14 (by kernel_rfl) (by kernel_rfl) ?_
        simp only [List.take_succ_cons, List.take_zero, List.drop_succ_cons, List.drop_zero]
        repeat (first | go_big_quiet_step (fail) | quiet_step (fail))
        refine wpQuiet_nil ?_
        intro w5 hb5
        clear y0 y1 q0 q1 s0 s1 yl ql sl xc xf'
        go_wp2
        go_roundw
        case rel => exact ⟨k + 1, by omega, by go_num, by rw [HSm.out]; exact owns_below OM.out hb5, owns_below OH.out hb5, HBk.out.trans (hb5.mono HBk.out.size), HTk.out.below hb5, HXk.out.below hb5, HSk.out.below hb5, HRk.out.below hb5, HQk.out.below hb5⟩
        case measure => simp [intOf]; omega
      case pos =>
        have ckb : (kind == 1) = true := by simpa using ck
        obtain ⟨gb, hgb'⟩ := form_some OM.out
        obtain rfl := hgb' (by omega)
        have hrow := Ls_of_row (enc := encM) (zs := mapT (fM kind id lo hi) ms k) encM_len (by rw [mapT_len]; exact HLm.out) OM.out
        obtain ⟨u0, u1, u2, u3, u4⟩ := Mvs.at_ hrow (List.getElem?_eq_getElem (by rw [mapT_len]; exact hkl))
        rw [mapT_at hkl] at u0 u1 u2 u3 u4
        simp only [Nat.zero_add] at u0 u1 u2 u3 u4
        have ul := hrow.lt
        obtain ⟨mm, hmm⟩ : ∃ x, ms[k] = x := ⟨_, rfl⟩
        rw [hmm] at u0 u1 u2 u3 u4
        have HMe := Lib.hid (show ms[k]'hkl = mm from hmm)
        obtain ⟨xi, xf, xt, xl, xh⟩ := mm
        dsimp only at u0 u1 u2 u3 u4
        have HCk := Lib.hid ck
        clear hrow hmm hgb' ck u1 u2 u3 u4
        go_upto_region 5 with fail
        obtain ⟨xc, xf'⟩ := xcell (W := wr)
        refine wp_region_quiet_tail 14 (by kernel_rfl) (by kernel_rfl) ?_
        simp only [List.take_succ_cons, List.take_zero, List.drop_succ_cons, List.drop_zero]
        repeat (first | go_big_quiet_step (fail) | quiet_step (fail))
        refine wpQuiet_nil ?_
        intro w5 hb5
        have OM5 := Lib.hid (owns_below OM.out hb5)
        have OH5 := Lib.hid (owns_below OH.out hb5)
        have HB5 := Lib.hid (HBk.out.trans (hb5.mono HBk.out.size))
        have HT5 := Lib.hid (HTk.out.below hb5)
        have HX5 := Lib.hid (HXk.out.below hb5)
        have HS5 := Lib.hid (HSk.out.below hb5)
        have HR5 := Lib.hid (HRk.out.below hb5)
        have HQ5 := Lib.hid (HQk.out.below hb5)
        clear y0 y1 q0 q1 s0 s1 yl ql sl u0 ul xc xf' hb5
        by_cases c1 : xi = id
        case neg =>
          rw [show (xi == id) = false by simpa using c1]
          have HSm := Lib.hid (mapT_same (f := fM kind id lo hi) hkl (by unfold fM; rw [if_neg (fun q => c1 (by rw [HMe.out] at q; exact q.2))]))
          clear c1
          go_wp2
          go_roundw
          case rel => exact ⟨k + 1, by omega, by go_num, by rw [HSm.out]; exact OM5.out, OH5.out, HB5.out, HT5.out, HX5.out, HS5.out, HR5.out, HQ5.out⟩
          case measure => simp [intOf]; omega
        case pos =>
          rw [show (xi == id) = true by simpa using c1]
          have hst := mapT_step (f := fM kind id lo hi) hkl
          rw [HMe.out, show fM kind id lo hi ⟨xi, xf, xt, xl, xh⟩ = setM lo hi ⟨xi, xf, xt, xl, xh⟩ from by unfold fM; rw [if_pos ⟨HCk.out, c1⟩]] at hst
          have HSt := Lib.hid hst
          have q0 := HQ5.out.cell 0
          have q1 := HQ5.out.cell 1
          have s0 := HS5.out.cell 0
          have s1 := HS5.out.cell 1
          simp only [List.getElem?_toArray, List.getElem?_cons_zero, List.getElem?_cons_succ] at q0 q1 s0 s1
          have ql := HQ5.out.lt
          have sl := HS5.out.lt
          have hrow := Ls_of_row (enc := encM) (zs := mapT (fM kind id lo hi) ms k) encM_len (by rw [mapT_len]; exact HLm.out) OM5.out
          obtain ⟨u0, u1, u2, u3, u4⟩ := Mvs.at_ hrow (List.getElem?_eq_getElem (by rw [mapT_len]; exact hkl))
          simp only [Nat.zero_add] at u3 u4
          have ul := hrow.lt
          obtain ⟨cur0, hb0⟩ := own_blk OM5.out (g := gb) rfl
          have fb1 : w5.frozen? ⟨gb, k * 5 + 3, none⟩ = false := Blk.frozen (show Blk w5 gb _ cur0 from hb0) _
          have fb2 : w5.frozen? ⟨gb, k * 5 + 3 + 1, none⟩ = false := Blk.frozen (show Blk w5 gb _ cur0 from hb0) _
          have hgb2 : L ≤ gb := (own_lt OM5.out (g := gb) rfl).1
          have hnm := own_ne2 OH5.out OM5.out (by decide) (g := gb) rfl
          have hnq : g ≠ gb := fun e => own_ne OM5.out HQ5.out (by decide) (by rw [e]; rfl)
          have hws := HWs2.out
          clear hrow hst u0 u1 u2 hb0 c1
          go_wp2
          go_roundw
          case rel =>
            have k1 := owns_set OM5.out (k * 5 + 3) (by rw [flat_len encM_len, mapT_len]; omega) (.int .i64 lo)
            have k2 := owns_set k1 (k * 5 + 4) (by rw [List.length_set, flat_len encM_len, mapT_len]; omega) (.int .i64 hi)
            rw [flat_setM _ _ _ _ (by rw [mapT_len]; exact hkl), modify_at (by rw [mapT_len]; exact hkl), mapT_at hkl, HMe.out, ← HSt.out] at k2
            have g2 := grown_trans (grownBy_set w5 gb (k * 5 + 3) (.int .i64 lo)) (grownBy_set _ gb (k * 5 + 4) (.int .i64 hi))
            refine ⟨k + 1, by omega, by go_num, k2, owns_grown OH5.out g2 (fun r hr e => hnm (by rw [hr, ← e])), (HB5.out.setCell (p := ⟨gb, k * 5 + 3, none⟩) (by simp; omega) _).setCell (p := ⟨gb, k * 5 + 4, none⟩) (by simp; omega) _, HT5.out.grown g2 (fun e => by have e2 := Option.some.inj e; omega), HX5.out.grown g2 (fun e => by have e2 := Option.some.inj e; omega), HS5.out.grown g2 (fun e => by have e2 := Option.some.inj e; omega), HR5.out.grown g2 (fun e => by have e2 := Option.some.inj e; omega), HQ5.out.grown g2 (fun e => hnq (Option.some.inj e).symm)⟩
          case measure => simp [intOf]; omega
    case neg =>
      have HE := Lib.hid (show mapT (fM kind id lo hi) ms k = putIM ms kind id lo hi by rw [mapT_end (by rw [HLm.out]; omega)]; rfl)
      have HM1 := Lib.hid (show wr.ownsRow L 59 5 (.slice B1 m d1) m ((putIM ms kind id lo hi).flatMap encM) by rw [← HE.out]; exact OM.out)
      have HLp := Lib.hid (show (putIM ms kind id lo hi).length = m by unfold putIM; rw [List.length_map]; exact HLm.out)
      clear OM HE
      go_upto_region 8 with fail
      clear y0 y1 q0 q1 s0 s1 yl ql sl
      go_loopw [9] (fun i wx => ∃ j : Nat, j ≤ n ∧ i = .int .i64 (j : Int) ∧ wx.ownsRow L 118 6 (.slice A1 n c1) n ((mapT (fH kind id lo hi) hs j).flatMap encH) ∧ wx.ownsRow L 59 5 (.slice B1 m d1) m ((putIM ms kind id lo hi).flatMap encM) ∧ Below w.heap.size w wx ∧ Blk wx w.heap.size 25 #[.slice A n c, .slice B m d] ∧ Blk wx (w.heap.size + 1) 83 #[.int .i64 kind, .int .i64 id] ∧ Blk wx (w.heap.size + 1 + 1) 57 #[.int .i64 lo, .int .i64 hi] ∧ Blk wx (w.heap.size + 1 + 1 + 1) 25 #[.slice none 0 0, .slice none 0 0] ∧ Blk wx g 25 #[.slice A1 n c1, .slice B1 m d1]) (fun i _ => n - (intOf i).toNat)
      case atStart => exact ⟨0, Nat.zero_le _, rfl, by rw [mapT_zero]; exact OH.out, HM1.out, HBk.out, HTk.out, HXk.out, HSk.out, HRk.out, HQk.out⟩
      case round =>
        clear HM1 OH HBk HTk HXk HSk HRk HQk
        obtain ⟨j, hj, rfl, oh, om, hb, ht, hx, hs', hr, hq⟩ := hrel
        have OM := Lib.hid om
        have OH := Lib.hid oh
        have HBk := Lib.hid hb
        have HTk := Lib.hid ht
        have HXk := Lib.hid hx
        have HSk := Lib.hid hs'
        have HRk := Lib.hid hr
        have HQk := Lib.hid hq
        clear om oh hb ht hx hs' hr hq
        have y0 := HXk.out.cell 0
        have y1 := HXk.out.cell 1
        have q0 := HQk.out.cell 0
        have q1 := HQk.out.cell 1
        have s0 := HSk.out.cell 0
        have s1 := HSk.out.cell 1
        simp only [List.getElem?_toArray, List.getElem?_cons_zero, List.getElem?_cons_succ] at y0 y1 q0 q1 s0 s1
        have yl := HXk.out.lt
        have ql := HQk.out.lt
        have sl := HSk.out.lt
        by_cases hjn : j < n
        case pos =>
          have hjl : j < hs.length := by rw [HLh.out]; exact hjn
          obtain ⟨ga, hga'⟩ := form_some OH.out
          obtain rfl := hga' (by omega)
          have hrow := Ls_of_row (enc := encH) (zs := mapT (fH kind id lo hi) hs j) encH_len (by rw [mapT_len]; exact HLh.out) OH.out
          obtain ⟨u0, u1, u2, u3, u4, u5⟩ := Hds.at_ hrow (List.getElem?_eq_getElem (by rw [mapT_len]; exact hjl))
          rw [mapT_at hjl] at u0 u1 u2 u3 u4 u5
          simp only [Nat.zero_add] at u0 u1 u2 u3 u4 u5
          have ul := hrow.lt
          obtain ⟨x, hx⟩ : ∃ x, hs[j] = x := ⟨_, rfl⟩
          rw [hx] at u0 u1 u2 u3 u4 u5
          have HMe := Lib.hid (show hs[j]'hjl = x from hx)
          obtain ⟨xi, xsl, xsh, xel, xeh, xbk⟩ := x
          dsimp only at u0 u1 u2 u3 u4 u5
          clear hrow hx hga' u1 u2 u3 u4 u5
          go_upto_region 10 with fail
          by_cases ck : kind = 2 ∧ xi = id
          case pos =>
            have hst := mapT_step (f := fH kind id lo hi) hjl
            rw [HMe.out, show fH kind id lo hi ⟨xi, xsl, xsh, xel, xeh, xbk⟩ = setS lo hi ⟨xi, xsl, xsh, xel, xeh, xbk⟩ from by unfold fH; rw [if_pos ck]] at hst
            have HSt := Lib.hid hst
            clear hst
            have ckb : (kind == 2) = true := by simpa using ck.1
            have cib : (xi == id) = true := by simpa using ck.2
            have ck3b : (kind == 3) = false := by have := ck.1; simp; omega
            clear ck
            obtain ⟨xc, xf'⟩ := xcell (W := wr)
            refine wp_region_quiet_tail 14 (by kernel_rfl) (by kernel_rfl) ?_
            simp only [List.take_succ_cons, List.take_zero, List.drop_succ_cons, List.drop_zero]
            repeat (first | go_big_quiet_step (fail) | quiet_step (fail))
            refine wpQuiet_nil ?_
            intro w5 hb5
            have OM5 := Lib.hid (owns_below OM.out hb5)
            have OH5 := Lib.hid (owns_below OH.out hb5)
            have HB5 := Lib.hid (HBk.out.trans (hb5.mono HBk.out.size))
            have HT5 := Lib.hid (HTk.out.below hb5)
            have HX5 := Lib.hid (HXk.out.below hb5)
            have HS5 := Lib.hid (HSk.out.below hb5)
            have HR5 := Lib.hid (HRk.out.below hb5)
            have HQ5 := Lib.hid (HQk.out.below hb5)
            clear y0 y1 q0 q1 s0 s1 yl ql sl u0 ul xc xf' hb5
            have q0 := HQ5.out.cell 0
            have q1 := HQ5.out.cell 1
            have s0 := HS5.out.cell 0
            have s1 := HS5.out.cell 1
            simp only [List.getElem?_toArray, List.getElem?_cons_zero, List.getElem?_cons_succ] at q0 q1 s0 s1
            have ql := HQ5.out.lt
            have sl := HS5.out.lt
            have hrow := Ls_of_row (enc := encH) (zs := mapT (fH kind id lo hi) hs j) encH_len (by rw [mapT_len]; exact HLh.out) OH5.out
            obtain ⟨u0, u1, u2, u3, u4, u5⟩ := Hds.at_ hrow (List.getElem?_eq_getElem (by rw [mapT_len]; exact hjl))
            rw [mapT_at hjl, HMe.out] at u0 u1 u2 u3 u4 u5
            simp only [Nat.zero_add] at u0 u1 u2 u3 u4 u5
            have ul := hrow.lt
            clear hrow
            obtain ⟨cur0, hb0⟩ := own_blk OH5.out (g := ga) rfl
            have fb1 : w5.frozen? ⟨ga, j * 6 + 1, none⟩ = false := Blk.frozen (show Blk w5 ga _ cur0 from hb0) _
            have fb2 : w5.frozen? ⟨ga, j * 6 + 1 + 1, none⟩ = false := Blk.frozen (show Blk w5 ga _ cur0 from hb0) _
            have hga2 : L ≤ ga := (own_lt OH5.out (g := ga) rfl).1
            have hnm := own_ne2 OM5.out OH5.out (by decide) (g := ga) rfl
            have hnq : g ≠ ga := fun e => own_ne OH5.out HQ5.out (by decide) (by rw [e]; rfl)
            have hws := HWs2.out
            clear hb0
            go_upto_region 12 with fail
            have k1 := owns_set OH5.out (j * 6 + 1) (by rw [flat_len encH_len, mapT_len]; omega) (.int .i64 lo)
            have k2 := owns_set k1 (j * 6 + 2) (by rw [List.length_set, flat_len encH_len, mapT_len]; omega) (.int .i64 hi)
            rw [flat_setS _ _ _ _ (by rw [mapT_len]; exact hjl), modify_at (by rw [mapT_len]; exact hjl), mapT_at hjl, HMe.out, ← HSt.out] at k2
            have g2 := grown_trans (grownBy_set w5 ga (j * 6 + 1) (.int .i64 lo)) (grownBy_set _ ga (j * 6 + 2) (.int .i64 hi))
            have OH6 := Lib.hid k2
            have OM6 := Lib.hid (owns_grown OM5.out g2 (fun r hr e => hnm (by rw [hr, ← e])))
            have HB6 := Lib.hid ((HB5.out.setCell (p := ⟨ga, j * 6 + 1, none⟩) (by simp; omega) (.int .i64 lo)).setCell (p := ⟨ga, j * 6 + 2, none⟩) (by simp; omega) (.int .i64 hi))
            have HT6 := Lib.hid (HT5.out.grown g2 (fun e => by have e2 := Option.some.inj e; omega))
            have HX6 := Lib.hid (HX5.out.grown g2 (fun e => by have e2 := Option.some.inj e; omega))
            have HS6 := Lib.hid (HS5.out.grown g2 (fun e => by have e2 := Option.some.inj e; omega))
            have HR6 := Lib.hid (HR5.out.grown g2 (fun e => by have e2 := Option.some.inj e; omega))
            have HQ6 := Lib.hid (HQ5.out.grown g2 (fun e => hnq (Option.some.inj e).symm))
            clear k1 k2 g2 fb1 fb2 q0 q1 s0 s1 ql sl u0 u1 u2 u3 u4 u5 ul
            generalize (w5.setCell ⟨ga, j * 6 + 1, none⟩ (.int .i64 lo)).setCell ⟨ga, j * 6 + 2, none⟩ (.int .i64 hi) = V6 at *
            have q0 := HQ6.out.cell 0
            have q1 := HQ6.out.cell 1
            have y0 := HX6.out.cell 0
            have y1 := HX6.out.cell 1
            simp only [List.getElem?_toArray, List.getElem?_cons_zero, List.getElem?_cons_succ] at q0 q1 y0 y1
            have ql := HQ6.out.lt
            have yl := HX6.out.lt
            obtain ⟨xc, xf'⟩ := xcell (W := V6)
            refine wp_region_quiet_tail 14 (by kernel_rfl) (by kernel_rfl) ?_
            simp only [List.take_succ_cons, List.take_zero, List.drop_succ_cons, List.drop_zero]
            repeat (first | go_big_quiet_step (fail) | quiet_step (fail))
            refine wpQuiet_nil ?_
            intro w7 hb7
            have OM7 := Lib.hid (owns_below OM6.out hb7)
            have OH7 := Lib.hid (owns_below OH6.out hb7)
            have HB7 := Lib.hid (HB6.out.trans (hb7.mono HB6.out.size))
            have HT7 := Lib.hid (HT6.out.below hb7)
            have HX7 := Lib.hid (HX6.out.below hb7)
            have HS7 := Lib.hid (HS6.out.below hb7)
            have HR7 := Lib.hid (HR6.out.below hb7)
            have HQ7 := Lib.hid (HQ6.out.below hb7)
            clear q0 q1 y0 y1 ql yl xc xf' hb7
            go_wp2
            go_roundw
            case rel => exact ⟨j + 1, by omega, by go_num, OH7.out, OM7.out, HB7.out, HT7.out, HX7.out, HS7.out, HR7.out, HQ7.out⟩
            case measure => simp [intOf]; omega
          case neg =>
            by_cases ck3 : kind = 3 ∧ xi = id
            case pos =>
              have hst := mapT_step (f := fH kind id lo hi) hjl
              rw [HMe.out, show fH kind id lo hi ⟨xi, xsl, xsh, xel, xeh, xbk⟩ = setE lo hi ⟨xi, xsl, xsh, xel, xeh, xbk⟩ from by unfold fH; rw [if_neg ck, if_pos ck3]] at hst
              have HSt := Lib.hid hst
              clear hst
              have ckb : (kind == 2) = false := by have := ck3.1; simp; omega
              have cib : (xi == id) = true := by simpa using ck3.2
              have ck3b : (kind == 3) = true := by simpa using ck3.1
              clear ck ck3
              obtain ⟨xc, xf'⟩ := xcell (W := wr)
              refine wp_region_quiet_tail 14 (by kernel_rfl) (by kernel_rfl) ?_
              simp only [List.take_succ_cons, List.take_zero, List.drop_succ_cons, List.drop_zero]
              repeat (first | go_big_quiet_step (fail) | quiet_step (fail))
              refine wpQuiet_nil ?_
              intro w5 hb5
              have OM5 := Lib.hid (owns_below OM.out hb5)
              have OH5 := Lib.hid (owns_below OH.out hb5)
              have HB5 := Lib.hid (HBk.out.trans (hb5.mono HBk.out.size))
              have HT5 := Lib.hid (HTk.out.below hb5)
              have HX5 := Lib.hid (HXk.out.below hb5)
              have HS5 := Lib.hid (HSk.out.below hb5)
              have HR5 := Lib.hid (HRk.out.below hb5)
              have HQ5 := Lib.hid (HQk.out.below hb5)
              clear y0 y1 q0 q1 s0 s1 yl ql sl u0 ul xc xf' hb5
              have q0 := HQ5.out.cell 0
              have q1 := HQ5.out.cell 1
              have y0 := HX5.out.cell 0
              have y1 := HX5.out.cell 1
              simp only [List.getElem?_toArray, List.getElem?_cons_zero, List.getElem?_cons_succ] at q0 q1 y0 y1
              have ql := HQ5.out.lt
              have yl := HX5.out.lt
              have hrow := Ls_of_row (enc := encH) (zs := mapT (fH kind id lo hi) hs j) encH_len (by rw [mapT_len]; exact HLh.out) OH5.out
              obtain ⟨u0, u1, u2, u3, u4, u5⟩ := Hds.at_ hrow (List.getElem?_eq_getElem (by rw [mapT_len]; exact hjl))
              rw [mapT_at hjl, HMe.out] at u0 u1 u2 u3 u4 u5
              simp only [Nat.zero_add] at u0 u1 u2 u3 u4 u5
              have ul := hrow.lt
              clear hrow
              go_upto_region 12 with fail
              obtain ⟨xc, xf'⟩ := xcell (W := w5)
              refine wp_region_quiet_tail 14 (by kernel_rfl) (by kernel_rfl) ?_
              simp only [List.take_succ_cons, List.take_zero, List.drop_succ_cons, List.drop_zero]
              repeat (first | go_big_quiet_step (fail) | quiet_step (fail))
              refine wpQuiet_nil ?_
              intro w6 hb6
              have OM6 := Lib.hid (owns_below OM5.out hb6)
              have OH6 := Lib.hid (owns_below OH5.out hb6)
              have HB6 := Lib.hid (HB5.out.trans (hb6.mono HB5.out.size))
              have HT6 := Lib.hid (HT5.out.below hb6)
              have HX6 := Lib.hid (HX5.out.below hb6)
              have HS6 := Lib.hid (HS5.out.below hb6)
              have HR6 := Lib.hid (HR5.out.below hb6)
              have HQ6 := Lib.hid (HQ5.out.below hb6)
              clear q0 q1 y0 y1 ql yl u0 u1 u2 u3 u4 u5 ul xc xf' hb6
              have q0 := HQ6.out.cell 0
              have q1 := HQ6.out.cell 1
              have s0 := HS6.out.cell 0
              have s1 := HS6.out.cell 1
              simp only [List.getElem?_toArray, List.getElem?_cons_zero, List.getElem?_cons_succ] at q0 q1 s0 s1
              have ql := HQ6.out.lt
              have sl := HS6.out.lt
              have hrow := Ls_of_row (enc := encH) (zs := mapT (fH kind id lo hi) hs j) encH_len (by rw [mapT_len]; exact HLh.out) OH6.out
              obtain ⟨u0, u1, u2, u3, u4, u5⟩ := Hds.at_ hrow (List.getElem?_eq_getElem (by rw [mapT_len]; exact hjl))
              rw [mapT_at hjl, HMe.out] at u0 u1 u2 u3 u4 u5
              simp only [Nat.zero_add] at u0 u1 u2 u3 u4 u5
              have ul := hrow.lt
              clear hrow
              obtain ⟨cur0, hb0⟩ := own_blk OH6.out (g := ga) rfl
              have fb1 : w6.frozen? ⟨ga, j * 6 + 3, none⟩ = false := Blk.frozen (show Blk w6 ga _ cur0 from hb0) _
              have fb2 : w6.frozen? ⟨ga, j * 6 + 3 + 1, none⟩ = false := Blk.frozen (show Blk w6 ga _ cur0 from hb0) _
              have hga2 : L ≤ ga := (own_lt OH6.out (g := ga) rfl).1
              have hnm := own_ne2 OM6.out OH6.out (by decide) (g := ga) rfl
              have hnq : g ≠ ga := fun e => own_ne OH6.out HQ6.out (by decide) (by rw [e]; rfl)
              have hws := HWs2.out
              clear hb0
              go_wp2
              go_roundw
              case rel =>
                have k1 := owns_set OH6.out (j * 6 + 3) (by rw [flat_len encH_len, mapT_len]; omega) (.int .i64 lo)
                have k2 := owns_set k1 (j * 6 + 4) (by rw [List.length_set, flat_len encH_len, mapT_len]; omega) (.int .i64 hi)
                rw [flat_setE _ _ _ _ (by rw [mapT_len]; exact hjl), modify_at (by rw [mapT_len]; exact hjl), mapT_at hjl, HMe.out, ← HSt.out] at k2
                have g2 := grown_trans (grownBy_set w6 ga (j * 6 + 3) (.int .i64 lo)) (grownBy_set _ ga (j * 6 + 4) (.int .i64 hi))
                exact ⟨j + 1, by omega, by go_num, k2, owns_grown OM6.out g2 (fun r hr e => hnm (by rw [hr, ← e])), (HB6.out.setCell (p := ⟨ga, j * 6 + 3, none⟩) (by simp; omega) _).setCell (p := ⟨ga, j * 6 + 4, none⟩) (by simp; omega) _, HT6.out.grown g2 (fun e => by have e2 := Option.some.inj e; omega), HX6.out.grown g2 (fun e => by have e2 := Option.some.inj e; omega), HS6.out.grown g2 (fun e => by have e2 := Option.some.inj e; omega), HR6.out.grown g2 (fun e => by have e2 := Option.some.inj e; omega), HQ6.out.grown g2 (fun e => hnq (Option.some.inj e).symm)⟩
              case measure => simp [intOf]; omega
            case neg =>
              have HSm := Lib.hid (mapT_same (f := fH kind id lo hi) hjl (by unfold fH; rw [HMe.out, if_neg ck, if_neg ck3]))
              by_cases c2 : kind = 2
              case pos =>
                have ckb : (kind == 2) = true := by simpa using c2
                have cib : (xi == id) = false := by simp; exact fun e => ck ⟨c2, e⟩
                have ck3b : (kind == 3) = false := by simp; omega
                clear ck ck3 c2
                obtain ⟨xc, xf'⟩ := xcell (W := wr)
                refine wp_region_quiet_tail 14 (by kernel_rfl) (by kernel_rfl) ?_
                simp only [List.take_succ_cons, List.take_zero, List.drop_succ_cons, List.drop_zero]
                repeat (first | go_big_quiet_step (fail) | quiet_step (fail))
                refine wpQuiet_nil ?_
                intro w5 hb5
                have OM5 := Lib.hid (owns_below OM.out hb5)
                have OH5 := Lib.hid (owns_below OH.out hb5)
                have HB5 := Lib.hid (HBk.out.trans (hb5.mono HBk.out.size))
                have HT5 := Lib.hid (HTk.out.below hb5)
                have HX5 := Lib.hid (HXk.out.below hb5)
                have HS5 := Lib.hid (HSk.out.below hb5)
                have HR5 := Lib.hid (HRk.out.below hb5)
                have HQ5 := Lib.hid (HQk.out.below hb5)
                clear y0 y1 q0 q1 s0 s1 yl ql sl u0 ul xc xf' hb5
                have q0 := HQ5.out.cell 0
                have q1 := HQ5.out.cell 1
                have y0 := HX5.out.cell 0
                have y1 := HX5.out.cell 1
                simp only [List.getElem?_toArray, List.getElem?_cons_zero, List.getElem?_cons_succ] at q0 q1 y0 y1
                have ql := HQ5.out.lt
                have yl := HX5.out.lt
                have hrow := Ls_of_row (enc := encH) (zs := mapT (fH kind id lo hi) hs j) encH_len (by rw [mapT_len]; exact HLh.out) OH5.out
                obtain ⟨u0, u1, u2, u3, u4, u5⟩ := Hds.at_ hrow (List.getElem?_eq_getElem (by rw [mapT_len]; exact hjl))
                rw [mapT_at hjl, HMe.out] at u0 u1 u2 u3 u4 u5
                simp only [Nat.zero_add] at u0 u1 u2 u3 u4 u5
                have ul := hrow.lt
                clear hrow
                go_upto_region 12 with fail
                obtain ⟨xc, xf'⟩ := xcell (W := w5)
                refine wp_region_quiet_tail 14 (by kernel_rfl) (by kernel_rfl) ?_
                simp only [List.take_succ_cons, List.take_zero, List.drop_succ_cons, List.drop_zero]
                repeat (first | go_big_quiet_step (fail) | quiet_step (fail))
                refine wpQuiet_nil ?_
                intro w6 hb6
                have OM6 := Lib.hid (owns_below OM5.out hb6)
                have OH6 := Lib.hid (owns_below OH5.out hb6)
                have HB6 := Lib.hid (HB5.out.trans (hb6.mono HB5.out.size))
                have HT6 := Lib.hid (HT5.out.below hb6)
                have HX6 := Lib.hid (HX5.out.below hb6)
                have HS6 := Lib.hid (HS5.out.below hb6)
                have HR6 := Lib.hid (HR5.out.below hb6)
                have HQ6 := Lib.hid (HQ5.out.below hb6)
                clear q0 q1 y0 y1 ql yl u0 u1 u2 u3 u4 u5 ul xc xf' hb6
                go_wp2
                go_roundw
                case rel => exact ⟨j + 1, by omega, by go_num, by rw [HSm.out]; exact OH6.out, OM6.out, HB6.out, HT6.out, HX6.out, HS6.out, HR6.out, HQ6.out⟩
                case measure => simp [intOf]; omega
              case neg =>
                have ckb : (kind == 2) = false := by simpa using c2
                by_cases c3 : kind = 3
                case pos =>
                  have ck3b : (kind == 3) = true := by simpa using c3
                  have cib : (xi == id) = false := by simp; exact fun e => ck3 ⟨c3, e⟩
                  clear ck ck3 c2 c3
                  obtain ⟨xc, xf'⟩ := xcell (W := wr)
                  refine wp_region_quiet_tail 14 (by kernel_rfl) (by kernel_rfl) ?_
                  simp only [List.take_succ_cons, List.take_zero, List.drop_succ_cons, List.drop_zero]
                  repeat (first | go_big_quiet_step (fail) | quiet_step (fail))
                  refine wpQuiet_nil ?_
                  intro w5 hb5
                  have OM5 := Lib.hid (owns_below OM.out hb5)
                  have OH5 := Lib.hid (owns_below OH.out hb5)
                  have HB5 := Lib.hid (HBk.out.trans (hb5.mono HBk.out.size))
                  have HT5 := Lib.hid (HTk.out.below hb5)
                  have HX5 := Lib.hid (HXk.out.below hb5)
                  have HS5 := Lib.hid (HSk.out.below hb5)
                  have HR5 := Lib.hid (HRk.out.below hb5)
                  have HQ5 := Lib.hid (HQk.out.below hb5)
                  clear y0 y1 q0 q1 s0 s1 yl ql sl u0 ul xc xf' hb5
                  have q0 := HQ5.out.cell 0
                  have q1 := HQ5.out.cell 1
                  have y0 := HX5.out.cell 0
                  have y1 := HX5.out.cell 1
                  simp only [List.getElem?_toArray, List.getElem?_cons_zero, List.getElem?_cons_succ] at q0 q1 y0 y1
                  have ql := HQ5.out.lt
                  have yl := HX5.out.lt
                  have hrow := Ls_of_row (enc := encH) (zs := mapT (fH kind id lo hi) hs j) encH_len (by rw [mapT_len]; exact HLh.out) OH5.out
                  obtain ⟨u0, u1, u2, u3, u4, u5⟩ := Hds.at_ hrow (List.getElem?_eq_getElem (by rw [mapT_len]; exact hjl))
                  rw [mapT_at hjl, HMe.out] at u0 u1 u2 u3 u4 u5
                  simp only [Nat.zero_add] at u0 u1 u2 u3 u4 u5
                  have ul := hrow.lt
                  clear hrow
                  go_upto_region 12 with fail
                  obtain ⟨xc, xf'⟩ := xcell (W := w5)
                  refine wp_region_quiet_tail 14 (by kernel_rfl) (by kernel_rfl) ?_
                  simp only [List.take_succ_cons, List.take_zero, List.drop_succ_cons, List.drop_zero]
                  repeat (first | go_big_quiet_step (fail) | quiet_step (fail))
                  refine wpQuiet_nil ?_
                  intro w6 hb6
                  have OM6 := Lib.hid (owns_below OM5.out hb6)
                  have OH6 := Lib.hid (owns_below OH5.out hb6)
                  have HB6 := Lib.hid (HB5.out.trans (hb6.mono HB5.out.size))
                  have HT6 := Lib.hid (HT5.out.below hb6)
                  have HX6 := Lib.hid (HX5.out.below hb6)
                  have HS6 := Lib.hid (HS5.out.below hb6)
                  have HR6 := Lib.hid (HR5.out.below hb6)
                  have HQ6 := Lib.hid (HQ5.out.below hb6)
                  clear q0 q1 y0 y1 ql yl u0 u1 u2 u3 u4 u5 ul xc xf' hb6
                  go_wp2
                  go_roundw
                  case rel => exact ⟨j + 1, by omega, by go_num, by rw [HSm.out]; exact OH6.out, OM6.out, HB6.out, HT6.out, HX6.out, HS6.out, HR6.out, HQ6.out⟩
                  case measure => simp [intOf]; omega
                case neg =>
                  have ck3b : (kind == 3) = false := by simpa using c3
                  clear ck ck3 c2 c3
                  obtain ⟨xc, xf'⟩ := xcell (W := wr)
                  refine wp_region_quiet_tail 14 (by kernel_rfl) (by kernel_rfl) ?_
                  simp only [List.take_succ_cons, List.take_zero, List.drop_succ_cons, List.drop_zero]
                  repeat (first | go_big_quiet_step (fail) | quiet_step (fail))
                  refine wpQuiet_nil ?_
                  intro w5 hb5
                  have OM5 := Lib.hid (owns_below OM.out hb5)
                  have OH5 := Lib.hid (owns_below OH.out hb5)
                  have HB5 := Lib.hid (HBk.out.trans (hb5.mono HBk.out.size))
                  have HT5 := Lib.hid (HTk.out.below hb5)
                  have HX5 := Lib.hid (HXk.out.below hb5)
                  have HS5 := Lib.hid (HSk.out.below hb5)
                  have HR5 := Lib.hid (HRk.out.below hb5)
                  have HQ5 := Lib.hid (HQk.out.below hb5)
                  clear y0 y1 q0 q1 s0 s1 yl ql sl u0 ul xc xf' hb5
                  have q0 := HQ5.out.cell 0
                  have q1 := HQ5.out.cell 1
                  have y0 := HX5.out.cell 0
                  have y1 := HX5.out.cell 1
                  simp only [List.getElem?_toArray, List.getElem?_cons_zero, List.getElem?_cons_succ] at q0 q1 y0 y1
                  have ql := HQ5.out.lt
                  have yl := HX5.out.lt
                  have hrow := Ls_of_row (enc := encH) (zs := mapT (fH kind id lo hi) hs j) encH_len (by rw [mapT_len]; exact HLh.out) OH5.out
                  obtain ⟨u0, u1, u2, u3, u4, u5⟩ := Hds.at_ hrow (List.getElem?_eq_getElem (by rw [mapT_len]; exact hjl))
                  rw [mapT_at hjl, HMe.out] at u0 u1 u2 u3 u4 u5
                  simp only [Nat.zero_add] at u0 u1 u2 u3 u4 u5
                  have ul := hrow.lt
                  clear hrow
                  go_upto_region 12 with fail
                  obtain ⟨xc, xf'⟩ := xcell (W := w5)
                  refine wp_region_quiet_tail 14 (by kernel_rfl) (by kernel_rfl) ?_
                  simp only [List.take_succ_cons, List.take_zero, List.drop_succ_cons, List.drop_zero]
                  repeat (first | go_big_quiet_step (fail) | quiet_step (fail))
                  refine wpQuiet_nil ?_
                  intro w6 hb6
                  have OM6 := Lib.hid (owns_below OM5.out hb6)
                  have OH6 := Lib.hid (owns_below OH5.out hb6)
                  have HB6 := Lib.hid (HB5.out.trans (hb6.mono HB5.out.size))
                  have HT6 := Lib.hid (HT5.out.below hb6)
                  have HX6 := Lib.hid (HX5.out.below hb6)
                  have HS6 := Lib.hid (HS5.out.below hb6)
                  have HR6 := Lib.hid (HR5.out.below hb6)
                  have HQ6 := Lib.hid (HQ5.out.below hb6)
                  clear q0 q1 y0 y1 ql yl u0 u1 u2 u3 u4 u5 ul xc xf' hb6
                  go_wp2
                  go_roundw
                  case rel => exact ⟨j + 1, by omega, by go_num, by rw [HSm.out]; exact OH6.out, OM6.out, HB6.out, HT6.out, HX6.out, HS6.out, HR6.out, HQ6.out⟩
                  case measure => simp [intOf]; omega
        case neg =>
          have HE := Lib.hid (show mapT (fH kind id lo hi) hs j = putIH hs kind id lo hi by rw [mapT_end (by rw [HLh.out]; omega)]; rfl)
          have HH9 := Lib.hid (show wr.ownsRow L 118 6 (.slice A1 n c1) n ((putIH hs kind id lo hi).flatMap encH) by rw [← HE.out]; exact OH.out)
          have HLq := Lib.hid (show (putIH hs kind id lo hi).length = n by unfold putIH; rw [List.length_map]; exact HLh.out)
          have z0 := HRk.out.cell 0
          have z1 := HRk.out.cell 1
          simp only [List.getElem?_toArray, List.getElem?_cons_zero, List.getElem?_cons_succ] at z0 z1
          have zl := HRk.out.lt
          have zf0 := HRk.out.frozen 0
          have zf1 := HRk.out.frozen 1
          have hws := HWs2.out
          go_wp2
          have hf := blk_set2 HRk.out (.slice A1 n c1) (.slice B1 m d1)
          have x0 := hf.cell 0
          have x1 := hf.cell 1
          simp only [List.getElem?_toArray, List.getElem?_cons_zero, List.getElem?_cons_succ] at x0 x1
          have hgz := grown_set2 wr (w.heap.size + 1 + 1 + 1) (.slice A1 n c1) (.slice B1 m d1)
          refine bodyPost_ret (v := .agg #[.slice A1 n c1, .slice B1 m d1]) (by simp [results, Tryz.results54, go_sem, x0, x1]) rfl ⟨_, _, rfl, ⟨?_, ?_⟩, below_set2 HBk.out (by omega) _ _⟩
          · rw [HLq.out]
            exact owns_weak (owns_grown HH9.out hgz (fun r hr e => by have := (own_lt HH9.out hr).1; have e2 := Option.some.inj e; omega)) (by omega)
          · rw [HLp.out]
            exact owns_weak (owns_grown OM.out hgz (fun r hr e => by have := (own_lt OM.out hr).1; have e2 := Option.some.inj e; omega)) (by omega)
end Go.Proofs.YtighfmgkoepfkaaGreat

namespace Go.Proofs.YtighfmgkoepfkaaGreat
open Go.RowKit

theorem put_tr {t : TR} {kind id lo hi : Int} {w : World} (h : t.Ok w) (hv : TV t.hs t.ms) : Calls Tryz.prog 54 #[t.v, vAt kind id, vSp lo hi] w fun e w' => ∃ A n c B m d, e = .returned (.agg #[.slice A n c, .slice B m d]) ∧ TR.Ok w' ⟨A, n, c, B, m, d, putIH t.hs kind id lo hi, putIM t.ms kind id lo hi⟩ ∧ Below w.heap.size w w' := by
  have l1 := hv.lenH
  have l2 := hv.lenM
  have l3 := h.h.len
  have l4 := h.m.len
  refine (Put_any t kind id lo hi w h (by omega) (by omega)).mono ?_
  rintro e w' ⟨v1, v2, rfl, ho, hb⟩
  obtain ⟨A, c, B, d, rfl, rfl, a1, a2, a3, a4, _, _⟩ := ho.form
  have q1 : (putIH t.hs kind id lo hi).length ≤ 9 := by unfold putIH; rw [List.length_map]; exact l1
  have q2 : (putIM t.ms kind id lo hi).length ≤ 24 := by unfold putIM; rw [List.length_map]; exact l2
  exact ⟨A, _, c, B, _, d, rfl, ⟨a1, a2, by show (putIH t.hs kind id lo hi).length ≤ _; omega, by show (putIM t.ms kind id lo hi).length ≤ _; omega, a3, a4⟩, hb⟩
/-- How wide a span in a block is. -/
def spW (w : World) (g : Nat) : Nat := (intOf ((w.cell? ⟨g, 1, none⟩).getD undef) - intOf ((w.cell? ⟨g, 0, none⟩).getD undef)).toNat
theorem spW_blk {w : World} {g : Nat} {t : TypeId} {a b : Int} (h : Blk w g t #[.int .i64 a, .int .i64 b]) : spW w g = (b - a).toNat := by
  have h0 := h.cell 0
  have h1 := h.cell 1
  simp only [List.getElem?_toArray, List.getElem?_cons_zero, List.getElem?_cons_succ] at h0 h1
  unfold spW
  rw [h0, h1]
  rfl
theorem half_r {x : Int} (h : 0 ≤ x) : ∃ r, x.tdiv 2 = r ∧ 2 * r ≤ x ∧ x ≤ 2 * r + 1 := by
  refine ⟨x / 2, Int.tdiv_eq_ediv_of_nonneg h, ?_, ?_⟩ <;> omega
set_option maxRecDepth 100000 in
set_option maxHeartbeats 12800000 in
theorem narrow_any (t : TR) (kind id : Int) (w : World) (h : t.Ok w) (hv : TV t.hs t.ms) (hp : placeE t.hs t.ms kind id = 0) (ha : agrL t.hs t.ms = true) :
    Calls Tryz.prog 62 #[t.v, vAt kind id] w fun e w' => e = .returned (vSp (narLo t.hs t.ms (placeN t.hs t.ms kind id)) (narHi t.hs t.ms (placeN t.hs t.ms kind id))) ∧ Below w.heap.size w w' := by
  have hn : t.n ≤ 1000000 := by rw [← h.h.len]; have := hv.lenH; omega
  have hm : t.m ≤ 1000000 := by rw [← h.m.len]; have := hv.lenM; omega
  have HOf := Lib.hid (fun (u : World) (hu : t.Ok u) => Of_any t kind id u hu hn hm)
  have HPt := Lib.hid (fun (u : World) (hu : t.Ok u) (lo hi : Int) => put_tr (kind := kind) (id := id) (lo := lo) (hi := hi) hu hv)
  obtain ⟨A, n, c, B, m, d, hs, ms⟩ := t
  dsimp only [TR.v, vAt, vSp] at *
  have hlt := placeN_lt hp
  have hso := span_ok hv hlt
  have hne := nar_ends hv hlt ha
  rw [show ofV hs ms kind id = (spanLo hs ms (placeN hs ms kind id), spanHi hs ms (placeN hs ms kind id)) from by unfold ofV; rw [if_pos hp], hp] at HOf
  have HLo := Lib.hid (fun mid (h1 : spanLo hs ms (placeN hs ms kind id) ≤ mid) (h2 : mid ≤ spanHi hs ms (placeN hs ms kind id)) => by
    have q := lo_fits hv hlt ha h1 h2
    have tv := hv.put (lo := spanLo hs ms (placeN hs ms kind id)) (hi := mid) (by simp [okSp]; omega) (placeN hs ms kind id)
    rw [putH_id hv.ids hp, putM_id hv.mids hp] at q tv
    exact (And.intro q tv : agrL (putIH hs kind id (spanLo hs ms (placeN hs ms kind id)) mid) (putIM ms kind id (spanLo hs ms (placeN hs ms kind id)) mid) = _ ∧ TV (putIH hs kind id (spanLo hs ms (placeN hs ms kind id)) mid) (putIM ms kind id (spanLo hs ms (placeN hs ms kind id)) mid)))
  have HHi := Lib.hid (fun mid (h1 : spanLo hs ms (placeN hs ms kind id) ≤ mid) (h2 : mid ≤ spanHi hs ms (placeN hs ms kind id)) => by
    have q := hi_fits hv hlt ha h1 h2
    have tv := hv.put (lo := mid) (hi := spanHi hs ms (placeN hs ms kind id)) (by simp [okSp]; omega) (placeN hs ms kind id)
    rw [putH_id hv.ids hp, putM_id hv.mids hp] at q tv
    exact (And.intro q tv : agrL (putIH hs kind id mid (spanHi hs ms (placeN hs ms kind id))) (putIM ms kind id mid (spanHi hs ms (placeN hs ms kind id))) = _ ∧ TV (putIH hs kind id mid (spanHi hs ms (placeN hs ms kind id))) (putIM ms kind id mid (spanHi hs ms (placeN hs ms kind id)))))
  clear hp ha hv hlt
  generalize spanLo hs ms (placeN hs ms kind id) = sl at *
  generalize spanHi hs ms (placeN hs ms kind id) = sh at *
  generalize narLo hs ms (placeN hs ms kind id) = nl at *
  generalize narHi hs ms (placeN hs ms kind id) = nh at *
  obtain ⟨hs0, hs1, hs2⟩ := hso
  obtain ⟨hn1, hn2, hn3⟩ := hne
  have hb0 := (((Below.refl w.heap.size w).alloc (Nat.le_refl _) (.cells #[.slice A n c, .slice B m d] 25)).alloc (by simp) (.cells #[.int .i64 kind, .int .i64 id] 83)).alloc (by simp; omega) (.cells #[.int .i64 0, .int .i64 0] 57)
  have t0 := (((Blk.new w 25 #[.slice A n c, .slice B m d]).alloc (.cells #[.int .i64 kind, .int .i64 id] 83)).alloc (.cells #[.int .i64 0, .int .i64 0] 57))
  have x0 := (Blk.at_new (W := w.alloc (.cells #[.slice A n c, .slice B m d] 25)) (g := w.heap.size + 1) 83 #[.int .i64 kind, .int .i64 id] (by simp)).alloc (.cells #[.int .i64 0, .int .i64 0] 57)
  have r0 := Blk.at_new (W := (w.alloc (.cells #[.slice A n c, .slice B m d] 25)).alloc (.cells #[.int .i64 kind, .int .i64 id] 83)) (g := w.heap.size + 1 + 1) 57 #[.int .i64 0, .int .i64 0] (by simp)
  have HOk := Lib.hid h
  have HB0 := Lib.hid hb0
  have HT0 := Lib.hid t0
  have HX0 := Lib.hid x0
  have HR0 := Lib.hid r0
  clear h hb0 t0 x0 r0
  go_enter Tryz.func62, Tryz.ntmps62
  go_upto_region 1 with fail
  generalize hW : ((w.alloc (.cells #[.slice A n c, .slice B m d] 25)).alloc (.cells #[.int .i64 kind, .int .i64 id] 83)).alloc (.cells #[.int .i64 0, .int .i64 0] 57) = W at *
  clear hW
  have y0 := HT0.out.cell 0
  have y1 := HT0.out.cell 1
  have a0 := HX0.out.cell 0
  have a1 := HX0.out.cell 1
  simp only [List.getElem?_toArray, List.getElem?_cons_zero, List.getElem?_cons_succ] at y0 y1 a0 a1
  have yl := HT0.out.lt
  have al := HX0.out.lt
  have HC := Lib.hid (HOf.out W (HOk.out.below HB0.out))
  go_upto_region 2 with (go_at_call 96; with_reducible refine HC.out.mono ?_; rintro e u1 ⟨rfl, hb⟩)
  have b1 := below_new u1 (.cells #[.int .i64 sl, .int .i64 sh] 57)
  have s1 := Blk.new u1 57 #[.int .i64 sl, .int .i64 sh]
  have hbb := hb.trans (b1.mono hb.size)
  have HB1 := Lib.hid (HB0.out.trans (hbb.mono HB0.out.size))
  have HT1 := Lib.hid (HT0.out.below hbb)
  have HX1 := Lib.hid (HX0.out.below hbb)
  have HR1 := Lib.hid (HR0.out.below hbb)
  have hsz := hb.size
  have hgw : w.heap.size + 1 + 1 < u1.heap.size := Nat.lt_of_lt_of_le HR0.out.lt hb.size
  clear y0 y1 a0 a1 yl al HC hb b1 hbb HB0 HT0 HX0 HR0 hsz
  generalize hV : u1.alloc (.cells #[.int .i64 sl, .int .i64 sh] 57) = V1 at *
  generalize hg : u1.heap.size = gs at *
  clear hV hg
  have q0 := s1.cell 0
  have q1 := s1.cell 1
  simp only [List.getElem?_toArray, List.getElem?_cons_zero, List.getElem?_cons_succ] at q0 q1
  have ql := s1.lt
  go_upto_region 3 with fail
  have b2 := below_new V1 (.cells #[.int .i64 sl, .int .i64 sh] 57)
  have HL2 := Lib.hid (Blk.new V1 57 #[.int .i64 sl, .int .i64 sh])
  have HS2 := Lib.hid (s1.below b2)
  have HB2 := Lib.hid (HB1.out.trans (b2.mono HB1.out.size))
  have HT2 := Lib.hid (HT1.out.below b2)
  have HX2 := Lib.hid (HX1.out.below b2)
  have HR2 := Lib.hid (HR1.out.below b2)
  have hgl : gs < V1.heap.size := ql
  clear q0 q1 ql s1 b2 HB1 HT1 HX1 HR1
  generalize hV : V1.alloc (.cells #[.int .i64 sl, .int .i64 sh] 57) = V2 at *
  generalize hg : V1.heap.size = gl at *
  have HGs := Lib.hid (And.intro hgw hgl)
  clear hV hg hgw hgl
  go_loopw [8, 9] (fun _ _ wx => ∃ a b : Int, sl ≤ a ∧ a ≤ nl ∧ nl ≤ b ∧ b ≤ sh ∧ Blk wx gl 57 #[.int .i64 a, .int .i64 b] ∧ Blk wx gs 57 #[.int .i64 sl, .int .i64 sh] ∧ Below w.heap.size w wx ∧ Blk wx w.heap.size 25 #[.slice A n c, .slice B m d] ∧ Blk wx (w.heap.size + 1) 83 #[.int .i64 kind, .int .i64 id] ∧ Blk wx (w.heap.size + 1 + 1) 57 #[.int .i64 0, .int .i64 0]) (fun _ _ wx => spW wx gl)
  case atStart => exact ⟨sl, sh, Int.le_refl _, hn1, by omega, Int.le_refl _, HL2.out, HS2.out, HB2.out, HT2.out, HX2.out, HR2.out⟩
  case round =>
    clear HL2 HS2 HB2 HT2 HX2 HR2
    obtain ⟨a, b, h1, h2, h3, h4, hl, hs', hb, ht, hx, hr⟩ := hrel
    have HLk := Lib.hid hl
    have HSk := Lib.hid hs'
    have HBk := Lib.hid hb
    have HTk := Lib.hid ht
    have HXk := Lib.hid hx
    have HRk := Lib.hid hr
    clear hl hs' hb ht hx hr
    have l0 := HLk.out.cell 0
    have l1 := HLk.out.cell 1
    simp only [List.getElem?_toArray, List.getElem?_cons_zero, List.getElem?_cons_succ] at l0 l1
    have ll := HLk.out.lt
    by_cases hab : a < b
    case pos =>
      have habb : decide (a < b) = true := decide_eq_true hab
      obtain ⟨r, hr, hr1, hr2⟩ := half_r (show 0 ≤ b - a by omega)
      obtain ⟨mid, hmid⟩ : ∃ x, a + r = x := ⟨_, rfl⟩
      have hw1 : a ≤ mid ∧ mid < b := by omega
      have HQ := Lib.hid (HLo.out mid (by omega) (by omega))
      have y0 := HTk.out.cell 0
      have y1 := HTk.out.cell 1
      have a0 := HXk.out.cell 0
      have a1 := HXk.out.cell 1
      have s0 := HSk.out.cell 0
      have s1 := HSk.out.cell 1
      simp only [List.getElem?_toArray, List.getElem?_cons_zero, List.getElem?_cons_succ] at y0 y1 a0 a1 s0 s1
      have yl := HTk.out.lt
      have al := HXk.out.lt
      have sl' := HSk.out.lt
      have HC := Lib.hid (HPt.out wr (HOk.out.below HBk.out) sl mid)
      have HSw := Lib.hid (spW_blk HLk.out)
      have hbounds : -131072 ≤ a ∧ a ≤ 131072 ∧ -131072 ≤ b ∧ b ≤ 131072 := by omega
      go_upto_region 6 with (first | (go_at_call 54; with_reducible refine HC.out.mono ?_; rintro e u2 ⟨A', n', c', B', m', d', rfl, hok, hb2⟩; have HB5 := Lib.hid hb2; have HAg := Lib.hid (RAgrees_any ⟨A', n', c', B', m', d', putIH hs kind id sl mid, putIM ms kind id sl mid⟩ u2 hok HQ.out.2); dsimp only [TR.v] at HAg; rw [HQ.out.1] at HAg; clear hok hb2) | (go_at_call 40; with_reducible refine HAg.out.mono ?_; rintro e u3 ⟨rfl, hb3⟩))
      have hbx := HB5.out.trans (hb3.mono HB5.out.size)
      have HB3 := Lib.hid (HBk.out.trans (hbx.mono HBk.out.size))
      have HT3 := Lib.hid (HTk.out.below hbx)
      have HX3 := Lib.hid (HXk.out.below hbx)
      have HR3 := Lib.hid (HRk.out.below hbx)
      have HS3 := Lib.hid (HSk.out.below hbx)
      have HL3 := Lib.hid (HLk.out.below hbx)
      clear y0 y1 a0 a1 s0 s1 l0 l1 yl al sl' ll hb3 hbx HC HAg HB5 HTk HXk HRk HSk HLk HBk
      have l0 := HL3.out.cell 0
      have l1 := HL3.out.cell 1
      simp only [List.getElem?_toArray, List.getElem?_cons_zero, List.getElem?_cons_succ] at l0 l1
      have ll := HL3.out.lt
      have f0 := HL3.out.frozen 0
      have f1 := HL3.out.frozen 1
      have hgs := HGs.out
      by_cases hc : nl ≤ mid
      case pos =>
        rw [decide_eq_true hc]
        go_wp2
        go_roundw
        case rel => exact ⟨a, mid, by omega, by omega, by omega, by omega, by simpa using HL3.out.set_ 1 (.int .i64 (mid)), HS3.out.far (p := ⟨gl, 1, none⟩) (by simp; omega) _, HB3.out.setCell (p := ⟨gl, 1, none⟩) (by simp; omega) _, HT3.out.far (p := ⟨gl, 1, none⟩) (by simp; omega) _, HX3.out.far (p := ⟨gl, 1, none⟩) (by simp; omega) _, HR3.out.far (p := ⟨gl, 1, none⟩) (by simp; omega) _⟩
        case measure => rw [HSw.out, spW_blk (show Blk _ gl 57 #[.int .i64 (a), .int .i64 (mid)] by simpa using HL3.out.set_ 1 (.int .i64 (mid)))]; omega
      case neg =>
        rw [decide_eq_false hc]
        go_wp2
        go_roundw
        case rel => exact ⟨mid + 1, b, by omega, by omega, by omega, by omega, by simpa using HL3.out.set_ 0 (.int .i64 (mid + 1)), HS3.out.far (p := ⟨gl, 0, none⟩) (by simp; omega) _, HB3.out.setCell (p := ⟨gl, 0, none⟩) (by simp; omega) _, HT3.out.far (p := ⟨gl, 0, none⟩) (by simp; omega) _, HX3.out.far (p := ⟨gl, 0, none⟩) (by simp; omega) _, HR3.out.far (p := ⟨gl, 0, none⟩) (by simp; omega) _⟩
        case measure => rw [HSw.out, spW_blk (show Blk _ gl 57 #[.int .i64 (mid + 1), .int .i64 (b)] by simpa using HL3.out.set_ 0 (.int .i64 (mid + 1)))]; omega
    case neg =>
      have hab2 : decide (a < b) = false := decide_eq_false hab
      obtain rfl : a = nl := by omega
      obtain rfl : a = b := by omega
      have s0 := HSk.out.cell 0
      have s1 := HSk.out.cell 1
      simp only [List.getElem?_toArray, List.getElem?_cons_zero, List.getElem?_cons_succ] at s0 s1
      have sl' := HSk.out.lt
      have hgs := HGs.out
      go_upto_region 10 with fail
      have b2 := below_new wr (.cells #[.int .i64 sl, .int .i64 sh] 57)
      have HM2 := Lib.hid (Blk.new wr 57 #[.int .i64 sl, .int .i64 sh])
      have HL2 := Lib.hid (HLk.out.below b2)
      have HS2 := Lib.hid (HSk.out.below b2)
      have HB2 := Lib.hid (HBk.out.trans (b2.mono HBk.out.size))
      have HT2 := Lib.hid (HTk.out.below b2)
      have HX2 := Lib.hid (HXk.out.below b2)
      have HR2 := Lib.hid (HRk.out.below b2)
      have hgm : gl < wr.heap.size := ll
      clear l0 l1 ll s0 s1 sl' b2 HLk HSk HBk HTk HXk HRk
      generalize hV : wr.alloc (.cells #[.int .i64 sl, .int .i64 sh] 57) = V3 at *
      generalize hg : wr.heap.size = gm at *
      have HGm := Lib.hid hgm
      clear hV hg hgm hab h1 h2 h3 h4
      go_loopw [11, 12] (fun _ _ wx => ∃ p q : Int, sl ≤ p ∧ p ≤ nh ∧ nh ≤ q ∧ q ≤ sh ∧ Blk wx gm 57 #[.int .i64 p, .int .i64 q] ∧ Blk wx gl 57 #[.int .i64 a, .int .i64 a] ∧ Blk wx gs 57 #[.int .i64 sl, .int .i64 sh] ∧ Below w.heap.size w wx ∧ Blk wx w.heap.size 25 #[.slice A n c, .slice B m d] ∧ Blk wx (w.heap.size + 1) 83 #[.int .i64 kind, .int .i64 id] ∧ Blk wx (w.heap.size + 1 + 1) 57 #[.int .i64 0, .int .i64 0]) (fun _ _ wx => spW wx gm)
      case atStart => exact ⟨sl, sh, Int.le_refl _, by omega, by omega, Int.le_refl _, HM2.out, HL2.out, HS2.out, HB2.out, HT2.out, HX2.out, HR2.out⟩
      case round =>
        clear HM2 HL2 HS2 HB2 HT2 HX2 HR2
        obtain ⟨p, q, h1, h2, h3, h4, hm', hl, hs', hb, ht, hx, hr⟩ := hrel
        have HNk := Lib.hid hl
        have HLk := Lib.hid hm'
        have HSk := Lib.hid hs'
        have HBk := Lib.hid hb
        have HTk := Lib.hid ht
        have HXk := Lib.hid hx
        have HRk := Lib.hid hr
        clear hm' hl hs' hb ht hx hr
        have l0 := HLk.out.cell 0
        have l1 := HLk.out.cell 1
        simp only [List.getElem?_toArray, List.getElem?_cons_zero, List.getElem?_cons_succ] at l0 l1
        have ll := HLk.out.lt
        by_cases hab : p < q
        case pos =>
          have habb : decide (p < q) = true := decide_eq_true hab
          obtain ⟨r, hr, hr1, hr2⟩ := half_r (show 0 ≤ q - p + 1 by omega)
          obtain ⟨mid, hmid⟩ : ∃ x, p + r = x := ⟨_, rfl⟩
          have hw1 : p < mid ∧ mid ≤ q := by omega
          have HQ := Lib.hid (HHi.out mid (by omega) (by omega))
          have y0 := HTk.out.cell 0
          have y1 := HTk.out.cell 1
          have a0 := HXk.out.cell 0
          have a1 := HXk.out.cell 1
          have s0 := HSk.out.cell 0
          have s1 := HSk.out.cell 1
          simp only [List.getElem?_toArray, List.getElem?_cons_zero, List.getElem?_cons_succ] at y0 y1 a0 a1 s0 s1
          have yl := HTk.out.lt
          have al := HXk.out.lt
          have sl' := HSk.out.lt
          have HC := Lib.hid (HPt.out wr (HOk.out.below HBk.out) mid sh)
          have HSw := Lib.hid (spW_blk HLk.out)
          have hbounds : -131072 ≤ p ∧ p ≤ 131072 ∧ -131072 ≤ q ∧ q ≤ 131072 := by omega
          go_upto_region 13 with (first | (go_at_call 54; with_reducible refine HC.out.mono ?_; rintro e u2 ⟨A', n', c', B', m', d', rfl, hok, hb2⟩; have HB5 := Lib.hid hb2; have HAg := Lib.hid (RAgrees_any ⟨A', n', c', B', m', d', putIH hs kind id mid sh, putIM ms kind id mid sh⟩ u2 hok HQ.out.2); dsimp only [TR.v] at HAg; rw [HQ.out.1] at HAg; clear hok hb2) | (go_at_call 40; with_reducible refine HAg.out.mono ?_; rintro e u3 ⟨rfl, hb3⟩))
          have hbx := HB5.out.trans (hb3.mono HB5.out.size)
          have HB3 := Lib.hid (HBk.out.trans (hbx.mono HBk.out.size))
          have HT3 := Lib.hid (HTk.out.below hbx)
          have HX3 := Lib.hid (HXk.out.below hbx)
          have HR3 := Lib.hid (HRk.out.below hbx)
          have HS3 := Lib.hid (HSk.out.below hbx)
          have HN3 := Lib.hid (HNk.out.below hbx)
          have HL3 := Lib.hid (HLk.out.below hbx)
          clear y0 y1 a0 a1 s0 s1 l0 l1 yl al sl' ll hb3 hbx HC HAg HB5 HTk HXk HRk HSk HLk HBk HNk
          have l0 := HL3.out.cell 0
          have l1 := HL3.out.cell 1
          simp only [List.getElem?_toArray, List.getElem?_cons_zero, List.getElem?_cons_succ] at l0 l1
          have ll := HL3.out.lt
          have f0 := HL3.out.frozen 0
          have f1 := HL3.out.frozen 1
          have hgs := HGs.out
          have hgm := HGm.out
          by_cases hc : mid ≤ nh
          case pos =>
            rw [decide_eq_true hc]
            go_wp2
            go_roundw
            case rel => exact ⟨mid, q, by omega, by omega, by omega, by omega, by simpa using HL3.out.set_ 0 (.int .i64 (mid)), HN3.out.far (p := ⟨gm, 0, none⟩) (by simp; omega) _, HS3.out.far (p := ⟨gm, 0, none⟩) (by simp; omega) _, HB3.out.setCell (p := ⟨gm, 0, none⟩) (by simp; omega) _, HT3.out.far (p := ⟨gm, 0, none⟩) (by simp; omega) _, HX3.out.far (p := ⟨gm, 0, none⟩) (by simp; omega) _, HR3.out.far (p := ⟨gm, 0, none⟩) (by simp; omega) _⟩
            case measure => rw [HSw.out, spW_blk (show Blk _ gm 57 #[.int .i64 (mid), .int .i64 (q)] by simpa using HL3.out.set_ 0 (.int .i64 (mid)))]; omega
          case neg =>
            rw [decide_eq_false hc]
            go_wp2
            go_roundw
            case rel => exact ⟨p, mid - 1, by omega, by omega, by omega, by omega, by simpa using HL3.out.set_ 1 (.int .i64 (mid - 1)), HN3.out.far (p := ⟨gm, 1, none⟩) (by simp; omega) _, HS3.out.far (p := ⟨gm, 1, none⟩) (by simp; omega) _, HB3.out.setCell (p := ⟨gm, 1, none⟩) (by simp; omega) _, HT3.out.far (p := ⟨gm, 1, none⟩) (by simp; omega) _, HX3.out.far (p := ⟨gm, 1, none⟩) (by simp; omega) _, HR3.out.far (p := ⟨gm, 1, none⟩) (by simp; omega) _⟩
            case measure => rw [HSw.out, spW_blk (show Blk _ gm 57 #[.int .i64 (p), .int .i64 (mid - 1)] by simpa using HL3.out.set_ 1 (.int .i64 (mid - 1)))]; omega
        case neg =>
          have hab2 : decide (p < q) = false := decide_eq_false hab
          obtain rfl : p = nh := by omega
          obtain rfl : p = q := by omega
          have m0 := HNk.out.cell 0
          have m1 := HNk.out.cell 1
          have r0 := HRk.out.cell 0
          have r1 := HRk.out.cell 1
          simp only [List.getElem?_toArray, List.getElem?_cons_zero, List.getElem?_cons_succ] at m0 m1 r0 r1
          have ml := HNk.out.lt
          have rl := HRk.out.lt
          have rf0 := HRk.out.frozen 0
          have rf1 := HRk.out.frozen 1
          go_wp2
          have hf := blk_set2 HRk.out (.int .i64 a) (.int .i64 p)
          have x0 := hf.cell 0
          have x1 := hf.cell 1
          simp only [List.getElem?_toArray, List.getElem?_cons_zero, List.getElem?_cons_succ] at x0 x1
          exact bodyPost_ret (v := vSp a p) (by simp [results, Tryz.results62, go_sem, x0, x1]) rfl ⟨rfl, below_set2 HBk.out (by omega) _ _⟩
end Go.Proofs.YtighfmgkoepfkaaGreat

namespace Go.Proofs.YtighfmgkoepfkaaGreat
open Go.RowKit

set_option maxRecDepth 100000 in
set_option maxHeartbeats 12800000 in
theorem Limits_any (t : TR) (kind id : Int) (w : World) (h : t.Ok w) :
    Calls Tryz.prog 45 #[t.v, vAt kind id] w fun e w' => e = .returned (.agg #[.int .i64 (asV t.hs t.ms kind id false), .int .i64 (asV t.hs t.ms kind id true), .int .i64 (asE t.hs t.ms kind id)]) ∧ Below w.heap.size w w' := by
  have HCk := Lib.hid (fun (u : World) (hu : t.Ok u) => RCheck_any t u hu)
  have HOf := Lib.hid (fun (hv : TV t.hs t.ms) (u : World) (hu : t.Ok u) => Of_any t kind id u hu (by rw [← h.h.len]; have := hv.lenH; omega) (by rw [← h.m.len]; have := hv.lenM; omega))
  have HAg := Lib.hid (fun (hv : TV t.hs t.ms) (u : World) (hu : t.Ok u) => RAgrees_any t u hu hv)
  have HNr := Lib.hid (fun (hv : TV t.hs t.ms) (hp : placeE t.hs t.ms kind id = 0) (ha : agrL t.hs t.ms = true) (u : World) (hu : t.Ok u) => narrow_any t kind id u hu hv hp ha)
  obtain ⟨A, n, c, B, m, d, hs, ms⟩ := t
  dsimp only [TR.v, vAt, vSp] at *
  have hb0 := (((Below.refl w.heap.size w).alloc (Nat.le_refl _) (.cells #[.slice A n c, .slice B m d] 25)).alloc (by simp) (.cells #[.int .i64 kind, .int .i64 id] 83)).alloc (by simp; omega) (.cells #[.int .i64 0, .int .i64 0, .int .i64 0] 90)
  have t0 := (((Blk.new w 25 #[.slice A n c, .slice B m d]).alloc (.cells #[.int .i64 kind, .int .i64 id] 83)).alloc (.cells #[.int .i64 0, .int .i64 0, .int .i64 0] 90))
  have x0 := (Blk.at_new (W := w.alloc (.cells #[.slice A n c, .slice B m d] 25)) (g := w.heap.size + 1) 83 #[.int .i64 kind, .int .i64 id] (by simp)).alloc (.cells #[.int .i64 0, .int .i64 0, .int .i64 0] 90)
  have r0 := Blk.at_new (W := (w.alloc (.cells #[.slice A n c, .slice B m d] 25)).alloc (.cells #[.int .i64 kind, .int .i64 id] 83)) (g := w.heap.size + 1 + 1) 90 #[.int .i64 0, .int .i64 0, .int .i64 0] (by simp)
  have HOk := Lib.hid h
  have HB0 := Lib.hid hb0
  have HT0 := Lib.hid t0
  have HX0 := Lib.hid x0
  have HR0 := Lib.hid r0
  have HE := Lib.hid (show asE hs ms kind id = if plE hs ms kind id ≠ 0 then plE hs ms kind id else if agrL hs ms = true then 0 else 9 from rfl)
  have HP := Lib.hid (show plE hs ms kind id = if tcheck hs ms ≠ 0 then tcheck hs ms else placeE hs ms kind id from rfl)
  have HVV := Lib.hid (fun gr => show asV hs ms kind id gr = if asE hs ms kind id = 0 then limN hs ms kind id gr else 0 from rfl)
  clear h hb0 t0 x0 r0
  go_enter Tryz.func45, Tryz.ntmps45
  go_upto_region 1 with fail
  generalize hW : ((w.alloc (.cells #[.slice A n c, .slice B m d] 25)).alloc (.cells #[.int .i64 kind, .int .i64 id] 83)).alloc (.cells #[.int .i64 0, .int .i64 0, .int .i64 0] 90) = W at *
  clear hW
  have y0 := HT0.out.cell 0
  have y1 := HT0.out.cell 1
  simp only [List.getElem?_toArray, List.getElem?_cons_zero, List.getElem?_cons_succ] at y0 y1
  have yl := HT0.out.lt
  have HC := Lib.hid (HCk.out W (HOk.out.below HB0.out))
  by_cases hz : tcheck hs ms = 0
  case neg =>
    have HX := Lib.hid (show asE hs ms kind id = tcheck hs ms from by rw [HE.out, HP.out, if_pos hz, if_pos hz])
    have HV1 := Lib.hid (fun gr => show asV hs ms kind id gr = 0 from by rw [HVV.out, HX.out, if_neg hz])
    obtain ⟨ck, hck⟩ : ∃ x, tcheck hs ms = x := ⟨_, rfl⟩
    rw [hck] at HX HC hz
    have hz1 : (ck != 0) = true := by simpa using hz
    clear hck hz HE HP HVV
    go_wp2_with (go_at_call 61; with_reducible refine HC.out.mono ?_; rintro e u1 ⟨rfl, hb1⟩; have HR1 := Lib.hid (HR0.out.below hb1); have z0 := HR1.out.cell 0; have z1 := HR1.out.cell 1; have z2 := HR1.out.cell 2; simp only [List.getElem?_toArray, List.getElem?_cons_zero, List.getElem?_cons_succ] at z0 z1 z2; have zl := HR1.out.lt; have f0 := HR1.out.frozen 0; have f1 := HR1.out.frozen 1; have f2 := HR1.out.frozen 2; have HB1 := Lib.hid (HB0.out.trans (hb1.mono HB0.out.size)))
    have hf := blk_set3 HR1.out (.int .i64 0) (.int .i64 0) (.int .i64 ck)
    have x0 := hf.cell 0
    have x1 := hf.cell 1
    have x2 := hf.cell 2
    simp only [List.getElem?_toArray, List.getElem?_cons_zero, List.getElem?_cons_succ] at x0 x1 x2
    exact bodyPost_ret (v := .agg #[.int .i64 0, .int .i64 0, .int .i64 ck]) (by simp [results, Tryz.results45, go_sem, x0, x1, x2]) rfl ⟨by rw [HX.out, HV1.out, HV1.out], below_set3 HB1.out (by omega) _ _ _⟩
  case pos =>
  have HTV := Lib.hid (tcheck_zero.1 hz)
  rw [hz] at HC
  have HP2 := Lib.hid (show plE hs ms kind id = placeE hs ms kind id from by rw [HP.out, if_neg (by rw [hz]; decide)])
  go_upto_region 4 with (go_at_call 61; with_reducible refine HC.out.mono ?_; rintro e u1 ⟨rfl, hb1⟩)
  have HB1 := Lib.hid (HB0.out.trans (hb1.mono HB0.out.size))
  have HT1 := Lib.hid (HT0.out.below hb1)
  have HX1 := Lib.hid (HX0.out.below hb1)
  have HR1 := Lib.hid (HR0.out.below hb1)
  clear y0 y1 yl HC hb1 HB0 HT0 HX0 HR0 hz HP
  have y0 := HT1.out.cell 0
  have y1 := HT1.out.cell 1
  have a0 := HX1.out.cell 0
  have a1 := HX1.out.cell 1
  simp only [List.getElem?_toArray, List.getElem?_cons_zero, List.getElem?_cons_succ] at y0 y1 a0 a1
  have yl := HT1.out.lt
  have al := HX1.out.lt
  have HC := Lib.hid (HOf.out HTV.out u1 (HOk.out.below HB1.out))

  obtain ⟨pe, hpe⟩ : ∃ x, placeE hs ms kind id = x := ⟨_, rfl⟩
  obtain ⟨o1, ho1⟩ : ∃ x, (ofV hs ms kind id).1 = x := ⟨_, rfl⟩
  obtain ⟨o2, ho2⟩ : ∃ x, (ofV hs ms kind id).2 = x := ⟨_, rfl⟩
  have HPe := Lib.hid hpe
  rw [hpe, ho1, ho2] at HC
  clear hpe ho1 ho2
  go_upto_region 5 with (go_at_call 96; with_reducible refine HC.out.mono ?_; rintro e u2 ⟨rfl, hb2⟩)
  have bq := below_new u2 (.cells #[.int .i64 o1, .int .i64 o2] 57)
  have hbb := hb2.trans (bq.mono hb2.size)
  have HB2 := Lib.hid (HB1.out.trans (hbb.mono HB1.out.size))
  have HT2 := Lib.hid (HT1.out.below hbb)
  have HX2 := Lib.hid (HX1.out.below hbb)
  have HR2 := Lib.hid (HR1.out.below hbb)
  clear y0 y1 yl a0 a1 al HC hb2 bq hbb HB1 HT1 HX1 HR1
  generalize u2.alloc (.cells #[.int .i64 o1, .int .i64 o2] 57) = V2 at *
  by_cases hp : pe = 0
  case neg =>
    have HX := Lib.hid (show asE hs ms kind id = pe from by rw [HE.out, HP2.out, HPe.out, if_pos hp])
    have HV1 := Lib.hid (fun gr => show asV hs ms kind id gr = 0 from by rw [HVV.out, HX.out, if_neg hp])
    have hz1 : (pe != 0) = true := by simpa using hp
    have z0 := HR2.out.cell 0
    have z1 := HR2.out.cell 1
    have z2 := HR2.out.cell 2
    simp only [List.getElem?_toArray, List.getElem?_cons_zero, List.getElem?_cons_succ] at z0 z1 z2
    have zl := HR2.out.lt
    have f0 := HR2.out.frozen 0
    have f1 := HR2.out.frozen 1
    have f2 := HR2.out.frozen 2
    clear hp
    go_wp2
    have hf := blk_set3 HR2.out (.int .i64 0) (.int .i64 0) (.int .i64 pe)
    have x0 := hf.cell 0
    have x1 := hf.cell 1
    have x2 := hf.cell 2
    simp only [List.getElem?_toArray, List.getElem?_cons_zero, List.getElem?_cons_succ] at x0 x1 x2
    exact bodyPost_ret (v := .agg #[.int .i64 0, .int .i64 0, .int .i64 pe]) (by simp [results, Tryz.results45, go_sem, x0, x1, x2]) rfl ⟨by rw [HX.out, HV1.out, HV1.out], below_set3 HB2.out (by omega) _ _ _⟩
  case pos =>
  subst hp
  have HX := Lib.hid (show asE hs ms kind id = if agrL hs ms = true then 0 else 9 from by rw [HE.out, HP2.out, HPe.out, if_neg (by decide)])
  have y0 := HT2.out.cell 0
  have y1 := HT2.out.cell 1
  simp only [List.getElem?_toArray, List.getElem?_cons_zero, List.getElem?_cons_succ] at y0 y1
  have yl := HT2.out.lt
  have HC := Lib.hid (HAg.out HTV.out V2 (HOk.out.below HB2.out))

  obtain ⟨ab, hab⟩ : ∃ x, agrL hs ms = x := ⟨_, rfl⟩
  have HAb := Lib.hid hab
  rw [hab] at HC HX
  clear hab
  cases ab with
  | false =>
    have HV1 := Lib.hid (fun gr => show asV hs ms kind id gr = 0 from by rw [HVV.out, HX.out, if_neg (by decide)])
    go_wp2_with (go_at_call 40; with_reducible refine HC.out.mono ?_; rintro e u3 ⟨rfl, hb3⟩; have HR3 := Lib.hid (HR2.out.below hb3); have z0 := HR3.out.cell 0; have z1 := HR3.out.cell 1; have z2 := HR3.out.cell 2; simp only [List.getElem?_toArray, List.getElem?_cons_zero, List.getElem?_cons_succ] at z0 z1 z2; have zl := HR3.out.lt; have f0 := HR3.out.frozen 0; have f1 := HR3.out.frozen 1; have f2 := HR3.out.frozen 2; have HB3 := Lib.hid (HB2.out.trans (hb3.mono HB2.out.size)))
    have hf := blk_set3 HR3.out (.int .i64 0) (.int .i64 0) (.int .i64 9)
    have x0 := hf.cell 0
    have x1 := hf.cell 1
    have x2 := hf.cell 2
    simp only [List.getElem?_toArray, List.getElem?_cons_zero, List.getElem?_cons_succ] at x0 x1 x2
    exact bodyPost_ret (v := .agg #[.int .i64 0, .int .i64 0, .int .i64 9]) (by simp [results, Tryz.results45, go_sem, x0, x1, x2]) rfl ⟨by rw [HX.out, HV1.out, HV1.out]; rfl, below_set3 HB3.out (by omega) _ _ _⟩
  | true =>
    have HX0 := Lib.hid (show asE hs ms kind id = 0 from by rw [HX.out]; rfl)
    have HV1 := Lib.hid (show asV hs ms kind id false = narLo hs ms (placeN hs ms kind id) ∧ asV hs ms kind id true = narHi hs ms (placeN hs ms kind id) from ⟨by rw [HVV.out, if_pos HX0.out]; rfl, by rw [HVV.out, if_pos HX0.out]; rfl⟩)
    have HN := Lib.hid (HNr.out HTV.out HPe.out HAb.out)
    obtain ⟨nl, hnl⟩ : ∃ x, narLo hs ms (placeN hs ms kind id) = x := ⟨_, rfl⟩
    obtain ⟨nh, hnh⟩ : ∃ x, narHi hs ms (placeN hs ms kind id) = x := ⟨_, rfl⟩
    rw [hnl, hnh] at HN HV1
    clear hnl hnh HE HP2 HVV HX
    go_upto_region 10 with (go_at_call 40; with_reducible refine HC.out.mono ?_; rintro e u3 ⟨rfl, hb3⟩)
    have HB3 := Lib.hid (HB2.out.trans (hb3.mono HB2.out.size))
    have HT3 := Lib.hid (HT2.out.below hb3)
    have HX3 := Lib.hid (HX2.out.below hb3)
    have HR3 := Lib.hid (HR2.out.below hb3)
    clear y0 y1 yl HC hb3 HB2 HT2 HX2 HR2
    have y0 := HT3.out.cell 0
    have y1 := HT3.out.cell 1
    have a0 := HX3.out.cell 0
    have a1 := HX3.out.cell 1
    simp only [List.getElem?_toArray, List.getElem?_cons_zero, List.getElem?_cons_succ] at y0 y1 a0 a1
    have yl := HT3.out.lt
    have al := HX3.out.lt
    have HC := Lib.hid (HN.out u3 (HOk.out.below HB3.out))
    go_wp2_with (go_at_call 62; with_reducible refine HC.out.mono ?_; rintro e u4 ⟨rfl, hb4⟩; have HR4 := Lib.hid (HR3.out.below hb4); have z0 := HR4.out.cell 0; have z1 := HR4.out.cell 1; have z2 := HR4.out.cell 2; simp only [List.getElem?_toArray, List.getElem?_cons_zero, List.getElem?_cons_succ] at z0 z1 z2; have zl := HR4.out.lt; have f0 := HR4.out.frozen 0; have f1 := HR4.out.frozen 1; have f2 := HR4.out.frozen 2; have HB4 := Lib.hid (HB3.out.trans (hb4.mono HB3.out.size)))
    have hf := blk_set3 HR4.out (.int .i64 nl) (.int .i64 nh) (.int .i64 0)
    have x0 := hf.cell 0
    have x1 := hf.cell 1
    have x2 := hf.cell 2
    simp only [List.getElem?_toArray, List.getElem?_cons_zero, List.getElem?_cons_succ] at x0 x1 x2
    exact bodyPost_ret (v := .agg #[.int .i64 nl, .int .i64 nh, .int .i64 0]) (by simp [results, Tryz.results45, go_sem, x0, x1, x2]) rfl ⟨by rw [HX0.out, HV1.out.1, HV1.out.2], below_set3 HB4.out (by omega) _ _ _⟩
end Go.Proofs.YtighfmgkoepfkaaGreat
