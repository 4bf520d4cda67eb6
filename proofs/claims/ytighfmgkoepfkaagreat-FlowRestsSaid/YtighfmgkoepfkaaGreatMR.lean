/- The specification's narrow and Limits: what something can be, by halving. -/
import Derived.Test.YtighfmgkoepfkaaGreatMB
import Derived.Test.YtighfmgkoepfkaaGreatMD
import Derived.Test.YtighfmgkoepfkaaGreatMRb
namespace Go.Proofs.YtighfmgkoepfkaaGreat
open Go.RowKit

def ofV (hs : List Hd) (ms : List Mv) (kind id : Int) : Int × Int := if placeE hs ms kind id = 0 then (spanLo hs ms (placeN hs ms kind id), spanHi hs ms (placeN hs ms kind id)) else (0, 0)
section
variable {hs : List Hd} {ms : List Mv} {kind id : Int}
theorem ofV_no {e : Int} (h : placeE hs ms kind id = e) (he : e ≠ 0) : ofV hs ms kind id = (0, 0) := by unfold ofV; rw [h, if_neg he]
theorem ofV_kind (h : ¬ (1 ≤ kind ∧ kind ≤ 3)) : placeE hs ms kind id = 1 ∧ ofV hs ms kind id = (0, 0) := by
  have e : placeE hs ms kind id = 1 := by unfold placeE; rw [if_neg (by omega), if_neg (by omega)]
  exact ⟨e, ofV_no e (by decide)⟩
theorem ofV_mass {k : Nat} (h1 : kind = 1) (hk : k < ms.length) (e : (mat ms k).id = id) (hno : ∀ i, i < k → (mat ms i).id ≠ id) : placeE hs ms kind id = 0 ∧ ofV hs ms kind id = ((mat ms k).lo, (mat ms k).hi) := by
  have hp := posM_hit hk e hno
  have e0 : placeE hs ms kind id = 0 := by unfold placeE; rw [if_pos h1, hp, if_pos hk]
  refine ⟨e0, ?_⟩
  unfold ofV spanLo spanHi placeN
  rw [if_pos e0]
  simp only [if_pos h1, hp]
  rw [if_neg (by omega), if_neg (by omega), if_neg (by omega), if_neg (by omega), Nat.add_sub_cancel_left]
theorem ofV_nomass (h1 : kind = 1) (hno : ∀ i, i < ms.length → (mat ms i).id ≠ id) : placeE hs ms kind id = 5 ∧ ofV hs ms kind id = (0, 0) := by
  have e : placeE hs ms kind id = 5 := by
    unfold placeE
    rw [if_pos h1, if_neg]
    intro c
    exact hno _ c (by rw [mat_eq c]; exact posM_at ms id c)
  exact ⟨e, ofV_no e (by decide)⟩
theorem ofV_nohd (h1 : kind ≠ 1) (h2 : 1 ≤ kind ∧ kind ≤ 3) (hp : pos hs id < 0) : placeE hs ms kind id = 5 ∧ ofV hs ms kind id = (0, 0) := by
  have e : placeE hs ms kind id = 5 := by
    unfold placeE
    rw [if_neg h1, if_pos (by omega), if_neg]
    intro c
    rw [pos_in c] at hp
    omega
  exact ⟨e, ofV_no e (by decide)⟩
theorem ofV_hd (h1 : kind ≠ 1) (h2 : 1 ≤ kind ∧ kind ≤ 3) (hp : ¬ pos hs id < 0) : ∃ i : Nat, pos hs id = (i : Int) ∧ i < hs.length ∧ placeE hs ms kind id = 0 ∧ ofV hs ms kind id = if kind = 2 then ((hat hs i).sl, (hat hs i).sh) else ((hat hs i).el, (hat hs i).eh) := by
  have c : posN hs id < hs.length := by
    unfold pos at hp
    by_cases c : posN hs id < hs.length
    · exact c
    · rw [if_neg c] at hp; omega
  have e : placeE hs ms kind id = 0 := by unfold placeE; rw [if_neg h1, if_pos (by omega), if_pos c]
  refine ⟨posN hs id, pos_in c, c, e, ?_⟩
  unfold ofV spanLo spanHi placeN
  rw [if_pos e]
  simp only [if_neg h1]
  by_cases c2 : kind = 2
  · simp only [if_pos c2, if_pos c]
  · simp only [if_neg c2]
    rw [if_neg (by omega), if_pos (by omega), if_neg (by omega), if_pos (by omega), Nat.add_sub_cancel_left]
end
set_option maxRecDepth 100000 in
set_option maxHeartbeats 12800000 in
theorem Of_any (t : TR) (kind id : Int) (w : World) (h : t.Ok w) (hn : t.n ≤ 1000000) (hm : t.m ≤ 1000000) :
    Calls Tryz.prog 96 #[t.v, vAt kind id] w fun e w' => e = .returned (.tuple #[vSp (ofV t.hs t.ms kind id).1 (ofV t.hs t.ms kind id).2, .int .i64 (placeE t.hs t.ms kind id)]) ∧ Below w.heap.size w w' := by
  obtain ⟨A, n, c, B, m, d, hs, ms⟩ := t
  have HPl := Lib.hid (fun (u : World) (hu : TR.Ok u ⟨A, n, c, B, m, d, hs, ms⟩) => Place_any ⟨A, n, c, B, m, d, hs, ms⟩ id u hu (show n ≤ 4611686018427387904 by have h1 : n ≤ 1000000 := hn; omega))
  dsimp only [TR.v] at *
  have hb0 := (((Below.refl w.heap.size w).alloc (Nat.le_refl _) (.cells #[.slice A n c, .slice B m d] 25)).alloc (by simp) (.cells #[.int .i64 kind, .int .i64 id] 83)).alloc (by simp; omega) (.cells #[.int .i64 0, .int .i64 0] 57)
  have t0 := (((Blk.new w 25 #[.slice A n c, .slice B m d]).alloc (.cells #[.int .i64 kind, .int .i64 id] 83)).alloc (.cells #[.int .i64 0, .int .i64 0] 57))
  have x0 := (Blk.at_new (W := w.alloc (.cells #[.slice A n c, .slice B m d] 25)) (g := w.heap.size + 1) 83 #[.int .i64 kind, .int .i64 id] (by simp)).alloc (.cells #[.int .i64 0, .int .i64 0] 57)
  have r0 := Blk.at_new (W := (w.alloc (.cells #[.slice A n c, .slice B m d] 25)).alloc (.cells #[.int .i64 kind, .int .i64 id] 83)) (g := w.heap.size + 1 + 1) 57 #[.int .i64 0, .int .i64 0] (by simp)
  have HOk := Lib.hid h
  have HLh := Lib.hid (show hs.length = n from h.h.len)
  have HLm := Lib.hid (show ms.length = m from h.m.len)
  have HB0 := Lib.hid hb0
  have HT0 := Lib.hid t0
  have HX0 := Lib.hid x0
  have HR0 := Lib.hid r0
  clear h hb0 t0 x0 r0
  go_enter Tryz.func96, Tryz.ntmps96
  go_upto_region 1 with fail
  generalize hW : ((w.alloc (.cells #[.slice A n c, .slice B m d] 25)).alloc (.cells #[.int .i64 kind, .int .i64 id] 83)).alloc (.cells #[.int .i64 0, .int .i64 0] 57) = W at *
  clear hW
  have HWi := Lib.hid (rwithin_any kind 1 3 W)
  have a0 := HX0.out.cell 0
  have a1 := HX0.out.cell 1
  simp only [List.getElem?_toArray, List.getElem?_cons_zero, List.getElem?_cons_succ] at a0 a1
  have al := HX0.out.lt
  by_cases hk : 1 ≤ kind ∧ kind ≤ 3
  case neg =>
    rw [decide_eq_false hk] at HWi
    have HE := Lib.hid (ofV_kind (hs := hs) (ms := ms) (id := id) hk)
    go_wp2_with (go_at_call 123; with_reducible refine HWi.out.mono ?_; rintro e w1 ⟨rfl, hb1⟩; have HR1 := Lib.hid (HR0.out.below hb1); have z0 := HR1.out.cell 0; have z1 := HR1.out.cell 1; simp only [List.getElem?_toArray, List.getElem?_cons_zero, List.getElem?_cons_succ] at z0 z1; have zl := HR1.out.lt; have f0 := HR1.out.frozen 0; have f1 := HR1.out.frozen 1; have HB1 := Lib.hid (HB0.out.trans (hb1.mono HB0.out.size)))
    have hf := blk_set2 HR1.out (.int .i64 0) (.int .i64 0)
    have x0 := hf.cell 0
    have x1 := hf.cell 1
    simp only [List.getElem?_toArray, List.getElem?_cons_zero, List.getElem?_cons_succ] at x0 x1
    exact bodyPost_ret (v := .tuple #[vSp 0 0, .int .i64 1]) (by simp [results, Tryz.results96, go_sem, x0, x1]) rfl ⟨by rw [HE.out.1, HE.out.2], below_set2 HB1.out (by omega) _ _⟩
  case pos =>
  rw [decide_eq_true hk] at HWi
  go_upto_region 5 with (go_at_call 123; with_reducible refine HWi.out.mono ?_; rintro e w1 ⟨rfl, hb1⟩)
  have HB1 := Lib.hid (HB0.out.trans (hb1.mono HB0.out.size))
  have HT1 := Lib.hid (HT0.out.below hb1)
  have HX1 := Lib.hid (HX0.out.below hb1)
  have HR1 := Lib.hid (HR0.out.below hb1)
  clear a0 a1 al hb1 HWi HB0 HT0 HX0 HR0
  go_loopw [7] (fun i wx => ∃ k : Nat, k ≤ m ∧ i = .int .i64 (k : Int) ∧ (kind = 1 → ∀ i, i < k → (mat ms i).id ≠ id) ∧ Below w1.heap.size w1 wx) (fun i _ => m - (intOf i).toNat)
  case atStart => exact ⟨0, Nat.zero_le _, rfl, fun _ i h => absurd h (Nat.not_lt_zero _), Below.refl _ _⟩
  case round =>
    obtain ⟨k, hkm, rfl, hq, hb⟩ := hrel
    have HQ := Lib.hid hq
    have HBr := Lib.hid hb
    have HB := Lib.hid (HB1.out.trans (hb.mono HB1.out.size))
    have HT := Lib.hid (HT1.out.below hb)
    have HX := Lib.hid (HX1.out.below hb)
    have HR := Lib.hid (HR1.out.below hb)
    clear hq hb
    have y0 := HT.out.cell 0
    have y1 := HT.out.cell 1
    have a0 := HX.out.cell 0
    have a1 := HX.out.cell 1
    simp only [List.getElem?_toArray, List.getElem?_cons_zero, List.getElem?_cons_succ] at y0 y1 a0 a1
    have yl := HT.out.lt
    have al := HX.out.lt
    by_cases c1 : kind = 1
    case pos =>
      have c1b : (kind == 1) = true := by simpa using c1
      by_cases hlt : k < m
      case pos =>
        have hkl : k < ms.length := by rw [HLm.out]; exact hlt
        obtain ⟨b, off, eB, hl⟩ := HOk.out.m.at_ (by dsimp only; omega)
        dsimp only at eB
        subst eB
        have HLs := Lib.hid hl
        have hl2 := hl.below HB.out
        obtain ⟨u0, u1, u2, u3, u4⟩ := Mvs.at_ hl2 (List.getElem?_eq_getElem hkl)
        rw [← mat_eq hkl] at u0 u3 u4
        have ul := hl2.lt
        obtain ⟨md, hmd⟩ : ∃ x, (mat ms k).id = x := ⟨_, rfl⟩
        rw [hmd] at u0
        have HMd := Lib.hid hmd
        have HC1 := Lib.hid c1
        clear hl hl2 hmd u1 u2 u3 u4 c1
        go_upto_region 7 with fail
        obtain ⟨xc, xf'⟩ := xcell (W := wr)
        refine wp_region_quiet_tail 9 (by kernel_rfl) (by kernel_rfl) ?_
        simp only [List.take_succ_cons, List.take_zero, List.drop_succ_cons, List.drop_zero]
        repeat (first | go_big_quiet_step (fail) | quiet_step (fail))
        refine wpQuiet_nil ?_
        intro w2 hb2
        have HT2 := Lib.hid (HT.out.below hb2)
        have HR2 := Lib.hid (HR.out.below hb2)
        have HB2 := Lib.hid (HB.out.trans (hb2.mono HB.out.size))
        have HBs := Lib.hid (HBr.out.trans (hb2.mono HBr.out.size))
        clear y0 y1 a0 a1 yl al u0 ul xc xf' hb2
        by_cases c2 : md = id
        case pos =>
          rw [show (md == id) = true by simpa using c2]
          have HE := Lib.hid (ofV_mass (hs := hs) (ms := ms) HC1.out hkl (HMd.out.trans c2) (HQ.out HC1.out))
          obtain ⟨lo, hlo⟩ : ∃ x, (mat ms k).lo = x := ⟨_, rfl⟩
          obtain ⟨hi, hhi⟩ : ∃ x, (mat ms k).hi = x := ⟨_, rfl⟩
          rw [hlo, hhi] at HE
          have y0 := HT2.out.cell 0
          have y1 := HT2.out.cell 1
          have z0 := HR2.out.cell 0
          have z1 := HR2.out.cell 1
          simp only [List.getElem?_toArray, List.getElem?_cons_zero, List.getElem?_cons_succ] at y0 y1 z0 z1
          have yl := HT2.out.lt
          have zl := HR2.out.lt
          have f0 := HR2.out.frozen 0
          have f1 := HR2.out.frozen 1
          have hl2 := HLs.out.below HB2.out
          obtain ⟨u0, u1, u2, u3, u4⟩ := Mvs.at_ hl2 (List.getElem?_eq_getElem hkl)
          rw [← mat_eq hkl] at u3 u4
          rw [hlo] at u3
          rw [hhi] at u4
          have ul := hl2.lt
          clear hl2 u0 u1 u2 hlo hhi c2
          go_wp2
          have hf := blk_set2 HR2.out (.int .i64 lo) (.int .i64 hi)
          have x0 := hf.cell 0
          have x1 := hf.cell 1
          simp only [List.getElem?_toArray, List.getElem?_cons_zero, List.getElem?_cons_succ] at x0 x1
          exact bodyPost_ret (v := .tuple #[vSp lo hi, .int .i64 0]) (by simp [results, Tryz.results96, go_sem, x0, x1]) rfl ⟨by rw [HE.out.1, HE.out.2], below_set2 HB2.out (by omega) _ _⟩
        case neg =>
          rw [show (md == id) = false by simpa using c2]
          have HNe := Lib.hid (show (mat ms k).id ≠ id by rw [HMd.out]; exact c2)
          clear c2
          go_wp2
          go_roundw
          case rel => exact ⟨k + 1, by omega, by go_num, fun h i hi => by
            rcases Nat.lt_succ_iff_lt_or_eq.1 hi with hi | hi
            · exact HQ.out h i hi
            · subst hi; exact HNe.out, HBs.out⟩
          case measure => simp [intOf]; omega
      case neg =>
        have HE := Lib.hid (ofV_nomass (hs := hs) (ms := ms) c1 (fun i hi => HQ.out c1 i (by have := HLm.out; omega)))
        obtain ⟨p, hp⟩ : ∃ p, pos hs id = p := ⟨_, rfl⟩
        have HP := Lib.hid (HPl.out wr (HOk.out.below HB.out))
        rw [hp] at HP
        clear hp c1
        go_wp2_with (go_at_call 94; with_reducible refine HP.out.mono ?_; rintro e w2 ⟨rfl, hb2⟩; have HX2 := Lib.hid (HX.out.below hb2); have HR2 := Lib.hid (HR.out.below hb2); have aa0 := HX2.out.cell 0; have aa1 := HX2.out.cell 1; have z0 := HR2.out.cell 0; have z1 := HR2.out.cell 1; simp only [List.getElem?_toArray, List.getElem?_cons_zero, List.getElem?_cons_succ] at aa0 aa1 z0 z1; have aal := HX2.out.lt; have zl := HR2.out.lt; have f0 := HR2.out.frozen 0; have f1 := HR2.out.frozen 1; have HB2 := Lib.hid (HB.out.trans (hb2.mono HB.out.size)))
        have hf := blk_set2 HR2.out (.int .i64 0) (.int .i64 0)
        have x0 := hf.cell 0
        have x1 := hf.cell 1
        simp only [List.getElem?_toArray, List.getElem?_cons_zero, List.getElem?_cons_succ] at x0 x1
        exact bodyPost_ret (v := .tuple #[vSp 0 0, .int .i64 5]) (by simp [results, Tryz.results96, go_sem, x0, x1]) rfl ⟨by rw [HE.out.1, HE.out.2], below_set2 HB2.out (by omega) _ _⟩
    case neg =>
      have c1b : (kind == 1) = false := by simpa using c1
      have HP := Lib.hid (HPl.out wr (HOk.out.below HB.out))
      by_cases c2 : pos hs id < 0
      case pos =>
        have HE := Lib.hid (ofV_nohd (hs := hs) (ms := ms) c1 hk c2)
        obtain ⟨p, hp⟩ : ∃ p, pos hs id = p := ⟨_, rfl⟩
        rw [hp] at HP c2
        have c2b : decide (p < 0) = true := decide_eq_true c2
        clear hp c1 c2
        go_wp2_with (go_at_call 94; with_reducible refine HP.out.mono ?_; rintro e w2 ⟨rfl, hb2⟩; have HX2 := Lib.hid (HX.out.below hb2); have HR2 := Lib.hid (HR.out.below hb2); have aa0 := HX2.out.cell 0; have aa1 := HX2.out.cell 1; have z0 := HR2.out.cell 0; have z1 := HR2.out.cell 1; simp only [List.getElem?_toArray, List.getElem?_cons_zero, List.getElem?_cons_succ] at aa0 aa1 z0 z1; have aal := HX2.out.lt; have zl := HR2.out.lt; have f0 := HR2.out.frozen 0; have f1 := HR2.out.frozen 1; have HB2 := Lib.hid (HB.out.trans (hb2.mono HB.out.size)))
        all_goals
          have hf := blk_set2 HR2.out (.int .i64 0) (.int .i64 0)
          have x0 := hf.cell 0
          have x1 := hf.cell 1
          simp only [List.getElem?_toArray, List.getElem?_cons_zero, List.getElem?_cons_succ] at x0 x1
          exact bodyPost_ret (v := .tuple #[vSp 0 0, .int .i64 5]) (by simp [results, Tryz.results96, go_sem, x0, x1]) rfl ⟨by rw [HE.out.1, HE.out.2], below_set2 HB2.out (by omega) _ _⟩
      case neg =>
        obtain ⟨i, hi, hil, hE⟩ := ofV_hd (ms := ms) c1 hk c2
        rw [hi] at HP
        have HE := Lib.hid hE
        have hib : decide ((i : Int) < 0) = false := decide_eq_false (by omega)
        have hin : i < n := by rw [← HLh.out]; exact hil
        obtain ⟨b, off, eA, hl⟩ := HOk.out.h.at_ (show 0 < n by omega)
        dsimp only at eA
        subst eA
        have HLs := Lib.hid hl
        obtain ⟨x, hx⟩ : ∃ x, hat hs i = x := ⟨_, rfl⟩
        rw [hx] at HE
        have HXe := Lib.hid (show hs[i]'hil = x by rw [← hat_eq hil]; exact hx)
        obtain ⟨xd, xsl, xsh, xel, xeh, xbk⟩ := x
        clear hl hx hi hE c1 c2
        by_cases c3 : kind = 2
        case pos =>
          have c3b : (kind == 2) = true := by simpa using c3
          rw [if_pos c3] at HE
          clear c3
          go_wp2_with (go_at_call 94; with_reducible refine HP.out.mono ?_; rintro e w2 ⟨rfl, hb2⟩; have HT2 := Lib.hid (HT.out.below hb2); have HX2 := Lib.hid (HX.out.below hb2); have HR2 := Lib.hid (HR.out.below hb2); have aa0 := HX2.out.cell 0; have aa1 := HX2.out.cell 1; have z0 := HR2.out.cell 0; have z1 := HR2.out.cell 1; have yy0 := HT2.out.cell 0; have yy1 := HT2.out.cell 1; simp only [List.getElem?_toArray, List.getElem?_cons_zero, List.getElem?_cons_succ] at aa0 aa1 z0 z1 yy0 yy1; have aal := HX2.out.lt; have zl := HR2.out.lt; have yyl := HT2.out.lt; have f0 := HR2.out.frozen 0; have f1 := HR2.out.frozen 1; have HB2 := Lib.hid (HB.out.trans (hb2.mono HB.out.size)); have hl2 := HLs.out.below HB2.out; obtain ⟨u0, u1, u2, u3, u4, u5⟩ := Hds.at_ hl2 (List.getElem?_eq_getElem hil); rw [HXe.out] at u0 u1 u2 u3 u4 u5; dsimp only at u0 u1 u2 u3 u4 u5; have ul := hl2.lt; clear hl2)
          all_goals
            have hf := blk_set2 HR2.out (.int .i64 xsl) (.int .i64 xsh)
            have x0 := hf.cell 0
            have x1 := hf.cell 1
            simp only [List.getElem?_toArray, List.getElem?_cons_zero, List.getElem?_cons_succ] at x0 x1
            exact bodyPost_ret (v := .tuple #[vSp xsl xsh, .int .i64 0]) (by simp [results, Tryz.results96, go_sem, x0, x1]) rfl ⟨by rw [HE.out.1, HE.out.2], below_set2 HB2.out (by omega) _ _⟩
        case neg =>
          have c3b : (kind == 2) = false := by simpa using c3
          rw [if_neg c3] at HE
          clear c3
          go_wp2_with (go_at_call 94; with_reducible refine HP.out.mono ?_; rintro e w2 ⟨rfl, hb2⟩; have HT2 := Lib.hid (HT.out.below hb2); have HX2 := Lib.hid (HX.out.below hb2); have HR2 := Lib.hid (HR.out.below hb2); have aa0 := HX2.out.cell 0; have aa1 := HX2.out.cell 1; have z0 := HR2.out.cell 0; have z1 := HR2.out.cell 1; have yy0 := HT2.out.cell 0; have yy1 := HT2.out.cell 1; simp only [List.getElem?_toArray, List.getElem?_cons_zero, List.getElem?_cons_succ] at aa0 aa1 z0 z1 yy0 yy1; have aal := HX2.out.lt; have zl := HR2.out.lt; have yyl := HT2.out.lt; have f0 := HR2.out.frozen 0; have f1 := HR2.out.frozen 1; have HB2 := Lib.hid (HB.out.trans (hb2.mono HB.out.size)); have hl2 := HLs.out.below HB2.out; obtain ⟨u0, u1, u2, u3, u4, u5⟩ := Hds.at_ hl2 (List.getElem?_eq_getElem hil); rw [HXe.out] at u0 u1 u2 u3 u4 u5; dsimp only at u0 u1 u2 u3 u4 u5; have ul := hl2.lt; clear hl2)
          all_goals
            have hf := blk_set2 HR2.out (.int .i64 xel) (.int .i64 xeh)
            have x0 := hf.cell 0
            have x1 := hf.cell 1
            simp only [List.getElem?_toArray, List.getElem?_cons_zero, List.getElem?_cons_succ] at x0 x1
            exact bodyPost_ret (v := .tuple #[vSp xel xeh, .int .i64 0]) (by simp [results, Tryz.results96, go_sem, x0, x1]) rfl ⟨by rw [HE.out.1, HE.out.2], below_set2 HB2.out (by omega) _ _⟩
end Go.Proofs.YtighfmgkoepfkaaGreat

namespace Go.Proofs.YtighfmgkoepfkaaGreat
open Go.RowKit

def fM (kind id lo hi : Int) (m : Mv) : Mv := if kind = 1 ∧ m.id = id then setM lo hi m else m
def fH (kind id lo hi : Int) (h : Hd) : Hd := if kind = 2 ∧ h.id = id then setS lo hi h else if kind = 3 ∧ h.id = id then setE lo hi h else h
theorem putIM_eq (ms : List Mv) (kind id lo hi : Int) : putIM ms kind id lo hi = ms.map (fM kind id lo hi) := rfl
theorem putIH_eq (hs : List Hd) (kind id lo hi : Int) : putIH hs kind id lo hi = hs.map (fH kind id lo hi) := rfl
set_option maxRecDepth 100000 in
set_option maxHeartbeats 12800000 in
theorem Put_any (t : TR) (kind id lo hi : Int) (w : World) (h : t.Ok w) (hn : t.n ≤ 1000000) (hm : t.m ≤ 1000000) :
    Calls Tryz.prog 54 #[t.v, vAt kind id, vSp lo hi] w fun e w' => ∃ v1 v2, e = .returned (.agg #[v1, v2]) ∧ OwnT w' w.heap.size v1 v2 (putIH t.hs kind id lo hi) (putIM t.ms kind id lo hi) ∧ Below w.heap.size w w' := by
  obtain ⟨A, n, c, B, m, d, hs, ms⟩ := t
  dsimp only [TR.v, vAt] at *
  have HOk := Lib.hid h
  have HLh := Lib.hid (show hs.length = n from h.h.len)
  have HLm := Lib.hid (show ms.length = m from h.m.len)
  have HBw : Hid (Below w.heap.size w ((((w.alloc (.cells #[.slice A n c, .slice B m d] 25)).alloc (.cells #[.int .i64 kind, .int .i64 id] 83)).alloc (.cells #[.int .i64 lo, .int .i64 hi] 57)).alloc (.cells #[.slice none 0 0, .slice none 0 0] 25))) := Lib.hid (((((Below.refl w.heap.size w).alloc (Nat.le_refl _) _).alloc (by simp) _).alloc (by simp; omega) _).alloc (by simp; omega) _)
  have HT0 : Hid (Blk ((((w.alloc (.cells #[.slice A n c, .slice B m d] 25)).alloc (.cells #[.int .i64 kind, .int .i64 id] 83)).alloc (.cells #[.int .i64 lo, .int .i64 hi] 57)).alloc (.cells #[.slice none 0 0, .slice none 0 0] 25)) (w.heap.size) 25 #[.slice A n c, .slice B m d]) := Lib.hid ((((Blk.at_new 25 #[.slice A n c, .slice B m d] rfl).alloc _).alloc _).alloc _)
  have HX0 : Hid (Blk ((((w.alloc (.cells #[.slice A n c, .slice B m d] 25)).alloc (.cells #[.int .i64 kind, .int .i64 id] 83)).alloc (.cells #[.int .i64 lo, .int .i64 hi] 57)).alloc (.cells #[.slice none 0 0, .slice none 0 0] 25)) (w.heap.size + 1) 83 #[.int .i64 kind, .int .i64 id]) := Lib.hid (((Blk.at_new 83 #[.int .i64 kind, .int .i64 id] (by simp)).alloc _).alloc _)
  have HS0 : Hid (Blk ((((w.alloc (.cells #[.slice A n c, .slice B m d] 25)).alloc (.cells #[.int .i64 kind, .int .i64 id] 83)).alloc (.cells #[.int .i64 lo, .int .i64 hi] 57)).alloc (.cells #[.slice none 0 0, .slice none 0 0] 25)) (w.heap.size + 1 + 1) 57 #[.int .i64 lo, .int .i64 hi]) := Lib.hid ((Blk.at_new 57 #[.int .i64 lo, .int .i64 hi] (by simp)).alloc _)
  have HR0 : Hid (Blk ((((w.alloc (.cells #[.slice A n c, .slice B m d] 25)).alloc (.cells #[.int .i64 kind, .int .i64 id] 83)).alloc (.cells #[.int .i64 lo, .int .i64 hi] 57)).alloc (.cells #[.slice none 0 0, .slice none 0 0] 25)) (w.heap.size + 1 + 1 + 1) 25 #[.slice none 0 0, .slice none 0 0]) := Lib.hid (Blk.at_new 25 #[.slice none 0 0, .slice none 0 0] (by simp))
  clear h
  go_enter Tryz.func54, Tryz.ntmps54
  go_upto_region 1 with fail
  have hWs : ((((w.alloc (.cells #[.slice A n c, .slice B m d] 25)).alloc (.cells #[.int .i64 kind, .int .i64 id] 83)).alloc (.cells #[.int .i64 lo, .int .i64 hi] 57)).alloc (.cells #[.slice none 0 0, .slice none 0 0] 25)).heap.size = w.heap.size + 4 := by simp
  generalize hW : (((w.alloc (.cells #[.slice A n c, .slice B m d] 25)).alloc (.cells #[.int .i64 kind, .int .i64 id] 83)).alloc (.cells #[.int .i64 lo, .int .i64 hi] 57)).alloc (.cells #[.slice none 0 0, .slice none 0 0] 25) = W at *
  have HWs := Lib.hid hWs
  clear hW hWs
  obtain ⟨i0, hi0, hi1, hi2, hi3⟩ := info_parts info_hd
  obtain ⟨i1, hj0, hj1, hj2, hj3⟩ := info_parts info_mv
  have HIh := Lib.hid (And.intro hi0 (And.intro hi1 (And.intro hi2 hi3)))
  have HIm := Lib.hid (And.intro hj0 (And.intro hj1 (And.intro hj2 hj3)))
  clear hi0 hi1 hi2 hi3 hj0 hj1 hj2 hj3
  refine wp_region_preC 10 [(0, 10), (3, 13), (4, 14), (7, 17), (8, 18), (9, 7)] (fun v => Below W.heap.size W v) (CpP W.heap.size n m hs ms) (by kernel_rfl) (by kernel_rfl) (Below.refl _ _) (fun v v' h kk => h.trans (kk.mono h.size)) (fun v _ => CpP.init) (fun ls vs v v' _ h kk => h.below kk) ?_
  apply Exists.intro
  refine ⟨?walk, ?loud, ?last⟩
  case walk =>
    intro V hV
    have HTv := HT0.out.below hV
    have y0 := HTv.cell 0
    have y1 := HTv.cell 1
    simp only [List.getElem?_toArray, List.getElem?_cons_zero, List.getElem?_cons_succ] at y0 y1
    have yl := HTv.lt
    clear HTv
    obtain ⟨xc, xf'⟩ := xcell (W := V)
    simp only [List.take_succ_cons, List.take_zero, qOf, isLoud, List.any_cons, List.any_nil, Nat.reduceBEq, Bool.or_false, Bool.or_true, Nat.reduceAdd, Bool.false_eq_true, if_true, if_false, beq_self_eq_true, Nat.zero_add]
    repeat (first | go_big_quiet_step (fail) | quiet_step (fail))
    exact wpQuiet_nil rfl
  case loud =>
    rintro pp hpp vs v hC ls hI hls hw o ho
    simp only [List.mem_cons, List.not_mem_nil, or_false] at hpp
    rcases hpp with rfl | rfl | rfl | rfl | rfl | rfl
    · simp only [List.getElem?_cons_zero, Option.some.injEq] at ho
      subst ho
      simp [loudAt, loudUpon, go_sem, execOp, putsL, Act.put]
      exact ⟨hC.alloc hC.size _, hI.s0 hC.size⟩
    · have r0 := hI.b0 (hw (0, 10) (by simp) (by kernel_rfl)) hls
      simp only [List.getElem?_cons_succ, List.getElem?_cons_zero, Option.some.injEq] at ho
      subst ho
      cases A with
      | none =>
        obtain rfl : n = 0 := by
          refine Nat.eq_zero_of_not_pos fun q => ?_
          obtain ⟨b, off, e, _⟩ := HOk.out.h.at_ q
          cases e
        obtain rfl : hs = [] := List.eq_nil_of_length_eq_zero HLh.out
        exact loudAt_append_nil (.tmp 10) (.tmp 12) 22 rfl W.heap.size 118 i0 6 Tryz.underlying22 HIh.out.1 (vs 0) 0 [] rfl r0 c rfl ⟨hC, hI.s3 hls r0 (grown_refl _ _) (by simpa using r0)⟩
      | some a =>
        have hf := ((HOk.out.h.below HBw.out).below hC).flat encH_len (by decide)
        refine loudAt_append (.tmp 10) (.tmp 12) 22 rfl W.heap.size 118 i0 (.agg #[.int .i64 0, .int .i64 0, .int .i64 0, .int .i64 0, .int .i64 0, .int .i64 0]) 6 48 Tryz.underlying22 HIh.out.1 HIh.out.2.1 HIh.out.2.2.1 HIh.out.2.2.2 rfl (by decide) (vs 0) 0 [] rfl r0 a n c (hs.flatMap encH) rfl (by rw [flat_len encH_len, HLh.out]) hf (encH_one hs) (by unfold maxLen; omega) (by omega) hC.size ?_
        intro v' w3 hown hgrow hat
        exact ⟨hC.grown hgrow hC.size (fun r hr => (own_lt r0 hr).1), hI.s3 hls r0 hgrow (by simpa using hown)⟩
    · simp only [List.getElem?_cons_succ, List.getElem?_cons_zero, Option.some.injEq] at ho
      subst ho
      simp [loudAt, loudUpon, go_sem, execOp, putsL, Act.put]
      exact ⟨hC.alloc hC.size _, hI.s4 hC.size⟩
    · have r0 := hI.b4 (hw (4, 14) (by simp) (by kernel_rfl)) hls
      simp only [List.getElem?_cons_succ, List.getElem?_cons_zero, Option.some.injEq] at ho
      subst ho
      cases B with
      | none =>
        obtain rfl : m = 0 := by
          refine Nat.eq_zero_of_not_pos fun q => ?_
          obtain ⟨b, off, e, _⟩ := HOk.out.m.at_ q
          cases e
        obtain rfl : ms = [] := List.eq_nil_of_length_eq_zero HLm.out
        exact loudAt_append_nil (.tmp 14) (.tmp 16) 23 rfl W.heap.size 59 i1 5 Tryz.underlying23 HIm.out.1 (vs 4) 0 [] rfl r0 d rfl ⟨hC, hI.s7 hls r0 (grown_refl _ _) (by simpa using r0)⟩
      | some a =>
        have hf := ((HOk.out.m.below HBw.out).below hC).flat encM_len (by decide)
        refine loudAt_append (.tmp 14) (.tmp 16) 23 rfl W.heap.size 59 i1 (.agg #[.int .i64 0, .int .i64 0, .int .i64 0, .int .i64 0, .int .i64 0]) 5 40 Tryz.underlying23 HIm.out.1 HIm.out.2.1 HIm.out.2.2.1 HIm.out.2.2.2 rfl (by decide) (vs 4) 0 [] rfl r0 a m d (ms.flatMap encM) rfl (by rw [flat_len encM_len, HLm.out]) hf (encM_one ms) (by unfold maxLen; omega) (by omega) hC.size ?_
        intro v' w3 hown hgrow hat
        exact ⟨hC.grown hgrow hC.size (fun r hr => (own_lt r0 hr).1), hI.s7 hls r0 hgrow (by simpa using hown)⟩
    · have h3 := hw (3, 13) (by simp) (by kernel_rfl)
      have h7 := hw (7, 17) (by simp) (by kernel_rfl)
      obtain ⟨A1, c1, e3⟩ := owns_slice (hI.r3 h3)
      obtain ⟨B1, d1, e7⟩ := owns_slice (hI.r7 h7)
      have hI8 := hI.s8 h3 h7
      simp only [List.getElem?_cons_succ, List.getElem?_cons_zero, Option.some.injEq] at ho
      subst ho
      simp [loudAt, loudUpon, go_sem, execOp, putsL, Act.put, e3, e7]
      rw [e3, e7] at hI8
      exact ⟨hC, hI8⟩
    · simp only [List.getElem?_cons_succ, List.getElem?_cons_zero, Option.some.injEq] at ho
      subst ho
      simp [loudAt, loudUpon, go_sem, execOp]
      exact ⟨hC.alloc hC.size _, hI.s9 hC.size⟩
  case last =>
  rintro ls vs V hV hI hls
  have r3 := hI.r3 (hls (3, 13) (by simp))
  have r7 := hI.r7 (hls (7, 17) (by simp))
  obtain ⟨-, -, e8⟩ := hI.p8 (hls (8, 18) (by simp))
  obtain ⟨g, e9, hgL, hbk⟩ := hI.p9 (hls (9, 7) (by simp))
  obtain ⟨A1, c1, e3⟩ := owns_slice r3
  obtain ⟨B1, d1, e7⟩ := owns_slice r7
  rw [e3, e7] at e8
  rw [e3] at r3
  rw [e7] at r7
  have HVb := Lib.hid hV
  have HVg := Lib.hid hgL
  have HVk := Lib.hid hbk
  have HVh := Lib.hid r3
  have HVm := Lib.hid r7
  clear hI hls hV hgL hbk r3 r7
  simp only [putsL, List.foldl_cons, List.foldl_nil, List.drop_succ_cons, List.drop_zero, Act.put, e3, e7, e8, e9, List.setIfInBounds_toArray, List.set_cons_succ, List.set_cons_zero]
  generalize vs 0 = v0 at *
  generalize vs 4 = v4 at *
  clear e3 e7 e8 e9
  have k0 := HVk.out.cell 0
  have k1 := HVk.out.cell 1
  simp only [List.getElem?_toArray, List.getElem?_cons_zero, List.getElem?_cons_succ] at k0 k1
  have kl := HVk.out.lt
  have kf0 := HVk.out.frozen 0
  have kf1 := HVk.out.frozen 1
  have hWs := HWs.out
  have hgL := HVg.out
  have hgr := grown_set2 V g (.slice A1 n c1) (.slice B1 m d1)
  have hnh := own_ne HVh.out HVk.out (by decide)
  have hnm := own_ne HVm.out HVk.out (by decide)
  have HB1 := Lib.hid (below_set2 (HBw.out.trans (HVb.out.mono HBw.out.size)) (g := g) (by omega) (.slice A1 n c1) (.slice B1 m d1))
  have HT1 := Lib.hid ((HT0.out.below HVb.out).grown hgr (fun e => by have e2 := Option.some.inj e; omega))
  have HX1 := Lib.hid ((HX0.out.below HVb.out).grown hgr (fun e => by have e2 := Option.some.inj e; omega))
  have HS1 := Lib.hid ((HS0.out.below HVb.out).grown hgr (fun e => by have e2 := Option.some.inj e; omega))
  have HR1 := Lib.hid ((HR0.out.below HVb.out).grown hgr (fun e => by have e2 := Option.some.inj e; omega))
  have HQ1 := Lib.hid (blk_set2 HVk.out (.slice A1 n c1) (.slice B1 m d1))
  have HH1 := Lib.hid (owns_grown HVh.out hgr (fun r hr e => hnh (by rw [hr, ← e])))
  have HM1 := Lib.hid (owns_grown HVm.out hgr (fun r hr e => hnm (by rw [hr, ← e])))
  clear hgr hnh hnm HVb HVk HVh HVm HBw HT0 HX0 HS0 HR0
  go_upto_region 3 with fail
  clear k0 k1 kl kf0 kf1
  generalize hV1 : (V.setCell ⟨g, 0, none⟩ (.slice A1 n c1)).setCell ⟨g, 1, none⟩ (.slice B1 m d1) = V1 at *
  generalize hL : W.heap.size = L at *
  have HVg2 := Lib.hid hgL
  have HWs2 := Lib.hid hWs
  clear hV1 hL HVg HWs
  go_loopw [8] (fun i wx => ∃ k : Nat, k ≤ m ∧ i = .int .i64 (k : Int) ∧ wx.ownsRow L 59 5 (.slice B1 m d1) m ((mapT (fM kind id lo hi) ms k).flatMap encM) ∧ wx.ownsRow L 118 6 (.slice A1 n c1) n (hs.flatMap encH) ∧ Below w.heap.size w wx ∧ Blk wx w.heap.size 25 #[.slice A n c, .slice B m d] ∧ Blk wx (w.heap.size + 1) 83 #[.int .i64 kind, .int .i64 id] ∧ Blk wx (w.heap.size + 1 + 1) 57 #[.int .i64 lo, .int .i64 hi] ∧ Blk wx (w.heap.size + 1 + 1 + 1) 25 #[.slice none 0 0, .slice none 0 0] ∧ Blk wx g 25 #[.slice A1 n c1, .slice B1 m d1]) (fun i _ => m - (intOf i).toNat)
  case atStart => exact ⟨0, Nat.zero_le _, rfl, by rw [mapT_zero]; exact HM1.out, HH1.out, HB1.out, HT1.out, HX1.out, HS1.out, HR1.out, HQ1.out⟩
  case round =>
    clear HM1 HH1 HB1 HT1 HX1 HS1 HR1 HQ1
    obtain ⟨k, hk, rfl, om, oh, hb, ht, hx, hs', hr, hq⟩ := hrel
    have OM := Lib.hid om
    have OH := Lib.hid oh
    have HBk := Lib.hid hb
    have HTk := Lib.hid ht
    have HXk := Lib.hid hx
    have HSk := Lib.hid hs'
    have HRk := Lib.hid hr
    have HQk := Lib.hid hq
    clear om oh hb ht hx hs' hr hq
    have y0 := HXk.out.cell 0
    have y1 := HXk.out.cell 1
    have q0 := HQk.out.cell 0
    have q1 := HQk.out.cell 1
    have s0 := HSk.out.cell 0
    have s1 := HSk.out.cell 1
    simp only [List.getElem?_toArray, List.getElem?_cons_zero, List.getElem?_cons_succ] at y0 y1 q0 q1 s0 s1
    have yl := HXk.out.lt
    have ql := HQk.out.lt
    have sl := HSk.out.lt
    by_cases hkm : k < m
    case pos =>
      have hkl : k < ms.length := by rw [HLm.out]; exact hkm
      by_cases ck : kind = 1
      case neg =>
        have ckb : (kind == 1) = false := by simpa using ck
        have HSm := Lib.hid (mapT_same (f := fM kind id lo hi) hkl (by unfold fM; rw [if_neg (fun q => ck q.1)]))
        clear ck
        go_upto_region 5 with fail
        obtain ⟨xc, xf'⟩ := xcell (W := wr)
        refine wp_region_quiet_tail 14 (by kernel_rfl) (by kernel_rfl) ?_
        simp only [List.take_succ_cons, List.take_zero, List.drop_succ_cons, List.drop_zero]
        repeat (first | go_big_quiet_step (fail) | quiet_step (fail))
        refine wpQuiet_nil ?_
        intro w5 hb5
        clear y0 y1 q0 q1 s0 s1 yl ql sl xc xf'
        go_wp2
        go_roundw
        case rel => exact ⟨k + 1, by omega, by go_num, by rw [HSm.out]; exact owns_below OM.out hb5, owns_below OH.out hb5, HBk.out.trans (hb5.mono HBk.out.size), HTk.out.below hb5, HXk.out.below hb5, HSk.out.below hb5, HRk.out.below hb5, HQk.out.below hb5⟩
        case measure => simp [intOf]; omega
      case pos =>
        have ckb : (kind == 1) = true := by simpa using ck
        obtain ⟨gb, hgb'⟩ := form_some OM.out
        obtain rfl := hgb' (by omega)
        have hrow := Ls_of_row (enc := encM) (zs := mapT (fM kind id lo hi) ms k) encM_len (by rw [mapT_len]; exact HLm.out) OM.out
        obtain ⟨u0, u1, u2, u3, u4⟩ := Mvs.at_ hrow (List.getElem?_eq_getElem (by rw [mapT_len]; exact hkl))
        rw [mapT_at hkl] at u0 u1 u2 u3 u4
        simp only [Nat.zero_add] at u0 u1 u2 u3 u4
        have ul := hrow.lt
        obtain ⟨mm, hmm⟩ : ∃ x, ms[k] = x := ⟨_, rfl⟩
        rw [hmm] at u0 u1 u2 u3 u4
        have HMe := Lib.hid (show ms[k]'hkl = mm from hmm)
        obtain ⟨xi, xf, xt, xl, xh⟩ := mm
        dsimp only at u0 u1 u2 u3 u4
        have HCk := Lib.hid ck
        clear hrow hmm hgb' ck u1 u2 u3 u4
        go_upto_region 5 with fail
        obtain ⟨xc, xf'⟩ := xcell (W := wr)
        refine wp_region_quiet_tail 14 (by kernel_rfl) (by kernel_rfl) ?_
        simp only [List.take_succ_cons, List.take_zero, List.drop_succ_cons, List.drop_zero]
        repeat (first | go_big_quiet_step (fail) | quiet_step (fail))
        refine wpQuiet_nil ?_
        intro w5 hb5
        have OM5 := Lib.hid (owns_below OM.out hb5)
        have OH5 := Lib.hid (owns_below OH.out hb5)
        have HB5 := Lib.hid (HBk.out.trans (hb5.mono HBk.out.size))
        have HT5 := Lib.hid (HTk.out.below hb5)
        have HX5 := Lib.hid (HXk.out.below hb5)
        have HS5 := Lib.hid (HSk.out.below hb5)
        have HR5 := Lib.hid (HRk.out.below hb5)
        have HQ5 := Lib.hid (HQk.out.below hb5)
        clear y0 y1 q0 q1 s0 s1 yl ql sl u0 ul xc xf' hb5
        by_cases c1 : xi = id
        case neg =>
          rw [show (xi == id) = false by simpa using c1]
          have HSm := Lib.hid (mapT_same (f := fM kind id lo hi) hkl (by unfold fM; rw [if_neg (fun q => c1 (by rw [HMe.out] at q; exact q.2))]))
          clear c1
          go_wp2
          go_roundw
          case rel => exact ⟨k + 1, by omega, by go_num, by rw [HSm.out]; exact OM5.out, OH5.out, HB5.out, HT5.out, HX5.out, HS5.out, HR5.out, HQ5.out⟩
          case measure => simp [intOf]; omega
        case pos =>
          rw [show (xi == id) = true by simpa using c1]
          have hst := mapT_step (f := fM kind id lo hi) hkl
          rw [HMe.out, show fM kind id lo hi ⟨xi, xf, xt, xl, xh⟩ = setM lo hi ⟨xi, xf, xt, xl, xh⟩ from by unfold fM; rw [if_pos ⟨HCk.out, c1⟩]] at hst
          have HSt := Lib.hid hst
          have q0 := HQ5.out.cell 0
          have q1 := HQ5.out.cell 1
          have s0 := HS5.out.cell 0
          have s1 := HS5.out.cell 1
          simp only [List.getElem?_toArray, List.getElem?_cons_zero, List.getElem?_cons_succ] at q0 q1 s0 s1
          have ql := HQ5.out.lt
          have sl := HS5.out.lt
          have hrow := Ls_of_row (enc := encM) (zs := mapT (fM kind id lo hi) ms k) encM_len (by rw [mapT_len]; exact HLm.out) OM5.out
          obtain ⟨u0, u1, u2, u3, u4⟩ := Mvs.at_ hrow (List.getElem?_eq_getElem (by rw [mapT_len]; exact hkl))
          simp only [Nat.zero_add] at u3 u4
          have ul := hrow.lt
          obtain ⟨cur0, hb0⟩ := own_blk OM5.out (g := gb) rfl
          have fb1 : w5.frozen? ⟨gb, k * 5 + 3, none⟩ = false := Blk.frozen (show Blk w5 gb _ cur0 from hb0) _
          have fb2 : w5.frozen? ⟨gb, k * 5 + 3 + 1, none⟩ = false := Blk.frozen (show Blk w5 gb _ cur0 from hb0) _
          have hgb2 : L ≤ gb := (own_lt OM5.out (g := gb) rfl).1
          have hnm := own_ne2 OH5.out OM5.out (by decide) (g := gb) rfl
          have hnq : g ≠ gb := fun e => own_ne OM5.out HQ5.out (by decide) (by rw [e]; rfl)
          have hws := HWs2.out
          clear hrow hst u0 u1 u2 hb0 c1
          go_wp2
          go_roundw
          case rel =>
            have k1 := owns_set OM5.out (k * 5 + 3) (by rw [flat_len encM_len, mapT_len]; omega) (.int .i64 lo)
            have k2 := owns_set k1 (k * 5 + 4) (by rw [List.length_set, flat_len encM_len, mapT_len]; omega) (.int .i64 hi)
            rw [flat_setM _ _ _ _ (by rw [mapT_len]; exact hkl), modify_at (by rw [mapT_len]; exact hkl), mapT_at hkl, HMe.out, ← HSt.out] at k2
            have g2 := grown_trans (grownBy_set w5 gb (k * 5 + 3) (.int .i64 lo)) (grownBy_set _ gb (k * 5 + 4) (.int .i64 hi))
            refine ⟨k + 1, by omega, by go_num, k2, owns_grown OH5.out g2 (fun r hr e => hnm (by rw [hr, ← e])), (HB5.out.setCell (p := ⟨gb, k * 5 + 3, none⟩) (by simp; omega) _).setCell (p := ⟨gb, k * 5 + 4, none⟩) (by simp; omega) _, HT5.out.grown g2 (fun e => by have e2 := Option.some.inj e; omega), HX5.out.grown g2 (fun e => by have e2 := Option.some.inj e; omega), HS5.out.grown g2 (fun e => by have e2 := Option.some.inj e; omega), HR5.out.grown g2 (fun e => by have e2 := Option.some.inj e; omega), HQ5.out.grown g2 (fun e => hnq (Option.some.inj e).symm)⟩
          case measure => simp [intOf]; omega
    case neg =>
      have HE := Lib.hid (show mapT (fM kind id lo hi) ms k = putIM ms kind id lo hi by rw [mapT_end (by rw [HLm.out]; omega)]; rfl)
      have HM1 := Lib.hid (show wr.ownsRow L 59 5 (.slice B1 m d1) m ((putIM ms kind id lo hi).flatMap encM) by rw [← HE.out]; exact OM.out)
      have HLp := Lib.hid (show (putIM ms kind id lo hi).length = m by unfold putIM; rw [List.length_map]; exact HLm.out)
      clear OM HE
      go_upto_region 8 with fail
      clear y0 y1 q0 q1 s0 s1 yl ql sl
      go_loopw [9] (fun i wx => ∃ j : Nat, j ≤ n ∧ i = .int .i64 (j : Int) ∧ wx.ownsRow L 118 6 (.slice A1 n c1) n ((mapT (fH kind id lo hi) hs j).flatMap encH) ∧ wx.ownsRow L 59 5 (.slice B1 m d1) m ((putIM ms kind id lo hi).flatMap encM) ∧ Below w.heap.size w wx ∧ Blk wx w.heap.size 25 #[.slice A n c, .slice B m d] ∧ Blk wx (w.heap.size + 1) 83 #[.int .i64 kind, .int .i64 id] ∧ Blk wx (w.heap.size + 1 + 1) 57 #[.int .i64 lo, .int .i64 hi] ∧ Blk wx (w.heap.size + 1 + 1 + 1) 25 #[.slice none 0 0, .slice none 0 0] ∧ Blk wx g 25 #[.slice A1 n c1, .slice B1 m d1]) (fun i _ => n - (intOf i).toNat)
      case atStart => exact ⟨0, Nat.zero_le _, rfl, by rw [mapT_zero]; exact OH.out, HM1.out, HBk.out, HTk.out, HXk.out, HSk.out, HRk.out, HQk.out⟩
      case round =>
        clear HM1 OH HBk HTk HXk HSk HRk HQk
        obtain ⟨j, hj, rfl, oh, om, hb, ht, hx, hs', hr, hq⟩ := hrel
        have OM := Lib.hid om
        have OH := Lib.hid oh
        have HBk := Lib.hid hb
        have HTk := Lib.hid ht
        have HXk := Lib.hid hx
        have HSk := Lib.hid hs'
        have HRk := Lib.hid hr
        have HQk := Lib.hid hq
        clear om oh hb ht hx hs' hr hq
        have y0 := HXk.out.cell 0
        have y1 := HXk.out.cell 1
        have q0 := HQk.out.cell 0
        have q1 := HQk.out.cell 1
        have s0 := HSk.out.cell 0
        have s1 := HSk.out.cell 1
        simp only [List.getElem?_toArray, List.getElem?_cons_zero, List.getElem?_cons_succ] at y0 y1 q0 q1 s0 s1
        have yl := HXk.out.lt
        have ql := HQk.out.lt
        have sl := HSk.out.lt
        by_cases hjn : j < n
        case pos =>
          have hjl : j < hs.length := by rw [HLh.out]; exact hjn
          obtain ⟨ga, hga'⟩ := form_some OH.out
          obtain rfl := hga' (by omega)
          have hrow := Ls_of_row (enc := encH) (zs := mapT (fH kind id lo hi) hs j) encH_len (by rw [mapT_len]; exact HLh.out) OH.out
          obtain ⟨u0, u1, u2, u3, u4, u5⟩ := Hds.at_ hrow (List.getElem?_eq_getElem (by rw [mapT_len]; exact hjl))
          rw [mapT_at hjl] at u0 u1 u2 u3 u4 u5
          simp only [Nat.zero_add] at u0 u1 u2 u3 u4 u5
          have ul := hrow.lt
          obtain ⟨x, hx⟩ : ∃ x, hs[j] = x := ⟨_, rfl⟩
          rw [hx] at u0 u1 u2 u3 u4 u5
          have HMe := Lib.hid (show hs[j]'hjl = x from hx)
          obtain ⟨xi, xsl, xsh, xel, xeh, xbk⟩ := x
          dsimp only at u0 u1 u2 u3 u4 u5
          clear hrow hx hga' u1 u2 u3 u4 u5
          go_upto_region 10 with fail
          by_cases ck : kind = 2 ∧ xi = id
          case pos =>
            have hst := mapT_step (f := fH kind id lo hi) hjl
            rw [HMe.out, show fH kind id lo hi ⟨xi, xsl, xsh, xel, xeh, xbk⟩ = setS lo hi ⟨xi, xsl, xsh, xel, xeh, xbk⟩ from by unfold fH; rw [if_pos ck]] at hst
            have HSt := Lib.hid hst
            clear hst
            have ckb : (kind == 2) = true := by simpa using ck.1
            have cib : (xi == id) = true := by simpa using ck.2
            have ck3b : (kind == 3) = false := by have := ck.1; simp; omega
            clear ck
            obtain ⟨xc, xf'⟩ := xcell (W := wr)
            refine wp_region_quiet_tail 14 (by kernel_rfl) (by kernel_rfl) ?_
            simp only [List.take_succ_cons, List.take_zero, List.drop_succ_cons, List.drop_zero]
            repeat (first | go_big_quiet_step (fail) | quiet_step (fail))
            refine wpQuiet_nil ?_
            intro w5 hb5
            have OM5 := Lib.hid (owns_below OM.out hb5)
            have OH5 := Lib.hid (owns_below OH.out hb5)
            have HB5 := Lib.hid (HBk.out.trans (hb5.mono HBk.out.size))
            have HT5 := Lib.hid (HTk.out.below hb5)
            have HX5 := Lib.hid (HXk.out.below hb5)
            have HS5 := Lib.hid (HSk.out.below hb5)
            have HR5 := Lib.hid (HRk.out.below hb5)
            have HQ5 := Lib.hid (HQk.out.below hb5)
            clear y0 y1 q0 q1 s0 s1 yl ql sl u0 ul xc xf' hb5
            have q0 := HQ5.out.cell 0
            have q1 := HQ5.out.cell 1
            have s0 := HS5.out.cell 0
            have s1 := HS5.out.cell 1
            simp only [List.getElem?_toArray, List.getElem?_cons_zero, List.getElem?_cons_succ] at q0 q1 s0 s1
            have ql := HQ5.out.lt
            have sl := HS5.out.lt
            have hrow := Ls_of_row (enc := encH) (zs := mapT (fH kind id lo hi) hs j) encH_len (by rw [mapT_len]; exact HLh.out) OH5.out
            obtain ⟨u0, u1, u2, u3, u4, u5⟩ := Hds.at_ hrow (List.getElem?_eq_getElem (by rw [mapT_len]; exact hjl))
            rw [mapT_at hjl, HMe.out] at u0 u1 u2 u3 u4 u5
            simp only [Nat.zero_add] at u0 u1 u2 u3 u4 u5
            have ul := hrow.lt
            clear hrow
            obtain ⟨cur0, hb0⟩ := own_blk OH5.out (g := ga) rfl
            have fb1 : w5.frozen? ⟨ga, j * 6 + 1, none⟩ = false := Blk.frozen (show Blk w5 ga _ cur0 from hb0) _
            have fb2 : w5.frozen? ⟨ga, j * 6 + 1 + 1, none⟩ = false := Blk.frozen (show Blk w5 ga _ cur0 from hb0) _
            have hga2 : L ≤ ga := (own_lt OH5.out (g := ga) rfl).1
            have hnm := own_ne2 OM5.out OH5.out (by decide) (g := ga) rfl
            have hnq : g ≠ ga := fun e => own_ne OH5.out HQ5.out (by decide) (by rw [e]; rfl)
            have hws := HWs2.out
            clear hb0
            go_upto_region 12 with fail
            have k1 := owns_set OH5.out (j * 6 + 1) (by rw [flat_len encH_len, mapT_len]; omega) (.int .i64 lo)
            have k2 := owns_set k1 (j * 6 + 2) (by rw [List.length_set, flat_len encH_len, mapT_len]; omega) (.int .i64 hi)
            rw [flat_setS _ _ _ _ (by rw [mapT_len]; exact hjl), modify_at (by rw [mapT_len]; exact hjl), mapT_at hjl, HMe.out, ← HSt.out] at k2
            have g2 := grown_trans (grownBy_set w5 ga (j * 6 + 1) (.int .i64 lo)) (grownBy_set _ ga (j * 6 + 2) (.int .i64 hi))
            have OH6 := Lib.hid k2
            have OM6 := Lib.hid (owns_grown OM5.out g2 (fun r hr e => hnm (by rw [hr, ← e])))
            have HB6 := Lib.hid ((HB5.out.setCell (p := ⟨ga, j * 6 + 1, none⟩) (by simp; omega) (.int .i64 lo)).setCell (p := ⟨ga, j * 6 + 2, none⟩) (by simp; omega) (.int .i64 hi))
            have HT6 := Lib.hid (HT5.out.grown g2 (fun e => by have e2 := Option.some.inj e; omega))
            have HX6 := Lib.hid (HX5.out.grown g2 (fun e => by have e2 := Option.some.inj e; omega))
            have HS6 := Lib.hid (HS5.out.grown g2 (fun e => by have e2 := Option.some.inj e; omega))
            have HR6 := Lib.hid (HR5.out.grown g2 (fun e => by have e2 := Option.some.inj e; omega))
            have HQ6 := Lib.hid (HQ5.out.grown g2 (fun e => hnq (Option.some.inj e).symm))
            clear k1 k2 g2 fb1 fb2 q0 q1 s0 s1 ql sl u0 u1 u2 u3 u4 u5 ul
            generalize (w5.setCell ⟨ga, j * 6 + 1, none⟩ (.int .i64 lo)).setCell ⟨ga, j * 6 + 2, none⟩ (.int .i64 hi) = V6 at *
            have q0 := HQ6.out.cell 0
            have q1 := HQ6.out.cell 1
            have y0 := HX6.out.cell 0
            have y1 := HX6.out.cell 1
            simp only [List.getElem?_toArray, List.getElem?_cons_zero, List.getElem?_cons_succ] at q0 q1 y0 y1
            have ql := HQ6.out.lt
            have yl := HX6.out.lt
            obtain ⟨xc, xf'⟩ := xcell (W := V6)
            refine wp_region_quiet_tail 14 (by kernel_rfl) (by kernel_rfl) ?_
            simp only [List.take_succ_cons, List.take_zero, List.drop_succ_cons, List.drop_zero]
            repeat (first | go_big_quiet_step (fail) | quiet_step (fail))
            refine wpQuiet_nil ?_
            intro w7 hb7
            have OM7 := Lib.hid (owns_below OM6.out hb7)
            have OH7 := Lib.hid (owns_below OH6.out hb7)
            have HB7 := Lib.hid (HB6.out.trans (hb7.mono HB6.out.size))
            have HT7 := Lib.hid (HT6.out.below hb7)
            have HX7 := Lib.hid (HX6.out.below hb7)
            have HS7 := Lib.hid (HS6.out.below hb7)
            have HR7 := Lib.hid (HR6.out.below hb7)
            have HQ7 := Lib.hid (HQ6.out.below hb7)
            clear q0 q1 y0 y1 ql yl xc xf' hb7
            go_wp2
            go_roundw
            case rel => exact ⟨j + 1, by omega, by go_num, OH7.out, OM7.out, HB7.out, HT7.out, HX7.out, HS7.out, HR7.out, HQ7.out⟩
            case measure => simp [intOf]; omega
          case neg =>
            by_cases ck3 : kind = 3 ∧ xi = id
            case pos =>
              have hst := mapT_step (f := fH kind id lo hi) hjl
              rw [HMe.out, show fH kind id lo hi ⟨xi, xsl, xsh, xel, xeh, xbk⟩ = setE lo hi ⟨xi, xsl, xsh, xel, xeh, xbk⟩ from by unfold fH; rw [if_neg ck, if_pos ck3]] at hst
              have HSt := Lib.hid hst
              clear hst
              have ckb : (kind == 2) = false := by have := ck3.1; simp; omega
              have cib : (xi == id) = true := by simpa using ck3.2
              have ck3b : (kind == 3) = true := by simpa using ck3.1
              clear ck ck3
              obtain ⟨xc, xf'⟩ := xcell (W := wr)
              refine wp_region_quiet_tail 14 (by kernel_rfl) (by kernel_rfl) ?_
              simp only [List.take_succ_cons, List.take_zero, List.drop_succ_cons, List.drop_zero]
              repeat (first | go_big_quiet_step (fail) | quiet_step (fail))
              refine wpQuiet_nil ?_
              intro w5 hb5
              have OM5 := Lib.hid (owns_below OM.out hb5)
              have OH5 := Lib.hid (owns_below OH.out hb5)
              have HB5 := Lib.hid (HBk.out.trans (hb5.mono HBk.out.size))
              have HT5 := Lib.hid (HTk.out.below hb5)
              have HX5 := Lib.hid (HXk.out.below hb5)
              have HS5 := Lib.hid (HSk.out.below hb5)
              have HR5 := Lib.hid (HRk.out.below hb5)
              have HQ5 := Lib.hid (HQk.out.below hb5)
              clear y0 y1 q0 q1 s0 s1 yl ql sl u0 ul xc xf' hb5
              have q0 := HQ5.out.cell 0
              have q1 := HQ5.out.cell 1
              have y0 := HX5.out.cell 0
              have y1 := HX5.out.cell 1
              simp only [List.getElem?_toArray, List.getElem?_cons_zero, List.getElem?_cons_succ] at q0 q1 y0 y1
              have ql := HQ5.out.lt
              have yl := HX5.out.lt
              have hrow := Ls_of_row (enc := encH) (zs := mapT (fH kind id lo hi) hs j) encH_len (by rw [mapT_len]; exact HLh.out) OH5.out
              obtain ⟨u0, u1, u2, u3, u4, u5⟩ := Hds.at_ hrow (List.getElem?_eq_getElem (by rw [mapT_len]; exact hjl))
              rw [mapT_at hjl, HMe.out] at u0 u1 u2 u3 u4 u5
              simp only [Nat.zero_add] at u0 u1 u2 u3 u4 u5
              have ul := hrow.lt
              clear hrow
              go_upto_region 12 with fail
              obtain ⟨xc, xf'⟩ := xcell (W := w5)
              refine wp_region_quiet_tail 14 (by kernel_rfl) (by kernel_rfl) ?_
              simp only [List.take_succ_cons, List.take_zero, List.drop_succ_cons, List.drop_zero]
              repeat (first | go_big_quiet_step (fail) | quiet_step (fail))
              refine wpQuiet_nil ?_
              intro w6 hb6
              have OM6 := Lib.hid (owns_below OM5.out hb6)
              have OH6 := Lib.hid (owns_below OH5.out hb6)
              have HB6 := Lib.hid (HB5.out.trans (hb6.mono HB5.out.size))
              have HT6 := Lib.hid (HT5.out.below hb6)
              have HX6 := Lib.hid (HX5.out.below hb6)
              have HS6 := Lib.hid (HS5.out.below hb6)
              have HR6 := Lib.hid (HR5.out.below hb6)
              have HQ6 := Lib.hid (HQ5.out.below hb6)
              clear q0 q1 y0 y1 ql yl u0 u1 u2 u3 u4 u5 ul xc xf' hb6
              have q0 := HQ6.out.cell 0
              have q1 := HQ6.out.cell 1
              have s0 := HS6.out.cell 0
              have s1 := HS6.out.cell 1
              simp only [List.getElem?_toArray, List.getElem?_cons_zero, List.getElem?_cons_succ] at q0 q1 s0 s1
              have ql := HQ6.out.lt
              have sl := HS6.out.lt
              have hrow := Ls_of_row (enc := encH) (zs := mapT (fH kind id lo hi) hs j) encH_len (by rw [mapT_len]; exact HLh.out) OH6.out
              obtain ⟨u0, u1, u2, u3, u4, u5⟩ := Hds.at_ hrow (List.getElem?_eq_getElem (by rw [mapT_len]; exact hjl))
              rw [mapT_at hjl, HMe.out] at u0 u1 u2 u3 u4 u5
              simp only [Nat.zero_add] at u0 u1 u2 u3 u4 u5
              have ul := hrow.lt
              clear hrow
              obtain ⟨cur0, hb0⟩ := own_blk OH6.out (g := ga) rfl
              have fb1 : w6.frozen? ⟨ga, j * 6 + 3, none⟩ = false := Blk.frozen (show Blk w6 ga _ cur0 from hb0) _
              have fb2 : w6.frozen? ⟨ga, j * 6 + 3 + 1, none⟩ = false := Blk.frozen (show Blk w6 ga _ cur0 from hb0) _
              have hga2 : L ≤ ga := (own_lt OH6.out (g := ga) rfl).1
              have hnm := own_ne2 OM6.out OH6.out (by decide) (g := ga) rfl
              have hnq : g ≠ ga := fun e => own_ne OH6.out HQ6.out (by decide) (by rw [e]; rfl)
              have hws := HWs2.out
              clear hb0
              go_wp2
              go_roundw
              case rel =>
                have k1 := owns_set OH6.out (j * 6 + 3) (by rw [flat_len encH_len, mapT_len]; omega) (.int .i64 lo)
                have k2 := owns_set k1 (j * 6 + 4) (by rw [List.length_set, flat_len encH_len, mapT_len]; omega) (.int .i64 hi)
                rw [flat_setE _ _ _ _ (by rw [mapT_len]; exact hjl), modify_at (by rw [mapT_len]; exact hjl), mapT_at hjl, HMe.out, ← HSt.out] at k2
                have g2 := grown_trans (grownBy_set w6 ga (j * 6 + 3) (.int .i64 lo)) (grownBy_set _ ga (j * 6 + 4) (.int .i64 hi))
                exact ⟨j + 1, by omega, by go_num, k2, owns_grown OM6.out g2 (fun r hr e => hnm (by rw [hr, ← e])), (HB6.out.setCell (p := ⟨ga, j * 6 + 3, none⟩) (by simp; omega) _).setCell (p := ⟨ga, j * 6 + 4, none⟩) (by simp; omega) _, HT6.out.grown g2 (fun e => by have e2 := Option.some.inj e; omega), HX6.out.grown g2 (fun e => by have e2 := Option.some.inj e; omega), HS6.out.grown g2 (fun e => by have e2 := Option.some.inj e; omega), HR6.out.grown g2 (fun e => by have e2 := Option.some.inj e; omega), HQ6.out.grown g2 (fun e => hnq (Option.some.inj e).symm)⟩
              case measure => simp [intOf]; omega
            case neg =>
              have HSm := Lib.hid (mapT_same (f := fH kind id lo hi) hjl (by unfold fH; rw [HMe.out, if_neg ck, if_neg ck3]))
              by_cases c2 : kind = 2
              case pos =>
                have ckb : (kind == 2) = true := by simpa using c2
                have cib : (xi == id) = false := by simp; exact fun e => ck ⟨c2, e⟩
                have ck3b : (kind == 3) = false := by simp; omega
                clear ck ck3 c2
                obtain ⟨xc, xf'⟩ := xcell (W := wr)
                refine wp_region_quiet_tail 14 (by kernel_rfl) (by kernel_rfl) ?_
                simp only [List.take_succ_cons, List.take_zero, List.drop_succ_cons, List.drop_zero]
                repeat (first | go_big_quiet_step (fail) | quiet_step (fail))
                refine wpQuiet_nil ?_
                intro w5 hb5
                have OM5 := Lib.hid (owns_below OM.out hb5)
                have OH5 := Lib.hid (owns_below OH.out hb5)
                have HB5 := Lib.hid (HBk.out.trans (hb5.mono HBk.out.size))
                have HT5 := Lib.hid (HTk.out.below hb5)
                have HX5 := Lib.hid (HXk.out.below hb5)
                have HS5 := Lib.hid (HSk.out.below hb5)
                have HR5 := Lib.hid (HRk.out.below hb5)
                have HQ5 := Lib.hid (HQk.out.below hb5)
                clear y0 y1 q0 q1 s0 s1 yl ql sl u0 ul xc xf' hb5
                have q0 := HQ5.out.cell 0
                have q1 := HQ5.out.cell 1
                have y0 := HX5.out.cell 0
                have y1 := HX5.out.cell 1
                simp only [List.getElem?_toArray, List.getElem?_cons_zero, List.getElem?_cons_succ] at q0 q1 y0 y1
                have ql := HQ5.out.lt
                have yl := HX5.out.lt
                have hrow := Ls_of_row (enc := encH) (zs := mapT (fH kind id lo hi) hs j) encH_len (by rw [mapT_len]; exact HLh.out) OH5.out
                obtain ⟨u0, u1, u2, u3, u4, u5⟩ := Hds.at_ hrow (List.getElem?_eq_getElem (by rw [mapT_len]; exact hjl))
                rw [mapT_at hjl, HMe.out] at u0 u1 u2 u3 u4 u5
                simp only [Nat.zero_add] at u0 u1 u2 u3 u4 u5
                have ul := hrow.lt
                clear hrow
                go_upto_region 12 with fail
                obtain ⟨xc, xf'⟩ := xcell (W := w5)
                refine wp_region_quiet_tail 14 (by kernel_rfl) (by kernel_rfl) ?_
                simp only [List.take_succ_cons, List.take_zero, List.drop_succ_cons, List.drop_zero]
                repeat (first | go_big_quiet_step (fail) | quiet_step (fail))
                refine wpQuiet_nil ?_
                intro w6 hb6
                have OM6 := Lib.hid (owns_below OM5.out hb6)
                have OH6 := Lib.hid (owns_below OH5.out hb6)
                have HB6 := Lib.hid (HB5.out.trans (hb6.mono HB5.out.size))
                have HT6 := Lib.hid (HT5.out.below hb6)
                have HX6 := Lib.hid (HX5.out.below hb6)
                have HS6 := Lib.hid (HS5.out.below hb6)
                have HR6 := Lib.hid (HR5.out.below hb6)
                have HQ6 := Lib.hid (HQ5.out.below hb6)
                clear q0 q1 y0 y1 ql yl u0 u1 u2 u3 u4 u5 ul xc xf' hb6
                go_wp2
                go_roundw
                case rel => exact ⟨j + 1, by omega, by go_num, by rw [HSm.out]; exact OH6.out, OM6.out, HB6.out, HT6.out, HX6.out, HS6.out, HR6.out, HQ6.out⟩
                case measure => simp [intOf]; omega
              case neg =>
                have ckb : (kind == 2) = false := by simpa using c2
                by_cases c3 : kind = 3
                case pos =>
                  have ck3b : (kind == 3) = true := by simpa using c3
                  have cib : (xi == id) = false := by simp; exact fun e => ck3 ⟨c3, e⟩
                  clear ck ck3 c2 c3
                  obtain ⟨xc, xf'⟩ := xcell (W := wr)
                  refine wp_region_quiet_tail 14 (by kernel_rfl) (by kernel_rfl) ?_
                  simp only [List.take_succ_cons, List.take_zero, List.drop_succ_cons, List.drop_zero]
                  repeat (first | go_big_quiet_step (fail) | quiet_step (fail))
                  refine wpQuiet_nil ?_
                  intro w5 hb5
                  have OM5 := Lib.hid (owns_below OM.out hb5)
                  have OH5 := Lib.hid (owns_below OH.out hb5)
                  have HB5 := Lib.hid (HBk.out.trans (hb5.mono HBk.out.size))
                  have HT5 := Lib.hid (HTk.out.below hb5)
                  have HX5 := Lib.hid (HXk.out.below hb5)
                  have HS5 := Lib.hid (HSk.out.below hb5)
                  have HR5 := Lib.hid (HRk.out.below hb5)
                  have HQ5 := Lib.hid (HQk.out.below hb5)
                  clear y0 y1 q0 q1 s0 s1 yl ql sl u0 ul xc xf' hb5
                  have q0 := HQ5.out.cell 0
                  have q1 := HQ5.out.cell 1
                  have y0 := HX5.out.cell 0
                  have y1 := HX5.out.cell 1
                  simp only [List.getElem?_toArray, List.getElem?_cons_zero, List.getElem?_cons_succ] at q0 q1 y0 y1
                  have ql := HQ5.out.lt
                  have yl := HX5.out.lt
                  have hrow := Ls_of_row (enc := encH) (zs := mapT (fH kind id lo hi) hs j) encH_len (by rw [mapT_len]; exact HLh.out) OH5.out
                  obtain ⟨u0, u1, u2, u3, u4, u5⟩ := Hds.at_ hrow (List.getElem?_eq_getElem (by rw [mapT_len]; exact hjl))
                  rw [mapT_at hjl, HMe.out] at u0 u1 u2 u3 u4 u5
                  simp only [Nat.zero_add] at u0 u1 u2 u3 u4 u5
                  have ul := hrow.lt
                  clear hrow
                  go_upto_region 12 with fail
                  obtain ⟨xc, xf'⟩ := xcell (W := w5)
                  refine wp_region_quiet_tail 14 (by kernel_rfl) (by kernel_rfl) ?_
                  simp only [List.take_succ_cons, List.take_zero, List.drop_succ_cons, List.drop_zero]
                  repeat (first | go_big_quiet_step (fail) | quiet_step (fail))
                  refine wpQuiet_nil ?_
                  intro w6 hb6
                  have OM6 := Lib.hid (owns_below OM5.out hb6)
                  have OH6 := Lib.hid (owns_below OH5.out hb6)
                  have HB6 := Lib.hid (HB5.out.trans (hb6.mono HB5.out.size))
                  have HT6 := Lib.hid (HT5.out.below hb6)
                  have HX6 := Lib.hid (HX5.out.below hb6)
                  have HS6 := Lib.hid (HS5.out.below hb6)
                  have HR6 := Lib.hid (HR5.out.below hb6)
                  have HQ6 := Lib.hid (HQ5.out.below hb6)
                  clear q0 q1 y0 y1 ql yl u0 u1 u2 u3 u4 u5 ul xc xf' hb6
                  go_wp2
                  go_roundw
                  case rel => exact ⟨j + 1, by omega, by go_num, by rw [HSm.out]; exact OH6.out, OM6.out, HB6.out, HT6.out, HX6.out, HS6.out, HR6.out, HQ6.out⟩
                  case measure => simp [intOf]; omega
                case neg =>
                  have ck3b : (kind == 3) = false := by simpa using c3
                  clear ck ck3 c2 c3
                  obtain ⟨xc, xf'⟩ := xcell (W := wr)
                  refine wp_region_quiet_tail 14 (by kernel_rfl) (by kernel_rfl) ?_
                  simp only [List.take_succ_cons, List.take_zero, List.drop_succ_cons, List.drop_zero]
                  repeat (first | go_big_quiet_step (fail) | quiet_step (fail))
                  refine wpQuiet_nil ?_
                  intro w5 hb5
                  have OM5 := Lib.hid (owns_below OM.out hb5)
                  have OH5 := Lib.hid (owns_below OH.out hb5)
                  have HB5 := Lib.hid (HBk.out.trans (hb5.mono HBk.out.size))
                  have HT5 := Lib.hid (HTk.out.below hb5)
                  have HX5 := Lib.hid (HXk.out.below hb5)
                  have HS5 := Lib.hid (HSk.out.below hb5)
                  have HR5 := Lib.hid (HRk.out.below hb5)
                  have HQ5 := Lib.hid (HQk.out.below hb5)
                  clear y0 y1 q0 q1 s0 s1 yl ql sl u0 ul xc xf' hb5
                  have q0 := HQ5.out.cell 0
                  have q1 := HQ5.out.cell 1
                  have y0 := HX5.out.cell 0
                  have y1 := HX5.out.cell 1
                  simp only [List.getElem?_toArray, List.getElem?_cons_zero, List.getElem?_cons_succ] at q0 q1 y0 y1
                  have ql := HQ5.out.lt
                  have yl := HX5.out.lt
                  have hrow := Ls_of_row (enc := encH) (zs := mapT (fH kind id lo hi) hs j) encH_len (by rw [mapT_len]; exact HLh.out) OH5.out
                  obtain ⟨u0, u1, u2, u3, u4, u5⟩ := Hds.at_ hrow (List.getElem?_eq_getElem (by rw [mapT_len]; exact hjl))
                  rw [mapT_at hjl, HMe.out] at u0 u1 u2 u3 u4 u5
                  simp only [Nat.zero_add] at u0 u1 u2 u3 u4 u5
                  have ul := hrow.lt
                  clear hrow
                  go_upto_region 12 with fail
                  obtain ⟨xc, xf'⟩ := xcell (W := w5)
                  refine wp_region_quiet_tail 14 (by kernel_rfl) (by kernel_rfl) ?_
                  simp only [List.take_succ_cons, List.take_zero, List.drop_succ_cons, List.drop_zero]
                  repeat (first | go_big_quiet_step (fail) | quiet_step (fail))
                  refine wpQuiet_nil ?_
                  intro w6 hb6
                  have OM6 := Lib.hid (owns_below OM5.out hb6)
                  have OH6 := Lib.hid (owns_below OH5.out hb6)
                  have HB6 := Lib.hid (HB5.out.trans (hb6.mono HB5.out.size))
                  have HT6 := Lib.hid (HT5.out.below hb6)
                  have HX6 := Lib.hid (HX5.out.below hb6)
                  have HS6 := Lib.hid (HS5.out.below hb6)
                  have HR6 := Lib.hid (HR5.out.below hb6)
                  have HQ6 := Lib.hid (HQ5.out.below hb6)
                  clear q0 q1 y0 y1 ql yl u0 u1 u2 u3 u4 u5 ul xc xf' hb6
                  go_wp2
                  go_roundw
                  case rel => exact ⟨j + 1, by omega, by go_num, by rw [HSm.out]; exact OH6.out, OM6.out, HB6.out, HT6.out, HX6.out, HS6.out, HR6.out, HQ6.out⟩
                  case measure => simp [intOf]; omega
        case neg =>
          have HE := Lib.hid (show mapT (fH kind id lo hi) hs j = putIH hs kind id lo hi by rw [mapT_end (by rw [HLh.out]; omega)]; rfl)
          have HH9 := Lib.hid (show wr.ownsRow L 118 6 (.slice A1 n c1) n ((putIH hs kind id lo hi).flatMap encH) by rw [← HE.out]; exact OH.out)
          have HLq := Lib.hid (show (putIH hs kind id lo hi).length = n by unfold putIH; rw [List.length_map]; exact HLh.out)
          have z0 := HRk.out.cell 0
          have z1 := HRk.out.cell 1
          simp only [List.getElem?_toArray, List.getElem?_cons_zero, List.getElem?_cons_succ] at z0 z1
          have zl := HRk.out.lt
          have zf0 := HRk.out.frozen 0
          have zf1 := HRk.out.frozen 1
          have hws := HWs2.out
          go_wp2
          have hf := blk_set2 HRk.out (.slice A1 n c1) (.slice B1 m d1)
          have x0 := hf.cell 0
          have x1 := hf.cell 1
          simp only [List.getElem?_toArray, List.getElem?_cons_zero, List.getElem?_cons_succ] at x0 x1
          have hgz := grown_set2 wr (w.heap.size + 1 + 1 + 1) (.slice A1 n c1) (.slice B1 m d1)
          refine bodyPost_ret (v := .agg #[.slice A1 n c1, .slice B1 m d1]) (by simp [results, Tryz.results54, go_sem, x0, x1]) rfl ⟨_, _, rfl, ⟨?_, ?_⟩, below_set2 HBk.out (by omega) _ _⟩
          · rw [HLq.out]
            exact owns_weak (owns_grown HH9.out hgz (fun r hr e => by have := (own_lt HH9.out hr).1; have e2 := Option.some.inj e; omega)) (by omega)
          · rw [HLp.out]
            exact owns_weak (owns_grown OM.out hgz (fun r hr e => by have := (own_lt OM.out hr).1; have e2 := Option.some.inj e; omega)) (by omega)
end Go.Proofs.YtighfmgkoepfkaaGreat

namespace Go.Proofs.YtighfmgkoepfkaaGreat
open Go.RowKit

theorem put_tr {t : TR} {kind id lo hi : Int} {w : World} (h : t.Ok w) (hv : TV t.hs t.ms) : Calls Tryz.prog 54 #[t.v, vAt kind id, vSp lo hi] w fun e w' => ∃ A n c B m d, e = .returned (.agg #[.slice A n c, .slice B m d]) ∧ TR.Ok w' ⟨A, n, c, B, m, d, putIH t.hs kind id lo hi, putIM t.ms kind id lo hi⟩ ∧ Below w.heap.size w w' := by
  have l1 := hv.lenH
  have l2 := hv.lenM
  have l3 := h.h.len
  have l4 := h.m.len
  refine (Put_any t kind id lo hi w h (by omega) (by omega)).mono ?_
  rintro e w' ⟨v1, v2, rfl, ho, hb⟩
  obtain ⟨A, c, B, d, rfl, rfl, a1, a2, a3, a4, _, _⟩ := ho.form
  have q1 : (putIH t.hs kind id lo hi).length ≤ 9 := by unfold putIH; rw [List.length_map]; exact l1
  have q2 : (putIM t.ms kind id lo hi).length ≤ 24 := by unfold putIM; rw [List.length_map]; exact l2
  exact ⟨A, _, c, B, _, d, rfl, ⟨a1, a2, by show (putIH t.hs kind id lo hi).length ≤ _; omega, by show (putIM t.ms kind id lo hi).length ≤ _; omega, a3, a4⟩, hb⟩
end Go.Proofs.YtighfmgkoepfkaaGreat
