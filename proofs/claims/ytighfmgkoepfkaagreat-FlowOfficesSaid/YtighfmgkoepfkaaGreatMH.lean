/- The law's sanity. -/
import Derived.Test.YtighfmgkoepfkaaGreatMG
namespace Go.Proofs.YtighfmgkoepfkaaGreat
open Go.RowKit

theorem all_range {n : Nat} {p : Nat → Bool} : (List.range n).all p = true ↔ ∀ i, i < n → p i = true := by
  rw [List.all_eq_true]
  exact ⟨fun h i hi => h i (List.mem_range.2 hi), fun h i hi => h i (List.mem_range.1 hi)⟩
theorem all_range_not {n : Nat} {p : Nat → Bool} {i : Nat} (hi : i < n) (h : p i = false) : (List.range n).all p = false := by
  rw [Bool.eq_false_iff]
  intro c
  rw [all_range.1 c i hi] at h
  cases h
theorem heldL_step (ms : List Mv) (ma : List Int) (id st : Int) (k : Nat) : heldL ms ma id st (k + 1) = heldL ms ma id st k + (if (mat ms k).to = id then iget ma k else 0) - (if (mat ms k).fr = id then iget ma k else 0) := by
  show (heldL ms ma id st k + ind ((mat ms k).to = id) (iget ma k)) - ind ((mat ms k).fr = id) (iget ma k) = _
  rfl
theorem heldL_bound {ms : List Mv} {ma : List Int} {id st : Int} (hst : 0 ≤ st ∧ st ≤ 65536) : ∀ (k : Nat), (∀ i, i < k → 0 ≤ iget ma i ∧ iget ma i ≤ 65536) → -(65536 * (k : Int)) ≤ heldL ms ma id st k ∧ heldL ms ma id st k ≤ 65536 + 65536 * (k : Int)
  | 0, _ => by show _ ≤ st ∧ st ≤ _; omega
  | k + 1, h => by
    have ih := heldL_bound (ms := ms) (id := id) hst k fun i hi => h i (by omega)
    have := h k (by omega)
    rw [heldL_step]
    split <;> split <;> omega
theorem within2_any (x lo hi : Int) (w : World) : Calls Tryz.prog 107 #[.int .i64 x, .agg #[.int .i64 lo, .int .i64 hi]] w fun e w' => e = .returned (.bool (inSp x lo hi)) ∧ Below w.heap.size w w' := by
  have H := Lib.hid ((Below.refl w.heap.size w).alloc (Nat.le_refl _) (.cells #[.int .i64 lo, .int .i64 hi] 57))
  rw [show inSp x lo hi = decide (lo ≤ x ∧ x ≤ hi) from rfl]
  by_cases h1 : lo ≤ x
  · have h1b : decide (lo ≤ x) = true := decide_eq_true h1
    by_cases h2 : x ≤ hi
    · have h2b : decide (x ≤ hi) = true := decide_eq_true h2
      rw [decide_eq_true (show lo ≤ x ∧ x ≤ hi from ⟨h1, h2⟩)]
      go_enter Tryz.func107, Tryz.ntmps107
      go_wp2
      exact bodyPost_ret (v := .bool true) (by simp [results, Tryz.results107, go_sem]) rfl ⟨rfl, H.out⟩
    · have h2b : decide (x ≤ hi) = false := decide_eq_false h2
      rw [decide_eq_false (show ¬ (lo ≤ x ∧ x ≤ hi) from fun h => h2 h.2)]
      go_enter Tryz.func107, Tryz.ntmps107
      go_wp2
      exact bodyPost_ret (v := .bool false) (by simp [results, Tryz.results107, go_sem]) rfl ⟨rfl, H.out⟩
  · have h1b : decide (lo ≤ x) = false := decide_eq_false h1
    rw [decide_eq_false (show ¬ (lo ≤ x ∧ x ≤ hi) from fun h => h1 h.1)]
    go_enter Tryz.func107, Tryz.ntmps107
    go_wp2
    exact bodyPost_ret (v := .bool false) (by simp [results, Tryz.results107, go_sem]) rfl ⟨rfl, H.out⟩
set_option maxRecDepth 100000 in
set_option maxHeartbeats 12800000 in
theorem RFits_any (t : TR) (A1 : Option Addr) (n1 c1 : Nat) (A2 : Option Addr) (n2 c2 : Nat) (A3 : Option Addr) (n3 c3 : Nat) (st en ma : List Int) (w : World) (h : t.Ok w) (h1 : SAt encI 1 w A1 n1 st) (h2 : SAt encI 1 w A2 n2 en) (h3 : SAt encI 1 w A3 n3 ma) (hv : TV t.hs t.ms) :
    Calls Tryz.prog 58 #[t.v, vCo A1 n1 c1 A2 n2 c2 A3 n3 c3] w fun e w' => e = .returned (.bool (fitsL t.hs t.ms st en ma)) ∧ Below w.heap.size w w' := by
  have hb0 := ((Below.refl w.heap.size w).alloc (Nat.le_refl _) (.cells #[.slice t.A t.n t.c, .slice t.B t.m t.d] 25)).alloc (by simp) (.cells #[.slice A1 n1 c1, .slice A2 n2 c2, .slice A3 n3 c3] 68)
  obtain ⟨A, n, c, B, m, d, hs, ms⟩ := t
  dsimp only [TR.v] at *
  have t0 := (Blk.new w 25 #[.slice A n c, .slice B m d]).alloc (.cells #[.slice A1 n1 c1, .slice A2 n2 c2, .slice A3 n3 c3] 68)
  have r0 := Blk.at_new (W := w.alloc (.cells #[.slice A n c, .slice B m d] 25)) (g := w.heap.size + 1) 68 #[.slice A1 n1 c1, .slice A2 n2 c2, .slice A3 n3 c3] (by simp)
  have HOk := Lib.hid h
  have HV := Lib.hid hv
  have HLh := Lib.hid (show hs.length = n from h.h.len)
  have HLm := Lib.hid (show ms.length = m from h.m.len)
  have HS1 := Lib.hid h1
  have HS2 := Lib.hid h2
  have HS3 := Lib.hid h3
  have HL1 := Lib.hid h1.len
  have HL2 := Lib.hid h2.len
  have HL3 := Lib.hid h3.len
  have hn9 : n ≤ 9 := by rw [← HLh.out]; exact hv.lenH
  have hm24 : m ≤ 24 := by rw [← HLm.out]; exact hv.lenM
  obtain ⟨res, hres⟩ : ∃ r, r = fitsL hs ms st en ma := ⟨_, rfl⟩
  have HR0 := Lib.hid hres
  rw [← hres]
  have HIff := Lib.hid (fitsL_prop (hs := hs) (ms := ms) (st := st) (en := en) (ma := ma))
  clear h h1 h2 h3 hv hres
  go_enter Tryz.func58, Tryz.ntmps58
  go_upto_region 1 with fail
  generalize hW : (w.alloc (.cells #[.slice A n c, .slice B m d] 25)).alloc (.cells #[.slice A1 n1 c1, .slice A2 n2 c2, .slice A3 n3 c3] 68) = W at *
  clear hW
  have HT := Lib.hid t0
  have HR := Lib.hid r0
  have HB0 := Lib.hid hb0
  have y0 := t0.cell 0
  have y1 := t0.cell 1
  have z0 := r0.cell 0
  have z1 := r0.cell 1
  have z2 := r0.cell 2
  simp only [List.getElem?_toArray, List.getElem?_cons_zero, List.getElem?_cons_succ] at y0 y1 z0 z1 z2
  have yl := t0.lt
  have zl := r0.lt
  clear t0 r0 hb0
  by_cases e1 : n1 = n
  case neg =>
    have e1b : ((n1 : Int) != (n : Int)) = true := by simp; omega
    have HE1 := Lib.hid e1
    clear e1
    have HF := Lib.hid (show res = false by rw [HR0.out, Bool.eq_false_iff]; intro c; have := (HIff.out.1 c).1; have := HL1.out; have := HLh.out; have := HE1.out; omega)
    go_wp2
    exact bodyPost_ret (v := .bool false) (by simp [results, Tryz.results58, go_sem]) rfl ⟨by rw [HF.out], HB0.out⟩
  case pos =>
  subst e1
  by_cases e2 : n2 = n1
  case neg =>
    have e2b : ((n2 : Int) != (n1 : Int)) = true := by simp; omega
    have HE1 := Lib.hid e2
    clear e2
    have HF := Lib.hid (show res = false by rw [HR0.out, Bool.eq_false_iff]; intro c; have := (HIff.out.1 c).1; have := HL2.out; have := HLh.out; have := HE1.out; omega)
    go_wp2
    exact bodyPost_ret (v := .bool false) (by simp [results, Tryz.results58, go_sem]) rfl ⟨by rw [HF.out], HB0.out⟩
  case pos =>
  subst e2
  by_cases e3 : n3 = m
  case neg =>
    have e3b : ((n3 : Int) != (m : Int)) = true := by simp; omega
    have HE1 := Lib.hid e3
    clear e3
    have HF := Lib.hid (show res = false by rw [HR0.out, Bool.eq_false_iff]; intro c; have := (HIff.out.1 c).1; have := HL3.out; have := HLm.out; have := HE1.out; omega)
    go_wp2
    exact bodyPost_ret (v := .bool false) (by simp [results, Tryz.results58, go_sem]) rfl ⟨by rw [HF.out], HB0.out⟩
  case pos =>
  subst e3
  have HLen := Lib.hid (show st.length = hs.length ∧ en.length = hs.length ∧ ma.length = ms.length by have := HL1.out; have := HL2.out; have := HL3.out; have := HLh.out; have := HLm.out; omega)
  go_wp2
  go_loopw [6, 7, 8] (fun i _ _ wx => ∃ j : Nat, j ≤ n2 ∧ i = .int .i64 (j : Int) ∧ (∀ i, i < j → ((hat hs i).sl ≤ iget st i ∧ iget st i ≤ (hat hs i).sh) ∧ (hat hs i).el ≤ iget en i ∧ iget en i ≤ (hat hs i).eh) ∧ Below W.heap.size W wx) (fun i _ _ _ => n2 - (intOf i).toNat)
  case atStart => exact ⟨0, Nat.zero_le _, rfl, fun i h => absurd h (Nat.not_lt_zero _), Below.refl _ _⟩
  case round =>
    obtain ⟨j, hj, rfl, hq, hb⟩ := hrel
    have HQ := Lib.hid hq
    have HB := Lib.hid (HB0.out.trans (hb.mono HB0.out.size))
    have HBW := Lib.hid hb
    have HQT := Lib.hid (HT.out.below hb)
    have HQR := Lib.hid (HR.out.below hb)
    have y0 := HQT.out.cell 0
    have y1 := HQT.out.cell 1
    have z0 := HQR.out.cell 0
    have z1 := HQR.out.cell 1
    have z2 := HQR.out.cell 2
    simp only [List.getElem?_toArray, List.getElem?_cons_zero, List.getElem?_cons_succ] at y0 y1 z0 z1 z2
    have yl := HQT.out.lt
    have zl := HQR.out.lt
    clear hq hb
    by_cases hjk : j < n2
    case neg =>
      have HQ1 := Lib.hid (show ∀ i, i < hs.length → ((hat hs i).sl ≤ iget st i ∧ iget st i ≤ (hat hs i).sh) ∧ (hat hs i).el ≤ iget en i ∧ iget en i ≤ (hat hs i).eh from fun i hi => HQ.out i (by have := HLh.out; omega))
      go_wp2
      go_loopw [9, 10] (fun i _ wx => ∃ e : Nat, e ≤ n3 ∧ i = .int .i64 (e : Int) ∧ (∀ i, i < e → (mat ms i).lo ≤ iget ma i ∧ iget ma i ≤ (mat ms i).hi) ∧ Below wr.heap.size wr wx) (fun i _ _ => n3 - (intOf i).toNat)
      case atStart => exact ⟨0, Nat.zero_le _, rfl, fun i h => absurd h (Nat.not_lt_zero _), Below.refl _ _⟩
      case round =>
        obtain ⟨e, he, rfl, hq, hb⟩ := hrel
        have HQ2 := Lib.hid hq
        have HB2 := Lib.hid (HB.out.trans (hb.mono HB.out.size))
        have HBW2 := Lib.hid hb
        have HT2 := Lib.hid (HQT.out.below hb)
        have HR2 := Lib.hid (HQR.out.below hb)
        clear hq hb y0 y1 z0 z1 z2 yl zl
        have y0 := HT2.out.cell 0
        have y1 := HT2.out.cell 1
        have z0 := HR2.out.cell 0
        have z1 := HR2.out.cell 1
        have z2 := HR2.out.cell 2
        simp only [List.getElem?_toArray, List.getElem?_cons_zero, List.getElem?_cons_succ] at y0 y1 z0 z1 z2
        have yl := HT2.out.lt
        have zl := HR2.out.lt
        by_cases hek : e < n3
        case neg =>
          have HQM := Lib.hid (show ∀ i, i < ms.length → (mat ms i).lo ≤ iget ma i ∧ iget ma i ≤ (mat ms i).hi from fun i hi => HQ2.out i (by have := HLm.out; omega))
          go_wp2
          go_loopw [11, 12, 13] (fun i _ _ wx => ∃ f : Nat, f ≤ n2 ∧ i = .int .i64 (f : Int) ∧ (∀ i, i < f → heldL ms ma (hat hs i).id (iget st i) ms.length = iget en i) ∧ Below wr.heap.size wr wx) (fun i _ _ _ => n2 - (intOf i).toNat)
          case atStart => exact ⟨0, Nat.zero_le _, rfl, fun i h => absurd h (Nat.not_lt_zero _), Below.refl _ _⟩
          case round =>
            obtain ⟨f, hf, rfl, hq, hb⟩ := hrel
            have HQ3 := Lib.hid hq
            have HB3 := Lib.hid (HB2.out.trans (hb.mono HB2.out.size))
            have HBW3 := Lib.hid hb
            have HT3 := Lib.hid (HT2.out.below hb)
            have HR3 := Lib.hid (HR2.out.below hb)
            clear hq hb y0 y1 z0 z1 z2 yl zl
            have y0 := HT3.out.cell 0
            have y1 := HT3.out.cell 1
            have z0 := HR3.out.cell 0
            have z1 := HR3.out.cell 1
            have z2 := HR3.out.cell 2
            simp only [List.getElem?_toArray, List.getElem?_cons_zero, List.getElem?_cons_succ] at y0 y1 z0 z1 z2
            have yl := HT3.out.lt
            have zl := HR3.out.lt
            by_cases hfk : f < n2
            case neg =>
              have HF := Lib.hid (show res = true by rw [HR0.out]; exact HIff.out.2 ⟨HLen.out, HQ1.out, HQM.out, fun i hi => HQ3.out i (by have := HLh.out; omega)⟩)
              go_wp2
              exact bodyPost_ret (v := .bool true) (by simp [results, Tryz.results58, go_sem]) rfl ⟨by rw [HF.out], HB3.out⟩
            case pos =>
              have hil : f < hs.length := by have := HLh.out; omega
              have hi1 : f < st.length := by have := HL1.out; omega
              have hi2 : f < en.length := by have := HL2.out; omega
              obtain ⟨b, off, rfl, hl⟩ := HOk.out.h.at_ (by dsimp only; omega)
              obtain ⟨b1, of1, rfl, hl1⟩ := HS1.out.at_ (by omega)
              obtain ⟨b2, of2, rfl, hl2⟩ := HS2.out.at_ (by omega)
              have HLs := Lib.hid hl
              have HLs2 := Lib.hid hl2
              have hl1' := hl1.below HB3.out
              have s0 := hl1'.c f _ (List.getElem?_eq_getElem hi1) 0 _ rfl
              rw [Nat.mul_one, Nat.add_zero] at s0
              have sl := hl1'.lt
              have HI1 := Lib.hid (iget_eq hi1)
              have HI2 := Lib.hid (iget_eq hi2)
              have HH := Lib.hid (hat_eq hil)
              rw [← HI1.out] at s0
              have hst : 0 ≤ iget st f ∧ iget st f ≤ 65536 := by have := HQ1.out f hil; have := HV.out.hd_bound (List.getElem_mem hil); rw [← HH.out] at this; omega
              have HSt := Lib.hid hst
              clear hl hl1 hl2 hl1' hst
              go_wp2
              go_loopw [12, 13] (fun v i wx => ∃ (g : Nat) (X : Int), g ≤ n3 ∧ i = .int .i64 (g : Int) ∧ v = .int .i64 X ∧ X = heldL ms ma (hat hs f).id (iget st f) g ∧ Below wr.heap.size wr wx) (fun _ i _ => n3 - (intOf i).toNat)
              case atStart => exact ⟨0, iget st f, Nat.zero_le _, rfl, rfl, rfl, Below.refl _ _⟩
              case round =>
                obtain ⟨g, X, hg, rfl, rfl, hX, hb⟩ := hrel
                have HX := Lib.hid hX
                have HB4 := Lib.hid (HB3.out.trans (hb.mono HB3.out.size))
                have HBW4 := Lib.hid (HBW3.out.trans (hb.mono HBW3.out.size))
                have HB34 := Lib.hid hb
                have HT4 := Lib.hid (HT3.out.below hb)
                have HR4 := Lib.hid (HR3.out.below hb)
                have hXb := heldL_bound (ms := ms) (ma := ma) (id := (hat hs f).id) HSt.out g fun i hi => by
                  have hil : i < ms.length := by have := HLm.out; omega
                  have := HQM.out i hil
                  have := HV.out.mv_bound (List.getElem_mem hil)
                  rw [← mat_eq hil] at this
                  omega
                rw [← hX] at hXb
                have hX1 : -1572864 ≤ X := by omega
                have hX2 : X ≤ 1638400 := by omega
                clear hX hb hXb y0 y1 z0 z1 z2 yl zl s0 sl
                have y0 := HT4.out.cell 0
                have y1 := HT4.out.cell 1
                have z0 := HR4.out.cell 0
                have z1 := HR4.out.cell 1
                have z2 := HR4.out.cell 2
                simp only [List.getElem?_toArray, List.getElem?_cons_zero, List.getElem?_cons_succ] at y0 y1 z0 z1 z2
                have yl := HT4.out.lt
                have zl := HR4.out.lt
                by_cases hgk : g < n3
                case neg =>
                  have hl2' := HLs2.out.below HB4.out
                  have s0 := hl2'.c f _ (List.getElem?_eq_getElem hi2) 0 _ rfl
                  rw [Nat.mul_one, Nat.add_zero, ← HI2.out] at s0
                  have sl := hl2'.lt
                  clear hl2'
                  obtain ⟨ef, hef⟩ : ∃ x, iget en f = x := ⟨_, rfl⟩
                  rw [hef] at s0
                  have HEf := Lib.hid hef
                  clear hef
                  have HXl := Lib.hid (show X = heldL ms ma (hat hs f).id (iget st f) ms.length by rw [HX.out]; congr 1; have := HLm.out; omega)
                  by_cases hxe : X = ef
                  · have hxb : (X != ef) = false := by simpa using hxe
                    have HXE := Lib.hid hxe
                    clear hxe
                    go_wp2
                    go_roundw
                    case rel => exact ⟨f + 1, by omega, by go_num, fun i h => by
                      rcases Nat.lt_succ_iff_lt_or_eq.1 h with h | h
                      · exact HQ3.out i h
                      · subst h; rw [← HXl.out, HXE.out, HEf.out], HBW4.out⟩
                    case measure => simp [intOf]; omega
                  · have hxb : (X != ef) = true := by simpa using hxe
                    have HXE := Lib.hid hxe
                    clear hxe
                    have HF := Lib.hid (show res = false by rw [HR0.out, Bool.eq_false_iff]; intro c; have := (HIff.out.1 c).2.2.2 f hil; rw [← HXl.out, HEf.out] at this; exact HXE.out this)
                    go_wp2
                    exact bodyPost_ret (v := .bool false) (by simp [results, Tryz.results58, go_sem]) rfl ⟨by rw [HF.out], HB4.out⟩
                case pos =>
                  have hgl : g < ms.length := by have := HLm.out; omega
                  have hi3 : g < ma.length := by have := HL3.out; omega
                  obtain ⟨bm, om, rfl, hlm⟩ := HOk.out.m.at_ (by dsimp only; omega)
                  obtain ⟨b3, of3, rfl, hl3⟩ := HS3.out.at_ (by omega)
                  have HLm' := Lib.hid (hlm.below HB4.out)
                  have HL3' := Lib.hid (hl3.below HB4.out)
                  have HLs' := Lib.hid (HLs.out.below HB4.out)
                  obtain ⟨m0, m1, m2, m3, m4⟩ := Mvs.at_ HLm'.out (List.getElem?_eq_getElem hgl)
                  obtain ⟨u0, u1, u2, u3, u4, u5⟩ := Hds.at_ HLs'.out (List.getElem?_eq_getElem hil)
                  have ml := HLm'.out.lt
                  have ul := HLs'.out.lt
                  have HM := Lib.hid (mat_eq hgl)
                  have HI3 := Lib.hid (iget_eq hi3)
                  rw [← HM.out] at m0 m1 m2 m3 m4
                  rw [← HH.out] at u0 u1 u2 u3 u4 u5
                  have HSp := Lib.hid (heldL_step ms ma (hat hs f).id (iget st f) g)
                  have hma : 0 ≤ iget ma g ∧ iget ma g ≤ 65536 := by have := HQM.out g hgl; have := HV.out.mv_bound (List.getElem_mem hgl); rw [← HM.out] at this; omega
                  obtain ⟨hm1, hm2⟩ := hma
                  have HMa := Lib.hid (show HL3'.out.c g _ (List.getElem?_eq_getElem hi3) 0 _ rfl = HL3'.out.c g _ (List.getElem?_eq_getElem hi3) 0 _ rfl from rfl)
                  obtain ⟨dd, hid'⟩ : ∃ x, (hat hs f).id = x := ⟨_, rfl⟩
                  obtain ⟨tt, hto⟩ : ∃ x, (mat ms g).to = x := ⟨_, rfl⟩
                  obtain ⟨ff, hfr⟩ : ∃ x, (mat ms g).fr = x := ⟨_, rfl⟩
                  obtain ⟨mm, hmm⟩ : ∃ x, iget ma g = x := ⟨_, rfl⟩
                  rw [hid', hto, hfr, hmm] at HSp
                  rw [hid'] at u0
                  rw [hto] at m2
                  rw [hfr] at m1
                  rw [hmm] at hm1 hm2
                  have HId := Lib.hid hid'
                  have HMm := Lib.hid hmm
                  have HTo := Lib.hid hto
                  have HFr := Lib.hid hfr
                  clear hid' hto hfr hmm hlm hl3 HMa
                  go_upto_region 24 with fail
                  obtain ⟨xc, xf'⟩ := xcell (W := wr)
                  refine wp_region_quiet_tail 12 (by kernel_rfl) (by kernel_rfl) ?_
                  simp only [List.take_succ_cons, List.take_zero, List.drop_succ_cons, List.drop_zero]
                  repeat (first | go_big_quiet_step (fail) | quiet_step (fail))
                  refine wpQuiet_nil ?_
                  intro w2 hb2
                  have HB5 := Lib.hid (HB4.out.trans (hb2.mono HB4.out.size))
                  have HB35 := Lib.hid (HB34.out.trans (hb2.mono HB34.out.size))
                  have HT5 := Lib.hid (HT4.out.below hb2)
                  have HR5 := Lib.hid (HR4.out.below hb2)
                  have hq1 := HLm'.out.below hb2
                  have hq3 := HL3'.out.below hb2
                  have hqh := HLs'.out.below hb2
                  have HQ3l := Lib.hid hq3
                  clear xc xf' hb2 y0 y1 z0 z1 z2 yl zl m0 m1 m2 m3 m4 ml u0 u1 u2 u3 u4 u5 ul
                  have y0 := HT5.out.cell 0
                  have y1 := HT5.out.cell 1
                  have z0 := HR5.out.cell 0
                  have z1 := HR5.out.cell 1
                  have z2 := HR5.out.cell 2
                  simp only [List.getElem?_toArray, List.getElem?_cons_zero, List.getElem?_cons_succ] at y0 y1 z0 z1 z2
                  have yl := HT5.out.lt
                  have zl := HR5.out.lt
                  obtain ⟨m0, m1, m2, m3, m4⟩ := Mvs.at_ hq1 (List.getElem?_eq_getElem hgl)
                  obtain ⟨u0, u1, u2, u3, u4, u5⟩ := Hds.at_ hqh (List.getElem?_eq_getElem hil)
                  rw [← HM.out, HFr.out] at m1
                  rw [← HH.out, HId.out] at u0
                  have ml := hq1.lt
                  have ul := hqh.lt
                  have s0 := hq3.c g _ (List.getElem?_eq_getElem hi3) 0 _ rfl
                  rw [Nat.mul_one, Nat.add_zero, ← HI3.out, HMm.out] at s0
                  have sl := hq3.lt
                  clear hq1 hq3 hqh
                  rcases Classical.em (tt = dd) with k1 | k1 <;> rcases Classical.em (ff = dd) with k2 | k2
                  · have c1b : (tt == dd) = true := by simpa using k1
                    have c2b : (ff == dd) = true := by simpa using k2
                    have HC1 := Lib.hid k1
                    have HC2 := Lib.hid k2
                    clear k1 k2
                    go_upto_region 26 with fail
                    obtain ⟨xc, xf'⟩ := xcell (W := w2)
                    refine wp_region_quiet_tail 12 (by kernel_rfl) (by kernel_rfl) ?_
                    simp only [List.take_succ_cons, List.take_zero, List.drop_succ_cons, List.drop_zero]
                    repeat (first | go_big_quiet_step (fail) | quiet_step (fail))
                    refine wpQuiet_nil ?_
                    intro w3 hb3
                    have HB6 := Lib.hid (HB35.out.trans (hb3.mono HB35.out.size))
                    have HR6 := Lib.hid (HR5.out.below hb3)
                    have hq3 := HQ3l.out.below hb3
                    clear xc xf' y0 y1 z0 z1 z2 yl zl m0 m1 m2 m3 m4 ml u0 u1 u2 u3 u4 u5 ul s0 sl
                    have z2 := HR6.out.cell 2
                    simp only [List.getElem?_toArray, List.getElem?_cons_zero, List.getElem?_cons_succ] at z2
                    have zl := HR6.out.lt
                    have s0 := hq3.c g _ (List.getElem?_eq_getElem hi3) 0 _ rfl
                    rw [Nat.mul_one, Nat.add_zero, ← HI3.out, HMm.out] at s0
                    have sl := hq3.lt
                    clear hq3
                    go_wp2
                    go_roundw
                    case rel => exact ⟨g + 1, X, by omega, by go_num, rfl, by have e := HX.out; rw [HId.out] at e; rw [HId.out, HSp.out, ← e, if_pos HC1.out, if_pos HC2.out]; omega, HB6.out⟩
                    case measure => simp [intOf]; omega
                  · have c1b : (tt == dd) = true := by simpa using k1
                    have c2b : (ff == dd) = false := by simpa using k2
                    have HC1 := Lib.hid k1
                    have HC2 := Lib.hid k2
                    clear k1 k2
                    go_upto_region 26 with fail
                    obtain ⟨xc, xf'⟩ := xcell (W := w2)
                    refine wp_region_quiet_tail 12 (by kernel_rfl) (by kernel_rfl) ?_
                    simp only [List.take_succ_cons, List.take_zero, List.drop_succ_cons, List.drop_zero]
                    repeat (first | go_big_quiet_step (fail) | quiet_step (fail))
                    refine wpQuiet_nil ?_
                    intro w3 hb3
                    have HB6 := Lib.hid (HB35.out.trans (hb3.mono HB35.out.size))
                    have HR6 := Lib.hid (HR5.out.below hb3)
                    have hq3 := HQ3l.out.below hb3
                    clear xc xf' y0 y1 z0 z1 z2 yl zl m0 m1 m2 m3 m4 ml u0 u1 u2 u3 u4 u5 ul s0 sl
                    have z2 := HR6.out.cell 2
                    simp only [List.getElem?_toArray, List.getElem?_cons_zero, List.getElem?_cons_succ] at z2
                    have zl := HR6.out.lt
                    have s0 := hq3.c g _ (List.getElem?_eq_getElem hi3) 0 _ rfl
                    rw [Nat.mul_one, Nat.add_zero, ← HI3.out, HMm.out] at s0
                    have sl := hq3.lt
                    clear hq3
                    go_wp2
                    go_roundw
                    case rel => exact ⟨g + 1, X + mm, by omega, by go_num, rfl, by have e := HX.out; rw [HId.out] at e; rw [HId.out, HSp.out, ← e, if_pos HC1.out, if_neg HC2.out]; omega, HB6.out⟩
                    case measure => simp [intOf]; omega
                  · have c1b : (tt == dd) = false := by simpa using k1
                    have c2b : (ff == dd) = true := by simpa using k2
                    have HC1 := Lib.hid k1
                    have HC2 := Lib.hid k2
                    clear k1 k2
                    go_upto_region 26 with fail
                    obtain ⟨xc, xf'⟩ := xcell (W := w2)
                    refine wp_region_quiet_tail 12 (by kernel_rfl) (by kernel_rfl) ?_
                    simp only [List.take_succ_cons, List.take_zero, List.drop_succ_cons, List.drop_zero]
                    repeat (first | go_big_quiet_step (fail) | quiet_step (fail))
                    refine wpQuiet_nil ?_
                    intro w3 hb3
                    have HB6 := Lib.hid (HB35.out.trans (hb3.mono HB35.out.size))
                    have HR6 := Lib.hid (HR5.out.below hb3)
                    have hq3 := HQ3l.out.below hb3
                    clear xc xf' y0 y1 z0 z1 z2 yl zl m0 m1 m2 m3 m4 ml u0 u1 u2 u3 u4 u5 ul s0 sl
                    have z2 := HR6.out.cell 2
                    simp only [List.getElem?_toArray, List.getElem?_cons_zero, List.getElem?_cons_succ] at z2
                    have zl := HR6.out.lt
                    have s0 := hq3.c g _ (List.getElem?_eq_getElem hi3) 0 _ rfl
                    rw [Nat.mul_one, Nat.add_zero, ← HI3.out, HMm.out] at s0
                    have sl := hq3.lt
                    clear hq3
                    go_wp2
                    go_roundw
                    case rel => exact ⟨g + 1, X - mm, by omega, by go_num, rfl, by have e := HX.out; rw [HId.out] at e; rw [HId.out, HSp.out, ← e, if_neg HC1.out, if_pos HC2.out]; omega, HB6.out⟩
                    case measure => simp [intOf]; omega
                  · have c1b : (tt == dd) = false := by simpa using k1
                    have c2b : (ff == dd) = false := by simpa using k2
                    have HC1 := Lib.hid k1
                    have HC2 := Lib.hid k2
                    clear k1 k2
                    go_upto_region 26 with fail
                    obtain ⟨xc, xf'⟩ := xcell (W := w2)
                    refine wp_region_quiet_tail 12 (by kernel_rfl) (by kernel_rfl) ?_
                    simp only [List.take_succ_cons, List.take_zero, List.drop_succ_cons, List.drop_zero]
                    repeat (first | go_big_quiet_step (fail) | quiet_step (fail))
                    refine wpQuiet_nil ?_
                    intro w3 hb3
                    have HB6 := Lib.hid (HB35.out.trans (hb3.mono HB35.out.size))
                    have HR6 := Lib.hid (HR5.out.below hb3)
                    have hq3 := HQ3l.out.below hb3
                    clear xc xf' y0 y1 z0 z1 z2 yl zl m0 m1 m2 m3 m4 ml u0 u1 u2 u3 u4 u5 ul s0 sl
                    have z2 := HR6.out.cell 2
                    simp only [List.getElem?_toArray, List.getElem?_cons_zero, List.getElem?_cons_succ] at z2
                    have zl := HR6.out.lt
                    have s0 := hq3.c g _ (List.getElem?_eq_getElem hi3) 0 _ rfl
                    rw [Nat.mul_one, Nat.add_zero, ← HI3.out, HMm.out] at s0
                    have sl := hq3.lt
                    clear hq3
                    go_wp2
                    go_roundw
                    case rel => exact ⟨g + 1, X, by omega, by go_num, rfl, by have e := HX.out; rw [HId.out] at e; rw [HId.out, HSp.out, ← e, if_neg HC1.out, if_neg HC2.out]; omega, HB6.out⟩
                    case measure => simp [intOf]; omega
        case pos =>
          have hil : e < ms.length := by have := HLm.out; omega
          have hi3 : e < ma.length := by have := HL3.out; omega
          obtain ⟨b, off, rfl, hl⟩ := HOk.out.m.at_ (by dsimp only; omega)
          obtain ⟨b3, of3, rfl, hl3⟩ := HS3.out.at_ (by omega)
          have hl' := hl.below HB2.out
          have hl3' := hl3.below HB2.out
          obtain ⟨u0, u1, u2, u3, u4⟩ := Mvs.at_ hl' (List.getElem?_eq_getElem hil)
          have ul := hl'.lt
          have s0 := hl3'.c e _ (List.getElem?_eq_getElem hi3) 0 _ rfl
          rw [Nat.mul_one, Nat.add_zero] at s0
          have sl := hl3'.lt
          have HM := Lib.hid (mat_eq hil)
          have HI3 := Lib.hid (iget_eq hi3)
          rw [← HI3.out] at s0
          rw [← HM.out] at u0 u1 u2 u3 u4
          have HWm := Lib.hid (fun u => within2_any (iget ma e) (mat ms e).lo (mat ms e).hi u)
          have HD1 := Lib.hid (show inSp (iget ma e) (mat ms e).lo (mat ms e).hi = decide ((mat ms e).lo ≤ iget ma e ∧ iget ma e ≤ (mat ms e).hi) from rfl)
          generalize inSp (iget ma e) (mat ms e).lo (mat ms e).hi = bs at *
          clear hl hl3 hl' hl3'
          go_upto_region 14 with fail
          obtain ⟨xc, xf'⟩ := xcell (W := wr)
          refine wp_region_quiet_tail 12 (by kernel_rfl) (by kernel_rfl) ?_
          simp only [List.take_succ_cons, List.take_zero, List.drop_succ_cons, List.drop_zero]
          repeat (first | go_big_quiet_step ((go_at_call 107; with_reducible refine calls_ext (HWm.out _))) | quiet_step ((go_at_call 107; with_reducible refine calls_ext (HWm.out _))))
          refine wpQuiet_nil ?_
          intro w2 hb2
          have HB3 := Lib.hid (HB2.out.trans (hb2.mono HB2.out.size))
          have HBW3 := Lib.hid (HBW2.out.trans (hb2.mono HBW2.out.size))
          clear xc xf' hb2
          cases bs with
          | false =>
            have HF := Lib.hid (show res = false by rw [HR0.out, Bool.eq_false_iff]; intro c; have := (HIff.out.1 c).2.2.1 e hil; have := of_decide_eq_false HD1.out.symm; omega)
            go_wp2
            exact bodyPost_ret (v := .bool false) (by simp [results, Tryz.results58, go_sem]) rfl ⟨by rw [HF.out], HB3.out⟩
          | true =>
            go_wp2
            go_roundw
            case rel => exact ⟨e + 1, by omega, by go_num, fun i h => by
              rcases Nat.lt_succ_iff_lt_or_eq.1 h with h | h
              · exact HQ2.out i h
              · subst h; exact of_decide_eq_true HD1.out.symm, HBW3.out⟩
            case measure => simp [intOf]; omega
    case pos =>
      have hil : j < hs.length := by have := HLh.out; omega
      have hi1 : j < st.length := by have := HL1.out; omega
      have hi2 : j < en.length := by have := HL2.out; omega
      obtain ⟨b, off, rfl, hl⟩ := HOk.out.h.at_ (by dsimp only; omega)
      obtain ⟨b1, of1, rfl, hl1⟩ := HS1.out.at_ (by omega)
      obtain ⟨b2, of2, rfl, hl2⟩ := HS2.out.at_ (by omega)
      have HLs := Lib.hid (hl.below HB.out)
      have HLs1 := Lib.hid (hl1.below HB.out)
      have HLs2 := Lib.hid (hl2.below HB.out)
      obtain ⟨u0, u1, u2, u3, u4, u5⟩ := Hds.at_ HLs.out (List.getElem?_eq_getElem hil)
      have ul := HLs.out.lt
      have s0 := HLs1.out.c j _ (List.getElem?_eq_getElem hi1) 0 _ rfl
      rw [Nat.mul_one, Nat.add_zero] at s0
      have sl := HLs1.out.lt
      have HH := Lib.hid (hat_eq hil)
      have HI1 := Lib.hid (iget_eq hi1)
      have HI2 := Lib.hid (iget_eq hi2)
      rw [← HI1.out] at s0
      rw [← HH.out] at u0 u1 u2 u3 u4 u5
      have HWs := Lib.hid (fun u => within2_any (iget st j) (hat hs j).sl (hat hs j).sh u)
      have HWe := Lib.hid (fun u => within2_any (iget en j) (hat hs j).el (hat hs j).eh u)
      have HD1 := Lib.hid (show inSp (iget st j) (hat hs j).sl (hat hs j).sh = decide ((hat hs j).sl ≤ iget st j ∧ iget st j ≤ (hat hs j).sh) from rfl)
      have HD2 := Lib.hid (show inSp (iget en j) (hat hs j).el (hat hs j).eh = decide ((hat hs j).el ≤ iget en j ∧ iget en j ≤ (hat hs j).eh) from rfl)
      generalize inSp (iget st j) (hat hs j).sl (hat hs j).sh = bs at *
      generalize inSp (iget en j) (hat hs j).el (hat hs j).eh = be at *
      clear hl hl1 hl2
      go_upto_region 7 with fail
      obtain ⟨xc, xf'⟩ := xcell (W := wr)
      refine wp_region_quiet_tail 12 (by kernel_rfl) (by kernel_rfl) ?_
      simp only [List.take_succ_cons, List.take_zero, List.drop_succ_cons, List.drop_zero]
      repeat (first | go_big_quiet_step ((go_at_call 107; with_reducible refine calls_ext (HWs.out _))) | quiet_step ((go_at_call 107; with_reducible refine calls_ext (HWs.out _))))
      refine wpQuiet_nil ?_
      intro w2 hb2
      have HB2 := Lib.hid (HB.out.trans (hb2.mono HB.out.size))
      have HBW2 := Lib.hid (HBW.out.trans (hb2.mono HBW.out.size))
      have HT2 := Lib.hid (HQT.out.below hb2)
      have HR2 := Lib.hid (HQR.out.below hb2)
      have hl := HLs.out.below hb2
      have hl2 := HLs2.out.below hb2
      clear xc xf' u0 u1 u2 u3 u4 u5 ul s0 sl y0 y1 z0 z1 z2 yl zl hb2
      have y0 := HT2.out.cell 0
      have y1 := HT2.out.cell 1
      have z0 := HR2.out.cell 0
      have z1 := HR2.out.cell 1
      have z2 := HR2.out.cell 2
      simp only [List.getElem?_toArray, List.getElem?_cons_zero, List.getElem?_cons_succ] at y0 y1 z0 z1 z2
      have yl := HT2.out.lt
      have zl := HR2.out.lt
      obtain ⟨u0, u1, u2, u3, u4, u5⟩ := Hds.at_ hl (List.getElem?_eq_getElem hil)
      rw [← HH.out] at u0 u1 u2 u3 u4 u5
      have ul := hl.lt
      have s0 := hl2.c j _ (List.getElem?_eq_getElem hi2) 0 _ rfl
      rw [Nat.mul_one, Nat.add_zero, ← HI2.out] at s0
      have sl := hl2.lt
      clear hl hl2
      go_upto_region 8 with fail
      obtain ⟨xc, xf'⟩ := xcell (W := w2)
      refine wp_region_quiet_tail 12 (by kernel_rfl) (by kernel_rfl) ?_
      simp only [List.take_succ_cons, List.take_zero, List.drop_succ_cons, List.drop_zero]
      repeat (first | go_big_quiet_step ((go_at_call 107; with_reducible refine calls_ext (HWe.out _))) | quiet_step ((go_at_call 107; with_reducible refine calls_ext (HWe.out _))))
      refine wpQuiet_nil ?_
      intro w3 hb3
      have HB3 := Lib.hid (HB2.out.trans (hb3.mono HB2.out.size))
      have HBW3 := Lib.hid (HBW2.out.trans (hb3.mono HBW2.out.size))
      clear xc xf' hb3
      cases bs with
      | false =>
        have HF := Lib.hid (show res = false by rw [HR0.out, Bool.eq_false_iff]; intro c; have := (HIff.out.1 c).2.1 j hil; have := of_decide_eq_false HD1.out.symm; omega)
        go_wp2
        exact bodyPost_ret (v := .bool false) (by simp [results, Tryz.results58, go_sem]) rfl ⟨by rw [HF.out], HB3.out⟩
      | true =>
      cases be with
      | false =>
        have HF := Lib.hid (show res = false by rw [HR0.out, Bool.eq_false_iff]; intro c; have := (HIff.out.1 c).2.1 j hil; have := of_decide_eq_false HD2.out.symm; omega)
        go_wp2
        exact bodyPost_ret (v := .bool false) (by simp [results, Tryz.results58, go_sem]) rfl ⟨by rw [HF.out], HB3.out⟩
      | true =>
        go_wp2
        go_roundw
        case rel => exact ⟨j + 1, by omega, by go_num, fun i h => by
          rcases Nat.lt_succ_iff_lt_or_eq.1 h with h | h
          · exact HQ.out i h
          · subst h; exact ⟨of_decide_eq_true HD1.out.symm, of_decide_eq_true HD2.out.symm⟩, HBW3.out⟩
        case measure => simp [intOf]; omega
end Go.Proofs.YtighfmgkoepfkaaGreat

namespace Go.Proofs.YtighfmgkoepfkaaGreat
open Go.RowKit

set_option maxRecDepth 100000 in
set_option maxHeartbeats 1600000 in
theorem SameInts_any (A : Option Addr) (n c : Nat) (B : Option Addr) (m d : Nat) (a b : List Int) (w : World) (ha : SAt encI 1 w A n a) (hb : SAt encI 1 w B m b) (hn : n ≤ 1000000) (hm : m ≤ 1000000) :
    Calls Tryz.prog 24 #[.slice A n c, .slice B m d] w fun e w' => e = .returned (.bool (decide (a = b))) ∧ Below w.heap.size w w' := by
  have HA := Lib.hid ha
  have HB := Lib.hid hb
  have HLa := Lib.hid ha.len
  have HLb := Lib.hid hb.len
  obtain ⟨q, hq⟩ : ∃ q, decide (a = b) = q := ⟨_, rfl⟩
  have HQ := Lib.hid hq
  rw [hq]
  clear ha hb hq
  go_enter Tryz.func24, Tryz.ntmps24
  by_cases hnm : n = m
  case neg =>
    have hnb : ((n : Int) != (m : Int)) = true := by simp; omega
    have HN := Lib.hid hnm
    have HF := Lib.hid (show q = false by rw [← HQ.out]; exact decide_eq_false (fun e => HN.out (by rw [← HLa.out, ← HLb.out, e])))
    clear hnm
    go_wp2
    exact bodyPost_ret (v := .bool false) (by simp [results, Tryz.results24, go_sem]) rfl ⟨by rw [HF.out], Below.refl _ _⟩
  case pos =>
  subst hnm
  go_wp2
  go_loopw [5] (fun i wx => ∃ k : Nat, k ≤ n ∧ i = .int .i64 (k : Int) ∧ (∀ i (p : i < a.length) (p' : i < b.length), i < k → a[i] = b[i]) ∧ Below w.heap.size w wx) (fun i _ => n - (intOf i).toNat)
  case atStart => exact ⟨0, Nat.zero_le _, rfl, fun i _ _ h => absurd h (Nat.not_lt_zero _), Below.refl _ _⟩
  case round =>
    obtain ⟨k, hk, rfl, hr, hb⟩ := hrel
    have HR := Lib.hid hr
    have HBw := Lib.hid hb
    clear hr hb
    by_cases hkn : k < n
    case neg =>
      have HF := Lib.hid (show q = true by
        rw [← HQ.out]
        exact decide_eq_true (List.ext_getElem (by rw [HLa.out, HLb.out]) fun i h1 h2 => HR.out i h1 h2 (by have := HLa.out; omega)))
      go_wp2
      exact bodyPost_ret (v := .bool true) (by simp [results, Tryz.results24, go_sem]) rfl ⟨by rw [HF.out], HBw.out⟩
    case pos =>
      have hka : k < a.length := by rw [HLa.out]; exact hkn
      have hkb : k < b.length := by rw [HLb.out]; exact hkn
      obtain ⟨ba, oa, rfl, hla⟩ := HA.out.at_ (by omega)
      obtain ⟨bb, ob, rfl, hlb⟩ := HB.out.at_ (by omega)
      have hla2 := hla.below HBw.out
      have hlb2 := hlb.below HBw.out
      obtain ⟨x, hx⟩ : ∃ x, a[k] = x := ⟨_, rfl⟩
      obtain ⟨y, hy⟩ : ∃ y, b[k] = y := ⟨_, rfl⟩
      have u0 := hla2.c k x (by rw [List.getElem?_eq_getElem hka, hx]) 0 _ rfl
      have v0 := hlb2.c k y (by rw [List.getElem?_eq_getElem hkb, hy]) 0 _ rfl
      rw [Nat.mul_one, Nat.add_zero] at u0 v0
      have ul := hla2.lt
      have vl := hlb2.lt
      have HX := Lib.hid hx
      have HY := Lib.hid hy
      clear hla hlb hla2 hlb2 hx hy
      go_upto_region 6 with fail
      obtain ⟨xc, xf'⟩ := xcell (W := wr)
      refine wp_region_quiet_tail 8 (by kernel_rfl) (by kernel_rfl) ?_
      simp only [List.take_succ_cons, List.take_zero, List.drop_succ_cons, List.drop_zero]
      repeat (first | go_big_quiet_step (fail) | quiet_step (fail))
      refine wpQuiet_nil ?_
      intro w2 hb2
      have HB2 := Lib.hid (HBw.out.trans (hb2.mono HBw.out.size))
      clear xc xf' hb2
      by_cases hxy : x = y
      · have hxb : (x != y) = false := by simpa using hxy
        have HXY := Lib.hid hxy
        clear hxy
        go_wp2
        go_roundw
        case rel => exact ⟨k + 1, by omega, by go_num, fun i p p' h => by
          rcases Nat.lt_succ_iff_lt_or_eq.1 h with h | h
          · exact HR.out i p p' h
          · subst h; rw [HX.out, HY.out, HXY.out], HB2.out⟩
        case measure => simp [intOf]; omega
      · have hxb : (x != y) = true := by simpa using hxy
        have HXY := Lib.hid hxy
        clear hxy
        have HF := Lib.hid (show q = false by rw [← HQ.out]; exact decide_eq_false (fun e => HXY.out (by rw [← HX.out, ← HY.out]; simp only [e])))
        go_wp2
        exact bodyPost_ret (v := .bool false) (by simp [results, Tryz.results24, go_sem]) rfl ⟨by rw [HF.out], HB2.out⟩
set_option maxRecDepth 100000 in
set_option maxHeartbeats 1600000 in
theorem SameSpans_any (A : Option Addr) (n c : Nat) (B : Option Addr) (m d : Nat) (a b : List (Int × Int)) (w : World) (ha : SAt encSp 2 w A n a) (hb : SAt encSp 2 w B m b) (hn : n ≤ 1000000) (hm : m ≤ 1000000) :
    Calls Tryz.prog 18 #[.slice A n c, .slice B m d] w fun e w' => e = .returned (.bool (decide (a = b))) ∧ Below w.heap.size w w' := by
  have HA := Lib.hid ha
  have HB := Lib.hid hb
  have HLa := Lib.hid ha.len
  have HLb := Lib.hid hb.len
  obtain ⟨q, hq⟩ : ∃ q, decide (a = b) = q := ⟨_, rfl⟩
  have HQ := Lib.hid hq
  rw [hq]
  clear ha hb hq
  go_enter Tryz.func18, Tryz.ntmps18
  by_cases hnm : n = m
  case neg =>
    have hnb : ((n : Int) != (m : Int)) = true := by simp; omega
    have HN := Lib.hid hnm
    have HF := Lib.hid (show q = false by rw [← HQ.out]; exact decide_eq_false (fun e => HN.out (by rw [← HLa.out, ← HLb.out, e])))
    clear hnm
    go_wp2
    exact bodyPost_ret (v := .bool false) (by simp [results, Tryz.results18, go_sem]) rfl ⟨by rw [HF.out], Below.refl _ _⟩
  case pos =>
  subst hnm
  go_wp2
  go_loopw [5] (fun i wx => ∃ k : Nat, k ≤ n ∧ i = .int .i64 (k : Int) ∧ (∀ i (p : i < a.length) (p' : i < b.length), i < k → a[i] = b[i]) ∧ Below w.heap.size w wx) (fun i _ => n - (intOf i).toNat)
  case atStart => exact ⟨0, Nat.zero_le _, rfl, fun i _ _ h => absurd h (Nat.not_lt_zero _), Below.refl _ _⟩
  case round =>
    obtain ⟨k, hk, rfl, hr, hb⟩ := hrel
    have HR := Lib.hid hr
    have HBw := Lib.hid hb
    clear hr hb
    by_cases hkn : k < n
    case neg =>
      have HF := Lib.hid (show q = true by
        rw [← HQ.out]
        exact decide_eq_true (List.ext_getElem (by rw [HLa.out, HLb.out]) fun i h1 h2 => HR.out i h1 h2 (by have := HLa.out; omega)))
      go_wp2
      exact bodyPost_ret (v := .bool true) (by simp [results, Tryz.results18, go_sem]) rfl ⟨by rw [HF.out], HBw.out⟩
    case pos =>
      have hka : k < a.length := by rw [HLa.out]; exact hkn
      have hkb : k < b.length := by rw [HLb.out]; exact hkn
      obtain ⟨ba, oa, rfl, hla⟩ := HA.out.at_ (by omega)
      obtain ⟨bb, ob, rfl, hlb⟩ := HB.out.at_ (by omega)
      have hla2 := hla.below HBw.out
      have hlb2 := hlb.below HBw.out
      obtain ⟨x, hx⟩ : ∃ x, a[k] = x := ⟨_, rfl⟩
      obtain ⟨y, hy⟩ : ∃ y, b[k] = y := ⟨_, rfl⟩
      have HX := Lib.hid hx
      have HY := Lib.hid hy
      obtain ⟨x1, x2⟩ := x
      obtain ⟨y1, y2⟩ := y
      have u0 := hla2.c k (x1, x2) (by rw [List.getElem?_eq_getElem hka, hx]) 0 _ rfl
      have u1 := hla2.c k (x1, x2) (by rw [List.getElem?_eq_getElem hka, hx]) 1 _ rfl
      have v0 := hlb2.c k (y1, y2) (by rw [List.getElem?_eq_getElem hkb, hy]) 0 _ rfl
      have v1 := hlb2.c k (y1, y2) (by rw [List.getElem?_eq_getElem hkb, hy]) 1 _ rfl
      rw [Nat.add_zero] at u0 v0
      have ul := hla2.lt
      have vl := hlb2.lt
      clear hla hlb hla2 hlb2 hx hy
      go_upto_region 6 with fail
      obtain ⟨xc, xf'⟩ := xcell (W := wr)
      refine wp_region_quiet_tail 8 (by kernel_rfl) (by kernel_rfl) ?_
      simp only [List.take_succ_cons, List.take_zero, List.drop_succ_cons, List.drop_zero]
      repeat (first | go_big_quiet_step (fail) | quiet_step (fail))
      refine wpQuiet_nil ?_
      intro w2 hb2
      have HB2 := Lib.hid (HBw.out.trans (hb2.mono HBw.out.size))
      clear xc xf' hb2
      by_cases hxy : x1 = y1
      · by_cases hxz : x2 = y2
        · have hxb : (x1 == y1) = true := by simpa using hxy
          have hxc : (x2 == y2) = true := by simpa using hxz
          have HXY := Lib.hid hxy
          have HXZ := Lib.hid hxz
          clear hxy hxz
          go_wp2
          go_roundw
          case rel => exact ⟨k + 1, by omega, by go_num, fun i p p' h => by
            rcases Nat.lt_succ_iff_lt_or_eq.1 h with h | h
            · exact HR.out i p p' h
            · subst h; rw [HX.out, HY.out, HXY.out, HXZ.out], HB2.out⟩
          case measure => simp [intOf]; omega
        · have hxb : (x1 == y1) = true := by simpa using hxy
          have hxc : (x2 == y2) = false := by simpa using hxz
          have HXZ := Lib.hid hxz
          clear hxy hxz
          have HF := Lib.hid (show q = false by rw [← HQ.out]; exact decide_eq_false (fun e => HXZ.out (by have := HX.out; simp only [e] at this; rw [HY.out] at this; exact (Prod.mk.inj this).2.symm)))
          go_wp2
          exact bodyPost_ret (v := .bool false) (by simp [results, Tryz.results18, go_sem]) rfl ⟨by rw [HF.out], HB2.out⟩
      · have hxb : (x1 == y1) = false := by simpa using hxy
        have HXY := Lib.hid hxy
        clear hxy
        have HF := Lib.hid (show q = false by rw [← HQ.out]; exact decide_eq_false (fun e => HXY.out (by have := HX.out; simp only [e] at this; rw [HY.out] at this; exact (Prod.mk.inj this).1.symm)))
        go_wp2
        exact bodyPost_ret (v := .bool false) (by simp [results, Tryz.results18, go_sem]) rfl ⟨by rw [HF.out], HB2.out⟩
end Go.Proofs.YtighfmgkoepfkaaGreat

namespace Go.Proofs.YtighfmgkoepfkaaGreat
open Go.RowKit

def exHs : List Hd := [⟨1, 100, 100, 40, 60, 60⟩, ⟨2, 0, 0, 0, 0, 0⟩, ⟨3, 10, 20, 50, 70, 50⟩]
def exMs : List Mv := [⟨7, 1, 2, 30, 50⟩, ⟨8, 2, 3, 35, 60⟩]
def exHs3 : List Hd := [⟨1, 100, 100, 40, 60, 60⟩, ⟨2, 0, 0, 0, 0, 0⟩, ⟨3, 10, 20, 75, 80, 50⟩]
def exMs3 : List Mv := [⟨7, 1, 2, 30, 50⟩, ⟨8, 2, 3, 35, 60⟩, ⟨9, 1, 3, 30, 30⟩]
theorem ex_check : tcheck exHs exMs = 0 := by kernel_rfl
theorem ex_check3 : tcheck exHs exMs3 = 0 := by kernel_rfl
theorem ex_checkH : tcheck exHs3 exMs = 0 := by kernel_rfl
theorem ex_agr : agrL exHs exMs = true := by kernel_rfl
theorem ex_agrH : agrL exHs3 exMs = false := by kernel_rfl
theorem ex_thru : thruL exHs3 exMs 1 [2, 3] = (5, 0) := by kernel_rfl
theorem ex_place : plE exHs exMs 3 1 = 0 := by kernel_rfl
theorem ex_lo : narLo exHs exMs (placeN exHs exMs 3 1) = 50 := by kernel_rfl
theorem ex_hi : narHi exHs exMs (placeN exHs exMs 3 1) = 60 := by kernel_rfl
theorem ex_spans : spansL exHs exMs = [(40, 50), (40, 50)] := by kernel_rfl
theorem ex_gaps : gapsL exHs exMs = [⟨1, 0, 10⟩, ⟨2, 0, 0⟩, ⟨3, -20, 0⟩] := by kernel_rfl
theorem ex_nwE : nwE exHs exMs = 0 := by kernel_rfl
theorem ex_ids : idsL exMs3 = [7, 8, 9] := by
  unfold idsL sortI
  exact List.mergeSort_of_pairwise (by decide)
theorem ex_few : fewL (okL exHs exMs3) [7, 8, 9] = some [9] := by kernel_rfl
theorem one_any (x : Int) (w : World) : Calls Tryz.prog 55 #[.int .i64 x] w fun e w' => e = .returned (.agg #[.int .i64 x, .int .i64 x]) ∧ Below w.heap.size w w' := by
  have hb0 := (Below.refl w.heap.size w).alloc (Nat.le_refl _) (.cells #[.int .i64 x, .int .i64 x] 57)
  have hf := Blk.new w 57 #[.int .i64 x, .int .i64 x]
  have a0 := hf.cell 0
  have a1 := hf.cell 1
  simp only [List.getElem?_toArray, List.getElem?_cons_zero, List.getElem?_cons_succ] at a0 a1
  have HB := Lib.hid hb0
  clear hb0 hf
  go_enter Tryz.func55, Tryz.ntmps55
  go_wp2
  exact bodyPost_ret (v := .agg #[.int .i64 x, .int .i64 x]) (by simp [results, Tryz.results55, go_sem, a0, a1]) rfl ⟨rfl, HB.out⟩
/-- The cells of holders, of movements. -/
def cellsH (hs : List Hd) : Array Value := (hs.flatMap encH).toArray
def cellsM (ms : List Mv) : Array Value := (ms.flatMap encM).toArray
set_option maxRecDepth 100000 in
set_option maxHeartbeats 3200000 in
theorem example_any (w : World) : Calls Tryz.prog 56 #[] w fun e w' => ∃ g1 g2, e = .returned (vT (some ⟨g1, 0, none⟩) 3 3 (some ⟨g2, 0, none⟩) 2 2) ∧ Blk w' g1 118 (cellsH exHs) ∧ Blk w' g2 59 (cellsM exMs) ∧ w.heap.size ≤ g1 ∧ g1 < g2 ∧ Below w.heap.size w w' := by
  have hb0 := (Below.refl w.heap.size w).alloc (Nat.le_refl _) (.cells #[.slice none 0 0, .slice none 0 0] 25)
  have r0 := Blk.new w 25 #[.slice none 0 0, .slice none 0 0]
  have HO := Lib.hid (fun u => one_any 100 u)
  go_enter Tryz.func56, Tryz.ntmps56
  go_upto_region 1 with fail
  generalize hW : w.alloc (.cells #[.slice none 0 0, .slice none 0 0] 25) = W at *
  clear hW
  have HB0 := Lib.hid hb0
  have HR := Lib.hid r0
  clear hb0 r0
  go_wp2_with (go_at_call 55; with_reducible refine (HO.out _).mono ?_; rintro e w1 ⟨rfl, hb1⟩; have R1 := HR.out.below hb1; have l1 := R1.lt; have z0 := R1.cell 0; have z1 := R1.cell 1; have f0 := R1.frozen 0; have f1 := R1.frozen 1; simp only [List.getElem?_toArray, List.getElem?_cons_zero, List.getElem?_cons_succ] at z0 z1; have HR1 := Lib.hid R1; have HB1 := Lib.hid (HB0.out.trans (hb1.mono HB0.out.size)); clear R1)
  have q0 := blk_set2 HR1.out (.slice (some ⟨w1.heap.size, 0, none⟩) 3 3) (.slice (some ⟨w1.heap.size + 1, 0, none⟩) 2 2)
  have hs0 : ((w1.setCell ⟨w.heap.size, 0, none⟩ (.slice (some ⟨w1.heap.size, 0, none⟩) 3 3)).setCell ⟨w.heap.size, 1, none⟩ (.slice (some ⟨w1.heap.size + 1, 0, none⟩) 2 2)).heap.size = w1.heap.size := by simp
  have hbU := below_set2 HB1.out (Nat.le_refl _) (.slice (some ⟨w1.heap.size, 0, none⟩) 3 3) (.slice (some ⟨w1.heap.size + 1, 0, none⟩) 2 2)
  generalize hU : (w1.setCell ⟨w.heap.size, 0, none⟩ (.slice (some ⟨w1.heap.size, 0, none⟩) 3 3)).setCell ⟨w.heap.size, 1, none⟩ (.slice (some ⟨w1.heap.size + 1, 0, none⟩) 2 2) = U at *
  clear hU
  rw [← hs0] at q0 ⊢
  have hw0 : w.heap.size ≤ U.heap.size := by omega
  have hf := (q0.alloc (.cells (cellsH exHs) 118)).alloc (.cells (cellsM exMs) 59)
  have a0 := hf.cell 0
  have a1 := hf.cell 1
  simp only [List.getElem?_toArray, List.getElem?_cons_zero, List.getElem?_cons_succ] at a0 a1
  have k1 := (Blk.new U 118 (cellsH exHs)).alloc (.cells (cellsM exMs) 59)
  have k2 := Blk.at_new (W := U.alloc (.cells (cellsH exHs) 118)) (g := U.heap.size + 1) 59 (cellsM exMs) (by simp)
  have hbF := (hbU.alloc hw0 (.cells (cellsH exHs) 118)).alloc (by simp; omega) (.cells (cellsM exMs) 59)
  refine bodyPost_ret (v := vT (some ⟨U.heap.size, 0, none⟩) 3 3 (some ⟨U.heap.size + 1, 0, none⟩) 2 2) ?_ rfl ⟨U.heap.size, U.heap.size + 1, rfl, k1, k2, hw0, by omega, hbF⟩
  have e1 : cellsH exHs = #[.int .i64 1, .int .i64 100, .int .i64 100, .int .i64 40, .int .i64 60, .int .i64 60, .int .i64 2, .int .i64 0, .int .i64 0, .int .i64 0, .int .i64 0, .int .i64 0, .int .i64 3, .int .i64 10, .int .i64 20, .int .i64 50, .int .i64 70, .int .i64 50] := rfl
  have e2 : cellsM exMs = #[.int .i64 7, .int .i64 1, .int .i64 2, .int .i64 30, .int .i64 50, .int .i64 8, .int .i64 2, .int .i64 3, .int .i64 35, .int .i64 60] := rfl
  rw [e1, e2] at a0 a1
  simp [results, Tryz.results56, go_sem, a0, a1]
end Go.Proofs.YtighfmgkoepfkaaGreat

namespace Go.Proofs.YtighfmgkoepfkaaGreat
open Go.RowKit

theorem SAt_blk {α : Type} {enc : α → List Value} {k : Nat} (hk : ∀ x, (enc x).length = k) {w : World} {g : Nat} {t : TypeId} {zs : List α} (h : Blk w g t (zs.flatMap enc).toArray) : SAt enc k w (some ⟨g, 0, none⟩) zs.length zs := by
  refine ⟨rfl, fun _ => ⟨g, 0, rfl, h.lt, fun i x hi j v hv => ?_⟩⟩
  have hil : i < zs.length := (List.getElem?_eq_some_iff.1 hi).1
  have hjl : j < k := by have := (List.getElem?_eq_some_iff.1 hv).1; rw [hk] at this; exact this
  have hf := flat_at k enc hk zs i j x hil hjl
  have hg : zs.getD i x = x := by rw [List.getD_eq_getElem?_getD, hi]; rfl
  rw [hg] at hf
  have := h.cell (i * k + j)
  rw [List.getElem?_toArray, hf, hv] at this
  rw [Nat.zero_add]
  exact this
theorem encH_len' (h : Hd) : (encH h).length = 6 := rfl
theorem encM_len' (m : Mv) : (encM m).length = 5 := rfl
def exT (g1 g2 : Nat) : TR := ⟨some ⟨g1, 0, none⟩, 3, 3, some ⟨g2, 0, none⟩, 2, 2, exHs, exMs⟩
theorem exT_ok {w : World} {g1 g2 : Nat} {t1 t2 : TypeId} (h1 : Blk w g1 t1 (cellsH exHs)) (h2 : Blk w g2 t2 (cellsM exMs)) : (exT g1 g2).Ok w :=
  ⟨SAt_blk encH_len' h1, SAt_blk encM_len' h2, by show 3 ≤ _; omega, by show 2 ≤ _; omega, Nat.le_refl _, Nat.le_refl _⟩
theorem ex_Find {w : World} {t : TR} (h : t.Ok w) (hh : t.hs = exHs) (hm : t.ms = exMs) : Calls Tryz.prog 35 #[t.v] w fun e w' => ∃ A1 n1 c1 A2 n2 c2 A3 n3 c3 st en ma, e = .returned (.tuple #[vCo A1 n1 c1 A2 n2 c2 A3 n3 c3, .int .i64 0]) ∧ SAt encI 1 w' A1 n1 st ∧ SAt encI 1 w' A2 n2 en ∧ SAt encI 1 w' A3 n3 ma ∧ fitsL exHs exMs st en ma = true ∧ Below w.heap.size w w' := by
  refine (Find_any t w h).mono ?_
  rw [hh, hm]
  rintro e w' ⟨hb, ⟨h1, _⟩ | ⟨_, h2, _⟩ | ⟨_, _, v, st, en, ma, rfl, ⟨A1, n1, c1, A2, n2, c2, A3, n3, c3, rfl, k1, k2, k3, _⟩, hf⟩⟩
  · exact absurd ex_check h1
  · rw [ex_agr] at h2; cases h2
  · exact ⟨A1, n1, c1, A2, n2, c2, A3, n3, c3, st, en, ma, rfl, k1, k2, k3, hf, hb⟩
theorem ex_Cont {w : World} {t : TR} (h : t.Ok w) (hh : t.hs = exHs) (hm : t.ms = exMs) : Calls Tryz.prog 57 #[t.v] w fun e w' => e = .returned (.tuple #[vCu0, .bool false, .int .i64 0]) ∧ Below w.heap.size w w' := by
  refine (Contradiction_any t w h).mono ?_
  rw [hh, hm]
  rintro e w' ⟨hb, ⟨h1, _⟩ | ⟨_, _, rfl⟩ | ⟨_, h2, _⟩⟩
  · exact absurd ex_check h1
  · exact ⟨rfl, hb⟩
  · rw [ex_agr] at h2; cases h2
theorem ex_Spans {w : World} {t : TR} (h : t.Ok w) (hh : t.hs = exHs) (hm : t.ms = exMs) : Calls Tryz.prog 14 #[t.v] w fun e w' => ∃ A c, e = .returned (.tuple #[.slice A 2 c, .int .i64 0]) ∧ SAt encSp 2 w' A 2 [(40, 50), (40, 50)] ∧ Below w.heap.size w w' := by
  refine (Spans_any t w h).mono ?_
  rw [hh, hm]
  rintro e w' ⟨hb, v, rfl, ho⟩
  rw [ex_nwE]
  rw [ex_spans] at ho
  obtain ⟨A, c, rfl, hs, _, _⟩ := SAt_of_row (enc := encSp) (k := 2) (fun _ => rfl) rfl ho
  exact ⟨A, c, rfl, hs, hb⟩
theorem ex_Least {w : World} {t : TR} (h : t.Ok w) (hh : t.hs = exHs) (hm : t.ms = exMs) : Calls Tryz.prog 46 #[t.v, vAt 3 1] w fun e w' => ∃ A1 n1 c1 A2 n2 c2 A3 n3 c3 way A4 n4 c4, e = .returned (.tuple #[vLi 50 A1 n1 c1 A2 n2 c2 A3 n3 c3 way A4 n4 c4, .int .i64 0]) ∧ Below w.heap.size w w' := by
  refine (Least_any t 3 1 w h).mono ?_
  rw [hh, hm]
  rintro e w' ⟨hb, ⟨h1, _⟩ | ⟨_, h2, _⟩ | ⟨_, _, v, st, en, ma, way, s, rfl, ⟨A1, n1, c1, A2, n2, c2, A3, n3, c3, A4, n4, c4, rfl, _⟩, hl⟩⟩
  · exact absurd ex_place h1
  · rw [ex_agr] at h2; cases h2
  · have := (lim_lo (tcheck_zero.1 ex_check) (by decide) hl.ok).2
    rw [ex_lo] at this
    rw [← this]
    exact ⟨A1, n1, c1, A2, n2, c2, A3, n3, c3, way, A4, n4, c4, rfl, hb⟩
theorem ex_Great {w : World} {t : TR} (h : t.Ok w) (hh : t.hs = exHs) (hm : t.ms = exMs) : Calls Tryz.prog 47 #[t.v, vAt 3 1] w fun e w' => ∃ A1 n1 c1 A2 n2 c2 A3 n3 c3 way A4 n4 c4, e = .returned (.tuple #[vLi 60 A1 n1 c1 A2 n2 c2 A3 n3 c3 way A4 n4 c4, .int .i64 0]) ∧ Below w.heap.size w w' := by
  refine (Greatest_any t 3 1 w h).mono ?_
  rw [hh, hm]
  rintro e w' ⟨hb, ⟨h1, _⟩ | ⟨_, h2, _⟩ | ⟨_, _, v, st, en, ma, way, s, rfl, ⟨A1, n1, c1, A2, n2, c2, A3, n3, c3, A4, n4, c4, rfl, _⟩, hl⟩⟩
  · exact absurd ex_place h1
  · rw [ex_agr] at h2; cases h2
  · have := (lim_hi (tcheck_zero.1 ex_check) (by decide) hl.ok).2
    rw [ex_hi] at this
    rw [← this]
    exact ⟨A1, n1, c1, A2, n2, c2, A3, n3, c3, way, A4, n4, c4, rfl, hb⟩
theorem ex_Gaps {w : World} {t : TR} (h : t.Ok w) (hh : t.hs = exHs) (hm : t.ms = exMs) : Calls Tryz.prog 25 #[t.v] w fun e w' => ∃ b c, e = .returned (.tuple #[.slice (some ⟨b, 0, none⟩) 3 c, .int .i64 0]) ∧ w'.cell? ⟨b, 7, none⟩ = some (.int .i64 (-20)) ∧ w'.cell? ⟨b, 8, none⟩ = some (.int .i64 0) ∧ b < w'.heap.size ∧ 3 ≤ c ∧ Below w.heap.size w w' := by
  refine (Gaps_any t w h).mono ?_
  rw [hh, hm]
  rintro e w' ⟨hb, v, rfl, ho⟩
  rw [ex_nwE]
  rw [ex_gaps] at ho
  obtain ⟨A, c, rfl, hs, _, hc⟩ := SAt_of_row (enc := encGp) (k := 3) (fun _ => rfl) rfl ho
  obtain ⟨g, c', e2⟩ := ownsRow_succ ho
  obtain ⟨e3, e4⟩ : A = some ⟨g, 0, none⟩ ∧ c = c' := by cases e2; exact ⟨rfl, rfl⟩
  subst e3
  obtain ⟨b, off, e5, hl⟩ := hs.at_ (by decide)
  obtain ⟨rfl, rfl⟩ : g = b ∧ 0 = off := by cases e5; exact ⟨rfl, rfl⟩
  exact ⟨g, c, rfl, hl.c 2 ⟨3, -20, 0⟩ rfl 1 _ rfl, hl.c 2 ⟨3, -20, 0⟩ rfl 2 _ rfl, hl.lt, hc, hb⟩
theorem ex_Fewest {w : World} {t : TR} (h : t.Ok w) (hh : t.hs = exHs) (hm : t.ms = exMs3) : Calls Tryz.prog 22 #[t.v] w fun e w' => ∃ A c, e = .returned (.tuple #[.slice A 1 c, .int .i64 0]) ∧ SAt encI 1 w' A 1 [9] ∧ (∀ a, A = some a → w.heap.size ≤ a.block) ∧ Below w.heap.size w w' := by
  refine (Fewest_any t w h).mono ?_
  rw [hh, hm]
  rintro e w' ⟨hb, ⟨h1, _⟩ | ⟨_, ⟨h2, _⟩ | ⟨_, h2, _⟩ | ⟨_, z, A, n, c, h3, rfl, hs, _, _, hfr⟩⟩⟩
  · exact absurd ex_check3 h1
  · exact absurd h2 (by decide)
  · rw [ex_ids, ex_few] at h2; cases h2
  · rw [ex_ids, ex_few] at h3
    obtain rfl := Option.some.inj h3
    obtain rfl : 1 = n := hs.len
    exact ⟨A, c, rfl, hs, hfr, hb⟩
theorem ex_Through {w : World} {t : TR} (h : t.Ok w) (hh : t.hs = exHs3) (hm : t.ms = exMs) {A : Option Addr} {c : Nat} (hs : SAt encI 1 w A 2 [2, 3]) : Calls Tryz.prog 59 #[t.v, vCt 1 A 2 c] w fun e w' => e = .returned (.tuple #[.int .i64 5, .int .i64 0]) ∧ Below w.heap.size w w' := by
  refine (Through_any t 1 A 2 c [2, 3] w h hs (by decide)).mono ?_
  rw [hh, hm, ex_thru]
  exact fun e w' h => h
theorem ex_Cont3 {w : World} {t : TR} (h : t.Ok w) (hh : t.hs = exHs3) (hm : t.ms = exMs) : Calls Tryz.prog 57 #[t.v] w fun e w' => ∃ way A n c s, e = .returned (.tuple #[vCt way A n c, .bool true, .int .i64 0]) ∧ SAt encI 1 w' A n s ∧ n ≤ 9 ∧ showsL exHs3 exMs way s = true ∧ Below w.heap.size w w' := by
  refine (Contradiction_any t w h).mono ?_
  rw [hh, hm]
  rintro e w' ⟨hb, ⟨h1, _⟩ | ⟨_, h2, rfl⟩ | ⟨_, _, v, way, s, rfl, ⟨A, n, c, rfl, hs, _⟩, hsh, hl⟩⟩
  · exact absurd ex_checkH h1
  · rw [ex_agrH] at h2; cases h2
  · exact ⟨way, A, n, c, s, rfl, hs, by rw [← hs.len]; exact hl, hsh, hb⟩
theorem ex_CheckCut {w : World} {t : TR} (h : t.Ok w) (hh : t.hs = exHs3) (hm : t.ms = exMs) {way : Int} {A : Option Addr} {n c : Nat} {s : List Int} (hs : SAt encI 1 w A n s) (hn : n ≤ 9) (hsh : showsL exHs3 exMs way s = true) : Calls Tryz.prog 60 #[t.v, vCt way A n c] w fun e w' => e = .returned (.int .i64 0) ∧ Below w.heap.size w w' := by
  refine (RCheckCut_any t way A n c s w h hs (by omega)).mono ?_
  rw [hh, hm, show ckCut exHs3 exMs way s = 0 by unfold ckCut; rw [if_neg (fun h => h ex_checkH), if_pos hsh]]
  exact fun e w' h => h
theorem ex_Fits {w : World} {t : TR} (h : t.Ok w) (hh : t.hs = exHs) (hm : t.ms = exMs) {A1 : Option Addr} {n1 c1 : Nat} {A2 : Option Addr} {n2 c2 : Nat} {A3 : Option Addr} {n3 c3 : Nat} {st en ma : List Int} (h1 : SAt encI 1 w A1 n1 st) (h2 : SAt encI 1 w A2 n2 en) (h3 : SAt encI 1 w A3 n3 ma) (hf : fitsL exHs exMs st en ma = true) :
    Calls Tryz.prog 58 #[t.v, vCo A1 n1 c1 A2 n2 c2 A3 n3 c3] w fun e w' => e = .returned (.bool true) ∧ Below w.heap.size w w' := by
  refine (RFits_any t A1 n1 c1 A2 n2 c2 A3 n3 c3 st en ma w h h1 h2 h3 (by rw [hh, hm]; exact tcheck_zero.1 ex_check)).mono ?_
  rw [hh, hm, hf]
  exact fun e w' h => h
end Go.Proofs.YtighfmgkoepfkaaGreat

namespace Go.Proofs.YtighfmgkoepfkaaGreat
open Go.RowKit

theorem Blk.b {W W' : World} {g : Nat} {t : TypeId} {vs : Array Value} (h : Blk W g t vs) (hb : Below W.heap.size W W') : Blk W' g t vs := h.below hb
theorem below_new (W : World) (o : Obj) : Below W.heap.size W (W.alloc o) := (Below.refl _ _).alloc (Nat.le_refl _) o
theorem ex_Same {w : World} {A B : Option Addr} {c d : Nat} (ha : SAt encSp 2 w A 2 [(40, 50), (40, 50)]) (hb : SAt encSp 2 w B 2 [(40, 50), (40, 50)]) : Calls Tryz.prog 18 #[.slice A 2 c, .slice B 2 d] w fun e w' => e = .returned (.bool true) ∧ Below w.heap.size w w' := by
  refine (SameSpans_any A 2 c B 2 d _ _ w ha hb (by omega) (by omega)).mono ?_
  rw [decide_eq_true rfl]
  exact fun e w' h => h
theorem ex_Same9 {w : World} {A B : Option Addr} {c d : Nat} (ha : SAt encI 1 w A 1 [9]) (hb : SAt encI 1 w B 1 [9]) : Calls Tryz.prog 24 #[.slice A 1 c, .slice B 1 d] w fun e w' => e = .returned (.bool true) ∧ Below w.heap.size w w' := by
  refine (SameInts_any A 1 c B 1 d _ _ w ha hb (by omega) (by omega)).mono ?_
  rw [decide_eq_true rfl]
  exact fun e w' h => h
set_option maxRecDepth 100000 in
set_option maxHeartbeats 12800000 in
theorem sanity_any (w : World) : Calls Tryz.prog 13 #[] w fun e w' => e = .returned (.bool true) ∧ Below w.heap.size w w' := by
  have HEx := Lib.hid (fun u => example_any u)
  have HOne := Lib.hid (fun u => one_any 30 u)
  go_enter Tryz.func13, Tryz.ntmps13
  go_upto_region 2 with (go_at_call 56; with_reducible refine (HEx.out _).mono ?_; rintro e w1 ⟨g1, g2, rfl, h1, h2, hlo, hlt, hb1⟩)
  have b1 := below_new w1 (.cells #[.slice (some ⟨g1, 0, none⟩) 3 3, .slice (some ⟨g2, 0, none⟩) 2 2] 25)
  have T1 := Lib.hid (Blk.new w1 25 #[.slice (some ⟨g1, 0, none⟩) 3 3, .slice (some ⟨g2, 0, none⟩) 2 2])
  have E1 := Lib.hid (h1.below b1)
  have F1 := Lib.hid (h2.below b1)
  have HB1 := Lib.hid (hb1.trans (b1.mono hb1.size))
  have HP := Lib.hid (show g1 < w1.heap.size ∧ g2 < w1.heap.size ∧ w.heap.size ≤ g1 ∧ g1 < g2 ∧ w.heap.size ≤ w1.heap.size from ⟨h1.lt, h2.lt, hlo, hlt, hb1.size⟩)
  generalize hV : w1.alloc (.cells #[.slice (some ⟨g1, 0, none⟩) 3 3, .slice (some ⟨g2, 0, none⟩) 2 2] 25) = V1 at *
  generalize hp : w1.heap.size = p at *
  clear hV hp h1 h2 hlo hlt hb1 b1
  have y0 := T1.out.cell 0
  have y1 := T1.out.cell 1
  simp only [List.getElem?_toArray, List.getElem?_cons_zero, List.getElem?_cons_succ] at y0 y1
  have yl := T1.out.lt
  have HC := Lib.hid (ex_Find (t := exT g1 g2) (exT_ok E1.out F1.out) rfl rfl)
  dsimp only [exT, TR.v, vCt] at HC
  go_upto_region 3 with (go_at_call 35; with_reducible refine HC.out.mono ?_; rintro e u1 ⟨A1, n1, c1, A2, n2, c2, A3, n3, c3, st, en, ma, rfl, k1, k2, k3, hf, hb⟩)
  have bn := hb.trans ((below_new u1 (.cells #[.slice A1 n1 c1, .slice A2 n2 c2, .slice A3 n3 c3] 68)).mono hb.size)
  have bq := below_new u1 (.cells #[.slice A1 n1 c1, .slice A2 n2 c2, .slice A3 n3 c3] 68)
  have T2 := Lib.hid (T1.out.below bn)
  have E2 := Lib.hid (E1.out.below bn)
  have F2 := Lib.hid (F1.out.below bn)
  have HB2 := Lib.hid (HB1.out.trans (bn.mono HB1.out.size))
  have C2 := Lib.hid (Blk.new u1 68 #[.slice A1 n1 c1, .slice A2 n2 c2, .slice A3 n3 c3])
  have K2 := Lib.hid (k1.below bq)
  have L2 := Lib.hid (k2.below bq)
  have M2 := Lib.hid (k3.below bq)
  generalize hV : u1.alloc (.cells #[.slice A1 n1 c1, .slice A2 n2 c2, .slice A3 n3 c3] 68) = V2 at *
  generalize hp : u1.heap.size = p2 at *
  clear hV hp bq
  clear y0 y1 yl HC hb bn T1 E1 F1
  clear k1 k2 k3
  have HF := Lib.hid hf
  clear hf
  have y0 := T2.out.cell 0
  have y1 := T2.out.cell 1
  simp only [List.getElem?_toArray, List.getElem?_cons_zero, List.getElem?_cons_succ] at y0 y1
  have yl := T2.out.lt
  have HC := Lib.hid (ex_Cont (t := exT g1 g2) (exT_ok E2.out F2.out) rfl rfl)
  dsimp only [exT, TR.v, vCt] at HC
  go_upto_region 4 with (go_at_call 57; with_reducible refine HC.out.mono ?_; rintro e u2 ⟨rfl, hb⟩)
  have bn := hb.trans ((below_new u2 (.cells #[.int .i64 0, .slice none 0 0] 93)).mono hb.size)
  have bq := below_new u2 (.cells #[.int .i64 0, .slice none 0 0] 93)
  have T3 := Lib.hid (T2.out.below bn)
  have E3 := Lib.hid (E2.out.below bn)
  have F3 := Lib.hid (F2.out.below bn)
  have C3 := Lib.hid (C2.out.below bn)
  have K3 := Lib.hid (K2.out.below bn)
  have L3 := Lib.hid (L2.out.below bn)
  have M3 := Lib.hid (M2.out.below bn)
  have HB3 := Lib.hid (HB2.out.trans (bn.mono HB2.out.size))
  generalize hV : u2.alloc (.cells #[.int .i64 0, .slice none 0 0] 93) = V3 at *
  generalize hp : u2.heap.size = p3 at *
  clear hV hp bq
  clear y0 y1 yl HC hb bn T2 E2 F2 C2 K2 L2 M2
  have y0 := T3.out.cell 0
  have y1 := T3.out.cell 1
  simp only [List.getElem?_toArray, List.getElem?_cons_zero, List.getElem?_cons_succ] at y0 y1
  have yl := T3.out.lt
  have HC := Lib.hid (ex_Spans (t := exT g1 g2) (exT_ok E3.out F3.out) rfl rfl)
  dsimp only [exT, TR.v, vCt] at HC
  go_upto_region 5 with (go_at_call 14; with_reducible refine HC.out.mono ?_; rintro e u3 ⟨A4, c4, rfl, k4, hb⟩)
  have bn := hb
  have T4 := Lib.hid (T3.out.below bn)
  have E4 := Lib.hid (E3.out.below bn)
  have F4 := Lib.hid (F3.out.below bn)
  have C4 := Lib.hid (C3.out.below bn)
  have K4 := Lib.hid (K3.out.below bn)
  have L4 := Lib.hid (L3.out.below bn)
  have M4 := Lib.hid (M3.out.below bn)
  have HB4 := Lib.hid (HB3.out.trans (bn.mono HB3.out.size))
  have S4 := Lib.hid (k4)
  clear y0 y1 yl HC hb bn T3 E3 F3 C3 K3 L3 M3
  clear k4
  have y0 := T4.out.cell 0
  have y1 := T4.out.cell 1
  simp only [List.getElem?_toArray, List.getElem?_cons_zero, List.getElem?_cons_succ] at y0 y1
  have yl := T4.out.lt
  have HC := Lib.hid (ex_Least (t := exT g1 g2) (exT_ok E4.out F4.out) rfl rfl)
  dsimp only [exT, TR.v, vCt] at HC
  go_upto_region 6 with (go_at_call 46; with_reducible refine HC.out.mono ?_; rintro e u4 ⟨B1, o1, d1, B2, o2, d2, B3, o3, d3, wa, B4, o4, d4, rfl, hb⟩)
  have bn := hb.trans ((below_new u4 (.cells #[.int .i64 50, .slice B1 o1 d1, .slice B2 o2 d2, .slice B3 o3 d3, .int .i64 wa, .slice B4 o4 d4] 95)).mono hb.size)
  have bq := below_new u4 (.cells #[.int .i64 50, .slice B1 o1 d1, .slice B2 o2 d2, .slice B3 o3 d3, .int .i64 wa, .slice B4 o4 d4] 95)
  have T5 := Lib.hid (T4.out.below bn)
  have E5 := Lib.hid (E4.out.below bn)
  have F5 := Lib.hid (F4.out.below bn)
  have C5 := Lib.hid (C4.out.below bn)
  have K5 := Lib.hid (K4.out.below bn)
  have L5 := Lib.hid (L4.out.below bn)
  have M5 := Lib.hid (M4.out.below bn)
  have S5 := Lib.hid (S4.out.below bn)
  have HB5 := Lib.hid (HB4.out.trans (bn.mono HB4.out.size))
  have P5 := Lib.hid (Blk.new u4 95 #[.int .i64 50, .slice B1 o1 d1, .slice B2 o2 d2, .slice B3 o3 d3, .int .i64 wa, .slice B4 o4 d4])
  generalize hV : u4.alloc (.cells #[.int .i64 50, .slice B1 o1 d1, .slice B2 o2 d2, .slice B3 o3 d3, .int .i64 wa, .slice B4 o4 d4] 95) = V5 at *
  generalize hp : u4.heap.size = p5 at *
  clear hV hp bq
  clear y0 y1 yl HC hb bn T4 E4 F4 C4 K4 L4 M4 S4
  have y0 := T5.out.cell 0
  have y1 := T5.out.cell 1
  simp only [List.getElem?_toArray, List.getElem?_cons_zero, List.getElem?_cons_succ] at y0 y1
  have yl := T5.out.lt
  have HC := Lib.hid (ex_Great (t := exT g1 g2) (exT_ok E5.out F5.out) rfl rfl)
  dsimp only [exT, TR.v, vCt] at HC
  go_upto_region 7 with (go_at_call 47; with_reducible refine HC.out.mono ?_; rintro e u5 ⟨D1, q1, f1, D2, q2, f2, D3, q3, f3, wb, D4, q4, f4, rfl, hb⟩)
  have bn := hb.trans ((below_new u5 (.cells #[.int .i64 60, .slice D1 q1 f1, .slice D2 q2 f2, .slice D3 q3 f3, .int .i64 wb, .slice D4 q4 f4] 95)).mono hb.size)
  have bq := below_new u5 (.cells #[.int .i64 60, .slice D1 q1 f1, .slice D2 q2 f2, .slice D3 q3 f3, .int .i64 wb, .slice D4 q4 f4] 95)
  have T6 := Lib.hid (T5.out.below bn)
  have E6 := Lib.hid (E5.out.below bn)
  have F6 := Lib.hid (F5.out.below bn)
  have C6 := Lib.hid (C5.out.below bn)
  have K6 := Lib.hid (K5.out.below bn)
  have L6 := Lib.hid (L5.out.below bn)
  have M6 := Lib.hid (M5.out.below bn)
  have S6 := Lib.hid (S5.out.below bn)
  have P6 := Lib.hid (P5.out.below bn)
  have HB6 := Lib.hid (HB5.out.trans (bn.mono HB5.out.size))
  have Q6 := Lib.hid (Blk.new u5 95 #[.int .i64 60, .slice D1 q1 f1, .slice D2 q2 f2, .slice D3 q3 f3, .int .i64 wb, .slice D4 q4 f4])
  generalize hV : u5.alloc (.cells #[.int .i64 60, .slice D1 q1 f1, .slice D2 q2 f2, .slice D3 q3 f3, .int .i64 wb, .slice D4 q4 f4] 95) = V6 at *
  generalize hp : u5.heap.size = p6 at *
  clear hV hp bq
  clear y0 y1 yl HC hb bn T5 E5 F5 C5 K5 L5 M5 S5 P5
  have y0 := T6.out.cell 0
  have y1 := T6.out.cell 1
  simp only [List.getElem?_toArray, List.getElem?_cons_zero, List.getElem?_cons_succ] at y0 y1
  have yl := T6.out.lt
  have HC := Lib.hid (ex_Gaps (t := exT g1 g2) (exT_ok E6.out F6.out) rfl rfl)
  dsimp only [exT, TR.v, vCt] at HC
  go_upto_region 8 with (go_at_call 25; with_reducible refine HC.out.mono ?_; rintro e u6 ⟨b5, c5, rfl, k7, k8, kb, kc, hb⟩)
  have bn := hb
  have T7 := Lib.hid (T6.out.below bn)
  have E7 := Lib.hid (E6.out.below bn)
  have F7 := Lib.hid (F6.out.below bn)
  have C7 := Lib.hid (C6.out.below bn)
  have K7 := Lib.hid (K6.out.below bn)
  have L7 := Lib.hid (L6.out.below bn)
  have M7 := Lib.hid (M6.out.below bn)
  have S7 := Lib.hid (S6.out.below bn)
  have P7 := Lib.hid (P6.out.below bn)
  have Q7 := Lib.hid (Q6.out.below bn)
  have HB7 := Lib.hid (HB6.out.trans (bn.mono HB6.out.size))
  clear y0 y1 yl HC hb bn T6 E6 F6 C6 K6 L6 M6 S6 P6 Q6
  have HFt := Lib.hid (ex_Fits (t := exT g1 g2) (c1 := c1) (c2 := c2) (c3 := c3) (exT_ok E7.out F7.out) rfl rfl K7.out L7.out M7.out HF.out)
  dsimp only [exT, TR.v] at HFt
  have HSS := Lib.hid (fun (u : World) (hu : Below u6.heap.size u6 u) => ex_Same (c := c4) (d := 2) (w := u.alloc (.cells #[.int .i64 40, .int .i64 50, .int .i64 40, .int .i64 50] 57)) (S7.out.below (hu.trans ((below_new u _).mono hu.size))) (SAt_blk (enc := encSp) (k := 2) (fun _ => rfl) (zs := [(40, 50), (40, 50)]) (Blk.new u 57 #[.int .i64 40, .int .i64 50, .int .i64 40, .int .i64 50])))
  have y0 := T7.out.cell 0
  have y1 := T7.out.cell 1
  have x0 := C7.out.cell 0
  have x1 := C7.out.cell 1
  have x2 := C7.out.cell 2
  simp only [List.getElem?_toArray, List.getElem?_cons_zero, List.getElem?_cons_succ] at y0 y1 x0 x1 x2
  have yl := T7.out.lt
  have xl := C7.out.lt
  have K7c := Lib.hid k7
  have K8c := Lib.hid k8
  have KB := Lib.hid kb
  clear k7 k8 kb
  go_upto_region 10 with (first | (go_at_call 58; with_reducible refine HFt.out.mono ?_; rintro e u7 ⟨rfl, hb7⟩; have HB7' := Lib.hid hb7; clear hb7) | (go_at_call 18; with_reducible refine (HSS.out u7 HB7'.out).mono ?_; rintro e u8 ⟨rfl, hb8⟩; have HB8' := Lib.hid (HB7'.out.trans (((below_new u7 _).trans (hb8.mono (below_new u7 _).size)).mono HB7'.out.size)); have T8 := Lib.hid (T7.out.below HB8'.out); have E8 := Lib.hid (E7.out.below HB8'.out); have F8 := Lib.hid (F7.out.below HB8'.out); have P8 := P7.out.below HB8'.out; have Q8 := Q7.out.below HB8'.out; have p0 := P8.cell 0; have q0 := Q8.cell 0; have pl := P8.lt; have ql := Q8.lt; have m7 := (HB8'.out.cell (p := ⟨b5, 7, none⟩) KB.out).trans K7c.out; have m8 := (HB8'.out.cell (p := ⟨b5, 8, none⟩) KB.out).trans K8c.out; have ml := Nat.lt_of_lt_of_le KB.out HB8'.out.size; simp only [List.getElem?_toArray, List.getElem?_cons_zero] at p0 q0; clear P8 Q8 hb8))
  have HB8 := Lib.hid (HB7.out.trans (HB8'.out.mono HB7.out.size))
  have HB8b := Lib.hid (HB7.out.trans (HB8'.out.mono HB7.out.size))
  clear y0 y1 x0 x1 x2 yl xl p0 q0 pl ql m7 m8 ml K7c K8c KB HFt HSS HB7' HB8' T7 E7 F7 C7 K7 L7 M7 S7 P7 Q7 HB7 HF
  obtain ⟨ii, hi0, hi1, hi2, hi3⟩ := info_parts info_mv
  have HII := Lib.hid (And.intro hi0 (And.intro hi1 (And.intro hi2 hi3)))
  clear hi0 hi1 hi2 hi3
  refine wp_region_preC 7 [(4, 122), (5, 123)] (fun v => Below u8.heap.size u8 v) (fun ls vs v => (ls 4 = true → ∃ g, vs 4 = .slice (some ⟨g, 0, none⟩) 1 1 ∧ Blk v g 59 #[.int .i64 9, .int .i64 1, .int .i64 3, .int .i64 30, .int .i64 30]) ∧ (ls 5 = true → v.ownsRow u8.heap.size 59 5 (vs 5) 3 (exMs3.flatMap encM))) (by kernel_rfl) (by kernel_rfl) (Below.refl _ _) (fun v v' h k => h.trans (k.mono h.size)) (fun v _ => ⟨fun h => (by cases h), fun h => (by cases h)⟩) (fun ls vs v v' _ h kk => ⟨fun hl => (let ⟨g, e, b⟩ := h.1 hl; ⟨g, e, b.below kk⟩), fun hl => owns_below (h.2 hl) kk⟩) ?_
  apply Exists.intro
  refine ⟨?walk, ?loud, ?last⟩
  case walk =>
    intro V hV
    have tt := T8.out.below hV
    have y0 := tt.cell 0
    have y1 := tt.cell 1
    simp only [List.getElem?_toArray, List.getElem?_cons_zero, List.getElem?_cons_succ] at y0 y1
    have yl := tt.lt
    clear tt
    obtain ⟨xc, xf⟩ := xcell (W := V)
    simp only [List.take_succ_cons, List.take_zero, qOf, isLoud, List.any_cons, List.any_nil, Nat.reduceBEq, Bool.or_false, Bool.or_true, Nat.reduceAdd, Bool.false_eq_true, if_true, if_false, beq_self_eq_true, Nat.zero_add]
    repeat (first | go_big_quiet_step ((go_at_call 55; with_reducible refine calls_ext (HOne.out _))) | quiet_step ((go_at_call 55; with_reducible refine calls_ext (HOne.out _))))
    exact wpQuiet_nil rfl
  case loud =>
    rintro pp hpp vs v hC ls hI hls hw o ho
    simp only [List.mem_cons, List.not_mem_nil, or_false] at hpp
    rcases hpp with rfl | rfl
    · have u2 : updB ls 4 5 = ls 5 := by simp [updB]
      simp only [List.getElem?_cons_succ, List.getElem?_cons_zero, Option.some.injEq] at ho
      subst ho
      simp [loudAt, loudUpon, go_sem, execOp, putsL, Act.put]
      refine ⟨hC.alloc hC.size _, fun _ => ⟨v.heap.size, by simp [upd], Blk.new _ _ _⟩, fun h6 => ?_⟩
      rw [u2] at h6
      have := (hI.2 h6).alloc (.cells #[.int .i64 9, .int .i64 1, .int .i64 3, .int .i64 30, .int .i64 30] 59)
      simpa [upd] using this
    · have u2 : updB ls 5 4 = ls 4 := by simp [updB]
      have h9 := hw (4, 122) (by simp) (by kernel_rfl)
      obtain ⟨g, eg, hbk⟩ := hI.1 h9
      simp only [List.getElem?_cons_succ, List.getElem?_cons_zero, Option.some.injEq] at ho
      subst ho
      refine loudAt_grows (.tmp 119) (.tmp 122) 23 rfl 59 ii _ 5 40 Tryz.underlying23 HII.out.1 HII.out.2.1 HII.out.2.2.1 HII.out.2.2.2 rfl (by decide) (some ⟨g2, 0, none⟩) 2 2 (exMs.flatMap encM) rfl (by intro h; cases h) rfl ?k3 ⟨g, 0, none⟩ 1 1 [.int .i64 9, .int .i64 1, .int .i64 3, .int .i64 30, .int .i64 30] eg rfl ?k4 ?k5 (by omega) (by unfold maxLen; omega) (by omega) ?_
      case k3 => intro b hb j' u hj'; obtain rfl := Option.some.inj hb; have hF := F8.out.below hC; exact (SAt_blk (enc := encM) (k := 5) (zs := exMs) encM_len' hF).flat encM_len' (by decide) j' u hj'
      case k4 =>
        have c0 := hbk.cell 0
        have c1 := hbk.cell 1
        have c2 := hbk.cell 2
        have c3 := hbk.cell 3
        have c4 := hbk.cell 4
        simp only [List.getElem?_toArray, List.getElem?_cons_zero, List.getElem?_cons_succ] at c0 c1 c2 c3 c4
        intro j' u hj'
        match j', hj' with
        | 0, hj' => simp at hj'; subst hj'; simpa [Addr.add] using c0
        | 1, hj' => simp at hj'; subst hj'; simpa [Addr.add] using c1
        | 2, hj' => simp at hj'; subst hj'; simpa [Addr.add] using c2
        | 3, hj' => simp at hj'; subst hj'; simpa [Addr.add] using c3
        | 4, hj' => simp at hj'; subst hj'; simpa [Addr.add] using c4
      case k5 => exact one_intsL [9, 1, 3, 30, 30]
      intro v' w2 hown hgrow
      refine ⟨hC.trans (((Below.refl v.heap.size v).grown hgrow (Nat.le_refl _) (fun r hr => by cases hr)).mono hC.size), fun h6 => ?_, fun _ => ?_⟩
      · rw [u2] at h6
        obtain ⟨g', eg', hb'⟩ := hI.1 h6
        exact ⟨g', by simpa [upd] using eg', hb'.below ((Below.refl v.heap.size v).grown hgrow (Nat.le_refl _) (fun r hr => by cases hr))⟩
      · have := owns_weak hown (B' := u8.heap.size) hC.size
        have e : exMs3.flatMap encM = exMs.flatMap encM ++ [.int .i64 9, .int .i64 1, .int .i64 3, .int .i64 30, .int .i64 30] := rfl
        rw [e]
        simpa [upd] using this
  case last =>
    rintro ls vs V hV hI hls
    have h2 := hI.2 (hls (5, 123) (by simp))
    obtain ⟨g3, c9, e5⟩ := ownsRow_succ h2
    rw [e5] at h2
    have hg3 := own_lt (g := g3) h2 rfl
    obtain ⟨A9, c9', e9, hs9, _, hc9⟩ := SAt_of_row encM_len' rfl h2
    obtain ⟨rfl, rfl⟩ : some ⟨g3, 0, none⟩ = A9 ∧ c9 = c9' := by cases e9; exact ⟨rfl, rfl⟩
    have HS9 := Lib.hid hs9
    have HB9 := Lib.hid (HB8b.out.trans (hV.mono HB8b.out.size))
    have T9 := Lib.hid (T8.out.below hV)
    have E9 := Lib.hid (E8.out.below hV)
    clear h2 hI hls hs9 hV e9
    simp only [List.drop_succ_cons, List.drop_zero]
    simp only [putsL, List.foldl_cons, List.foldl_nil, Act.put, List.setIfInBounds_toArray, List.set_cons_succ, List.set_cons_zero]
    rw [e5]
    generalize vs 5 = v7 at *
    generalize vs 4 = v6 at *
    clear e5
    have y0 := T9.out.cell 0
    have y1 := T9.out.cell 1
    have f0 := T9.out.frozen 0
    have f1 := T9.out.frozen 1
    simp only [List.getElem?_toArray, List.getElem?_cons_zero, List.getElem?_cons_succ] at y0 y1
    have yl := T9.out.lt
    have hp8 : p < u8.heap.size := T8.out.lt
    obtain ⟨hg31, hg32⟩ := hg3
    go_upto_region 11 with fail
    have T10 := Lib.hid (show Blk (V.setCell ⟨p, 1, none⟩ (.slice (some ⟨g3, 0, none⟩) 3 c9)) p 25 #[.slice (some ⟨g1, 0, none⟩) 3 3, .slice (some ⟨g3, 0, none⟩) 3 c9] by simpa using T9.out.set_ 1 (.slice (some ⟨g3, 0, none⟩) 3 c9))
    have E10 := Lib.hid (E9.out.far (p := ⟨p, 1, none⟩) (by have := HP.out; simp; omega) (.slice (some ⟨g3, 0, none⟩) 3 c9))
    have S10 := Lib.hid (HS9.out.grown (grownBy_set V p 1 (.slice (some ⟨g3, 0, none⟩) 3 c9)) (fun a ha e => by cases ha; have := Option.some.inj e; simp at this; omega))
    have HB10 := Lib.hid (HB9.out.setCell (p := ⟨p, 1, none⟩) (by have := HP.out; simp; omega) (.slice (some ⟨g3, 0, none⟩) 3 c9))
    have hz10 : g3 < (V.setCell ⟨p, 1, none⟩ (.slice (some ⟨g3, 0, none⟩) 3 c9)).heap.size := by simpa using hg32
    generalize hV10 : V.setCell ⟨p, 1, none⟩ (.slice (some ⟨g3, 0, none⟩) 3 c9) = V10 at *
    clear hV10 y0 y1 f0 f1 yl T9 E9 HS9 HB9
    have HFw := Lib.hid (ex_Fewest (t := ⟨some ⟨g1, 0, none⟩, 3, 3, some ⟨g3, 0, none⟩, 3, c9, exHs, exMs3⟩) ⟨SAt_blk encH_len' E10.out, S10.out, by show 3 ≤ _; omega, by show 3 ≤ _; omega, Nat.le_refl _, hc9⟩ rfl rfl)
    dsimp only [TR.v] at HFw
    have y0 := T10.out.cell 0
    have y1 := T10.out.cell 1
    simp only [List.getElem?_toArray, List.getElem?_cons_zero, List.getElem?_cons_succ] at y0 y1
    have yl := T10.out.lt
    go_upto_region 12 with (go_at_call 22; with_reducible refine HFw.out.mono ?_; rintro e u11 ⟨A11, c11, rfl, hs11, hf11, hb11⟩)
    have T11 := Lib.hid (T10.out.below hb11)
    have E11 := Lib.hid (E10.out.below hb11)
    have S11 := Lib.hid (S10.out.below hb11)
    have R11 := Lib.hid hs11
    have HfarR := fun (a : Addr) (ha : A11 = some a) => (show a.block ≠ p by have h1 := hf11 a ha; have h2 := T10.out.lt; omega)
    have HfarG := fun (a : Addr) (ha : A11 = some a) => (show a.block ≠ g1 by have h1 := hf11 a ha; have h2 := E10.out.lt; omega)
    clear hf11
    have HB11 := Lib.hid (HB10.out.trans (hb11.mono HB10.out.size))
    have hz11 : g3 < u11.heap.size := Nat.lt_of_lt_of_le hz10 hb11.size
    clear y0 y1 yl HFw T10 E10 S10 HB10 hs11 hb11 hz10
    have y0 := T11.out.cell 0
    have y1 := T11.out.cell 1
    have f0 := T11.out.frozen 0
    have f1 := T11.out.frozen 1
    simp only [List.getElem?_toArray, List.getElem?_cons_zero, List.getElem?_cons_succ] at y0 y1
    have yl := T11.out.lt
    have hc9' : 3 ≤ c9 := hc9
    have hc9i : (2 : Int) ≤ (c9 : Int) := by omega
    have hc9j : ¬ (c9 : Int) < 2 := by omega
    go_upto_region 13 with fail
    have T12 := Lib.hid (show Blk (u11.setCell ⟨p, 1, none⟩ (.slice (some ⟨g3, 0, none⟩) 2 c9)) p 25 #[.slice (some ⟨g1, 0, none⟩) 3 3, .slice (some ⟨g3, 0, none⟩) 2 c9] by simpa using T11.out.set_ 1 (.slice (some ⟨g3, 0, none⟩) 2 c9))
    have E12 := Lib.hid (E11.out.far (p := ⟨p, 1, none⟩) (by have := HP.out; simp; omega) (.slice (some ⟨g3, 0, none⟩) 2 c9))
    have S12 := Lib.hid ((show SAt encM 5 u11 (some ⟨g3, 0, none⟩) 2 exMs from S11.out.take (m := 2) (by decide)).grown (grownBy_set u11 p 1 (.slice (some ⟨g3, 0, none⟩) 2 c9)) (fun a ha e => by cases ha; have := Option.some.inj e; simp at this; omega))
    have R12 := Lib.hid (R11.out.grown (grownBy_set u11 p 1 (.slice (some ⟨g3, 0, none⟩) 2 c9)) (fun a ha e => by have h1 := Option.some.inj e; exact HfarR a ha h1.symm))
    have HB12 := Lib.hid (HB11.out.setCell (p := ⟨p, 1, none⟩) (by have := HP.out; simp; omega) (.slice (some ⟨g3, 0, none⟩) 2 c9))
    generalize hV12 : u11.setCell ⟨p, 1, none⟩ (.slice (some ⟨g3, 0, none⟩) 2 c9) = V12 at *
    clear hV12 y0 y1 f0 f1 yl T11 E11 S11 R11 HB11
    have y0 := T12.out.cell 0
    have x3 := E12.out.cell 15
    have x4 := E12.out.cell 16
    have f3 := E12.out.frozen 15
    have f4 := E12.out.frozen 16
    rw [show cellsH exHs = #[.int .i64 1, .int .i64 100, .int .i64 100, .int .i64 40, .int .i64 60, .int .i64 60, .int .i64 2, .int .i64 0, .int .i64 0, .int .i64 0, .int .i64 0, .int .i64 0, .int .i64 3, .int .i64 10, .int .i64 20, .int .i64 50, .int .i64 70, .int .i64 50] from rfl] at x3 x4
    simp only [List.getElem?_toArray, List.getElem?_cons_zero, List.getElem?_cons_succ] at y0 x3 x4
    have yl := T12.out.lt
    have xl := E12.out.lt
    go_upto_region 14 with fail
    have T13 := Lib.hid (((T12.out.far (p := ⟨g1, 15, none⟩) (by have := HP.out; simp; omega) (.int .i64 75)).far (p := ⟨g1, 16, none⟩) (by have := HP.out; simp; omega) (.int .i64 80)))
    have E13 := Lib.hid (show Blk ((V12.setCell ⟨g1, 15, none⟩ (.int .i64 75)).setCell ⟨g1, 16, none⟩ (.int .i64 80)) g1 118 (cellsH exHs3) from (E12.out.set_ 15 (.int .i64 75)).set_ 16 (.int .i64 80))
    have S13 := Lib.hid ((S12.out.grown (grown_trans (grownBy_set V12 g1 15 (.int .i64 75)) (grownBy_set _ g1 16 (.int .i64 80))) (fun a ha e => by cases ha; have h1 := Option.some.inj e; have := HP.out; simp at h1; omega)))
    have R13 := Lib.hid ((R12.out.grown (grown_trans (grownBy_set V12 g1 15 (.int .i64 75)) (grownBy_set _ g1 16 (.int .i64 80))) (fun a ha e => HfarG a ha (Option.some.inj e).symm)))
    have HB13 := Lib.hid ((HB12.out.setCell (p := ⟨g1, 15, none⟩) (by have := HP.out; simp; omega) (.int .i64 75)).setCell (p := ⟨g1, 16, none⟩) (by have := HP.out; simp; omega) (.int .i64 80))
    generalize hV13 : (V12.setCell ⟨g1, 15, none⟩ (.int .i64 75)).setCell ⟨g1, 16, none⟩ (.int .i64 80) = V13 at *
    clear hV13 y0 x3 x4 f3 f4 yl xl T12 E12 S12 R12 HB12
    have y0 := T13.out.cell 0
    have y1 := T13.out.cell 1
    simp only [List.getElem?_toArray, List.getElem?_cons_zero, List.getElem?_cons_succ] at y0 y1
    have yl := T13.out.lt
    have bc := below_new V13 (.cells #[.int .i64 2, .int .i64 3] 3)
    have HTh := Lib.hid (ex_Through (c := 2) (t := ⟨some ⟨g1, 0, none⟩, 3, 3, some ⟨g3, 0, none⟩, 2, c9, exHs3, exMs⟩) (w := V13.alloc (.cells #[.int .i64 2, .int .i64 3] 3)) ⟨SAt_blk encH_len' (E13.out.below bc), S13.out.below bc, by show 3 ≤ _; omega, by show 2 ≤ _; omega, Nat.le_refl _, by show 2 ≤ c9; omega⟩ rfl rfl (SAt_blk (enc := encI) (k := 1) encI_len (zs := [2, 3]) (Blk.new V13 3 #[.int .i64 2, .int .i64 3])))
    dsimp only [TR.v, vCt] at HTh
    have BC := Lib.hid bc
    clear bc
    go_upto_region 15 with (go_at_call 59; with_reducible refine HTh.out.mono ?_; rintro e u14 ⟨rfl, hb14⟩)
    have bd := BC.out.trans (hb14.mono BC.out.size)
    have T14 := Lib.hid (T13.out.below bd)
    have E14 := Lib.hid (E13.out.below bd)
    have S14 := Lib.hid (S13.out.below bd)
    have R14 := Lib.hid (R13.out.below bd)
    have HB14 := Lib.hid (HB13.out.trans (bd.mono HB13.out.size))
    clear y0 y1 yl HTh BC hb14 bd T13 E13 S13 R13 HB13
    have y0 := T14.out.cell 0
    have y1 := T14.out.cell 1
    simp only [List.getElem?_toArray, List.getElem?_cons_zero, List.getElem?_cons_succ] at y0 y1
    have yl := T14.out.lt
    have HCo := Lib.hid (ex_Cont3 (t := ⟨some ⟨g1, 0, none⟩, 3, 3, some ⟨g3, 0, none⟩, 2, c9, exHs3, exMs⟩) ⟨SAt_blk encH_len' E14.out, S14.out, by show 3 ≤ _; omega, by show 2 ≤ _; omega, Nat.le_refl _, by show 2 ≤ c9; omega⟩ rfl rfl)
    dsimp only [TR.v, vCt] at HCo
    go_upto_region 16 with (go_at_call 57; with_reducible refine HCo.out.mono ?_; rintro e u15 ⟨way, A15, n15, c15, s15, rfl, hs15, hn15, hsh15, hb15⟩)
    have bn := hb15.trans ((below_new u15 (.cells #[.int .i64 way, .slice A15 n15 c15] 93)).mono hb15.size)
    have bq := below_new u15 (.cells #[.int .i64 way, .slice A15 n15 c15] 93)
    have T16 := Lib.hid (T14.out.below bn)
    have E16 := Lib.hid (E14.out.below bn)
    have S16 := Lib.hid (S14.out.below bn)
    have R16 := Lib.hid (R14.out.below bn)
    have Q16 := Lib.hid (hs15.below bq)
    have C16 := Lib.hid (Blk.new u15 93 #[.int .i64 way, .slice A15 n15 c15])
    have HB16 := Lib.hid (HB14.out.trans (bn.mono HB14.out.size))
    have HSh := Lib.hid hsh15
    generalize hV16 : u15.alloc (.cells #[.int .i64 way, .slice A15 n15 c15] 93) = V16 at *
    generalize hp16 : u15.heap.size = p16 at *
    clear hV16 hp16 y0 y1 yl HCo hb15 bn bq T14 E14 S14 R14 HB14 hs15 hsh15
    have HS9 := Lib.hid (ex_Same9 (c := c11) (d := 1) (w := V16.alloc (.cells #[.int .i64 9] 3)) (R16.out.below (below_new V16 _)) (SAt_blk (enc := encI) (k := 1) encI_len (zs := [9]) (Blk.new V16 3 #[.int .i64 9])))
    have HCC := Lib.hid (fun (u : World) (hu : Below V16.heap.size V16 u) => ex_CheckCut (c := c15) (t := ⟨some ⟨g1, 0, none⟩, 3, 3, some ⟨g3, 0, none⟩, 2, c9, exHs3, exMs⟩) ⟨SAt_blk encH_len' (E16.out.below hu), S16.out.below hu, by show 3 ≤ _; omega, by show 2 ≤ _; omega, Nat.le_refl _, by show 2 ≤ c9; omega⟩ rfl rfl (Q16.out.below hu) hn15 HSh.out)
    dsimp only [TR.v, vCt] at HCC
    have BC := Lib.hid (below_new V16 (.cells #[.int .i64 9] 3))
    go_wp2_with (first | (go_at_call 24; with_reducible refine HS9.out.mono ?_; rintro e u16 ⟨rfl, hb16⟩; have BD := Lib.hid (BC.out.trans (hb16.mono BC.out.size)); have t17 := T16.out.below BD.out; have c17 := C16.out.below BD.out; have y0 := t17.cell 0; have y1 := t17.cell 1; have x0 := c17.cell 0; have x1 := c17.cell 1; simp only [List.getElem?_toArray, List.getElem?_cons_zero, List.getElem?_cons_succ] at y0 y1 x0 x1; have yl := t17.lt; have xl := c17.lt; clear t17 c17 hb16) | (go_at_call 60; with_reducible refine (HCC.out u16 BD.out).mono ?_; rintro e u17 ⟨rfl, hb17⟩))
    exact bodyPost_ret (v := .bool true) (by simp [results, Tryz.results13, go_sem]) rfl ⟨rfl, HB16.out.trans ((BD.out.trans (hb17.mono BD.out.size)).mono HB16.out.size)⟩
end Go.Proofs.YtighfmgkoepfkaaGreat
