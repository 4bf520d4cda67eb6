/- The law's told. -/
import Derived.Test.YtighfmgkoepfkaaGreatMI
namespace Go.Proofs.YtighfmgkoepfkaaGreat

def toldL (hs : List Hd) (ms : List Mv) (kind id : Int) (st en ma : List Int) : Int × Bool :=
  if kind = 1 then (if posM ms id < ms.length ∧ posM ms id < ma.length then (iget ma (posM ms id), true) else (0, false))
  else if kind = 2 ∨ kind = 3 then (if posN hs id < hs.length ∧ posN hs id < st.length ∧ posN hs id < en.length then (iget (if kind = 2 then st else en) (posN hs id), true) else (0, false))
  else (0, false)
section
variable {hs : List Hd} {ms : List Mv} {kind id : Int} {st en ma : List Int}
theorem posM_hit {k : Nat} (hk : k < ms.length) (e : (mat ms k).id = id) (hno : ∀ i, i < k → (mat ms i).id ≠ id) : posM ms id = k := by
  have h1 := posM_first ms id k hk (by rw [← mat_eq hk]; exact e)
  refine Nat.le_antisymm h1 (Nat.le_of_not_lt fun hlt => ?_)
  have hp : posM ms id < ms.length := by omega
  exact hno _ hlt (by rw [mat_eq hp]; exact posM_at ms id hp)
theorem posN_hit {k : Nat} (hk : k < hs.length) (e : (hat hs k).id = id) (hno : ∀ i, i < k → (hat hs i).id ≠ id) : posN hs id = k := by
  have h1 := posN_first hs id k hk (by rw [← hat_eq hk]; exact e)
  refine Nat.le_antisymm h1 (Nat.le_of_not_lt fun hlt => ?_)
  have hp : posN hs id < hs.length := by omega
  exact hno _ hlt (by rw [hat_eq hp]; exact posN_at hs id hp)
theorem told_mass {k : Nat} (h1 : kind = 1) (hk : k < ms.length) (hk2 : k < ma.length) (e : (mat ms k).id = id) (hno : ∀ i, i < k → (mat ms i).id ≠ id) : toldL hs ms kind id st en ma = (iget ma k, true) := by
  unfold toldL
  rw [if_pos h1, posM_hit hk e hno, if_pos ⟨hk, hk2⟩]
theorem told_start {k : Nat} (h1 : kind = 2) (hk : k < hs.length) (hk2 : k < st.length) (hk3 : k < en.length) (e : (hat hs k).id = id) (hno : ∀ i, i < k → (hat hs i).id ≠ id) : toldL hs ms kind id st en ma = (iget st k, true) := by
  unfold toldL
  rw [if_neg (by omega), if_pos (.inl h1), posN_hit hk e hno, if_pos ⟨hk, hk2, hk3⟩, if_pos h1]
theorem told_end {k : Nat} (h1 : kind = 3) (hk : k < hs.length) (hk2 : k < st.length) (hk3 : k < en.length) (e : (hat hs k).id = id) (hno : ∀ i, i < k → (hat hs i).id ≠ id) : toldL hs ms kind id st en ma = (iget en k, true) := by
  unfold toldL
  rw [if_neg (by omega), if_pos (.inr h1), posN_hit hk e hno, if_pos ⟨hk, hk2, hk3⟩, if_neg (by omega)]
theorem told_none (h1 : kind = 1 → ∀ i, i < ms.length → i < ma.length → (mat ms i).id ≠ id) (h2 : kind = 2 ∨ kind = 3 → ∀ i, i < hs.length → i < st.length → i < en.length → (hat hs i).id ≠ id) : toldL hs ms kind id st en ma = (0, false) := by
  unfold toldL
  by_cases c1 : kind = 1
  · rw [if_pos c1, if_neg]
    rintro ⟨a, b⟩
    exact h1 c1 _ a b (by rw [mat_eq a]; exact posM_at ms id a)
  · rw [if_neg c1]
    by_cases c2 : kind = 2 ∨ kind = 3
    · rw [if_pos c2, if_neg]
      rintro ⟨a, b, c⟩
      exact h2 c2 _ a b c (by rw [hat_eq a]; exact posN_at hs id a)
    · rw [if_neg c2]
/-- Of a course, the number of something lies between the least and the greatest. -/
theorem told_fits (hv : TV hs ms) (hf : fitsL hs ms st en ma = true) : (plE hs ms kind id = 0 ↔ (toldL hs ms kind id st en ma).2 = true) ∧ (plE hs ms kind id = 0 → limN hs ms kind id false ≤ (toldL hs ms kind id st en ma).1 ∧ (toldL hs ms kind id st en ma).1 ≤ limN hs ms kind id true) := by
  obtain ⟨⟨l1, l2, l3⟩, _⟩ := fitsL_prop.1 hf
  have hp : plE hs ms kind id = placeE hs ms kind id := by unfold plE; rw [if_neg (by rw [tcheck_zero.2 hv]; decide)]
  rw [hp]
  have hb : placeE hs ms kind id = 0 → narLo hs ms (placeN hs ms kind id) ≤ valAt st en ma (placeN hs ms kind id) ∧ valAt st en ma (placeN hs ms kind id) ≤ narHi hs ms (placeN hs ms kind id) := fun h => nar_course hv (placeN_lt h) hf
  unfold limN
  rw [if_neg (by decide), if_pos rfl]
  have hval := fun at_ => valAt_pos (ma := ma) l1 l2 at_
  unfold placeE toldL at *
  by_cases c1 : kind = 1
  · rw [if_pos c1] at hb ⊢
    rw [if_pos c1]
    by_cases c2 : posM ms id < ms.length
    · rw [if_pos c2] at hb ⊢
      rw [if_pos ⟨c2, by omega⟩]
      refine ⟨by simp, fun _ => ?_⟩
      have h := hb rfl
      rw [hval] at h
      unfold placeN at h ⊢
      simp only [if_pos c1, if_neg (show ¬ (2 * hs.length + posM ms id < hs.length) by omega), if_neg (show ¬ (2 * hs.length + posM ms id < 2 * hs.length) by omega), Nat.add_sub_cancel_left] at h ⊢
      exact h
    · rw [if_neg c2, if_neg (fun h => c2 h.1)]
      refine ⟨by simp, fun h => by cases h⟩
  · rw [if_neg c1] at hb ⊢
    rw [if_neg c1]
    by_cases c3 : kind = 2 ∨ kind = 3
    · rw [if_pos c3] at hb ⊢
      rw [if_pos c3]
      by_cases c2 : posN hs id < hs.length
      · rw [if_pos c2] at hb ⊢
        rw [if_pos ⟨c2, by omega, by omega⟩]
        refine ⟨by simp, fun _ => ?_⟩
        have h := hb rfl
        rw [hval] at h
        unfold placeN at h ⊢
        by_cases c4 : kind = 2
        · simp only [if_neg c1, if_pos c4, if_pos c2] at h ⊢
          exact h
        · simp only [if_neg c1, if_neg c4, if_neg (show ¬ (hs.length + posN hs id < hs.length) by omega), if_pos (show hs.length + posN hs id < 2 * hs.length by omega), Nat.add_sub_cancel_left] at h ⊢
          exact h
      · rw [if_neg c2, if_neg (fun h => c2 h.1)]
        refine ⟨by simp, fun h => by cases h⟩
    · rw [if_neg c3, if_neg c3]
      refine ⟨by simp, fun h => by cases h⟩
end
end Go.Proofs.YtighfmgkoepfkaaGreat

namespace Go.Proofs.YtighfmgkoepfkaaGreat
open Go.RowKit

set_option maxRecDepth 100000 in
set_option maxHeartbeats 12800000 in
theorem told_any (t : TR) (kind id : Int) (A1 : Option Addr) (n1 c1 : Nat) (A2 : Option Addr) (n2 c2 : Nat) (A3 : Option Addr) (n3 c3 : Nat) (st en ma : List Int) (w : World) (h : t.Ok w) (h1 : SAt encI 1 w A1 n1 st) (h2 : SAt encI 1 w A2 n2 en) (h3 : SAt encI 1 w A3 n3 ma) (hn : t.n ≤ 1000000) (hm : t.m ≤ 1000000) :
    Calls Tryz.prog 52 #[t.v, vAt kind id, vCo A1 n1 c1 A2 n2 c2 A3 n3 c3] w fun e w' => e = .returned (.tuple #[.int .i64 (toldL t.hs t.ms kind id st en ma).1, .bool (toldL t.hs t.ms kind id st en ma).2]) ∧ Below w.heap.size w w' := by
  obtain ⟨A, n, c, B, m, d, hs, ms⟩ := t
  dsimp only [TR.v] at *
  have hb0 := (((Below.refl w.heap.size w).alloc (Nat.le_refl _) (.cells #[.slice A n c, .slice B m d] 25)).alloc (by simp) (.cells #[.int .i64 kind, .int .i64 id] 83)).alloc (by simp; omega) (.cells #[.slice A1 n1 c1, .slice A2 n2 c2, .slice A3 n3 c3] 68)
  have t0 := (((Blk.new w 25 #[.slice A n c, .slice B m d]).alloc (.cells #[.int .i64 kind, .int .i64 id] 83)).alloc (.cells #[.slice A1 n1 c1, .slice A2 n2 c2, .slice A3 n3 c3] 68))
  have x0 := (Blk.at_new (W := w.alloc (.cells #[.slice A n c, .slice B m d] 25)) (g := w.heap.size + 1) 83 #[.int .i64 kind, .int .i64 id] (by simp)).alloc (.cells #[.slice A1 n1 c1, .slice A2 n2 c2, .slice A3 n3 c3] 68)
  have r0 := Blk.at_new (W := (w.alloc (.cells #[.slice A n c, .slice B m d] 25)).alloc (.cells #[.int .i64 kind, .int .i64 id] 83)) (g := w.heap.size + 2) 68 #[.slice A1 n1 c1, .slice A2 n2 c2, .slice A3 n3 c3] (by simp)
  have HOk := Lib.hid h
  have HLh := Lib.hid (show hs.length = n from h.h.len)
  have HLm := Lib.hid (show ms.length = m from h.m.len)
  have HS1 := Lib.hid h1
  have HS2 := Lib.hid h2
  have HS3 := Lib.hid h3
  have HL1 := Lib.hid h1.len
  have HL2 := Lib.hid h2.len
  have HL3 := Lib.hid h3.len
  clear h h1 h2 h3
  go_enter Tryz.func52, Tryz.ntmps52
  go_upto_region 1 with fail
  generalize hW : ((w.alloc (.cells #[.slice A n c, .slice B m d] 25)).alloc (.cells #[.int .i64 kind, .int .i64 id] 83)).alloc (.cells #[.slice A1 n1 c1, .slice A2 n2 c2, .slice A3 n3 c3] 68) = W at *
  clear hW
  have HT := Lib.hid t0
  have HA := Lib.hid x0
  have HR := Lib.hid r0
  have HB0 := Lib.hid hb0
  clear t0 x0 r0 hb0
  go_upto_region 2 with fail
  go_loopw [8] (fun i wx => ∃ k : Nat, k ≤ m ∧ i = .int .i64 (k : Int) ∧ (kind = 1 → ∀ i, i < k → (mat ms i).id ≠ id) ∧ Below W.heap.size W wx) (fun i _ => m - (intOf i).toNat)
  case atStart => exact ⟨0, Nat.zero_le _, rfl, fun _ i h => absurd h (Nat.not_lt_zero _), Below.refl _ _⟩
  case round =>
    obtain ⟨k, hk, rfl, hq, hb⟩ := hrel
    have HQ := Lib.hid hq
    have HB := Lib.hid (HB0.out.trans (hb.mono HB0.out.size))
    have HBW := Lib.hid hb
    have HT1 := Lib.hid (HT.out.below hb)
    have HA1 := Lib.hid (HA.out.below hb)
    have HR1 := Lib.hid (HR.out.below hb)
    clear hq hb
    have y0 := HT1.out.cell 0
    have y1 := HT1.out.cell 1
    have a0 := HA1.out.cell 0
    have a1 := HA1.out.cell 1
    have z0 := HR1.out.cell 0
    have z1 := HR1.out.cell 1
    have z2 := HR1.out.cell 2
    simp only [List.getElem?_toArray, List.getElem?_cons_zero, List.getElem?_cons_succ] at y0 y1 a0 a1 z0 z1 z2
    have yl := HT1.out.lt
    have al := HA1.out.lt
    have zl := HR1.out.lt
    by_cases hkm : k < m
    case neg =>
      have HNo := Lib.hid (show kind = 1 → ∀ i, i < ms.length → i < ma.length → (mat ms i).id ≠ id from fun h i hi _ => HQ.out h i (by have := HLm.out; omega))
      go_upto_region 7 with fail
      clear y0 y1 a0 a1 z0 z1 z2 yl al zl
      go_loopw [9] (fun i wx => ∃ f : Nat, f ≤ n ∧ i = .int .i64 (f : Int) ∧ (∀ i, i < f → kind = 2 ∨ kind = 3 → (hat hs i).id ≠ id) ∧ Below wr.heap.size wr wx) (fun i _ => n - (intOf i).toNat)
      case atStart => exact ⟨0, Nat.zero_le _, rfl, fun i h => absurd h (Nat.not_lt_zero _), Below.refl _ _⟩
      case round =>
        obtain ⟨f, hf, rfl, hq, hb⟩ := hrel
        have HQ2 := Lib.hid hq
        have HB2 := Lib.hid (HB.out.trans (hb.mono HB.out.size))
        have HBW2 := Lib.hid hb
        have HT2 := Lib.hid (HT1.out.below hb)
        have HA2 := Lib.hid (HA1.out.below hb)
        have HR2 := Lib.hid (HR1.out.below hb)
        clear hq hb
        have y0 := HT2.out.cell 0
        have y1 := HT2.out.cell 1
        have a0 := HA2.out.cell 0
        have a1 := HA2.out.cell 1
        have z0 := HR2.out.cell 0
        have z1 := HR2.out.cell 1
        have z2 := HR2.out.cell 2
        simp only [List.getElem?_toArray, List.getElem?_cons_zero, List.getElem?_cons_succ] at y0 y1 a0 a1 z0 z1 z2
        have yl := HT2.out.lt
        have al := HA2.out.lt
        have zl := HR2.out.lt
        by_cases g1 : f < n
        case neg =>
          have HF := Lib.hid (show toldL hs ms kind id st en ma = (0, false) from told_none HNo.out (fun h i hi _ _ => HQ2.out i (by have := HLh.out; omega) h))
          go_wp2
          exact bodyPost_ret (v := .tuple #[.int .i64 0, .bool false]) (by simp [results, Tryz.results52, go_sem]) rfl ⟨by rw [HF.out], HB2.out⟩
        case pos =>
        by_cases g2 : f < n1
        case neg =>
          have HF := Lib.hid (show toldL hs ms kind id st en ma = (0, false) from told_none HNo.out (fun h i _ hi _ => HQ2.out i (by have := HL1.out; omega) h))
          go_wp2
          exact bodyPost_ret (v := .tuple #[.int .i64 0, .bool false]) (by simp [results, Tryz.results52, go_sem]) rfl ⟨by rw [HF.out], HB2.out⟩
        case pos =>
        by_cases g3 : f < n2
        case neg =>
          have HF := Lib.hid (show toldL hs ms kind id st en ma = (0, false) from told_none HNo.out (fun h i _ _ hi => HQ2.out i (by have := HL2.out; omega) h))
          go_wp2
          exact bodyPost_ret (v := .tuple #[.int .i64 0, .bool false]) (by simp [results, Tryz.results52, go_sem]) rfl ⟨by rw [HF.out], HB2.out⟩
        case pos =>
        have hil : f < hs.length := by have := HLh.out; omega
        have hi1 : f < st.length := by have := HL1.out; omega
        have hi2 : f < en.length := by have := HL2.out; omega
        obtain ⟨b, off, eA, hl⟩ := HOk.out.h.at_ (by dsimp only; omega)
        obtain ⟨b1, of1, e1, hl1⟩ := HS1.out.at_ (by omega)
        obtain ⟨b2, of2, e2, hl2⟩ := HS2.out.at_ (by omega)
        dsimp only at eA
        subst eA e1 e2
        have HLs := Lib.hid (hl.below HB2.out)
        have HLs1 := Lib.hid (hl1.below HB2.out)
        have HLs2 := Lib.hid (hl2.below HB2.out)
        obtain ⟨u0, u1, u2, u3, u4, u5⟩ := Hds.at_ HLs.out (List.getElem?_eq_getElem hil)
        have ul := HLs.out.lt
        have HH := Lib.hid (hat_eq hil)
        rw [← HH.out] at u0
        obtain ⟨jd, hjd⟩ : ∃ x, (hat hs f).id = x := ⟨_, rfl⟩
        rw [hjd] at u0
        have HJ := Lib.hid hjd
        clear hl hl1 hl2 hjd u1 u2 u3 u4 u5
        by_cases p2 : kind = 2
        case pos =>
          have q2 : (kind == 2) = true := by simpa using p2
          have q3 : (kind == 3) = false := by simp; omega
          have HP := Lib.hid p2
          clear p2
          by_cases ci : jd = id
          case pos =>
            have qi : (jd == id) = true := by simpa using ci
            have HIe := Lib.hid (show (hat hs f).id = id by rw [HJ.out]; exact ci)
            clear ci
            have HF := Lib.hid (show toldL hs ms kind id st en ma = (iget st f, true) from told_start HP.out hil hi1 hi2 HIe.out (fun i hi => HQ2.out i hi (.inl HP.out)))
            go_upto_region 9 with fail
            obtain ⟨xc, xf'⟩ := xcell (W := wr)
            refine wp_region_quiet_tail 14 (by kernel_rfl) (by kernel_rfl) ?_
            simp only [List.take_succ_cons, List.take_zero, List.drop_succ_cons, List.drop_zero]
            repeat (first | go_big_quiet_step (fail) | quiet_step (fail))
            refine wpQuiet_nil ?_
            intro w2 hb2
            have HR3 := Lib.hid (HR2.out.below hb2)
            have z0 := HR3.out.cell 0
            simp only [List.getElem?_toArray, List.getElem?_cons_zero] at z0
            have zl := HR3.out.lt
            have hl3 := HLs1.out.below hb2
            have s0 := hl3.c f _ (List.getElem?_eq_getElem hi1) 0 _ rfl
            rw [Nat.mul_one, Nat.add_zero, ← iget_eq hi1] at s0
            have sl := hl3.lt
            have HB3 := Lib.hid (HB2.out.trans (hb2.mono HB2.out.size))
            clear hl3 hb2 xc xf'
            go_wp2
            exact bodyPost_ret (v := .tuple #[.int .i64 (iget st f), .bool true]) (by simp [results, Tryz.results52, go_sem]) rfl ⟨by rw [HF.out], HB3.out⟩
          case neg =>
            have qi : (jd == id) = false := by simpa using ci
            have HIe := Lib.hid (show (hat hs f).id ≠ id by rw [HJ.out]; exact ci)
            clear ci
            go_upto_region 9 with fail
            obtain ⟨xc, xf'⟩ := xcell (W := wr)
            refine wp_region_quiet_tail 14 (by kernel_rfl) (by kernel_rfl) ?_
            simp only [List.take_succ_cons, List.take_zero, List.drop_succ_cons, List.drop_zero]
            repeat (first | go_big_quiet_step (fail) | quiet_step (fail))
            refine wpQuiet_nil ?_
            intro w2 hb2
            have HT3 := Lib.hid (HT2.out.below hb2)
            have HA3 := Lib.hid (HA2.out.below hb2)
            have HR3 := Lib.hid (HR2.out.below hb2)
            have hl3 := HLs.out.below hb2
            clear xc xf' u0 ul y0 y1 a0 a1 z0 z1 z2 yl al zl
            have y0 := HT3.out.cell 0
            have y1 := HT3.out.cell 1
            have a0 := HA3.out.cell 0
            have a1 := HA3.out.cell 1
            have z0 := HR3.out.cell 0
            have z1 := HR3.out.cell 1
            have z2 := HR3.out.cell 2
            simp only [List.getElem?_toArray, List.getElem?_cons_zero, List.getElem?_cons_succ] at y0 y1 a0 a1 z0 z1 z2
            have yl := HT3.out.lt
            have al := HA3.out.lt
            have zl := HR3.out.lt
            obtain ⟨u0, u1, u2, u3, u4, u5⟩ := Hds.at_ hl3 (List.getElem?_eq_getElem hil)
            rw [← HH.out, HJ.out] at u0
            have ul := hl3.lt
            have HBX := Lib.hid (HBW2.out.trans (hb2.mono HBW2.out.size))
            clear hl3 hb2 u1 u2 u3 u4 u5
            go_upto_region 11 with fail
            obtain ⟨xc, xf'⟩ := xcell (W := w2)
            refine wp_region_quiet_tail 14 (by kernel_rfl) (by kernel_rfl) ?_
            simp only [List.take_succ_cons, List.take_zero, List.drop_succ_cons, List.drop_zero]
            repeat (first | go_big_quiet_step (fail) | quiet_step (fail))
            refine wpQuiet_nil ?_
            intro w3 hb3
            have HBY := Lib.hid (HBX.out.trans (hb3.mono HBX.out.size))
            clear xc xf' hb3
            go_wp2
            go_roundw
            case rel => exact ⟨f + 1, by omega, by go_num, fun i h => by
              rcases Nat.lt_succ_iff_lt_or_eq.1 h with h | h
              · exact HQ2.out i h
              · subst h; exact fun _ => HIe.out, HBY.out⟩
            case measure => simp [intOf]; omega
        case neg =>
          have q2 : (kind == 2) = false := by simpa using p2
          have HP := Lib.hid p2
          clear p2
          go_upto_region 9 with fail
          obtain ⟨xc, xf'⟩ := xcell (W := wr)
          refine wp_region_quiet_tail 14 (by kernel_rfl) (by kernel_rfl) ?_
          simp only [List.take_succ_cons, List.take_zero, List.drop_succ_cons, List.drop_zero]
          repeat (first | go_big_quiet_step (fail) | quiet_step (fail))
          refine wpQuiet_nil ?_
          intro w2 hb2
          have HT3 := Lib.hid (HT2.out.below hb2)
          have HA3 := Lib.hid (HA2.out.below hb2)
          have HR3 := Lib.hid (HR2.out.below hb2)
          have HLs3 := Lib.hid (HLs.out.below hb2)
          have HLs23 := Lib.hid (HLs2.out.below hb2)
          clear xc xf' u0 ul y0 y1 a0 a1 z0 z1 z2 yl al zl
          have y0 := HT3.out.cell 0
          have y1 := HT3.out.cell 1
          have a0 := HA3.out.cell 0
          have a1 := HA3.out.cell 1
          have z0 := HR3.out.cell 0
          have z1 := HR3.out.cell 1
          have z2 := HR3.out.cell 2
          simp only [List.getElem?_toArray, List.getElem?_cons_zero, List.getElem?_cons_succ] at y0 y1 a0 a1 z0 z1 z2
          have yl := HT3.out.lt
          have al := HA3.out.lt
          have zl := HR3.out.lt
          obtain ⟨u0, u1, u2, u3, u4, u5⟩ := Hds.at_ HLs3.out (List.getElem?_eq_getElem hil)
          rw [← HH.out, HJ.out] at u0
          have ul := HLs3.out.lt
          have HBX := Lib.hid (HBW2.out.trans (hb2.mono HBW2.out.size))
          have HB3 := Lib.hid (HB2.out.trans (hb2.mono HB2.out.size))
          clear hb2 u1 u2 u3 u4 u5
          go_upto_region 11 with fail
          by_cases cj : kind = 3 ∧ jd = id
          case pos =>
            have q3 : (kind == 3) = true := by simpa using cj.1
            have qi : (jd == id) = true := by simpa using cj.2
            have HIe := Lib.hid (show (hat hs f).id = id by rw [HJ.out]; exact cj.2)
            have HP3 := Lib.hid cj.1
            clear cj
            have HF := Lib.hid (show toldL hs ms kind id st en ma = (iget en f, true) from told_end HP3.out hil hi1 hi2 HIe.out (fun i hi => HQ2.out i hi (.inr HP3.out)))
            obtain ⟨xc, xf'⟩ := xcell (W := w2)
            refine wp_region_quiet_tail 14 (by kernel_rfl) (by kernel_rfl) ?_
            simp only [List.take_succ_cons, List.take_zero, List.drop_succ_cons, List.drop_zero]
            repeat (first | go_big_quiet_step (fail) | quiet_step (fail))
            refine wpQuiet_nil ?_
            intro w3 hb3
            have HR4 := Lib.hid (HR3.out.below hb3)
            have z1 := HR4.out.cell 1
            simp only [List.getElem?_toArray, List.getElem?_cons_zero, List.getElem?_cons_succ] at z1
            have zl := HR4.out.lt
            have hl4 := HLs23.out.below hb3
            have s0 := hl4.c f _ (List.getElem?_eq_getElem hi2) 0 _ rfl
            rw [Nat.mul_one, Nat.add_zero, ← iget_eq hi2] at s0
            have sl := hl4.lt
            have HB4 := Lib.hid (HB3.out.trans (hb3.mono HB3.out.size))
            clear hl4 hb3 xc xf'
            go_wp2
            exact bodyPost_ret (v := .tuple #[.int .i64 (iget en f), .bool true]) (by simp [results, Tryz.results52, go_sem]) rfl ⟨by rw [HF.out], HB4.out⟩
          case neg =>
            have HC := Lib.hid cj
            by_cases c3 : kind = 3
            case pos =>
              have q3 : (kind == 3) = true := by simpa using c3
              have qi : (jd == id) = false := by simp; exact fun h => HC.out ⟨c3, h⟩
              have HN := Lib.hid (show kind = 2 ∨ kind = 3 → (hat hs f).id ≠ id from fun _ h => HC.out ⟨c3, by rw [← HJ.out]; exact h⟩)
              clear cj c3
              obtain ⟨xc, xf'⟩ := xcell (W := w2)
              refine wp_region_quiet_tail 14 (by kernel_rfl) (by kernel_rfl) ?_
              simp only [List.take_succ_cons, List.take_zero, List.drop_succ_cons, List.drop_zero]
              repeat (first | go_big_quiet_step (fail) | quiet_step (fail))
              refine wpQuiet_nil ?_
              intro w3 hb3
              have HBY := Lib.hid (HBX.out.trans (hb3.mono HBX.out.size))
              clear xc xf' hb3
              go_wp2
              go_roundw
              case rel => exact ⟨f + 1, by omega, by go_num, fun i h => by
                rcases Nat.lt_succ_iff_lt_or_eq.1 h with h | h
                · exact HQ2.out i h
                · subst h; exact HN.out, HBY.out⟩
              case measure => simp [intOf]; omega
            case neg =>
              have q3 : (kind == 3) = false := by simpa using c3
              have HN := Lib.hid (show kind = 2 ∨ kind = 3 → (hat hs f).id ≠ id from fun h => absurd h (by have := HP.out; omega))
              clear cj c3
              obtain ⟨xc, xf'⟩ := xcell (W := w2)
              refine wp_region_quiet_tail 14 (by kernel_rfl) (by kernel_rfl) ?_
              simp only [List.take_succ_cons, List.take_zero, List.drop_succ_cons, List.drop_zero]
              repeat (first | go_big_quiet_step (fail) | quiet_step (fail))
              refine wpQuiet_nil ?_
              intro w3 hb3
              have HBY := Lib.hid (HBX.out.trans (hb3.mono HBX.out.size))
              clear xc xf' hb3
              go_wp2
              go_roundw
              case rel => exact ⟨f + 1, by omega, by go_num, fun i h => by
                rcases Nat.lt_succ_iff_lt_or_eq.1 h with h | h
                · exact HQ2.out i h
                · subst h; exact HN.out, HBY.out⟩
              case measure => simp [intOf]; omega
    case pos =>
    by_cases hk3 : k < n3
    case neg =>
      have HNo := Lib.hid (show kind = 1 → ∀ i, i < ms.length → i < ma.length → (mat ms i).id ≠ id from fun h i _ hi => HQ.out h i (by have := HL3.out; omega))
      go_upto_region 7 with fail
      clear y0 y1 a0 a1 z0 z1 z2 yl al zl
      go_loopw [9] (fun i wx => ∃ f : Nat, f ≤ n ∧ i = .int .i64 (f : Int) ∧ (∀ i, i < f → kind = 2 ∨ kind = 3 → (hat hs i).id ≠ id) ∧ Below wr.heap.size wr wx) (fun i _ => n - (intOf i).toNat)
      case atStart => exact ⟨0, Nat.zero_le _, rfl, fun i h => absurd h (Nat.not_lt_zero _), Below.refl _ _⟩
      case round =>
        obtain ⟨f, hf, rfl, hq, hb⟩ := hrel
        have HQ2 := Lib.hid hq
        have HB2 := Lib.hid (HB.out.trans (hb.mono HB.out.size))
        have HBW2 := Lib.hid hb
        have HT2 := Lib.hid (HT1.out.below hb)
        have HA2 := Lib.hid (HA1.out.below hb)
        have HR2 := Lib.hid (HR1.out.below hb)
        clear hq hb
        have y0 := HT2.out.cell 0
        have y1 := HT2.out.cell 1
        have a0 := HA2.out.cell 0
        have a1 := HA2.out.cell 1
        have z0 := HR2.out.cell 0
        have z1 := HR2.out.cell 1
        have z2 := HR2.out.cell 2
        simp only [List.getElem?_toArray, List.getElem?_cons_zero, List.getElem?_cons_succ] at y0 y1 a0 a1 z0 z1 z2
        have yl := HT2.out.lt
        have al := HA2.out.lt
        have zl := HR2.out.lt
        by_cases g1 : f < n
        case neg =>
          have HF := Lib.hid (show toldL hs ms kind id st en ma = (0, false) from told_none HNo.out (fun h i hi _ _ => HQ2.out i (by have := HLh.out; omega) h))
          go_wp2
          exact bodyPost_ret (v := .tuple #[.int .i64 0, .bool false]) (by simp [results, Tryz.results52, go_sem]) rfl ⟨by rw [HF.out], HB2.out⟩
        case pos =>
        by_cases g2 : f < n1
        case neg =>
          have HF := Lib.hid (show toldL hs ms kind id st en ma = (0, false) from told_none HNo.out (fun h i _ hi _ => HQ2.out i (by have := HL1.out; omega) h))
          go_wp2
          exact bodyPost_ret (v := .tuple #[.int .i64 0, .bool false]) (by simp [results, Tryz.results52, go_sem]) rfl ⟨by rw [HF.out], HB2.out⟩
        case pos =>
        by_cases g3 : f < n2
        case neg =>
          have HF := Lib.hid (show toldL hs ms kind id st en ma = (0, false) from told_none HNo.out (fun h i _ _ hi => HQ2.out i (by have := HL2.out; omega) h))
          go_wp2
          exact bodyPost_ret (v := .tuple #[.int .i64 0, .bool false]) (by simp [results, Tryz.results52, go_sem]) rfl ⟨by rw [HF.out], HB2.out⟩
        case pos =>
        have hil : f < hs.length := by have := HLh.out; omega
        have hi1 : f < st.length := by have := HL1.out; omega
        have hi2 : f < en.length := by have := HL2.out; omega
        obtain ⟨b, off, eA, hl⟩ := HOk.out.h.at_ (by dsimp only; omega)
        obtain ⟨b1, of1, e1, hl1⟩ := HS1.out.at_ (by omega)
        obtain ⟨b2, of2, e2, hl2⟩ := HS2.out.at_ (by omega)
        dsimp only at eA
        subst eA e1 e2
        have HLs := Lib.hid (hl.below HB2.out)
        have HLs1 := Lib.hid (hl1.below HB2.out)
        have HLs2 := Lib.hid (hl2.below HB2.out)
        obtain ⟨u0, u1, u2, u3, u4, u5⟩ := Hds.at_ HLs.out (List.getElem?_eq_getElem hil)
        have ul := HLs.out.lt
        have HH := Lib.hid (hat_eq hil)
        rw [← HH.out] at u0
        obtain ⟨jd, hjd⟩ : ∃ x, (hat hs f).id = x := ⟨_, rfl⟩
        rw [hjd] at u0
        have HJ := Lib.hid hjd
        clear hl hl1 hl2 hjd u1 u2 u3 u4 u5
        by_cases p2 : kind = 2
        case pos =>
          have q2 : (kind == 2) = true := by simpa using p2
          have q3 : (kind == 3) = false := by simp; omega
          have HP := Lib.hid p2
          clear p2
          by_cases ci : jd = id
          case pos =>
            have qi : (jd == id) = true := by simpa using ci
            have HIe := Lib.hid (show (hat hs f).id = id by rw [HJ.out]; exact ci)
            clear ci
            have HF := Lib.hid (show toldL hs ms kind id st en ma = (iget st f, true) from told_start HP.out hil hi1 hi2 HIe.out (fun i hi => HQ2.out i hi (.inl HP.out)))
            go_upto_region 9 with fail
            obtain ⟨xc, xf'⟩ := xcell (W := wr)
            refine wp_region_quiet_tail 14 (by kernel_rfl) (by kernel_rfl) ?_
            simp only [List.take_succ_cons, List.take_zero, List.drop_succ_cons, List.drop_zero]
            repeat (first | go_big_quiet_step (fail) | quiet_step (fail))
            refine wpQuiet_nil ?_
            intro w2 hb2
            have HR3 := Lib.hid (HR2.out.below hb2)
            have z0 := HR3.out.cell 0
            simp only [List.getElem?_toArray, List.getElem?_cons_zero] at z0
            have zl := HR3.out.lt
            have hl3 := HLs1.out.below hb2
            have s0 := hl3.c f _ (List.getElem?_eq_getElem hi1) 0 _ rfl
            rw [Nat.mul_one, Nat.add_zero, ← iget_eq hi1] at s0
            have sl := hl3.lt
            have HB3 := Lib.hid (HB2.out.trans (hb2.mono HB2.out.size))
            clear hl3 hb2 xc xf'
            go_wp2
            exact bodyPost_ret (v := .tuple #[.int .i64 (iget st f), .bool true]) (by simp [results, Tryz.results52, go_sem]) rfl ⟨by rw [HF.out], HB3.out⟩
          case neg =>
            have qi : (jd == id) = false := by simpa using ci
            have HIe := Lib.hid (show (hat hs f).id ≠ id by rw [HJ.out]; exact ci)
            clear ci
            go_upto_region 9 with fail
            obtain ⟨xc, xf'⟩ := xcell (W := wr)
            refine wp_region_quiet_tail 14 (by kernel_rfl) (by kernel_rfl) ?_
            simp only [List.take_succ_cons, List.take_zero, List.drop_succ_cons, List.drop_zero]
            repeat (first | go_big_quiet_step (fail) | quiet_step (fail))
            refine wpQuiet_nil ?_
            intro w2 hb2
            have HT3 := Lib.hid (HT2.out.below hb2)
            have HA3 := Lib.hid (HA2.out.below hb2)
            have HR3 := Lib.hid (HR2.out.below hb2)
            have hl3 := HLs.out.below hb2
            clear xc xf' u0 ul y0 y1 a0 a1 z0 z1 z2 yl al zl
            have y0 := HT3.out.cell 0
            have y1 := HT3.out.cell 1
            have a0 := HA3.out.cell 0
            have a1 := HA3.out.cell 1
            have z0 := HR3.out.cell 0
            have z1 := HR3.out.cell 1
            have z2 := HR3.out.cell 2
            simp only [List.getElem?_toArray, List.getElem?_cons_zero, List.getElem?_cons_succ] at y0 y1 a0 a1 z0 z1 z2
            have yl := HT3.out.lt
            have al := HA3.out.lt
            have zl := HR3.out.lt
            obtain ⟨u0, u1, u2, u3, u4, u5⟩ := Hds.at_ hl3 (List.getElem?_eq_getElem hil)
            rw [← HH.out, HJ.out] at u0
            have ul := hl3.lt
            have HBX := Lib.hid (HBW2.out.trans (hb2.mono HBW2.out.size))
            clear hl3 hb2 u1 u2 u3 u4 u5
            go_upto_region 11 with fail
            obtain ⟨xc, xf'⟩ := xcell (W := w2)
            refine wp_region_quiet_tail 14 (by kernel_rfl) (by kernel_rfl) ?_
            simp only [List.take_succ_cons, List.take_zero, List.drop_succ_cons, List.drop_zero]
            repeat (first | go_big_quiet_step (fail) | quiet_step (fail))
            refine wpQuiet_nil ?_
            intro w3 hb3
            have HBY := Lib.hid (HBX.out.trans (hb3.mono HBX.out.size))
            clear xc xf' hb3
            go_wp2
            go_roundw
            case rel => exact ⟨f + 1, by omega, by go_num, fun i h => by
              rcases Nat.lt_succ_iff_lt_or_eq.1 h with h | h
              · exact HQ2.out i h
              · subst h; exact fun _ => HIe.out, HBY.out⟩
            case measure => simp [intOf]; omega
        case neg =>
          have q2 : (kind == 2) = false := by simpa using p2
          have HP := Lib.hid p2
          clear p2
          go_upto_region 9 with fail
          obtain ⟨xc, xf'⟩ := xcell (W := wr)
          refine wp_region_quiet_tail 14 (by kernel_rfl) (by kernel_rfl) ?_
          simp only [List.take_succ_cons, List.take_zero, List.drop_succ_cons, List.drop_zero]
          repeat (first | go_big_quiet_step (fail) | quiet_step (fail))
          refine wpQuiet_nil ?_
          intro w2 hb2
          have HT3 := Lib.hid (HT2.out.below hb2)
          have HA3 := Lib.hid (HA2.out.below hb2)
          have HR3 := Lib.hid (HR2.out.below hb2)
          have HLs3 := Lib.hid (HLs.out.below hb2)
          have HLs23 := Lib.hid (HLs2.out.below hb2)
          clear xc xf' u0 ul y0 y1 a0 a1 z0 z1 z2 yl al zl
          have y0 := HT3.out.cell 0
          have y1 := HT3.out.cell 1
          have a0 := HA3.out.cell 0
          have a1 := HA3.out.cell 1
          have z0 := HR3.out.cell 0
          have z1 := HR3.out.cell 1
          have z2 := HR3.out.cell 2
          simp only [List.getElem?_toArray, List.getElem?_cons_zero, List.getElem?_cons_succ] at y0 y1 a0 a1 z0 z1 z2
          have yl := HT3.out.lt
          have al := HA3.out.lt
          have zl := HR3.out.lt
          obtain ⟨u0, u1, u2, u3, u4, u5⟩ := Hds.at_ HLs3.out (List.getElem?_eq_getElem hil)
          rw [← HH.out, HJ.out] at u0
          have ul := HLs3.out.lt
          have HBX := Lib.hid (HBW2.out.trans (hb2.mono HBW2.out.size))
          have HB3 := Lib.hid (HB2.out.trans (hb2.mono HB2.out.size))
          clear hb2 u1 u2 u3 u4 u5
          go_upto_region 11 with fail
          by_cases cj : kind = 3 ∧ jd = id
          case pos =>
            have q3 : (kind == 3) = true := by simpa using cj.1
            have qi : (jd == id) = true := by simpa using cj.2
            have HIe := Lib.hid (show (hat hs f).id = id by rw [HJ.out]; exact cj.2)
            have HP3 := Lib.hid cj.1
            clear cj
            have HF := Lib.hid (show toldL hs ms kind id st en ma = (iget en f, true) from told_end HP3.out hil hi1 hi2 HIe.out (fun i hi => HQ2.out i hi (.inr HP3.out)))
            obtain ⟨xc, xf'⟩ := xcell (W := w2)
            refine wp_region_quiet_tail 14 (by kernel_rfl) (by kernel_rfl) ?_
            simp only [List.take_succ_cons, List.take_zero, List.drop_succ_cons, List.drop_zero]
            repeat (first | go_big_quiet_step (fail) | quiet_step (fail))
            refine wpQuiet_nil ?_
            intro w3 hb3
            have HR4 := Lib.hid (HR3.out.below hb3)
            have z1 := HR4.out.cell 1
            simp only [List.getElem?_toArray, List.getElem?_cons_zero, List.getElem?_cons_succ] at z1
            have zl := HR4.out.lt
            have hl4 := HLs23.out.below hb3
            have s0 := hl4.c f _ (List.getElem?_eq_getElem hi2) 0 _ rfl
            rw [Nat.mul_one, Nat.add_zero, ← iget_eq hi2] at s0
            have sl := hl4.lt
            have HB4 := Lib.hid (HB3.out.trans (hb3.mono HB3.out.size))
            clear hl4 hb3 xc xf'
            go_wp2
            exact bodyPost_ret (v := .tuple #[.int .i64 (iget en f), .bool true]) (by simp [results, Tryz.results52, go_sem]) rfl ⟨by rw [HF.out], HB4.out⟩
          case neg =>
            have HC := Lib.hid cj
            by_cases c3 : kind = 3
            case pos =>
              have q3 : (kind == 3) = true := by simpa using c3
              have qi : (jd == id) = false := by simp; exact fun h => HC.out ⟨c3, h⟩
              have HN := Lib.hid (show kind = 2 ∨ kind = 3 → (hat hs f).id ≠ id from fun _ h => HC.out ⟨c3, by rw [← HJ.out]; exact h⟩)
              clear cj c3
              obtain ⟨xc, xf'⟩ := xcell (W := w2)
              refine wp_region_quiet_tail 14 (by kernel_rfl) (by kernel_rfl) ?_
              simp only [List.take_succ_cons, List.take_zero, List.drop_succ_cons, List.drop_zero]
              repeat (first | go_big_quiet_step (fail) | quiet_step (fail))
              refine wpQuiet_nil ?_
              intro w3 hb3
              have HBY := Lib.hid (HBX.out.trans (hb3.mono HBX.out.size))
              clear xc xf' hb3
              go_wp2
              go_roundw
              case rel => exact ⟨f + 1, by omega, by go_num, fun i h => by
                rcases Nat.lt_succ_iff_lt_or_eq.1 h with h | h
                · exact HQ2.out i h
                · subst h; exact HN.out, HBY.out⟩
              case measure => simp [intOf]; omega
            case neg =>
              have q3 : (kind == 3) = false := by simpa using c3
              have HN := Lib.hid (show kind = 2 ∨ kind = 3 → (hat hs f).id ≠ id from fun h => absurd h (by have := HP.out; omega))
              clear cj c3
              obtain ⟨xc, xf'⟩ := xcell (W := w2)
              refine wp_region_quiet_tail 14 (by kernel_rfl) (by kernel_rfl) ?_
              simp only [List.take_succ_cons, List.take_zero, List.drop_succ_cons, List.drop_zero]
              repeat (first | go_big_quiet_step (fail) | quiet_step (fail))
              refine wpQuiet_nil ?_
              intro w3 hb3
              have HBY := Lib.hid (HBX.out.trans (hb3.mono HBX.out.size))
              clear xc xf' hb3
              go_wp2
              go_roundw
              case rel => exact ⟨f + 1, by omega, by go_num, fun i h => by
                rcases Nat.lt_succ_iff_lt_or_eq.1 h with h | h
                · exact HQ2.out i h
                · subst h; exact HN.out, HBY.out⟩
              case measure => simp [intOf]; omega
    case pos =>
    have hil : k < ms.length := by have := HLm.out; omega
    have hi3 : k < ma.length := by have := HL3.out; omega
    obtain ⟨b, off, eB, hl⟩ := HOk.out.m.at_ (by dsimp only; omega)
    obtain ⟨b3, of3, e3, hl3⟩ := HS3.out.at_ (by omega)
    dsimp only at eB
    subst eB e3
    have HLs3 := Lib.hid (hl3.below HB.out)
    have hlb := hl.below HB.out
    obtain ⟨u0, u1, u2, u3, u4⟩ := Mvs.at_ hlb (List.getElem?_eq_getElem hil)
    have ul := hlb.lt
    have HMm := Lib.hid (mat_eq hil)
    rw [← HMm.out] at u0
    obtain ⟨jd, hjd⟩ : ∃ x, (mat ms k).id = x := ⟨_, rfl⟩
    rw [hjd] at u0
    have HJ := Lib.hid hjd
    clear hl hl3 hlb hjd u1 u2 u3 u4
    go_upto_region 4 with fail
    by_cases p1 : kind = 1
    case neg =>
      have q1 : (kind == 1) = false := by simpa using p1
      have HP := Lib.hid p1
      clear p1
      obtain ⟨xc, xf'⟩ := xcell (W := wr)
      refine wp_region_quiet_tail 14 (by kernel_rfl) (by kernel_rfl) ?_
      simp only [List.take_succ_cons, List.take_zero, List.drop_succ_cons, List.drop_zero]
      repeat (first | go_big_quiet_step (fail) | quiet_step (fail))
      refine wpQuiet_nil ?_
      intro w2 hb2
      have HBX := Lib.hid (HBW.out.trans (hb2.mono HBW.out.size))
      clear xc xf' hb2
      go_wp2
      go_roundw
      case rel => exact ⟨k + 1, by omega, by go_num, fun h => absurd h HP.out, HBX.out⟩
      case measure => simp [intOf]; omega
    case pos =>
      have q1 : (kind == 1) = true := by simpa using p1
      have HP := Lib.hid p1
      clear p1
      by_cases ci : jd = id
      case pos =>
        have qi : (jd == id) = true := by simpa using ci
        have HIe := Lib.hid (show (mat ms k).id = id by rw [HJ.out]; exact ci)
        clear ci
        have HF := Lib.hid (show toldL hs ms kind id st en ma = (iget ma k, true) from told_mass HP.out hil hi3 HIe.out (HQ.out HP.out))
        obtain ⟨xc, xf'⟩ := xcell (W := wr)
        refine wp_region_quiet_tail 14 (by kernel_rfl) (by kernel_rfl) ?_
        simp only [List.take_succ_cons, List.take_zero, List.drop_succ_cons, List.drop_zero]
        repeat (first | go_big_quiet_step (fail) | quiet_step (fail))
        refine wpQuiet_nil ?_
        intro w2 hb2
        have HR2 := Lib.hid (HR1.out.below hb2)
        have z2 := HR2.out.cell 2
        simp only [List.getElem?_toArray, List.getElem?_cons_zero, List.getElem?_cons_succ] at z2
        have zl := HR2.out.lt
        have hl4 := HLs3.out.below hb2
        have s0 := hl4.c k _ (List.getElem?_eq_getElem hi3) 0 _ rfl
        rw [Nat.mul_one, Nat.add_zero, ← iget_eq hi3] at s0
        have sl := hl4.lt
        have HB2 := Lib.hid (HB.out.trans (hb2.mono HB.out.size))
        clear hl4 hb2 xc xf'
        go_wp2
        exact bodyPost_ret (v := .tuple #[.int .i64 (iget ma k), .bool true]) (by simp [results, Tryz.results52, go_sem]) rfl ⟨by rw [HF.out], HB2.out⟩
      case neg =>
        have qi : (jd == id) = false := by simpa using ci
        have HIe := Lib.hid (show (mat ms k).id ≠ id by rw [HJ.out]; exact ci)
        clear ci
        obtain ⟨xc, xf'⟩ := xcell (W := wr)
        refine wp_region_quiet_tail 14 (by kernel_rfl) (by kernel_rfl) ?_
        simp only [List.take_succ_cons, List.take_zero, List.drop_succ_cons, List.drop_zero]
        repeat (first | go_big_quiet_step (fail) | quiet_step (fail))
        refine wpQuiet_nil ?_
        intro w2 hb2
        have HBX := Lib.hid (HBW.out.trans (hb2.mono HBW.out.size))
        clear xc xf' hb2
        go_wp2
        go_roundw
        case rel => exact ⟨k + 1, by omega, by go_num, fun hh i h => by
          rcases Nat.lt_succ_iff_lt_or_eq.1 h with h | h
          · exact HQ.out hh i h
          · subst h; exact HIe.out, HBX.out⟩
        case measure => simp [intOf]; omega
end Go.Proofs.YtighfmgkoepfkaaGreat
