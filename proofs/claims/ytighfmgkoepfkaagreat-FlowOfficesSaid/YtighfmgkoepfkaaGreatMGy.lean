/- The specification: trades that are the same. -/
import Derived.Test.YtighfmgkoepfkaaGreatMH
namespace Go.Proofs.YtighfmgkoepfkaaGreat
open Go.RowKit

set_option maxRecDepth 100000 in
set_option maxHeartbeats 3200000 in
theorem SameTrade_same (A : Option Addr) (n c : Nat) (B : Option Addr) (m d : Nat) (A' : Option Addr) (n' c' : Nat) (B' : Option Addr) (m' d' : Nat) (hs : List Hd) (ms : List Mv) (w : World) (h1 : SAt encH 6 w A n hs) (h2 : SAt encM 5 w B m ms) (h3 : SAt encH 6 w A' n' hs) (h4 : SAt encM 5 w B' m' ms) (hn : n ≤ 1000000) (hm : m ≤ 1000000) :
    Calls Tryz.prog 19 #[.agg #[.slice A n c, .slice B m d], .agg #[.slice A' n' c', .slice B' m' d']] w fun e w' => e = .returned (.bool true) ∧ Below w.heap.size w w' := by
  obtain rfl : n = n' := h1.len.symm.trans h3.len
  obtain rfl : m = m' := h2.len.symm.trans h4.len
  have hb0 := ((Below.refl w.heap.size w).alloc (Nat.le_refl _) (.cells #[.slice A n c, .slice B m d] 25)).alloc (by simp) (.cells #[.slice A' n c', .slice B' m d'] 25)
  have t0 := (Blk.new w 25 #[.slice A n c, .slice B m d]).alloc (.cells #[.slice A' n c', .slice B' m d'] 25)
  have r0 := Blk.at_new (W := w.alloc (.cells #[.slice A n c, .slice B m d] 25)) (g := w.heap.size + 1) 25 #[.slice A' n c', .slice B' m d'] (by simp)
  have H1 := Lib.hid h1
  have H2 := Lib.hid h2
  have H3 := Lib.hid h3
  have H4 := Lib.hid h4
  have HLh := Lib.hid h1.len
  have HLm := Lib.hid h2.len
  clear h1 h2 h3 h4
  go_enter Tryz.func19, Tryz.ntmps19
  go_upto_region 1 with fail
  generalize hW : (w.alloc (.cells #[.slice A n c, .slice B m d] 25)).alloc (.cells #[.slice A' n c', .slice B' m d'] 25) = W at *
  clear hW
  have HT := Lib.hid t0
  have HR := Lib.hid r0
  have HB0 := Lib.hid hb0
  have y0 := t0.cell 0
  have y1 := t0.cell 1
  have z0 := r0.cell 0
  have z1 := r0.cell 1
  simp only [List.getElem?_toArray, List.getElem?_cons_zero, List.getElem?_cons_succ] at y0 y1 z0 z1
  have yl := t0.lt
  have zl := r0.lt
  clear t0 r0 hb0
  have q1 : ((n : Int) != (n : Int)) = false := by simp
  have q2 : ((m : Int) != (m : Int)) = false := by simp
  go_wp2
  go_loopw [5] (fun i wx => ∃ k : Nat, k ≤ n ∧ i = .int .i64 (k : Int) ∧ Below W.heap.size W wx) (fun i _ => n - (intOf i).toNat)
  case atStart => exact ⟨0, Nat.zero_le _, rfl, Below.refl _ _⟩
  case round =>
    obtain ⟨k, hk, rfl, hb⟩ := hrel
    have HBW := Lib.hid hb
    have HB := Lib.hid (HB0.out.trans (hb.mono HB0.out.size))
    have HT1 := Lib.hid (HT.out.below hb)
    have HR1 := Lib.hid (HR.out.below hb)
    clear hb y0 y1 z0 z1 yl zl
    have y0 := HT1.out.cell 0
    have y1 := HT1.out.cell 1
    have z0 := HR1.out.cell 0
    have z1 := HR1.out.cell 1
    simp only [List.getElem?_toArray, List.getElem?_cons_zero, List.getElem?_cons_succ] at y0 y1 z0 z1
    have yl := HT1.out.lt
    have zl := HR1.out.lt
    by_cases hkn : k < n
    case neg =>
      go_wp2
      go_loopw [6] (fun i wx => ∃ e : Nat, e ≤ m ∧ i = .int .i64 (e : Int) ∧ Below wr.heap.size wr wx) (fun i _ => m - (intOf i).toNat)
      case atStart => exact ⟨0, Nat.zero_le _, rfl, Below.refl _ _⟩
      case round =>
        obtain ⟨e, he, rfl, hb⟩ := hrel
        have HBX := Lib.hid hb
        have HB2 := Lib.hid (HB.out.trans (hb.mono HB.out.size))
        have HT2 := Lib.hid (HT1.out.below hb)
        have HR2 := Lib.hid (HR1.out.below hb)
        clear hb y0 y1 z0 z1 yl zl
        have y0 := HT2.out.cell 0
        have y1 := HT2.out.cell 1
        have z0 := HR2.out.cell 0
        have z1 := HR2.out.cell 1
        simp only [List.getElem?_toArray, List.getElem?_cons_zero, List.getElem?_cons_succ] at y0 y1 z0 z1
        have yl := HT2.out.lt
        have zl := HR2.out.lt
        by_cases hem : e < m
        case neg =>
          go_wp2
          exact bodyPost_ret (v := .bool true) (by simp [results, Tryz.results19, go_sem]) rfl ⟨rfl, HB2.out⟩
        case pos =>
          have hel : e < ms.length := by have := HLm.out; omega
          obtain ⟨ba, oa, rfl, hla⟩ := H2.out.at_ (by omega)
          obtain ⟨bb, ob, rfl, hlb⟩ := H4.out.at_ (by omega)
          have hla2 := hla.below HB2.out
          have hlb2 := hlb.below HB2.out
          obtain ⟨u0, u1, u2, u3, u4⟩ := Mvs.at_ hla2 (List.getElem?_eq_getElem hel)
          obtain ⟨v0, v1, v2, v3, v4⟩ := Mvs.at_ hlb2 (List.getElem?_eq_getElem hel)
          have ul := hla2.lt
          have vl := hlb2.lt
          clear hla hlb hla2 hlb2
          go_upto_region 11 with fail
          obtain ⟨xc, xf'⟩ := xcell (W := wr)
          refine wp_region_quiet_tail 10 (by kernel_rfl) (by kernel_rfl) ?_
          simp only [List.take_succ_cons, List.take_zero, List.drop_succ_cons, List.drop_zero]
          repeat (first | go_big_quiet_step (fail) | quiet_step (fail))
          refine wpQuiet_nil ?_
          intro w2 hb2
          have HBX2 := Lib.hid (HBX.out.trans (hb2.mono HBX.out.size))
          clear xc xf' hb2 u0 u1 u2 u3 u4 v0 v1 v2 v3 v4 ul vl y0 y1 z0 z1 yl zl
          go_wp2
          go_roundw
          case rel => exact ⟨e + 1, by omega, by go_num, HBX2.out⟩
          case measure => simp [intOf]; omega
    case pos =>
      have hkl : k < hs.length := by have := HLh.out; omega
      obtain ⟨ba, oa, rfl, hla⟩ := H1.out.at_ (by omega)
      obtain ⟨bb, ob, rfl, hlb⟩ := H3.out.at_ (by omega)
      have hla2 := hla.below HB.out
      have hlb2 := hlb.below HB.out
      obtain ⟨u0, u1, u2, u3, u4, u5⟩ := Hds.at_ hla2 (List.getElem?_eq_getElem hkl)
      obtain ⟨v0, v1, v2, v3, v4, v5⟩ := Hds.at_ hlb2 (List.getElem?_eq_getElem hkl)
      have ul := hla2.lt
      have vl := hlb2.lt
      clear hla hlb hla2 hlb2
      go_upto_region 6 with fail
      obtain ⟨xc, xf'⟩ := xcell (W := wr)
      refine wp_region_quiet_tail 10 (by kernel_rfl) (by kernel_rfl) ?_
      simp only [List.take_succ_cons, List.take_zero, List.drop_succ_cons, List.drop_zero]
      repeat (first | go_big_quiet_step (fail) | quiet_step (fail))
      refine wpQuiet_nil ?_
      intro w2 hb2
      have HBW2 := Lib.hid (HBW.out.trans (hb2.mono HBW.out.size))
      clear xc xf' hb2 u0 u1 u2 u3 u4 u5 v0 v1 v2 v3 v4 v5 ul vl y0 y1 z0 z1 yl zl
      go_wp2
      go_roundw
      case rel => exact ⟨k + 1, by omega, by go_num, HBW2.out⟩
      case measure => simp [intOf]; omega
end Go.Proofs.YtighfmgkoepfkaaGreat
