/- The specification: what goes through a cut; CheckCut. -/
import Derived.Test.YtighfmgkoepfkaaGreatMT
namespace Go.Proofs.YtighfmgkoepfkaaGreat
open Go.RowKit

theorem rwithin_any (x lo hi : Int) (w : World) : Calls Tryz.prog 123 #[.int .i64 x, .int .i64 lo, .int .i64 hi] w fun e w' => e = .returned (.bool (decide (lo ≤ x ∧ x ≤ hi))) ∧ Below w.heap.size w w' := by
  have H := Lib.hid (Below.refl w.heap.size w)
  by_cases h1 : lo ≤ x
  · have h1b : decide (lo ≤ x) = true := decide_eq_true h1
    by_cases h2 : x ≤ hi
    · have h2b : decide (x ≤ hi) = true := decide_eq_true h2
      rw [decide_eq_true (show lo ≤ x ∧ x ≤ hi from ⟨h1, h2⟩)]
      go_enter Tryz.func123, Tryz.ntmps123
      go_wp2
      exact bodyPost_ret (v := .bool true) (by simp [results, Tryz.results123, go_sem]) rfl ⟨rfl, H.out⟩
    · have h2b : decide (x ≤ hi) = false := decide_eq_false h2
      rw [decide_eq_false (show ¬ (lo ≤ x ∧ x ≤ hi) from fun h => h2 h.2)]
      go_enter Tryz.func123, Tryz.ntmps123
      go_wp2
      exact bodyPost_ret (v := .bool false) (by simp [results, Tryz.results123, go_sem]) rfl ⟨rfl, H.out⟩
  · have h1b : decide (lo ≤ x) = false := decide_eq_false h1
    rw [decide_eq_false (show ¬ (lo ≤ x ∧ x ≤ hi) from fun h => h1 h.1)]
    go_enter Tryz.func123, Tryz.ntmps123
    go_wp2
    exact bodyPost_ret (v := .bool false) (by simp [results, Tryz.results123, go_sem]) rfl ⟨rfl, H.out⟩
theorem massed_any (lo hi : Int) (w : World) : Calls Tryz.prog 124 #[.agg #[.int .i64 lo, .int .i64 hi]] w fun e w' => e = .returned (.bool (okSp lo hi)) ∧ Below w.heap.size w w' := by
  have H := Lib.hid ((Below.refl w.heap.size w).alloc (Nat.le_refl _) (.cells #[.int .i64 lo, .int .i64 hi] 57))
  have HO := Lib.hid (show okSp lo hi = decide (0 ≤ lo ∧ lo ≤ hi ∧ hi ≤ 65536) from rfl)
  generalize okSp lo hi = q at *
  by_cases h1 : 0 ≤ lo
  · by_cases h2 : lo ≤ hi
    · by_cases h3 : hi ≤ 65536
      · have h1b : decide (0 ≤ lo) = true := decide_eq_true h1
        have h2b : decide (lo ≤ hi) = true := decide_eq_true h2
        have h3b : decide (hi ≤ 65536) = true := decide_eq_true h3
        go_enter Tryz.func124, Tryz.ntmps124
        go_wp2
        exact bodyPost_ret (v := .bool true) (by simp [results, Tryz.results124, go_sem]) rfl ⟨by rw [HO.out, decide_eq_true ⟨h1, h2, h3⟩], H.out⟩
      · have h1b : decide (0 ≤ lo) = true := decide_eq_true h1
        have h2b : decide (lo ≤ hi) = true := decide_eq_true h2
        have h3b : decide (hi ≤ 65536) = false := decide_eq_false h3
        go_enter Tryz.func124, Tryz.ntmps124
        go_wp2
        exact bodyPost_ret (v := .bool false) (by simp [results, Tryz.results124, go_sem]) rfl ⟨by rw [HO.out, decide_eq_false (by omega)], H.out⟩
    · have h1b : decide (0 ≤ lo) = true := decide_eq_true h1
      have h2b : decide (lo ≤ hi) = false := decide_eq_false h2
      go_enter Tryz.func124, Tryz.ntmps124
      go_wp2
      exact bodyPost_ret (v := .bool false) (by simp [results, Tryz.results124, go_sem]) rfl ⟨by rw [HO.out, decide_eq_false (by omega)], H.out⟩
  · have h1b : decide (0 ≤ lo) = false := decide_eq_false h1
    go_enter Tryz.func124, Tryz.ntmps124
    go_wp2
    exact bodyPost_ret (v := .bool false) (by simp [results, Tryz.results124, go_sem]) rfl ⟨by rw [HO.out, decide_eq_false (by omega)], H.out⟩
theorem pos_at {hs : List Hd} {id : Int} {k : Nat} (hk : k < hs.length) (h : (hs[k]).id = id) (hb : ∀ i (q : i < hs.length), i < k → (hs[i]).id ≠ id) : pos hs id = (k : Int) := by
  have h1 := posN_first hs id k hk h
  have h2 : ¬ posN hs id < k := fun c => hb _ (by omega) c (posN_at hs id (by omega))
  unfold pos
  rw [if_pos (by omega), show posN hs id = k by omega]
theorem pos_none {hs : List Hd} {id : Int} (hb : ∀ i (q : i < hs.length), (hs[i]).id ≠ id) : pos hs id = -1 := by
  unfold pos
  rw [if_neg fun c => hb _ c (posN_at hs id c)]
set_option maxRecDepth 100000 in
set_option maxHeartbeats 3200000 in
theorem Place_any (t : TR) (id : Int) (w : World) (h : t.Ok w) (hn : t.n ≤ 4611686018427387904) :
    Calls Tryz.prog 94 #[t.v, .int .i64 id] w fun e w' => e = .returned (.int .i64 (pos t.hs id)) ∧ Below w.heap.size w w' := by
  have hb0 := (Below.refl w.heap.size w).alloc (Nat.le_refl _) (.cells #[.slice t.A t.n t.c, .slice t.B t.m t.d] 25)
  obtain ⟨A, n, c, B, m, d, hs, ms⟩ := t
  dsimp only [TR.v] at *
  have t0 := Blk.new w 25 #[.slice A n c, .slice B m d]
  have HOk := Lib.hid h
  have HLh := Lib.hid (show hs.length = n from h.h.len)
  clear h
  go_enter Tryz.func94, Tryz.ntmps94
  go_upto_region 1 with fail
  generalize hW : w.alloc (.cells #[.slice A n c, .slice B m d] 25) = W at *
  clear hW
  have HT := Lib.hid t0
  have HB0 := Lib.hid hb0
  clear t0 hb0
  go_wp2
  go_loopw [5] (fun i wx => ∃ k : Nat, k ≤ n ∧ i = .int .i64 (k : Int) ∧ (∀ i (q : i < hs.length), i < k → (hs[i]).id ≠ id) ∧ Below W.heap.size W wx) (fun i _ => n - (intOf i).toNat)
  case atStart => exact ⟨0, Nat.zero_le _, rfl, fun i _ h => absurd h (Nat.not_lt_zero _), Below.refl _ _⟩
  case round =>
    obtain ⟨k, hk, rfl, hq, hb⟩ := hrel
    have HQ := Lib.hid hq
    have HB := Lib.hid (HB0.out.trans (hb.mono HB0.out.size))
    have HBW := Lib.hid hb
    have q1 := HT.out.below hb
    have y0 := q1.cell 0
    have y1 := q1.cell 1
    simp only [List.getElem?_toArray, List.getElem?_cons_zero, List.getElem?_cons_succ] at y0 y1
    have yl := q1.lt
    clear hq hb q1
    by_cases hkn : k < n
    case neg =>
      have hkk : k = n := by omega
      have HR := Lib.hid (pos_none (hs := hs) (id := id) fun i q => HQ.out i q (by have := HLh.out; omega))
      go_wp2
      exact bodyPost_ret (v := .int .i64 (-1)) (by simp [results, Tryz.results94, go_sem]) rfl ⟨by rw [HR.out], HB.out⟩
    case pos =>
      have hkl : k < hs.length := by rw [HLh.out]; exact hkn
      obtain ⟨b, off, rfl, hl⟩ := HOk.out.h.at_ (by dsimp only; omega)
      have hl2 := hl.below HB.out
      obtain ⟨x0, -, -, -, -, -⟩ := Hds.at_ hl2 (List.getElem?_eq_getElem hkl)
      have hlt := hl2.lt
      clear hl hl2
      obtain ⟨x, hx⟩ : ∃ x, (hs[k]).id = x := ⟨_, rfl⟩
      rw [hx] at x0
      have HX := Lib.hid hx
      clear hx
      by_cases hxi : x = id
      · have hxb : (x == id) = true := by simpa using hxi
        have HXI := Lib.hid hxi
        clear hxi
        go_wp2
        exact bodyPost_ret (v := .int .i64 (k : Int)) (by simp [results, Tryz.results94, go_sem]) rfl ⟨by rw [pos_at hkl (by rw [HX.out, HXI.out]) HQ.out], HB.out⟩
      · have hxb : (x == id) = false := by simpa using hxi
        go_wp2
        go_roundw
        case rel => exact ⟨k + 1, by omega, by go_num, fun i q h => by
          rcases Nat.lt_succ_iff_lt_or_eq.1 h with h | h
          · exact HQ.out i q h
          · subst h; rw [HX.out]; exact hxi, HBW.out⟩
        case measure => simp [intOf]; omega
end Go.Proofs.YtighfmgkoepfkaaGreat

namespace Go.Proofs.YtighfmgkoepfkaaGreat
open Go.RowKit

set_option maxRecDepth 100000 in
set_option maxHeartbeats 3200000 in
theorem Moved_any (t : TR) (x : Mv) (w : World) (h : t.Ok w) (hn : t.n ≤ 4611686018427387904) :
    Calls Tryz.prog 84 #[t.v, vMv x] w fun e w' => e = .returned (.int .i64 (mvE t.hs x)) ∧ Below w.heap.size w w' := by
  have hb0 := ((Below.refl w.heap.size w).alloc (Nat.le_refl _) (.cells #[.slice t.A t.n t.c, .slice t.B t.m t.d] 25)).alloc (by simp) (.cells #[.int .i64 x.id, .int .i64 x.fr, .int .i64 x.to, .int .i64 x.lo, .int .i64 x.hi] 59)
  have HPl := Lib.hid (fun (id : Int) (u : World) (hu : Below w.heap.size w u) => Place_any t id u (h.below hu) hn)
  obtain ⟨A, n, c, B, m, d, hs, ms⟩ := t
  obtain ⟨xi, xf, xt, xl, xh⟩ := x
  dsimp only [TR.v, vMv] at *
  have t0 := (Blk.new w 25 #[.slice A n c, .slice B m d]).alloc (.cells #[.int .i64 xi, .int .i64 xf, .int .i64 xt, .int .i64 xl, .int .i64 xh] 59)
  have r0 := Blk.at_new (W := w.alloc (.cells #[.slice A n c, .slice B m d] 25)) (g := w.heap.size + 1) 59 #[.int .i64 xi, .int .i64 xf, .int .i64 xt, .int .i64 xl, .int .i64 xh] (by simp)
  have HE := Lib.hid (show mvE hs ⟨xi, xf, xt, xl, xh⟩ = if ¬ (okId xi = true ∧ okSp xl xh = true ∧ xf ≠ xt) then 1 else if pos hs xf < 0 ∨ pos hs xt < 0 then 5 else 0 from rfl)
  generalize mvE hs ⟨xi, xf, xt, xl, xh⟩ = res at *
  have HPf := Lib.hid (fun u hu => HPl.out xf u hu)
  have HPt := Lib.hid (fun u hu => HPl.out xt u hu)
  generalize pos hs xf = pf at *
  generalize pos hs xt = pt at *
  have HWi := Lib.hid (fun u => rwithin_any xi 1 1099511627776 u)
  have HMa := Lib.hid (fun u => massed_any xl xh u)
  rw [show okId xi = decide (1 ≤ xi ∧ xi ≤ 1099511627776) from rfl] at HE
  generalize decide (1 ≤ xi ∧ xi ≤ 1099511627776) = bi at *
  generalize okSp xl xh = bm at *
  clear h HPl
  go_enter Tryz.func84, Tryz.ntmps84
  go_upto_region 1 with fail
  generalize hW : (w.alloc (.cells #[.slice A n c, .slice B m d] 25)).alloc (.cells #[.int .i64 xi, .int .i64 xf, .int .i64 xt, .int .i64 xl, .int .i64 xh] 59) = W at *
  clear hW
  have HT := Lib.hid t0
  have HR := Lib.hid r0
  have HB0 := Lib.hid hb0
  have z0 := r0.cell 0
  simp only [List.getElem?_toArray, List.getElem?_cons_zero] at z0
  have zl := r0.lt
  clear t0 r0 hb0
  go_upto_region 2 with (go_at_call 123; refine (HWi.out _).mono ?_; rintro e w1 ⟨rfl, hb1⟩)
  have HB1 := Lib.hid (HB0.out.trans (hb1.mono HB0.out.size))
  have HT1 := Lib.hid (HT.out.below hb1)
  have HR1 := Lib.hid (HR.out.below hb1)
  have a3 := HR1.out.cell 3
  have a4 := HR1.out.cell 4
  simp only [List.getElem?_toArray, List.getElem?_cons_zero, List.getElem?_cons_succ] at a3 a4
  have al := HR1.out.lt
  clear z0 zl HT HR hb1 HB0
  go_upto_region 3 with (go_at_call 124; refine (HMa.out _).mono ?_; rintro e w2 ⟨rfl, hb2⟩)
  have HB2 := Lib.hid (HB1.out.trans (hb2.mono HB1.out.size))
  have HT2 := Lib.hid (HT1.out.below hb2)
  have HR2 := Lib.hid (HR1.out.below hb2)
  have t0 := HT2.out.cell 0
  have t1 := HT2.out.cell 1
  have c1 := HR2.out.cell 1
  have c2 := HR2.out.cell 2
  simp only [List.getElem?_toArray, List.getElem?_cons_zero, List.getElem?_cons_succ] at c1 c2 t0 t1
  have cl := HR2.out.lt
  have tl := HT2.out.lt
  clear a3 a4 al HT1 HR1 hb2 HB1
  cases bi with
  | false =>
    go_wp2
    exact bodyPost_ret (v := .int .i64 1) (by simp [results, Tryz.results84, go_sem]) rfl ⟨by rw [HE.out]; simp, HB2.out⟩
  | true =>
  cases bm with
  | false =>
    go_wp2
    exact bodyPost_ret (v := .int .i64 1) (by simp [results, Tryz.results84, go_sem]) rfl ⟨by rw [HE.out]; simp, HB2.out⟩
  | true =>
  by_cases hft : xf = xt
  · have hfb : (xf == xt) = true := by simpa using hft
    have HFT := Lib.hid hft
    clear hft
    go_wp2
    exact bodyPost_ret (v := .int .i64 1) (by simp [results, Tryz.results84, go_sem]) rfl ⟨by rw [HE.out]; simp [HFT.out], HB2.out⟩
  · have hfb : (xf == xt) = false := by simpa using hft
    by_cases h1 : pf < 0
    · have h1b : decide (pf < 0) = true := decide_eq_true h1
      go_wp2_with (go_at_call 94; with_reducible refine (HPf.out _ HB2.out).mono ?_; rintro e w3 ⟨rfl, hb3⟩)
      exact bodyPost_ret (v := .int .i64 5) (by simp [results, Tryz.results84, go_sem]) rfl ⟨by rw [HE.out]; simp [hft, h1], HB2.out.trans (hb3.mono HB2.out.size)⟩
    · have h1b : decide (pf < 0) = false := decide_eq_false h1
      by_cases h2 : pt < 0
      · have h2b : decide (pt < 0) = true := decide_eq_true h2
        go_wp2_with (first | (go_at_call 94; with_reducible refine (HPf.out _ HB2.out).mono ?_; rintro e w3 ⟨rfl, hb3⟩; have HB3 := Lib.hid (HB2.out.trans (hb3.mono HB2.out.size)); have k0 := (HT2.out.below hb3).cell 0; have k1 := (HT2.out.below hb3).cell 1; have kl := (HT2.out.below hb3).lt; have j2 := (HR2.out.below hb3).cell 2; have jl := (HR2.out.below hb3).lt; simp only [List.getElem?_toArray, List.getElem?_cons_zero, List.getElem?_cons_succ] at k0 k1 j2) | (go_at_call 94; with_reducible refine (HPt.out _ HB3.out).mono ?_; rintro e w4 ⟨rfl, hb4⟩))
        exact bodyPost_ret (v := .int .i64 5) (by simp [results, Tryz.results84, go_sem]) rfl ⟨by rw [HE.out]; simp [hft, h2], HB3.out.trans (hb4.mono HB3.out.size)⟩
      · have h2b : decide (pt < 0) = false := decide_eq_false h2
        go_wp2_with (first | (go_at_call 94; with_reducible refine (HPf.out _ HB2.out).mono ?_; rintro e w3 ⟨rfl, hb3⟩; have HB3 := Lib.hid (HB2.out.trans (hb3.mono HB2.out.size)); have k0 := (HT2.out.below hb3).cell 0; have k1 := (HT2.out.below hb3).cell 1; have kl := (HT2.out.below hb3).lt; have j2 := (HR2.out.below hb3).cell 2; have jl := (HR2.out.below hb3).lt; simp only [List.getElem?_toArray, List.getElem?_cons_zero, List.getElem?_cons_succ] at k0 k1 j2) | (go_at_call 94; with_reducible refine (HPt.out _ HB3.out).mono ?_; rintro e w4 ⟨rfl, hb4⟩))
        exact bodyPost_ret (v := .int .i64 0) (by simp [results, Tryz.results84, go_sem]) rfl ⟨by rw [HE.out]; simp [hft]; omega, HB3.out.trans (hb4.mono HB3.out.size)⟩
end Go.Proofs.YtighfmgkoepfkaaGreat

namespace Go.Proofs.YtighfmgkoepfkaaGreat
open Go.RowKit

set_option maxRecDepth 100000 in
set_option maxHeartbeats 3200000 in
theorem heldBy_any (t : TR) (w : World) (h : t.Ok w) (hn : t.n ≤ 1000000) :
    Calls Tryz.prog 108 #[t.v] w fun e w' => e = .returned (.int .i64 (hdsE t.hs 0 t.hs)) ∧ Below w.heap.size w w' := by
  have hb0 := (Below.refl w.heap.size w).alloc (Nat.le_refl _) (.cells #[.slice t.A t.n t.c, .slice t.B t.m t.d] 25)
  have HPl := Lib.hid (fun (id : Int) (u : World) (hu : Below w.heap.size w u) => Place_any t id u (h.below hu) (by omega))
  obtain ⟨A, n, c, B, m, d, hs, ms⟩ := t
  dsimp only [TR.v] at *
  have t0 := Blk.new w 25 #[.slice A n c, .slice B m d]
  have HOk := Lib.hid h
  have HLh := Lib.hid (show hs.length = n from h.h.len)
  clear h
  go_enter Tryz.func108, Tryz.ntmps108
  go_upto_region 1 with fail
  generalize hW : w.alloc (.cells #[.slice A n c, .slice B m d] 25) = W at *
  clear hW
  have HT := Lib.hid t0
  have HB0 := Lib.hid hb0
  clear t0 hb0
  go_wp2
  go_loopw [3, 4, 5, 6, 7, 8] (fun i _ _ _ _ _ wx => ∃ k : Nat, k ≤ n ∧ i = .int .i64 (k : Int) ∧ hdsE hs 0 hs = hdsE hs k (hs.drop k) ∧ Below W.heap.size W wx) (fun i _ _ _ _ _ _ => n - (intOf i).toNat)
  case atStart => exact ⟨0, Nat.zero_le _, rfl, rfl, Below.refl _ _⟩
  case round =>
    obtain ⟨k, hk, rfl, hq, hb⟩ := hrel
    have HQ := Lib.hid hq
    have HB := Lib.hid (HB0.out.trans (hb.mono HB0.out.size))
    have HBW := Lib.hid hb
    have q1 := HT.out.below hb
    have HQT := Lib.hid q1
    have y0 := q1.cell 0
    have y1 := q1.cell 1
    simp only [List.getElem?_toArray, List.getElem?_cons_zero, List.getElem?_cons_succ] at y0 y1
    have yl := q1.lt
    clear hq hb q1
    by_cases hkn : k < n
    case neg =>
      have HR := Lib.hid (show hdsE hs 0 hs = 0 by rw [HQ.out, List.drop_of_length_le (by have := HLh.out; omega), hdsE])
      go_wp2
      exact bodyPost_ret (v := .int .i64 0) (by simp [results, Tryz.results108, go_sem]) rfl ⟨by rw [HR.out], HB.out⟩
    case pos =>
      have hkl : k < hs.length := by rw [HLh.out]; exact hkn
      obtain ⟨b, off, rfl, hl⟩ := HOk.out.h.at_ (by dsimp only; omega)
      have hl2 := hl.below HB.out
      obtain ⟨x0, x1, x2, x3, x4, x5⟩ := Hds.at_ hl2 (List.getElem?_eq_getElem hkl)
      have hlt := hl2.lt
      have HSt := Lib.hid (show hdsE hs k (hs.drop k) = if okHd hs[k] = false then 1 else if pos hs (hs[k]).id < k then 6 else hdsE hs (k + 1) (hs.drop (k + 1)) by rw [List.drop_eq_getElem_cons hkl, hdsE])
      clear hl hl2
      generalize hs[k] = x at *
      obtain ⟨xi, xsl, xsh, xel, xeh, xb⟩ := x
      dsimp only at *
      have p1 := HQT.out.alloc (.cells #[.int .i64 xi, .int .i64 xsl, .int .i64 xsh, .int .i64 xel, .int .i64 xeh, .int .i64 xb] 118)
      have p3 := Blk.new wr 118 #[.int .i64 xi, .int .i64 xsl, .int .i64 xsh, .int .i64 xel, .int .i64 xeh, .int .i64 xb]
      have BV := (Below.refl wr.heap.size wr).alloc (Nat.le_refl _) (.cells #[.int .i64 xi, .int .i64 xsl, .int .i64 xsh, .int .i64 xel, .int .i64 xeh, .int .i64 xb] 118)
      have HW := Lib.hid (HB.out.trans (BV.mono HB.out.size))
      have HBV := Lib.hid (HBW.out.trans (BV.mono HBW.out.size))
      have HPf := Lib.hid (fun u hu => HPl.out xi u hu)
      have HWi := Lib.hid (fun u => rwithin_any xi 1 1099511627776 u)
      have HWb := Lib.hid (fun u => rwithin_any xb 0 65536 u)
      have HMs := Lib.hid (fun u => massed_any xsl xsh u)
      have HMe := Lib.hid (fun u => massed_any xel xeh u)
      have HOH := Lib.hid (show okHd ⟨xi, xsl, xsh, xel, xeh, xb⟩ = (decide (1 ≤ xi ∧ xi ≤ 1099511627776) && okSp xsl xsh && okSp xel xeh && decide (0 ≤ xb ∧ xb ≤ 65536)) from rfl)
      generalize pos hs xi = pf at *
      generalize okHd ⟨xi, xsl, xsh, xel, xeh, xb⟩ = oh at *
      generalize decide (1 ≤ xi ∧ xi ≤ 1099511627776) = bi at *
      generalize decide (0 ≤ xb ∧ xb ≤ 65536) = bb at *
      generalize okSp xsl xsh = bs at *
      generalize okSp xel xeh = be at *
      go_upto_region 5 with fail
      generalize hV : wr.alloc (.cells #[.int .i64 xi, .int .i64 xsl, .int .i64 xsh, .int .i64 xel, .int .i64 xeh, .int .i64 xb] 118) = V at *
      generalize hg : wr.heap.size = g8 at *
      clear hV hg x0 x1 x2 x3 x4 x5 hlt y0 y1 yl BV
      have P0 := Lib.hid p3
      have T0 := Lib.hid p1
      clear p1 p3
      have f0 := P0.out.cell 0
      simp only [List.getElem?_toArray, List.getElem?_cons_zero] at f0
      have fl := P0.out.lt
      go_upto_region 6 with (go_at_call 123; with_reducible refine (HWi.out _).mono ?_; rintro e w10 ⟨rfl, hb10⟩)
      have P1 := Lib.hid (P0.out.below hb10)
      have T1 := Lib.hid (T0.out.below hb10)
      have B1 := Lib.hid hb10
      clear f0 fl hb10
      have f1 := P1.out.cell 1
      have f2 := P1.out.cell 2
      simp only [List.getElem?_toArray, List.getElem?_cons_zero, List.getElem?_cons_succ] at f1 f2
      have fl := P1.out.lt
      go_upto_region 7 with (go_at_call 124; with_reducible refine (HMs.out _).mono ?_; rintro e w11 ⟨rfl, hb11⟩)
      have P2 := Lib.hid (P1.out.below hb11)
      have T2 := Lib.hid (T1.out.below hb11)
      have B2 := Lib.hid (B1.out.trans (hb11.mono B1.out.size))
      clear f1 f2 fl hb11
      have f3 := P2.out.cell 3
      have f4 := P2.out.cell 4
      simp only [List.getElem?_toArray, List.getElem?_cons_zero, List.getElem?_cons_succ] at f3 f4
      have fl := P2.out.lt
      go_upto_region 8 with (go_at_call 124; with_reducible refine (HMe.out _).mono ?_; rintro e w12 ⟨rfl, hb12⟩)
      have P3 := Lib.hid (P2.out.below hb12)
      have T3 := Lib.hid (T2.out.below hb12)
      have B3 := Lib.hid (B2.out.trans (hb12.mono B2.out.size))
      clear f3 f4 fl hb12
      have f5 := P3.out.cell 5
      simp only [List.getElem?_toArray, List.getElem?_cons_zero, List.getElem?_cons_succ] at f5
      have fl := P3.out.lt
      go_upto_region 9 with (go_at_call 123; with_reducible refine (HWb.out _).mono ?_; rintro e w13 ⟨rfl, hb13⟩)
      have P4 := Lib.hid (P3.out.below hb13)
      have T4 := Lib.hid (T3.out.below hb13)
      have B4 := Lib.hid (B3.out.trans (hb13.mono B3.out.size))
      clear f5 fl hb13
      have fT := T4.out.cell 0
      have fT1 := T4.out.cell 1
      have fP := P4.out.cell 0
      simp only [List.getElem?_toArray, List.getElem?_cons_zero, List.getElem?_cons_succ] at fT fT1 fP
      have lT := T4.out.lt
      have lP := P4.out.lt
      have HBE := Lib.hid (HW.out.trans (B4.out.mono HW.out.size))
      have HBF := Lib.hid (HBV.out.trans (B4.out.mono HBV.out.size))
      cases bi with
      | false =>
        go_wp2
        exact bodyPost_ret (v := .int .i64 1) (by simp [results, Tryz.results108, go_sem]) rfl ⟨by rw [HQ.out, HSt.out, HOH.out]; simp, HBE.out⟩
      | true =>
      cases bs with
      | false =>
        go_wp2
        exact bodyPost_ret (v := .int .i64 1) (by simp [results, Tryz.results108, go_sem]) rfl ⟨by rw [HQ.out, HSt.out, HOH.out]; simp, HBE.out⟩
      | true =>
      cases be with
      | false =>
        go_wp2
        exact bodyPost_ret (v := .int .i64 1) (by simp [results, Tryz.results108, go_sem]) rfl ⟨by rw [HQ.out, HSt.out, HOH.out]; simp, HBE.out⟩
      | true =>
      cases bb with
      | false =>
        go_wp2
        exact bodyPost_ret (v := .int .i64 1) (by simp [results, Tryz.results108, go_sem]) rfl ⟨by rw [HQ.out, HSt.out, HOH.out]; simp, HBE.out⟩
      | true =>
      by_cases h1 : pf < (k : Int)
      · have h1b : decide (pf < (k : Int)) = true := decide_eq_true h1
        go_wp2_with (go_at_call 94; with_reducible refine (HPf.out _ HBE.out).mono ?_; rintro e w3 ⟨rfl, hb3⟩)
        exact bodyPost_ret (v := .int .i64 6) (by simp [results, Tryz.results108, go_sem]) rfl ⟨by rw [HQ.out, HSt.out, HOH.out]; simp [h1], HBE.out.trans (hb3.mono HBE.out.size)⟩
      · have h1b : decide (pf < (k : Int)) = false := decide_eq_false h1
        go_wp2_with (go_at_call 94; with_reducible refine (HPf.out _ HBE.out).mono ?_; rintro e w3 ⟨rfl, hb3⟩)
        go_roundw
        case rel => exact ⟨k + 1, by omega, by go_num, by rw [HQ.out, HSt.out, HOH.out, if_neg (show ¬ pf < (k : Int) by omega)]; simp, HBF.out.trans (hb3.mono HBF.out.size)⟩
        case measure => simp [intOf]; omega
end Go.Proofs.YtighfmgkoepfkaaGreat

namespace Go.Proofs.YtighfmgkoepfkaaGreat
open Go.RowKit

theorem dup_at {ms : List Mv} {id : Int} {k j : Nat} (hj : j < k) (hl : j < ms.length) (h : (ms[j]).id = id) : dupB (ms.take k) id = true := by
  unfold dupB
  rw [List.any_eq_true]
  exact ⟨ms[j], List.mem_take_iff_getElem.2 ⟨j, by omega, rfl⟩, by simpa using h⟩
theorem dup_none {ms : List Mv} {id : Int} {k : Nat} (h : ∀ j (q : j < ms.length), j < k → (ms[j]).id ≠ id) : dupB (ms.take k) id = false := by
  unfold dupB
  rw [Bool.eq_false_iff]
  intro c
  obtain ⟨x, hx, e⟩ := List.any_eq_true.1 c
  obtain ⟨j, hj, e2⟩ := List.mem_take_iff_getElem.1 hx
  subst e2
  exact h j (by omega) (by omega) (by simpa using e)
set_option maxRecDepth 100000 in
set_option maxHeartbeats 6400000 in
theorem RCheck_any (t : TR) (w : World) (h : t.Ok w) :
    Calls Tryz.prog 61 #[t.v] w fun e w' => e = .returned (.int .i64 (tcheck t.hs t.ms)) ∧ Below w.heap.size w w' := by
  have hb0 := (Below.refl w.heap.size w).alloc (Nat.le_refl _) (.cells #[.slice t.A t.n t.c, .slice t.B t.m t.d] 25)
  have HHe := Lib.hid (fun (hn : t.n ≤ 9) (u : World) (hu : Below w.heap.size w u) => heldBy_any t u (h.below hu) (by omega))
  have HMv := Lib.hid (fun (hn : t.n ≤ 9) (x : Mv) (u : World) (hu : Below w.heap.size w u) => Moved_any t x u (h.below hu) (by omega))
  obtain ⟨A, n, c, B, m, d, hs, ms⟩ := t
  dsimp only [TR.v] at *
  have t0 := Blk.new w 25 #[.slice A n c, .slice B m d]
  have HOk := Lib.hid h
  have HLh := Lib.hid (show hs.length = n from h.h.len)
  have HLm := Lib.hid (show ms.length = m from h.m.len)
  have HTc := Lib.hid (show tcheck hs ms = if 9 < n ∨ 24 < m then 2 else if hdsE hs 0 hs ≠ 0 then hdsE hs 0 hs else mvsE hs [] ms by rw [← HLh.out, ← HLm.out]; rfl)
  generalize tcheck hs ms = res at *
  have hnc : n ≤ 9223372036854775807 := h.n_le
  have hmc : m ≤ 9223372036854775807 := h.m_le
  clear h
  go_enter Tryz.func61, Tryz.ntmps61
  go_upto_region 1 with fail
  generalize hW : w.alloc (.cells #[.slice A n c, .slice B m d] 25) = W at *
  clear hW
  have HT := Lib.hid t0
  have HB0 := Lib.hid hb0
  have y0 := t0.cell 0
  have y1 := t0.cell 1
  simp only [List.getElem?_toArray, List.getElem?_cons_zero, List.getElem?_cons_succ] at y0 y1
  have yl := t0.lt
  clear t0 hb0
  by_cases h9 : 9 < n
  · have h9b : decide ((9 : Int) < (n : Int)) = true := decide_eq_true (by omega)
    go_wp2
    exact bodyPost_ret (v := .int .i64 2) (by simp [results, Tryz.results61, go_sem]) rfl ⟨by rw [HTc.out, if_pos (.inl h9)], HB0.out⟩
  have h9b : decide ((9 : Int) < (n : Int)) = false := decide_eq_false (by omega)
  by_cases h24 : 24 < m
  · have h24b : decide ((24 : Int) < (m : Int)) = true := decide_eq_true (by omega)
    go_wp2
    exact bodyPost_ret (v := .int .i64 2) (by simp [results, Tryz.results61, go_sem]) rfl ⟨by rw [HTc.out, if_pos (.inr h24)], HB0.out⟩
  have h24b : decide ((24 : Int) < (m : Int)) = false := decide_eq_false (by omega)
  have HTc2 := Lib.hid (show res = if hdsE hs 0 hs ≠ 0 then hdsE hs 0 hs else mvsE hs [] ms by rw [HTc.out, if_neg (by omega)])
  have HHe2 := Lib.hid (HHe.out (by omega))
  have HMv2 := Lib.hid (HMv.out (by omega))
  generalize hdsE hs 0 hs = he at *
  clear HTc HHe HMv
  go_upto_region 4 with (go_at_call 108; with_reducible refine (HHe2.out _ HB0.out).mono ?_; rintro e w1 ⟨rfl, hb1⟩)
  have HB1 := Lib.hid (HB0.out.trans (hb1.mono HB0.out.size))
  have HT1 := Lib.hid (HT.out.below hb1)
  clear HT HB0 hb1 y0 y1 yl HHe2
  by_cases hz : he = 0
  case neg =>
    have hzb : (he != 0) = true := by simpa using hz
    have HZ := Lib.hid hz
    clear hz
    go_wp2
    exact bodyPost_ret (v := .int .i64 he) (by simp [results, Tryz.results61, go_sem]) rfl ⟨by rw [HTc2.out, if_pos HZ.out], HB1.out⟩
  case pos =>
  subst hz
  have HTc3 := Lib.hid (show res = mvsE hs [] ms by rw [HTc2.out]; simp)
  clear HTc2
  go_wp2
  go_loopw [4, 5, 6] (fun i _ _ wx => ∃ k : Nat, k ≤ m ∧ i = .int .i64 (k : Int) ∧ mvsE hs [] ms = mvsE hs (ms.take k) (ms.drop k) ∧ Below w1.heap.size w1 wx) (fun i _ _ _ => m - (intOf i).toNat)
  case atStart => exact ⟨0, Nat.zero_le _, rfl, rfl, Below.refl _ _⟩
  case round =>
    obtain ⟨k, hk, rfl, hq, hb⟩ := hrel
    have HQ := Lib.hid hq
    have HB := Lib.hid (HB1.out.trans (hb.mono HB1.out.size))
    have HBW := Lib.hid hb
    have q1 := HT1.out.below hb
    have HQT := Lib.hid q1
    have y0 := q1.cell 0
    have y1 := q1.cell 1
    simp only [List.getElem?_toArray, List.getElem?_cons_zero, List.getElem?_cons_succ] at y0 y1
    have yl := q1.lt
    clear hq hb q1
    by_cases hkn : k < m
    case neg =>
      have HR := Lib.hid (show res = 0 by rw [HTc3.out, HQ.out, List.drop_of_length_le (by have := HLm.out; omega), mvsE])
      go_wp2
      exact bodyPost_ret (v := .int .i64 0) (by simp [results, Tryz.results61, go_sem]) rfl ⟨by rw [HR.out], HB.out⟩
    case pos =>
      have hkl : k < ms.length := by rw [HLm.out]; exact hkn
      obtain ⟨b, off, rfl, hl⟩ := HOk.out.m.at_ (by dsimp only; omega)
      have hl2 := hl.below HB.out
      obtain ⟨x0, x1, x2, x3, x4⟩ := Mvs.at_ hl2 (List.getElem?_eq_getElem hkl)
      have hlt := hl2.lt
      have HLs := Lib.hid hl
      have HSt := Lib.hid (mvsE_step (hs := hs) hkl)
      have HX := Lib.hid (show ms[k] = ms[k] from rfl)
      have HMk := Lib.hid (HMv2.out ms[k])
      have HM2 := Lib.hid (show mvE2 hs (ms.take k) ms[k] = if mvE hs ms[k] ≠ 0 then mvE hs ms[k] else if dupB (ms.take k) (ms[k]).id = true then 6 else 0 from rfl)
      clear hl hl2 HX
      obtain ⟨x, hx⟩ : ∃ x, ms[k] = x := ⟨_, rfl⟩
      rw [hx] at HSt HMk HM2 x0 x1 x2 x3 x4
      have HX := Lib.hid hx
      clear hx
      obtain ⟨xi, xf, xt, xl, xh⟩ := x
      dsimp only [vMv] at *
      generalize mvE hs ⟨xi, xf, xt, xl, xh⟩ = me at *
      have HMk2 := Lib.hid (fun (u : World) (hu : Below wr.heap.size wr u) => HMk.out u (HB.out.trans (hu.mono HB.out.size)))
      go_upto_region 9 with fail
      obtain ⟨xc, xf'⟩ := xcell (W := wr)
      refine wp_region_quiet_tail 7 (by kernel_rfl) (by kernel_rfl) ?_
      simp only [List.take_succ_cons, List.take_zero, List.drop_succ_cons, List.drop_zero]
      repeat (first | go_big_quiet_step ((go_at_call 84; with_reducible refine calls_ext (HMk2.out _ ?_); exact Ext.below _)) | quiet_step ((go_at_call 84; with_reducible refine calls_ext (HMk2.out _ ?_); exact Ext.below _)))
      refine wpQuiet_nil ?_
      intro w2 hb2
      have HB2 := Lib.hid (HB.out.trans (hb2.mono HB.out.size))
      have HBW2 := Lib.hid (HBW.out.trans (hb2.mono HBW.out.size))
      have HT2 := Lib.hid (HQT.out.below hb2)
      clear hb2 xc xf' y0 y1 yl x0 x1 x2 x3 x4 hlt
      by_cases hz : me = 0
      case neg =>
        have hzb : (me != 0) = true := by simpa using hz
        have HZ := Lib.hid hz
        clear hz
        go_wp2
        exact bodyPost_ret (v := .int .i64 me) (by simp [results, Tryz.results61, go_sem]) rfl ⟨by rw [HTc3.out, HQ.out, HSt.out, HM2.out, if_pos HZ.out, if_pos HZ.out], HB2.out⟩
      case pos =>
      subst hz
      have HM3 := Lib.hid (show mvE2 hs (ms.take k) ⟨xi, xf, xt, xl, xh⟩ = if dupB (ms.take k) xi = true then 6 else 0 by rw [HM2.out]; simp)
      go_wp2
      go_loopw [6] (fun i wx => ∃ j : Nat, j ≤ k ∧ i = .int .i64 (j : Int) ∧ (∀ i (q : i < ms.length), i < j → (ms[i]).id ≠ xi) ∧ Below w2.heap.size w2 wx) (fun i _ => k - (intOf i).toNat)
      case atStart => exact ⟨0, Nat.zero_le _, rfl, fun i _ h => absurd h (Nat.not_lt_zero _), Below.refl _ _⟩
      case round =>
        obtain ⟨j, hj, rfl, hq, hb⟩ := hrel
        have HQ3 := Lib.hid hq
        have HB3 := Lib.hid (HB2.out.trans (hb.mono HB2.out.size))
        have HBW3 := Lib.hid (HBW2.out.trans (hb.mono HBW2.out.size))
        have HB23 := Lib.hid hb
        have q1 := HT2.out.below hb
        have z0 := q1.cell 0
        have z1 := q1.cell 1
        simp only [List.getElem?_toArray, List.getElem?_cons_zero, List.getElem?_cons_succ] at z0 z1
        have zl := q1.lt
        clear hq hb q1
        by_cases hjk : j < k
        case neg =>
          have HD := Lib.hid (dup_none (ms := ms) (id := xi) (k := k) fun i q h => HQ3.out i q (by omega))
          go_wp2
          go_roundw
          case rel => exact ⟨k + 1, by omega, by go_num, by rw [HQ.out, HSt.out, HM3.out, HD.out]; simp, HBW3.out⟩
          case measure => simp [intOf]; omega
        case pos =>
          have hjl : j < ms.length := by rw [HLm.out]; omega
          have hjm : j < m := by omega
          have hl3 := HLs.out.below HB3.out
          obtain ⟨u0, -, -, -, -⟩ := Mvs.at_ hl3 (List.getElem?_eq_getElem hjl)
          obtain ⟨v0, -, -, -, -⟩ := Mvs.at_ hl3 (List.getElem?_eq_getElem hkl)
          have ult := hl3.lt
          rw [HX.out] at v0
          dsimp only at v0
          obtain ⟨y, hy⟩ : ∃ y, (ms[j]).id = y := ⟨_, rfl⟩
          rw [hy] at u0
          have HY := Lib.hid hy
          clear hy hl3
          go_upto_region 15 with fail
          obtain ⟨xc, xf'⟩ := xcell (W := wr)
          refine wp_region_quiet_tail 12 (by kernel_rfl) (by kernel_rfl) ?_
          simp only [List.take_succ_cons, List.take_zero, List.drop_succ_cons, List.drop_zero]
          repeat (first | go_big_quiet_step (fail) | quiet_step (fail))
          refine wpQuiet_nil ?_
          intro w4 hb4
          by_cases hyi : y = xi
          · have hyb : (y == xi) = true := by simpa using hyi
            have HYI := Lib.hid hyi
            clear hyi
            go_wp2
            exact bodyPost_ret (v := .int .i64 6) (by simp [results, Tryz.results61, go_sem]) rfl ⟨by rw [HTc3.out, HQ.out, HSt.out, HM3.out, dup_at hjk hjl (by rw [HY.out, HYI.out])]; simp, HB3.out.trans (hb4.mono HB3.out.size)⟩
          · have hyb : (y == xi) = false := by simpa using hyi
            have HYI := Lib.hid hyi
            clear hyi
            go_wp2
            go_roundw
            case rel => exact ⟨j + 1, by omega, by go_num, fun i q h => by
              rcases Nat.lt_succ_iff_lt_or_eq.1 h with h | h
              · exact HQ3.out i q h
              · subst h; rw [HY.out]; exact HYI.out, HB23.out.trans (hb4.mono HB23.out.size)⟩
            case measure => simp [intOf]; omega
end Go.Proofs.YtighfmgkoepfkaaGreat

namespace Go.Proofs.YtighfmgkoepfkaaGreat
open Go.RowKit

set_option maxRecDepth 100000 in
set_option maxHeartbeats 1600000 in
theorem in_any (A : Option Addr) (n c : Nat) (l : List Int) (x : Int) (w : World) (h : SAt encI 1 w A n l) (hn : n ≤ 1000000) :
    Calls Tryz.prog 112 #[.slice A n c, .int .i64 x] w fun e w' => e = .returned (.bool (l.contains x)) ∧ Below w.heap.size w w' := by
  have HS := Lib.hid h
  have HL := Lib.hid h.len
  obtain ⟨q, hq⟩ : ∃ q, l.contains x = q := ⟨_, rfl⟩
  have HQ := Lib.hid hq
  rw [hq]
  clear h hq
  go_enter Tryz.func112, Tryz.ntmps112
  go_wp2
  go_loopw [5] (fun i wx => ∃ k : Nat, k ≤ n ∧ i = .int .i64 (k : Int) ∧ (∀ i (q : i < l.length), i < k → l[i] ≠ x) ∧ Below w.heap.size w wx) (fun i _ => n - (intOf i).toNat)
  case atStart => exact ⟨0, Nat.zero_le _, rfl, fun i _ h => absurd h (Nat.not_lt_zero _), Below.refl _ _⟩
  case round =>
    obtain ⟨k, hk, rfl, hr, hb⟩ := hrel
    have HR := Lib.hid hr
    have HB := Lib.hid hb
    clear hr hb
    by_cases hkn : k < n
    case neg =>
      have HF := Lib.hid (show q = false by
        rw [← HQ.out, Bool.eq_false_iff]
        intro c
        obtain ⟨i, hi, e⟩ := List.getElem_of_mem (List.contains_iff_mem.1 c)
        exact HR.out i hi (by have := HL.out; omega) e)
      go_wp2
      exact bodyPost_ret (v := .bool false) (by simp [results, Tryz.results112, go_sem]) rfl ⟨by rw [HF.out], HB.out⟩
    case pos =>
      have hkl : k < l.length := by rw [HL.out]; exact hkn
      obtain ⟨b, off, rfl, hl⟩ := HS.out.at_ (by omega)
      have hl2 := hl.below HB.out
      obtain ⟨y, hy⟩ : ∃ y, l[k] = y := ⟨_, rfl⟩
      have c0 := hl2.c k y (by rw [List.getElem?_eq_getElem hkl, hy]) 0 _ rfl
      rw [Nat.mul_one, Nat.add_zero] at c0
      have cl := hl2.lt
      have HY := Lib.hid hy
      clear hl hl2 hy
      by_cases hyx : y = x
      · have hyb : (y == x) = true := by simpa using hyx
        have HYX := Lib.hid hyx
        clear hyx
        have HF := Lib.hid (show q = true by rw [← HQ.out, List.contains_iff_mem, ← HYX.out, ← HY.out]; exact List.getElem_mem hkl)
        go_wp2
        exact bodyPost_ret (v := .bool true) (by simp [results, Tryz.results112, go_sem]) rfl ⟨by rw [HF.out], HB.out⟩
      · have hyb : (y == x) = false := by simpa using hyx
        have HYX := Lib.hid hyx
        clear hyx
        go_wp2
        go_roundw
        case rel => exact ⟨k + 1, by omega, by go_num, fun i q h => by
          rcases Nat.lt_succ_iff_lt_or_eq.1 h with h | h
          · exact HR.out i q h
          · subst h; rw [HY.out]; exact HYX.out, HB.out⟩
        case measure => simp [intOf]; omega
set_option maxRecDepth 100000 in
set_option maxHeartbeats 6400000 in
theorem Formed_any (t : TR) (way : Int) (As : Option Addr) (k cs : Nat) (s : List Int) (w : World) (h : t.Ok w) (hs' : SAt encI 1 w As k s) (hk : k ≤ 1000000) (hn : t.n ≤ 1000000) :
    Calls Tryz.prog 129 #[t.v, vCt way As k cs] w fun e w' => e = .returned (.bool (formedL t.hs way s)) ∧ Below w.heap.size w w' := by
  have hb0 := ((Below.refl w.heap.size w).alloc (Nat.le_refl _) (.cells #[.slice t.A t.n t.c, .slice t.B t.m t.d] 25)).alloc (by simp) (.cells #[.int .i64 way, .slice As k cs] 93)
  have HPl := Lib.hid (fun (id : Int) (u : World) (hu : Below w.heap.size w u) => Place_any t id u (h.below hu) (by omega))
  obtain ⟨A, n, c, B, m, d, hs, ms⟩ := t
  dsimp only [TR.v] at *
  have t0 := (Blk.new w 25 #[.slice A n c, .slice B m d]).alloc (.cells #[.int .i64 way, .slice As k cs] 93)
  have r0 := Blk.at_new (W := w.alloc (.cells #[.slice A n c, .slice B m d] 25)) (g := w.heap.size + 1) 93 #[.int .i64 way, .slice As k cs] (by simp)
  have HS := Lib.hid hs'
  have HL := Lib.hid hs'.len
  have HF0 := Lib.hid (show formedL hs way s = (decide (way = 1 ∨ way = 2) && (!s.isEmpty && (s.all (fun id => decide (0 ≤ pos hs id)) && upL s))) from rfl)
  clear h hs'
  unfold vCt
  go_enter Tryz.func129, Tryz.ntmps129
  go_upto_region 1 with fail
  generalize hW : (w.alloc (.cells #[.slice A n c, .slice B m d] 25)).alloc (.cells #[.int .i64 way, .slice As k cs] 93) = W at *
  clear hW
  have HT := Lib.hid t0
  have HR := Lib.hid r0
  have HB0 := Lib.hid hb0
  have z0 := r0.cell 0
  have z1 := r0.cell 1
  simp only [List.getElem?_toArray, List.getElem?_cons_zero, List.getElem?_cons_succ] at z0 z1
  have zl := r0.lt
  clear t0 r0 hb0
  by_cases hway : way = 1 ∨ way = 2
  case neg =>
    have h1b : (way == 1) = false := by simp; omega
    have h2b : (way == 2) = false := by simp; omega
    have HWy := Lib.hid hway
    clear hway
    go_wp2
    exact bodyPost_ret (v := .bool false) (by simp [results, Tryz.results129, go_sem]) rfl ⟨by rw [HF0.out, decide_eq_false HWy.out]; rfl, HB0.out⟩
  case pos =>
  have HWy := Lib.hid hway
  by_cases hw : way = 1
  case pos =>
    clear hway
    have h1b : (way == 1) = true := by simpa using hw
    have HF := Lib.hid (show formedL hs way s = (!s.isEmpty && (s.all (fun id => decide (0 ≤ pos hs id)) && upL s)) by rw [HF0.out, decide_eq_true HWy.out, Bool.true_and])
    clear hw
    rcases Nat.eq_zero_or_pos k with hk0 | hk0
    · subst hk0
      have HE := Lib.hid (show s.isEmpty = true by rw [List.isEmpty_iff]; exact List.eq_nil_of_length_eq_zero HL.out)
      go_wp2
      exact bodyPost_ret (v := .bool false) (by simp [results, Tryz.results129, go_sem]) rfl ⟨by rw [HF.out, HE.out]; rfl, HB0.out⟩
    have HE := Lib.hid (show s.isEmpty = false by rw [List.isEmpty_eq_false_iff]; intro c; have := HL.out; rw [c] at this; simp at this; omega)
    have hk0b : ((k : Int) == 0) = false := by simp; omega
    go_wp2
    go_loopw [6] (fun i wx => ∃ j : Nat, j ≤ k ∧ i = .int .i64 (j : Int) ∧ (∀ i (hi : i < s.length), i < j → 0 ≤ pos hs s[i] ∧ ∀ h0 : 0 < i, s[i - 1] < s[i]) ∧ Below W.heap.size W wx) (fun i _ => k - (intOf i).toNat)
    case atStart => exact ⟨0, Nat.zero_le _, rfl, fun i _ h => absurd h (Nat.not_lt_zero _), Below.refl _ _⟩
    case round =>
      obtain ⟨j, hj, rfl, hq, hb⟩ := hrel
      have HQ := Lib.hid hq
      have HB := Lib.hid (HB0.out.trans (hb.mono HB0.out.size))
      have HBW := Lib.hid hb
      have q1 := HT.out.below hb
      have q2 := HR.out.below hb
      have y0 := q1.cell 0
      have y1 := q1.cell 1
      have x0 := q2.cell 0
      have x1 := q2.cell 1
      simp only [List.getElem?_toArray, List.getElem?_cons_zero, List.getElem?_cons_succ] at y0 y1 x0 x1
      have yl := q1.lt
      have xl := q2.lt
      clear hq hb q1 q2 z0 z1 zl
      by_cases hjk : j < k
      case neg =>
        have HF2 := Lib.hid (show formedL hs way s = true by rw [formed_true (hs := hs) (s := s) way fun i hi => HQ.out i hi (by have := HL.out; omega), decide_eq_true HWy.out, HE.out]; rfl)
        go_wp2
        exact bodyPost_ret (v := .bool true) (by simp [results, Tryz.results129, go_sem]) rfl ⟨by rw [HF2.out], HB.out⟩
      case pos =>
        have hjs : j < s.length := by rw [HL.out]; exact hjk
        obtain ⟨b, off, rfl, hl⟩ := HS.out.at_ (by omega)
        have hl2 := hl.below HB.out
        obtain ⟨x, hx⟩ : ∃ x, s[j] = x := ⟨_, rfl⟩
        have c0 := hl2.c j x (by rw [List.getElem?_eq_getElem hjs, hx]) 0 _ rfl
        rw [Nat.mul_one, Nat.add_zero] at c0
        have cl := hl2.lt
        have HLl := Lib.hid hl2
        have HX := Lib.hid hx
        have HPx := Lib.hid (fun (u : World) (hu : Below wr.heap.size wr u) => HPl.out x u (HB.out.trans (hu.mono HB.out.size)))
        obtain ⟨p, hp⟩ : ∃ p, pos hs x = p := ⟨_, rfl⟩
        rw [hp] at HPx
        have HP := Lib.hid hp
        clear hl hl2 hx hp
        obtain ⟨xc, xf'⟩ := xcell (W := wr)
        by_cases hpn : p < 0
        · have hpd : decide (p < 0) = true := decide_eq_true hpn
          go_upto_region 7 with fail
          refine wp_region_quiet_tail 26 (by kernel_rfl) (by kernel_rfl) ?_
          simp only [List.take_succ_cons, List.take_zero, List.drop_succ_cons, List.drop_zero]
          repeat (first | go_big_quiet_step ((go_at_call 94; with_reducible refine calls_ext (HPx.out _ ?_); exact Ext.below _)) | quiet_step ((go_at_call 94; with_reducible refine calls_ext (HPx.out _ ?_); exact Ext.below _)))
          refine wpQuiet_nil ?_
          intro w2 hb2
          go_wp2
          exact bodyPost_ret (v := .bool false) (by simp [results, Tryz.results129, go_sem]) rfl ⟨by rw [formed_pos way hjs (by rw [HX.out, HP.out]; exact hpn)], HB.out.trans (hb2.mono HB.out.size)⟩
        have hpd : decide (p < 0) = false := decide_eq_false hpn
        have HPn := Lib.hid (show 0 ≤ p by omega)
        rcases Nat.eq_zero_or_pos j with hj0 | hj0
        · subst hj0
          rw [Nat.add_zero] at c0
          go_upto_region 7 with fail
          refine wp_region_quiet_tail 26 (by kernel_rfl) (by kernel_rfl) ?_
          simp only [List.take_succ_cons, List.take_zero, List.drop_succ_cons, List.drop_zero]
          repeat (first | go_big_quiet_step ((go_at_call 94; with_reducible refine calls_ext (HPx.out _ ?_); exact Ext.below _)) | quiet_step ((go_at_call 94; with_reducible refine calls_ext (HPx.out _ ?_); exact Ext.below _)))
          refine wpQuiet_nil ?_
          intro w2 hb2
          go_wp2
          go_roundw
          case rel =>
            refine ⟨0 + 1, by omega, by go_num, fun i hi h => ?_, HBW.out.trans (hb2.mono HBW.out.size)⟩
            obtain rfl : i = 0 := by omega
            exact ⟨by rw [HX.out, HP.out]; exact HPn.out, fun h => absurd h (by omega)⟩
          case measure => simp [intOf]; omega
        · have hj2 : (0 : Int) < (j : Int) := by omega
          have hj3 : decide ((0 : Int) < (j : Int)) = true := decide_eq_true hj2
          have hjs1 : j - 1 < s.length := by omega
          obtain ⟨y, hy⟩ : ∃ y, s[j - 1] = y := ⟨_, rfl⟩
          have c1 := HLl.out.c (j - 1) y (by rw [List.getElem?_eq_getElem hjs1, hy]) 0 _ rfl
          rw [Nat.mul_one, Nat.add_zero] at c1
          have HY := Lib.hid hy
          have hmx : max (0 : Int) ((j : Int) - 1) = (j : Int) - 1 := by omega
          by_cases hxy : x ≤ y
          · have hxd : decide (x ≤ y) = true := decide_eq_true hxy
            go_upto_region 7 with fail
            refine wp_region_quiet_tail 26 (by kernel_rfl) (by kernel_rfl) ?_
            simp only [List.take_succ_cons, List.take_zero, List.drop_succ_cons, List.drop_zero]
            repeat (first | go_big_quiet_step ((go_at_call 94; with_reducible refine calls_ext (HPx.out _ ?_); exact Ext.below _)) | quiet_step ((go_at_call 94; with_reducible refine calls_ext (HPx.out _ ?_); exact Ext.below _)))
            refine wpQuiet_nil ?_
            intro w2 hb2
            go_wp2
            exact bodyPost_ret (v := .bool false) (by simp [results, Tryz.results129, go_sem]) rfl ⟨by rw [formed_up way (i := j - 1) (by omega) (by rw [HY.out]; simp only [show j - 1 + 1 = j by omega]; rw [HX.out]; exact hxy)], HB.out.trans (hb2.mono HB.out.size)⟩
          · have hxd : decide (x ≤ y) = false := decide_eq_false hxy
            go_upto_region 7 with fail
            refine wp_region_quiet_tail 26 (by kernel_rfl) (by kernel_rfl) ?_
            simp only [List.take_succ_cons, List.take_zero, List.drop_succ_cons, List.drop_zero]
            repeat (first | go_big_quiet_step ((go_at_call 94; with_reducible refine calls_ext (HPx.out _ ?_); exact Ext.below _)) | quiet_step ((go_at_call 94; with_reducible refine calls_ext (HPx.out _ ?_); exact Ext.below _)))
            refine wpQuiet_nil ?_
            intro w2 hb2
            go_wp2
            go_roundw
            case rel =>
              refine ⟨j + 1, by omega, by go_num, fun i hi h => ?_, HBW.out.trans (hb2.mono HBW.out.size)⟩
              rcases Nat.lt_succ_iff_lt_or_eq.1 h with h | h
              · exact HQ.out i hi h
              · subst h; exact ⟨by rw [HX.out, HP.out]; exact HPn.out, fun _ => by rw [HX.out, HY.out]; omega⟩
            case measure => simp [intOf]; omega
  case neg =>
    have h1b : (way == 1) = false := by simpa using hw
    have h2b : (way == 2) = true := by simp; omega
    have HF := Lib.hid (show formedL hs way s = (!s.isEmpty && (s.all (fun id => decide (0 ≤ pos hs id)) && upL s)) by rw [HF0.out, decide_eq_true HWy.out, Bool.true_and])
    clear hw
    rcases Nat.eq_zero_or_pos k with hk0 | hk0
    · subst hk0
      have HE := Lib.hid (show s.isEmpty = true by rw [List.isEmpty_iff]; exact List.eq_nil_of_length_eq_zero HL.out)
      go_wp2
      exact bodyPost_ret (v := .bool false) (by simp [results, Tryz.results129, go_sem]) rfl ⟨by rw [HF.out, HE.out]; rfl, HB0.out⟩
    have HE := Lib.hid (show s.isEmpty = false by rw [List.isEmpty_eq_false_iff]; intro c; have := HL.out; rw [c] at this; simp at this; omega)
    have hk0b : ((k : Int) == 0) = false := by simp; omega
    go_wp2
    go_loopw [6] (fun i wx => ∃ j : Nat, j ≤ k ∧ i = .int .i64 (j : Int) ∧ (∀ i (hi : i < s.length), i < j → 0 ≤ pos hs s[i] ∧ ∀ h0 : 0 < i, s[i - 1] < s[i]) ∧ Below W.heap.size W wx) (fun i _ => k - (intOf i).toNat)
    case atStart => exact ⟨0, Nat.zero_le _, rfl, fun i _ h => absurd h (Nat.not_lt_zero _), Below.refl _ _⟩
    case round =>
      obtain ⟨j, hj, rfl, hq, hb⟩ := hrel
      have HQ := Lib.hid hq
      have HB := Lib.hid (HB0.out.trans (hb.mono HB0.out.size))
      have HBW := Lib.hid hb
      have q1 := HT.out.below hb
      have q2 := HR.out.below hb
      have y0 := q1.cell 0
      have y1 := q1.cell 1
      have x0 := q2.cell 0
      have x1 := q2.cell 1
      simp only [List.getElem?_toArray, List.getElem?_cons_zero, List.getElem?_cons_succ] at y0 y1 x0 x1
      have yl := q1.lt
      have xl := q2.lt
      clear hq hb q1 q2 z0 z1 zl
      by_cases hjk : j < k
      case neg =>
        have HF2 := Lib.hid (show formedL hs way s = true by rw [formed_true (hs := hs) (s := s) way fun i hi => HQ.out i hi (by have := HL.out; omega), decide_eq_true HWy.out, HE.out]; rfl)
        go_wp2
        exact bodyPost_ret (v := .bool true) (by simp [results, Tryz.results129, go_sem]) rfl ⟨by rw [HF2.out], HB.out⟩
      case pos =>
        have hjs : j < s.length := by rw [HL.out]; exact hjk
        obtain ⟨b, off, rfl, hl⟩ := HS.out.at_ (by omega)
        have hl2 := hl.below HB.out
        obtain ⟨x, hx⟩ : ∃ x, s[j] = x := ⟨_, rfl⟩
        have c0 := hl2.c j x (by rw [List.getElem?_eq_getElem hjs, hx]) 0 _ rfl
        rw [Nat.mul_one, Nat.add_zero] at c0
        have cl := hl2.lt
        have HLl := Lib.hid hl2
        have HX := Lib.hid hx
        have HPx := Lib.hid (fun (u : World) (hu : Below wr.heap.size wr u) => HPl.out x u (HB.out.trans (hu.mono HB.out.size)))
        obtain ⟨p, hp⟩ : ∃ p, pos hs x = p := ⟨_, rfl⟩
        rw [hp] at HPx
        have HP := Lib.hid hp
        clear hl hl2 hx hp
        obtain ⟨xc, xf'⟩ := xcell (W := wr)
        by_cases hpn : p < 0
        · have hpd : decide (p < 0) = true := decide_eq_true hpn
          go_upto_region 7 with fail
          refine wp_region_quiet_tail 26 (by kernel_rfl) (by kernel_rfl) ?_
          simp only [List.take_succ_cons, List.take_zero, List.drop_succ_cons, List.drop_zero]
          repeat (first | go_big_quiet_step ((go_at_call 94; with_reducible refine calls_ext (HPx.out _ ?_); exact Ext.below _)) | quiet_step ((go_at_call 94; with_reducible refine calls_ext (HPx.out _ ?_); exact Ext.below _)))
          refine wpQuiet_nil ?_
          intro w2 hb2
          go_wp2
          exact bodyPost_ret (v := .bool false) (by simp [results, Tryz.results129, go_sem]) rfl ⟨by rw [formed_pos way hjs (by rw [HX.out, HP.out]; exact hpn)], HB.out.trans (hb2.mono HB.out.size)⟩
        have hpd : decide (p < 0) = false := decide_eq_false hpn
        have HPn := Lib.hid (show 0 ≤ p by omega)
        rcases Nat.eq_zero_or_pos j with hj0 | hj0
        · subst hj0
          rw [Nat.add_zero] at c0
          go_upto_region 7 with fail
          refine wp_region_quiet_tail 26 (by kernel_rfl) (by kernel_rfl) ?_
          simp only [List.take_succ_cons, List.take_zero, List.drop_succ_cons, List.drop_zero]
          repeat (first | go_big_quiet_step ((go_at_call 94; with_reducible refine calls_ext (HPx.out _ ?_); exact Ext.below _)) | quiet_step ((go_at_call 94; with_reducible refine calls_ext (HPx.out _ ?_); exact Ext.below _)))
          refine wpQuiet_nil ?_
          intro w2 hb2
          go_wp2
          go_roundw
          case rel =>
            refine ⟨0 + 1, by omega, by go_num, fun i hi h => ?_, HBW.out.trans (hb2.mono HBW.out.size)⟩
            obtain rfl : i = 0 := by omega
            exact ⟨by rw [HX.out, HP.out]; exact HPn.out, fun h => absurd h (by omega)⟩
          case measure => simp [intOf]; omega
        · have hj2 : (0 : Int) < (j : Int) := by omega
          have hj3 : decide ((0 : Int) < (j : Int)) = true := decide_eq_true hj2
          have hjs1 : j - 1 < s.length := by omega
          obtain ⟨y, hy⟩ : ∃ y, s[j - 1] = y := ⟨_, rfl⟩
          have c1 := HLl.out.c (j - 1) y (by rw [List.getElem?_eq_getElem hjs1, hy]) 0 _ rfl
          rw [Nat.mul_one, Nat.add_zero] at c1
          have HY := Lib.hid hy
          have hmx : max (0 : Int) ((j : Int) - 1) = (j : Int) - 1 := by omega
          by_cases hxy : x ≤ y
          · have hxd : decide (x ≤ y) = true := decide_eq_true hxy
            go_upto_region 7 with fail
            refine wp_region_quiet_tail 26 (by kernel_rfl) (by kernel_rfl) ?_
            simp only [List.take_succ_cons, List.take_zero, List.drop_succ_cons, List.drop_zero]
            repeat (first | go_big_quiet_step ((go_at_call 94; with_reducible refine calls_ext (HPx.out _ ?_); exact Ext.below _)) | quiet_step ((go_at_call 94; with_reducible refine calls_ext (HPx.out _ ?_); exact Ext.below _)))
            refine wpQuiet_nil ?_
            intro w2 hb2
            go_wp2
            exact bodyPost_ret (v := .bool false) (by simp [results, Tryz.results129, go_sem]) rfl ⟨by rw [formed_up way (i := j - 1) (by omega) (by rw [HY.out]; simp only [show j - 1 + 1 = j by omega]; rw [HX.out]; exact hxy)], HB.out.trans (hb2.mono HB.out.size)⟩
          · have hxd : decide (x ≤ y) = false := decide_eq_false hxy
            go_upto_region 7 with fail
            refine wp_region_quiet_tail 26 (by kernel_rfl) (by kernel_rfl) ?_
            simp only [List.take_succ_cons, List.take_zero, List.drop_succ_cons, List.drop_zero]
            repeat (first | go_big_quiet_step ((go_at_call 94; with_reducible refine calls_ext (HPx.out _ ?_); exact Ext.below _)) | quiet_step ((go_at_call 94; with_reducible refine calls_ext (HPx.out _ ?_); exact Ext.below _)))
            refine wpQuiet_nil ?_
            intro w2 hb2
            go_wp2
            go_roundw
            case rel =>
              refine ⟨j + 1, by omega, by go_num, fun i hi h => ?_, HBW.out.trans (hb2.mono HBW.out.size)⟩
              rcases Nat.lt_succ_iff_lt_or_eq.1 h with h | h
              · exact HQ.out i hi h
              · subst h; exact ⟨by rw [HX.out, HP.out]; exact HPn.out, fun _ => by rw [HX.out, HY.out]; omega⟩
            case measure => simp [intOf]; omega
end Go.Proofs.YtighfmgkoepfkaaGreat

namespace Go.Proofs.YtighfmgkoepfkaaGreat
open Go.RowKit

theorem blk_set4 {W : World} {g : Nat} {t : TypeId} {p q r s : Value} (h : Blk W g t #[p, q, r, s]) (a b c d : Value) :
    Blk ((((W.setCell ⟨g, 0, none⟩ a).setCell ⟨g, 1, none⟩ b).setCell ⟨g, 2, none⟩ c).setCell ⟨g, 3, none⟩ d) g t #[a, b, c, d] := by
  have := (((h.set_ 0 a).set_ 1 b).set_ 2 c).set_ 3 d
  simpa using this
theorem blk_set01 {W : World} {g : Nat} {t : TypeId} {p q r s : Value} (h : Blk W g t #[p, q, r, s]) (a b : Value) :
    Blk ((W.setCell ⟨g, 0, none⟩ a).setCell ⟨g, 1, none⟩ b) g t #[a, b, r, s] := by
  have := (h.set_ 0 a).set_ 1 b
  simpa using this
theorem blk_set23 {W : World} {g : Nat} {t : TypeId} {p q r s : Value} (h : Blk W g t #[p, q, r, s]) (a b : Value) :
    Blk ((W.setCell ⟨g, 2, none⟩ a).setCell ⟨g, 3, none⟩ b) g t #[p, q, a, b] := by
  have := (h.set_ 2 a).set_ 3 b
  simpa using this
theorem far4 {W : World} {g g' : Nat} {t : TypeId} {vs : Array Value} (h : Blk W g t vs) (hg : g ≠ g') (a b c d : Value) :
    Blk ((((W.setCell ⟨g', 0, none⟩ a).setCell ⟨g', 1, none⟩ b).setCell ⟨g', 2, none⟩ c).setCell ⟨g', 3, none⟩ d) g t vs :=
  (((h.far (p := ⟨g', 0, none⟩) hg _).far (p := ⟨g', 1, none⟩) hg _).far (p := ⟨g', 2, none⟩) hg _).far (p := ⟨g', 3, none⟩) hg _
theorem far01 {W : World} {g g' : Nat} {t : TypeId} {vs : Array Value} (h : Blk W g t vs) (hg : g ≠ g') (a b : Value) :
    Blk ((W.setCell ⟨g', 0, none⟩ a).setCell ⟨g', 1, none⟩ b) g t vs := (h.far (p := ⟨g', 0, none⟩) hg _).far (p := ⟨g', 1, none⟩) hg _
theorem far23 {W : World} {g g' : Nat} {t : TypeId} {vs : Array Value} (h : Blk W g t vs) (hg : g ≠ g') (a b : Value) :
    Blk ((W.setCell ⟨g', 2, none⟩ a).setCell ⟨g', 3, none⟩ b) g t vs := (h.far (p := ⟨g', 2, none⟩) hg _).far (p := ⟨g', 3, none⟩) hg _
theorem below_set4 {B : Nat} {w W : World} {g : Nat} (h : Below B w W) (hg : B ≤ g) (a b c d : Value) :
    Below B w ((((W.setCell ⟨g, 0, none⟩ a).setCell ⟨g, 1, none⟩ b).setCell ⟨g, 2, none⟩ c).setCell ⟨g, 3, none⟩ d) :=
  (((h.setCell (p := ⟨g, 0, none⟩) hg a).setCell (p := ⟨g, 1, none⟩) hg b).setCell (p := ⟨g, 2, none⟩) hg c).setCell (p := ⟨g, 3, none⟩) hg d
theorem below_set01 {B : Nat} {w W : World} {g : Nat} (h : Below B w W) (hg : B ≤ g) (a b : Value) :
    Below B w ((W.setCell ⟨g, 0, none⟩ a).setCell ⟨g, 1, none⟩ b) := (h.setCell (p := ⟨g, 0, none⟩) hg a).setCell (p := ⟨g, 1, none⟩) hg b
theorem below_set23 {B : Nat} {w W : World} {g : Nat} (h : Below B w W) (hg : B ≤ g) (a b : Value) :
    Below B w ((W.setCell ⟨g, 2, none⟩ a).setCell ⟨g, 3, none⟩ b) := (h.setCell (p := ⟨g, 2, none⟩) hg a).setCell (p := ⟨g, 3, none⟩) hg b
def hF (s : List Int) (f : Hd → Int) (h : Hd) : Int := if s.contains h.id = true then f h else 0
def mF (s : List Int) (o : Bool) (f : Mv → Int) (m : Mv) : Int := if s.contains m.fr = o ∧ s.contains m.to = !o then f m else 0
theorem hF_bound (s : List Int) (f : Hd → Int) (hs : List Hd) (hn : hs.length ≤ 9) (hb : ∀ h ∈ hs, 0 ≤ f h ∧ f h ≤ 65536) (k : Nat) : -589824 ≤ isum ((hs.take k).map (hF s f)) ∧ isum ((hs.take k).map (hF s f)) ≤ 589824 := by
  have := isum_bound (hF s f) 65536 (hs.take k) fun x hx => by
    have := hb x (List.mem_of_mem_take hx)
    unfold hF
    split <;> omega
  have : (hs.take k).length ≤ hs.length := by rw [List.length_take]; omega
  omega
theorem mF_bound (s : List Int) (o : Bool) (f : Mv → Int) (ms : List Mv) (hn : ms.length ≤ 24) (hb : ∀ m ∈ ms, 0 ≤ f m ∧ f m ≤ 65536) (k : Nat) : -1572864 ≤ isum ((ms.take k).map (mF s o f)) ∧ isum ((ms.take k).map (mF s o f)) ≤ 1572864 := by
  have := isum_bound (mF s o f) 65536 (ms.take k) fun x hx => by
    have := hb x (List.mem_of_mem_take hx)
    unfold mF
    split <;> omega
  have : (ms.take k).length ≤ ms.length := by rw [List.length_take]; omega
  omega
/-- What goes through, as it lies. -/
def vFl (hs : List Hd) (ms : List Mv) (s : List Int) : Value := .agg #[.int .i64 (outLo hs ms s), .int .i64 (outHi hs ms s), .int .i64 (inLo hs ms s), .int .i64 (inHi hs ms s)]
set_option maxRecDepth 100000 in
set_option maxHeartbeats 12800000 in
theorem flows_any (t : TR) (As : Option Addr) (k cs : Nat) (s : List Int) (w : World) (h : t.Ok w) (hs' : SAt encI 1 w As k s) (hk : k ≤ 1000000) (hv : TV t.hs t.ms) :
    Calls Tryz.prog 85 #[t.v, .slice As k cs] w fun e w' => e = .returned (vFl t.hs t.ms s) ∧ Below w.heap.size w w' := by
  have hb0 := (((Below.refl w.heap.size w).alloc (Nat.le_refl _) (.cells #[.slice t.A t.n t.c, .slice t.B t.m t.d] 25)).alloc (by simp) (.cells #[.int .i64 0, .int .i64 0, .int .i64 0, .int .i64 0] 149)).alloc (by simp; omega) (.cells #[.int .i64 0, .int .i64 0, .int .i64 0, .int .i64 0] 149)
  have HIn := Lib.hid (fun (x : Int) (u : World) (hu : Below w.heap.size w u) => in_any As k cs s x u (hs'.below hu) hk)
  obtain ⟨A, n, c, B, m, d, hs, ms⟩ := t
  dsimp only [TR.v] at *
  have t0 := ((Blk.new w 25 #[.slice A n c, .slice B m d]).alloc (.cells #[.int .i64 0, .int .i64 0, .int .i64 0, .int .i64 0] 149)).alloc (.cells #[.int .i64 0, .int .i64 0, .int .i64 0, .int .i64 0] 149)
  have r0 := (Blk.at_new (W := w.alloc (.cells #[.slice A n c, .slice B m d] 25)) (g := w.heap.size + 1) 149 #[.int .i64 0, .int .i64 0, .int .i64 0, .int .i64 0] (by simp)).alloc (.cells #[.int .i64 0, .int .i64 0, .int .i64 0, .int .i64 0] 149)
  have f0 := Blk.at_new (W := (w.alloc (.cells #[.slice A n c, .slice B m d] 25)).alloc (.cells #[.int .i64 0, .int .i64 0, .int .i64 0, .int .i64 0] 149)) (g := w.heap.size + 1 + 1) 149 #[.int .i64 0, .int .i64 0, .int .i64 0, .int .i64 0] (by simp)
  have HOk := Lib.hid h
  have HV := Lib.hid hv
  have HLh := Lib.hid (show hs.length = n from h.h.len)
  have HLm := Lib.hid (show ms.length = m from h.m.len)
  have hn9 : n ≤ 9 := by rw [← HLh.out]; exact hv.lenH
  have hm24 : m ≤ 24 := by rw [← HLm.out]; exact hv.lenM
  have HRes := Lib.hid (show vFl hs ms s = .agg #[.int .i64 (isum (hs.map (hF s Hd.el)) + isum (ms.map (mF s true Mv.lo))), .int .i64 (isum (hs.map (hF s Hd.eh)) + isum (ms.map (mF s true Mv.hi))), .int .i64 (isum (hs.map (hF s Hd.sl)) + isum (ms.map (mF s false Mv.lo))), .int .i64 (isum (hs.map (hF s Hd.sh)) + isum (ms.map (mF s false Mv.hi)))] from rfl)
  generalize vFl hs ms s = res at *
  clear h hs' hv
  go_enter Tryz.func85, Tryz.ntmps85
  go_upto_region 2 with fail
  generalize hW : ((w.alloc (.cells #[.slice A n c, .slice B m d] 25)).alloc (.cells #[.int .i64 0, .int .i64 0, .int .i64 0, .int .i64 0] 149)).alloc (.cells #[.int .i64 0, .int .i64 0, .int .i64 0, .int .i64 0] 149) = W at *
  clear hW
  have HT := Lib.hid t0
  have HR := Lib.hid r0
  have HF := Lib.hid f0
  have HB0 := Lib.hid hb0
  clear t0 r0 f0 hb0
  go_wp2
  go_loopw [6, 7, 8] (fun i _ _ wx => ∃ (j : Nat) (X0 X1 X2 X3 : Int), j ≤ n ∧ i = .int .i64 (j : Int) ∧ X0 = isum ((hs.take j).map (hF s Hd.el)) ∧ X1 = isum ((hs.take j).map (hF s Hd.eh)) ∧ X2 = isum ((hs.take j).map (hF s Hd.sl)) ∧ X3 = isum ((hs.take j).map (hF s Hd.sh)) ∧
    Blk wx w.heap.size 25 #[.slice A n c, .slice B m d] ∧ Blk wx (w.heap.size + 1) 149 #[.int .i64 0, .int .i64 0, .int .i64 0, .int .i64 0] ∧ Blk wx (w.heap.size + 1 + 1) 149 #[.int .i64 X0, .int .i64 X1, .int .i64 X2, .int .i64 X3] ∧ Below w.heap.size w wx) (fun i _ _ _ => n - (intOf i).toNat)
  case atStart => exact ⟨0, 0, 0, 0, 0, Nat.zero_le _, rfl, rfl, rfl, rfl, rfl, HT.out, HR.out, HF.out, HB0.out⟩
  case round =>
    obtain ⟨j, X0, X1, X2, X3, hj, rfl, hX0, hX1, hX2, hX3, q1, q2, q3, hb⟩ := hrel
    have HX0 := Lib.hid hX0
    have HX1 := Lib.hid hX1
    have HX2 := Lib.hid hX2
    have HX3 := Lib.hid hX3
    have HB := Lib.hid hb
    have HQT := Lib.hid q1
    have HQR := Lib.hid q2
    have HQF := Lib.hid q3
    have g0 : -589824 ≤ X0 ∧ X0 ≤ 589824 := by rw [hX0]; exact hF_bound s _ hs HV.out.lenH (fun x hx => by have := HV.out.hd_bound hx; omega) j
    have g1 : -589824 ≤ X1 ∧ X1 ≤ 589824 := by rw [hX1]; exact hF_bound s _ hs HV.out.lenH (fun x hx => by have := HV.out.hd_bound hx; omega) j
    have g2 : -589824 ≤ X2 ∧ X2 ≤ 589824 := by rw [hX2]; exact hF_bound s _ hs HV.out.lenH (fun x hx => by have := HV.out.hd_bound hx; omega) j
    have g3 : -589824 ≤ X3 ∧ X3 ≤ 589824 := by rw [hX3]; exact hF_bound s _ hs HV.out.lenH (fun x hx => by have := HV.out.hd_bound hx; omega) j
    obtain ⟨g00, g01⟩ := g0
    obtain ⟨g10, g11⟩ := g1
    obtain ⟨g20, g21⟩ := g2
    obtain ⟨g30, g31⟩ := g3
    have y0 := q1.cell 0
    have y1 := q1.cell 1
    simp only [List.getElem?_toArray, List.getElem?_cons_zero, List.getElem?_cons_succ] at y0 y1
    have yl := q1.lt
    clear hb q1 q2 q3 hX0 hX1 hX2 hX3
    by_cases hjk : j < n
    case neg =>
      have hjj : j = n := by omega
      subst hjj
      have HEt := Lib.hid (show hs.take j = hs by rw [List.take_of_length_le (by rw [HLh.out]; exact Nat.le_refl _)])
      go_wp2
      go_loopw [9, 10, 11, 12] (fun i _ _ _ wx => ∃ (e : Nat) (Y0 Y1 Y2 Y3 : Int), e ≤ m ∧ i = .int .i64 (e : Int) ∧ Y0 = X0 + isum ((ms.take e).map (mF s true Mv.lo)) ∧ Y1 = X1 + isum ((ms.take e).map (mF s true Mv.hi)) ∧ Y2 = X2 + isum ((ms.take e).map (mF s false Mv.lo)) ∧ Y3 = X3 + isum ((ms.take e).map (mF s false Mv.hi)) ∧
        Blk wx w.heap.size 25 #[.slice A j c, .slice B m d] ∧ Blk wx (w.heap.size + 1) 149 #[.int .i64 0, .int .i64 0, .int .i64 0, .int .i64 0] ∧ Blk wx (w.heap.size + 1 + 1) 149 #[.int .i64 Y0, .int .i64 Y1, .int .i64 Y2, .int .i64 Y3] ∧ Below w.heap.size w wx) (fun i _ _ _ _ => m - (intOf i).toNat)
      case atStart => exact ⟨0, X0, X1, X2, X3, Nat.zero_le _, rfl, (Int.add_zero _).symm, (Int.add_zero _).symm, (Int.add_zero _).symm, (Int.add_zero _).symm, HQT.out, HQR.out, HQF.out, HB.out⟩
      case round =>
        obtain ⟨i, Y0, Y1, Y2, Y3, hi, rfl, hY0, hY1, hY2, hY3, q1, q2, q3, hb⟩ := hrel
        have HY0 := Lib.hid hY0
        have HY1 := Lib.hid hY1
        have HY2 := Lib.hid hY2
        have HY3 := Lib.hid hY3
        have HB2 := Lib.hid hb
        have HQT2 := Lib.hid q1
        have HQR2 := Lib.hid q2
        have HQF2 := Lib.hid q3
        have k0 : -2162688 ≤ Y0 ∧ Y0 ≤ 2162688 := by have := mF_bound s true Mv.lo ms HV.out.lenM (fun x hx => by have := HV.out.mv_bound hx; omega) i; omega
        have k1 : -2162688 ≤ Y1 ∧ Y1 ≤ 2162688 := by have := mF_bound s true Mv.hi ms HV.out.lenM (fun x hx => by have := HV.out.mv_bound hx; omega) i; omega
        have k2 : -2162688 ≤ Y2 ∧ Y2 ≤ 2162688 := by have := mF_bound s false Mv.lo ms HV.out.lenM (fun x hx => by have := HV.out.mv_bound hx; omega) i; omega
        have k3 : -2162688 ≤ Y3 ∧ Y3 ≤ 2162688 := by have := mF_bound s false Mv.hi ms HV.out.lenM (fun x hx => by have := HV.out.mv_bound hx; omega) i; omega
        obtain ⟨k00, k01⟩ := k0
        obtain ⟨k10, k11⟩ := k1
        obtain ⟨k20, k21⟩ := k2
        obtain ⟨k30, k31⟩ := k3
        have z0 := q1.cell 0
        have z1 := q1.cell 1
        simp only [List.getElem?_toArray, List.getElem?_cons_zero, List.getElem?_cons_succ] at z0 z1
        have zl := q1.lt
        clear hb q1 q2 q3 hY0 hY1 hY2 hY3 y0 y1 yl
        by_cases hjk : i < m
        case neg =>
          have hjj : i = m := by omega
          subst hjj
          have HEm := Lib.hid (show ms.take i = ms by rw [List.take_of_length_le (by rw [HLm.out]; exact Nat.le_refl _)])
          have u0 := HQF2.out.cell 0
          have u1 := HQF2.out.cell 1
          have u2 := HQF2.out.cell 2
          have u3 := HQF2.out.cell 3
          have ul := HQF2.out.lt
          have r0 := HQR2.out.cell 0
          have r1 := HQR2.out.cell 1
          have r2 := HQR2.out.cell 2
          have r3 := HQR2.out.cell 3
          have rl := HQR2.out.lt
          have v0 := HQR2.out.frozen 0
          have v1 := HQR2.out.frozen 1
          have v2 := HQR2.out.frozen 2
          have v3 := HQR2.out.frozen 3
          simp only [List.getElem?_toArray, List.getElem?_cons_zero, List.getElem?_cons_succ] at u0 u1 u2 u3 r0 r1 r2 r3
          go_wp2
          have hf := blk_set4 HQR2.out (.int .i64 Y0) (.int .i64 Y1) (.int .i64 Y2) (.int .i64 Y3)
          have a0 := hf.cell 0
          have a1 := hf.cell 1
          have a2 := hf.cell 2
          have a3 := hf.cell 3
          simp only [List.getElem?_toArray, List.getElem?_cons_zero, List.getElem?_cons_succ] at a0 a1 a2 a3
          exact bodyPost_ret (v := .agg #[.int .i64 Y0, .int .i64 Y1, .int .i64 Y2, .int .i64 Y3]) (by simp [results, Tryz.results85, go_sem, a0, a1, a2, a3]) rfl ⟨by rw [HRes.out, HY0.out, HY1.out, HY2.out, HY3.out, HX0.out, HX1.out, HX2.out, HX3.out, HEt.out, HEm.out], below_set4 HB2.out (by omega) _ _ _ _⟩
        case pos =>
          have hil : i < ms.length := by rw [HLm.out]; exact hjk
          obtain ⟨b, off, rfl, hl⟩ := HOk.out.m.at_ (by dsimp only; omega)
          have hl2 := hl.below HB2.out
          obtain ⟨x0, x1, x2, x3, x4⟩ := Mvs.at_ hl2 (List.getElem?_eq_getElem hil)
          have hlt := hl2.lt
          have HS0 := Lib.hid (isum_take (mF s true Mv.lo) ms hil)
          have HS1 := Lib.hid (isum_take (mF s true Mv.hi) ms hil)
          have HS2 := Lib.hid (isum_take (mF s false Mv.lo) ms hil)
          have HS3 := Lib.hid (isum_take (mF s false Mv.hi) ms hil)
          have hbd := HV.out.mv_bound (List.getElem_mem hil)
          clear hl hl2
          generalize ms[i] = x at *
          obtain ⟨xi, xf, xt, xl, xh⟩ := x
          dsimp only at *
          obtain ⟨b1, b2, b3⟩ := hbd
          have p1 := HQT2.out.alloc (.cells #[.int .i64 xi, .int .i64 xf, .int .i64 xt, .int .i64 xl, .int .i64 xh] 59)
          have p2 := HQR2.out.alloc (.cells #[.int .i64 xi, .int .i64 xf, .int .i64 xt, .int .i64 xl, .int .i64 xh] 59)
          have p3 := HQF2.out.alloc (.cells #[.int .i64 xi, .int .i64 xf, .int .i64 xt, .int .i64 xl, .int .i64 xh] 59)
          have p4 := Blk.new wr 59 #[.int .i64 xi, .int .i64 xf, .int .i64 xt, .int .i64 xl, .int .i64 xh]
          have HW := Lib.hid (HB2.out.alloc HB2.out.size (.cells #[.int .i64 xi, .int .i64 xf, .int .i64 xt, .int .i64 xl, .int .i64 xh] 59))
          have hg8 := HQF2.out.lt
          go_upto_region 16 with fail
          generalize hV : wr.alloc (.cells #[.int .i64 xi, .int .i64 xf, .int .i64 xt, .int .i64 xl, .int .i64 xh] 59) = V at *
          generalize hg : wr.heap.size = g8 at *
          clear hV hg x0 x1 x2 x3 x4 hlt z0 z1 zl
          have x1 := p4.cell 1
          simp only [List.getElem?_toArray, List.getElem?_cons_zero, List.getElem?_cons_succ] at x1
          have xl' := p4.lt
          have HP1 := Lib.hid p1
          have HP2 := Lib.hid p2
          have HP3 := Lib.hid p3
          have HP4 := Lib.hid p4
          have HIf := Lib.hid (fun u hu => HIn.out xf u hu)
          have HIt := Lib.hid (fun u hu => HIn.out xt u hu)
          have HT0 := Lib.hid (show mF s true Mv.lo ⟨xi, xf, xt, xl, xh⟩ = if s.contains xf = true ∧ s.contains xt = !true then xl else 0 from rfl)
          have HT1 := Lib.hid (show mF s true Mv.hi ⟨xi, xf, xt, xl, xh⟩ = if s.contains xf = true ∧ s.contains xt = !true then xh else 0 from rfl)
          have HT2 := Lib.hid (show mF s false Mv.lo ⟨xi, xf, xt, xl, xh⟩ = if s.contains xf = false ∧ s.contains xt = !false then xl else 0 from rfl)
          have HT3 := Lib.hid (show mF s false Mv.hi ⟨xi, xf, xt, xl, xh⟩ = if s.contains xf = false ∧ s.contains xt = !false then xh else 0 from rfl)
          obtain ⟨q, hq⟩ : ∃ q, s.contains xf = q := ⟨_, rfl⟩
          obtain ⟨r, hr⟩ : ∃ r, s.contains xt = r := ⟨_, rfl⟩
          rw [hq, hr] at HT0 HT1 HT2 HT3
          rw [hq] at HIf
          rw [hr] at HIt
          clear p1 p2 p3 p4 hq hr
          go_upto_region 17 with (go_at_call 112; with_reducible refine (HIf.out _ HW.out).mono ?_; rintro e w2 ⟨rfl, hb2⟩)
          have HBD := Lib.hid (HW.out.trans (hb2.mono HW.out.size))
          have Q1 := Lib.hid (HP1.out.below hb2)
          have Q2 := Lib.hid (HP2.out.below hb2)
          have Q3 := Lib.hid (HP3.out.below hb2)
          have Q4 := Lib.hid (HP4.out.below hb2)
          have x2 := Q4.out.cell 2
          simp only [List.getElem?_toArray, List.getElem?_cons_zero, List.getElem?_cons_succ] at x2
          have xl2 := Q4.out.lt
          clear hb2 x1 xl' HP1 HP2 HP3 HP4
          go_upto_region 18 with (go_at_call 112; with_reducible refine (HIt.out _ HBD.out).mono ?_; rintro e w3 ⟨rfl, hb3⟩)
          have R1 := Lib.hid (Q1.out.below hb3)
          have R2 := Lib.hid (Q2.out.below hb3)
          have R3 := Lib.hid (Q3.out.below hb3)
          have R4 := Lib.hid (Q4.out.below hb3)
          have HBE := Lib.hid (HBD.out.trans (hb3.mono HBD.out.size))
          clear Q1 Q2 Q3 Q4 hb3 x2 xl2
          have u0 := R3.out.cell 0
          have u1 := R3.out.cell 1
          have u2 := R3.out.cell 2
          have u3 := R3.out.cell 3
          have v0 := R3.out.frozen 0
          have v1 := R3.out.frozen 1
          have v2 := R3.out.frozen 2
          have v3 := R3.out.frozen 3
          have ul := R3.out.lt
          have h3 := R4.out.cell 3
          have h4 := R4.out.cell 4
          have hl := R4.out.lt
          simp only [List.getElem?_toArray, List.getElem?_cons_zero, List.getElem?_cons_succ] at u0 u1 u2 u3 h3 h4
          have hne : g8 ≠ w.heap.size + 1 + 1 := by omega
          have hne2 : w.heap.size + 1 + 1 ≠ g8 := by omega
          rcases q with _ | _ <;> rcases r with _ | _
          · go_wp2
            go_roundw
            case rel => exact ⟨i + 1, Y0, Y1, Y2, Y3, by omega, by go_num, by rw [HS0.out, HY0.out, HT0.out]; simp, by rw [HS1.out, HY1.out, HT1.out]; simp, by rw [HS2.out, HY2.out, HT2.out]; simp, by rw [HS3.out, HY3.out, HT3.out]; simp, R1.out, R2.out, R3.out, HBE.out⟩
            case measure => simp [intOf]; omega
          · go_wp2
            go_roundw
            case rel => exact ⟨i + 1, Y0, Y1, Y2 + xl, Y3 + xh, by omega, by go_num, by rw [HS0.out, HY0.out, HT0.out]; simp, by rw [HS1.out, HY1.out, HT1.out]; simp, by rw [HS2.out, HY2.out, HT2.out]; simp; omega, by rw [HS3.out, HY3.out, HT3.out]; simp; omega, far23 R1.out (by omega) _ _, far23 R2.out (by omega) _ _, blk_set23 R3.out _ _, below_set23 HBE.out (by omega) _ _⟩
            case measure => simp [intOf]; omega
          · go_wp2
            go_roundw
            case rel => exact ⟨i + 1, Y0 + xl, Y1 + xh, Y2, Y3, by omega, by go_num, by rw [HS0.out, HY0.out, HT0.out]; simp; omega, by rw [HS1.out, HY1.out, HT1.out]; simp; omega, by rw [HS2.out, HY2.out, HT2.out]; simp, by rw [HS3.out, HY3.out, HT3.out]; simp, far01 R1.out (by omega) _ _, far01 R2.out (by omega) _ _, blk_set01 R3.out _ _, below_set01 HBE.out (by omega) _ _⟩
            case measure => simp [intOf]; omega
          · go_wp2
            go_roundw
            case rel => exact ⟨i + 1, Y0, Y1, Y2, Y3, by omega, by go_num, by rw [HS0.out, HY0.out, HT0.out]; simp, by rw [HS1.out, HY1.out, HT1.out]; simp, by rw [HS2.out, HY2.out, HT2.out]; simp, by rw [HS3.out, HY3.out, HT3.out]; simp, R1.out, R2.out, R3.out, HBE.out⟩
            case measure => simp [intOf]; omega
    case pos =>
      have hil : j < hs.length := by rw [HLh.out]; exact hjk
      obtain ⟨b, off, rfl, hl⟩ := HOk.out.h.at_ (by dsimp only; omega)
      have hl2 := hl.below HB.out
      obtain ⟨x0, x1, x2, x3, x4, x5⟩ := Hds.at_ hl2 (List.getElem?_eq_getElem hil)
      have hlt := hl2.lt
      have HS0 := Lib.hid (isum_take (hF s Hd.el) hs hil)
      have HS1 := Lib.hid (isum_take (hF s Hd.eh) hs hil)
      have HS2 := Lib.hid (isum_take (hF s Hd.sl) hs hil)
      have HS3 := Lib.hid (isum_take (hF s Hd.sh) hs hil)
      have hbd := HV.out.hd_bound (List.getElem_mem hil)
      clear hl hl2
      generalize hs[j] = x at *
      obtain ⟨xi, xsl, xsh, xel, xeh, xb⟩ := x
      dsimp only at *
      obtain ⟨b1, b2, b3, b4, b5, b6⟩ := hbd
      have p1 := HQT.out.alloc (.cells #[.int .i64 xi, .int .i64 xsl, .int .i64 xsh, .int .i64 xel, .int .i64 xeh, .int .i64 xb] 118)
      have p2 := HQR.out.alloc (.cells #[.int .i64 xi, .int .i64 xsl, .int .i64 xsh, .int .i64 xel, .int .i64 xeh, .int .i64 xb] 118)
      have p3 := HQF.out.alloc (.cells #[.int .i64 xi, .int .i64 xsl, .int .i64 xsh, .int .i64 xel, .int .i64 xeh, .int .i64 xb] 118)
      have p4 := Blk.new wr 118 #[.int .i64 xi, .int .i64 xsl, .int .i64 xsh, .int .i64 xel, .int .i64 xeh, .int .i64 xb]
      have HW := Lib.hid (HB.out.alloc HB.out.size (.cells #[.int .i64 xi, .int .i64 xsl, .int .i64 xsh, .int .i64 xel, .int .i64 xeh, .int .i64 xb] 118))
      have hg8 := HQF.out.lt
      go_upto_region 6 with fail
      generalize hV : wr.alloc (.cells #[.int .i64 xi, .int .i64 xsl, .int .i64 xsh, .int .i64 xel, .int .i64 xeh, .int .i64 xb] 118) = V at *
      generalize hg : wr.heap.size = g8 at *
      clear hV hg x0 x1 x2 x3 x4 x5 hlt y0 y1 yl
      have x0 := p4.cell 0
      simp only [List.getElem?_toArray, List.getElem?_cons_zero] at x0
      have xl := p4.lt
      have HP1 := Lib.hid p1
      have HP2 := Lib.hid p2
      have HP3 := Lib.hid p3
      have HP4 := Lib.hid p4
      have HI := Lib.hid (HIn.out xi V HW.out)
      have HT0 := Lib.hid (show hF s Hd.el ⟨xi, xsl, xsh, xel, xeh, xb⟩ = if s.contains xi = true then xel else 0 from rfl)
      have HT1 := Lib.hid (show hF s Hd.eh ⟨xi, xsl, xsh, xel, xeh, xb⟩ = if s.contains xi = true then xeh else 0 from rfl)
      have HT2 := Lib.hid (show hF s Hd.sl ⟨xi, xsl, xsh, xel, xeh, xb⟩ = if s.contains xi = true then xsl else 0 from rfl)
      have HT3 := Lib.hid (show hF s Hd.sh ⟨xi, xsl, xsh, xel, xeh, xb⟩ = if s.contains xi = true then xsh else 0 from rfl)
      obtain ⟨q, hq⟩ : ∃ q, s.contains xi = q := ⟨_, rfl⟩
      rw [hq] at HT0 HT1 HT2 HT3 HI
      clear p1 p2 p3 p4 hq
      go_upto_region 7 with (go_at_call 112; with_reducible refine HI.out.mono ?_; rintro e w2 ⟨rfl, hb2⟩)
      have R1 := Lib.hid (HP1.out.below hb2)
      have R2 := Lib.hid (HP2.out.below hb2)
      have R3 := Lib.hid (HP3.out.below hb2)
      have R4 := Lib.hid (HP4.out.below hb2)
      have HBE := Lib.hid (HW.out.trans (hb2.mono HW.out.size))
      clear HP1 HP2 HP3 HP4 hb2 x0 xl
      cases q
      case false =>
        go_wp2
        go_roundw
        case rel => exact ⟨j + 1, X0, X1, X2, X3, by omega, by go_num, by rw [HS0.out, ← HX0.out, HT0.out]; simp, by rw [HS1.out, ← HX1.out, HT1.out]; simp, by rw [HS2.out, ← HX2.out, HT2.out]; simp, by rw [HS3.out, ← HX3.out, HT3.out]; simp, R1.out, R2.out, R3.out, HBE.out⟩
        case measure => simp [intOf]; omega
      case true =>
        have u0 := R3.out.cell 0
        have u1 := R3.out.cell 1
        have u2 := R3.out.cell 2
        have u3 := R3.out.cell 3
        have v0 := R3.out.frozen 0
        have v1 := R3.out.frozen 1
        have v2 := R3.out.frozen 2
        have v3 := R3.out.frozen 3
        have ul := R3.out.lt
        have h1 := R4.out.cell 1
        have h2 := R4.out.cell 2
        have h3 := R4.out.cell 3
        have h4 := R4.out.cell 4
        have hl := R4.out.lt
        simp only [List.getElem?_toArray, List.getElem?_cons_zero, List.getElem?_cons_succ] at u0 u1 u2 u3 h1 h2 h3 h4
        have hne : g8 ≠ w.heap.size + 1 + 1 := by omega
        have hne2 : w.heap.size + 1 + 1 ≠ g8 := by omega
        go_wp2
        go_roundw
        case rel => exact ⟨j + 1, X0 + xel, X1 + xeh, X2 + xsl, X3 + xsh, by omega, by go_num, by rw [HS0.out, ← HX0.out, HT0.out]; simp, by rw [HS1.out, ← HX1.out, HT1.out]; simp, by rw [HS2.out, ← HX2.out, HT2.out]; simp, by rw [HS3.out, ← HX3.out, HT3.out]; simp, far4 R1.out (by omega) _ _ _ _, far4 R2.out (by omega) _ _ _ _, blk_set4 R3.out _ _ _ _, below_set4 HBE.out (by omega) _ _ _ _⟩
        case measure => simp [intOf]; omega
end Go.Proofs.YtighfmgkoepfkaaGreat

namespace Go.Proofs.YtighfmgkoepfkaaGreat
open Go.RowKit

theorem flow_bounds {hs : List Hd} {ms : List Mv} (h : TV hs ms) (s : List Int) : (-2162688 ≤ outLo hs ms s ∧ outLo hs ms s ≤ 2162688) ∧ (-2162688 ≤ outHi hs ms s ∧ outHi hs ms s ≤ 2162688) ∧ (-2162688 ≤ inLo hs ms s ∧ inLo hs ms s ≤ 2162688) ∧ (-2162688 ≤ inHi hs ms s ∧ inHi hs ms s ≤ 2162688) := by
  have a := fun (f : Hd → Int) hb => hF_bound s f hs h.lenH hb hs.length
  have b := fun (o : Bool) (f : Mv → Int) hb => mF_bound s o f ms h.lenM hb ms.length
  simp only [List.take_length] at a b
  have a0 := a Hd.el (fun x hx => by have := h.hd_bound hx; omega)
  have a1 := a Hd.eh (fun x hx => by have := h.hd_bound hx; omega)
  have a2 := a Hd.sl (fun x hx => by have := h.hd_bound hx; omega)
  have a3 := a Hd.sh (fun x hx => by have := h.hd_bound hx; omega)
  have b0 := b true Mv.lo (fun x hx => by have := h.mv_bound hx; omega)
  have b1 := b true Mv.hi (fun x hx => by have := h.mv_bound hx; omega)
  have b2 := b false Mv.lo (fun x hx => by have := h.mv_bound hx; omega)
  have b3 := b false Mv.hi (fun x hx => by have := h.mv_bound hx; omega)
  have e0 : outLo hs ms s = isum (hs.map (hF s Hd.el)) + isum (ms.map (mF s true Mv.lo)) := rfl
  have e1 : outHi hs ms s = isum (hs.map (hF s Hd.eh)) + isum (ms.map (mF s true Mv.hi)) := rfl
  have e2 : inLo hs ms s = isum (hs.map (hF s Hd.sl)) + isum (ms.map (mF s false Mv.lo)) := rfl
  have e3 : inHi hs ms s = isum (hs.map (hF s Hd.sh)) + isum (ms.map (mF s false Mv.hi)) := rfl
  omega
set_option maxRecDepth 100000 in
set_option maxHeartbeats 3200000 in
theorem Rthrough_any (t : TR) (way : Int) (As : Option Addr) (k cs : Nat) (s : List Int) (w : World) (h : t.Ok w) (hs' : SAt encI 1 w As k s) (hk : k ≤ 1000000) (hv : TV t.hs t.ms) :
    Calls Tryz.prog 130 #[t.v, vCt way As k cs] w fun e w' => e = .returned (.int .i64 (thrL t.hs t.ms way s)) ∧ Below w.heap.size w w' := by
  have hb0 := ((Below.refl w.heap.size w).alloc (Nat.le_refl _) (.cells #[.slice t.A t.n t.c, .slice t.B t.m t.d] 25)).alloc (by simp) (.cells #[.int .i64 way, .slice As k cs] 93)
  have HFl := Lib.hid (fun (u : World) (hu : Below w.heap.size w u) => flows_any t As k cs s u (h.below hu) (hs'.below hu) hk hv)
  obtain ⟨A, n, c, B, m, d, hs, ms⟩ := t
  dsimp only [TR.v] at *
  have t0 := (Blk.new w 25 #[.slice A n c, .slice B m d]).alloc (.cells #[.int .i64 way, .slice As k cs] 93)
  have r0 := Blk.at_new (W := w.alloc (.cells #[.slice A n c, .slice B m d] 25)) (g := w.heap.size + 1) 93 #[.int .i64 way, .slice As k cs] (by simp)
  obtain ⟨⟨b0, b1⟩, ⟨b2, b3⟩, ⟨b4, b5⟩, b6, b7⟩ := flow_bounds hv s
  have HE := Lib.hid (show thrL hs ms way s = if way = 1 then outLo hs ms s - inHi hs ms s else inLo hs ms s - outHi hs ms s from rfl)
  simp only [vFl] at HFl
  generalize thrL hs ms way s = res at *
  generalize outLo hs ms s = ol at *
  generalize outHi hs ms s = oh at *
  generalize inLo hs ms s = il at *
  generalize inHi hs ms s = ih at *
  clear h hs' hv
  unfold vCt
  go_enter Tryz.func130, Tryz.ntmps130
  go_upto_region 1 with fail
  generalize hW : (w.alloc (.cells #[.slice A n c, .slice B m d] 25)).alloc (.cells #[.int .i64 way, .slice As k cs] 93) = W at *
  clear hW
  have HT := Lib.hid t0
  have HR := Lib.hid r0
  have HB0 := Lib.hid hb0
  have y0 := t0.cell 0
  have y1 := t0.cell 1
  have z1 := r0.cell 1
  simp only [List.getElem?_toArray, List.getElem?_cons_zero, List.getElem?_cons_succ] at y0 y1 z1
  have yl := t0.lt
  have zl := r0.lt
  clear t0 r0 hb0
  go_upto_region 2 with (go_at_call 85; with_reducible refine (HFl.out _ HB0.out).mono ?_; rintro e w1 ⟨rfl, hb1⟩)
  have HB1 := Lib.hid (HB0.out.trans (hb1.mono HB0.out.size))
  have R1 := (HR.out.below hb1).alloc (.cells #[.int .i64 ol, .int .i64 oh, .int .i64 il, .int .i64 ih] 149)
  have F1 := Blk.new w1 149 #[.int .i64 ol, .int .i64 oh, .int .i64 il, .int .i64 ih]
  have HB2 := Lib.hid (HB1.out.alloc HB1.out.size (.cells #[.int .i64 ol, .int .i64 oh, .int .i64 il, .int .i64 ih] 149))
  generalize hV : w1.alloc (.cells #[.int .i64 ol, .int .i64 oh, .int .i64 il, .int .i64 ih] 149) = V at *
  generalize hg : w1.heap.size = g at *
  clear hV hg hb1 y0 y1 z1 yl zl
  have x0 := R1.cell 0
  have f0 := F1.cell 0
  have f1 := F1.cell 1
  have f2 := F1.cell 2
  have f3 := F1.cell 3
  simp only [List.getElem?_toArray, List.getElem?_cons_zero, List.getElem?_cons_succ] at x0 f0 f1 f2 f3
  have xl := R1.lt
  have fl := F1.lt
  by_cases hw : way = 1
  · have h1b : (way == 1) = true := by simpa using hw
    have HW := Lib.hid hw
    clear hw
    go_wp2
    exact bodyPost_ret (v := .int .i64 (ol - ih)) (by simp [results, Tryz.results130, go_sem]) rfl ⟨by rw [HE.out, if_pos HW.out], HB2.out⟩
  · have h1b : (way == 1) = false := by simpa using hw
    have HW := Lib.hid hw
    clear hw
    go_wp2
    exact bodyPost_ret (v := .int .i64 (il - oh)) (by simp [results, Tryz.results130, go_sem]) rfl ⟨by rw [HE.out, if_neg HW.out], HB2.out⟩
set_option maxRecDepth 100000 in
set_option maxHeartbeats 3200000 in
theorem shows_any (t : TR) (way : Int) (As : Option Addr) (k cs : Nat) (s : List Int) (w : World) (h : t.Ok w) (hs' : SAt encI 1 w As k s) (hk : k ≤ 1000000) (hv : TV t.hs t.ms) :
    Calls Tryz.prog 99 #[t.v, vCt way As k cs] w fun e w' => e = .returned (.bool (showsL t.hs t.ms way s)) ∧ Below w.heap.size w w' := by
  have hb0 := ((Below.refl w.heap.size w).alloc (Nat.le_refl _) (.cells #[.slice t.A t.n t.c, .slice t.B t.m t.d] 25)).alloc (by simp) (.cells #[.int .i64 way, .slice As k cs] 93)
  have HFo := Lib.hid (fun (u : World) (hu : Below w.heap.size w u) => Formed_any t way As k cs s u (h.below hu) (hs'.below hu) hk (by have := h.h.len; have := hv.lenH; omega))
  have HTh := Lib.hid (fun (u : World) (hu : Below w.heap.size w u) => Rthrough_any t way As k cs s u (h.below hu) (hs'.below hu) hk hv)
  obtain ⟨A, n, c, B, m, d, hs, ms⟩ := t
  dsimp only [TR.v] at *
  have t0 := (Blk.new w 25 #[.slice A n c, .slice B m d]).alloc (.cells #[.int .i64 way, .slice As k cs] 93)
  have r0 := Blk.at_new (W := w.alloc (.cells #[.slice A n c, .slice B m d] 25)) (g := w.heap.size + 1) 93 #[.int .i64 way, .slice As k cs] (by simp)
  have HE := Lib.hid (show showsL hs ms way s = (formedL hs way s && decide (0 < thrL hs ms way s)) from rfl)
  generalize showsL hs ms way s = res at *
  generalize formedL hs way s = fo at *
  generalize thrL hs ms way s = th at *
  clear h hs' hv
  unfold vCt at *
  go_enter Tryz.func99, Tryz.ntmps99
  go_upto_region 1 with fail
  generalize hW : (w.alloc (.cells #[.slice A n c, .slice B m d] 25)).alloc (.cells #[.int .i64 way, .slice As k cs] 93) = W at *
  clear hW
  have HT := Lib.hid t0
  have HR := Lib.hid r0
  have HB0 := Lib.hid hb0
  have y0 := t0.cell 0
  have y1 := t0.cell 1
  have z0 := r0.cell 0
  have z1 := r0.cell 1
  simp only [List.getElem?_toArray, List.getElem?_cons_zero, List.getElem?_cons_succ] at y0 y1 z0 z1
  have yl := t0.lt
  have zl := r0.lt
  clear t0 r0 hb0
  go_upto_region 2 with (go_at_call 129; with_reducible refine (HFo.out _ HB0.out).mono ?_; rintro e w1 ⟨rfl, hb1⟩)
  have HB1 := Lib.hid (HB0.out.trans (hb1.mono HB0.out.size))
  have T1 := HT.out.below hb1
  have R1 := HR.out.below hb1
  clear y0 y1 z0 z1 yl zl hb1
  have y0 := T1.cell 0
  have y1 := T1.cell 1
  have z0 := R1.cell 0
  have z1 := R1.cell 1
  simp only [List.getElem?_toArray, List.getElem?_cons_zero, List.getElem?_cons_succ] at y0 y1 z0 z1
  have yl := T1.lt
  have zl := R1.lt
  cases fo
  · go_wp2
    exact bodyPost_ret (v := .bool false) (by simp [results, Tryz.results99, go_sem]) rfl ⟨by rw [HE.out]; rfl, HB1.out⟩
  · by_cases hth : 0 < th
    · have hthb : decide (0 < th) = true := decide_eq_true hth
      go_wp2_with (go_at_call 130; with_reducible refine (HTh.out _ HB1.out).mono ?_; rintro e w2 ⟨rfl, hb2⟩)
      exact bodyPost_ret (v := .bool true) (by simp [results, Tryz.results99, go_sem]) rfl ⟨by rw [HE.out, decide_eq_true hth]; rfl, HB1.out.trans (hb2.mono HB1.out.size)⟩
    · have hthb : decide (0 < th) = false := decide_eq_false hth
      go_wp2_with (go_at_call 130; with_reducible refine (HTh.out _ HB1.out).mono ?_; rintro e w2 ⟨rfl, hb2⟩)
      exact bodyPost_ret (v := .bool false) (by simp [results, Tryz.results99, go_sem]) rfl ⟨by rw [HE.out, decide_eq_false (by omega)]; rfl, HB1.out.trans (hb2.mono HB1.out.size)⟩
/-- The error of a cut. -/
def ckCut (hs : List Hd) (ms : List Mv) (way : Int) (s : List Int) : Int := if tcheck hs ms ≠ 0 then tcheck hs ms else if showsL hs ms way s = true then 0 else 8
set_option maxRecDepth 100000 in
set_option maxHeartbeats 3200000 in
theorem RCheckCut_any (t : TR) (way : Int) (As : Option Addr) (k cs : Nat) (s : List Int) (w : World) (h : t.Ok w) (hs' : SAt encI 1 w As k s) (hk : k ≤ 1000000) :
    Calls Tryz.prog 60 #[t.v, vCt way As k cs] w fun e w' => e = .returned (.int .i64 (ckCut t.hs t.ms way s)) ∧ Below w.heap.size w w' := by
  have hb0 := ((Below.refl w.heap.size w).alloc (Nat.le_refl _) (.cells #[.slice t.A t.n t.c, .slice t.B t.m t.d] 25)).alloc (by simp) (.cells #[.int .i64 way, .slice As k cs] 93)
  have HCk := Lib.hid (fun (u : World) (hu : Below w.heap.size w u) => RCheck_any t u (h.below hu))
  have HSh := Lib.hid (fun (hv : TV t.hs t.ms) (u : World) (hu : Below w.heap.size w u) => shows_any t way As k cs s u (h.below hu) (hs'.below hu) hk hv)
  obtain ⟨A, n, c, B, m, d, hs, ms⟩ := t
  dsimp only [TR.v] at *
  have t0 := (Blk.new w 25 #[.slice A n c, .slice B m d]).alloc (.cells #[.int .i64 way, .slice As k cs] 93)
  have r0 := Blk.at_new (W := w.alloc (.cells #[.slice A n c, .slice B m d] 25)) (g := w.heap.size + 1) 93 #[.int .i64 way, .slice As k cs] (by simp)
  have HE := Lib.hid (show ckCut hs ms way s = if tcheck hs ms ≠ 0 then tcheck hs ms else if showsL hs ms way s = true then 0 else 8 from rfl)
  have HVv := Lib.hid (fun h : tcheck hs ms = 0 => tcheck_zero.1 h)
  generalize ckCut hs ms way s = res at *
  generalize showsL hs ms way s = sh at *
  generalize tcheck hs ms = ck at *
  clear h hs'
  unfold vCt at *
  go_enter Tryz.func60, Tryz.ntmps60
  go_upto_region 1 with fail
  generalize hW : (w.alloc (.cells #[.slice A n c, .slice B m d] 25)).alloc (.cells #[.int .i64 way, .slice As k cs] 93) = W at *
  clear hW
  have HT := Lib.hid t0
  have HR := Lib.hid r0
  have HB0 := Lib.hid hb0
  have y0 := t0.cell 0
  have y1 := t0.cell 1
  simp only [List.getElem?_toArray, List.getElem?_cons_zero, List.getElem?_cons_succ] at y0 y1
  have yl := t0.lt
  clear t0 r0 hb0
  go_upto_region 2 with (go_at_call 61; with_reducible refine (HCk.out _ HB0.out).mono ?_; rintro e w1 ⟨rfl, hb1⟩)
  have HB1 := Lib.hid (HB0.out.trans (hb1.mono HB0.out.size))
  have T1 := HT.out.below hb1
  have R1 := HR.out.below hb1
  clear y0 y1 yl hb1
  by_cases hz : ck = 0
  case neg =>
    have hzb : (ck != 0) = true := by simpa using hz
    have HZ := Lib.hid hz
    clear hz
    go_wp2
    exact bodyPost_ret (v := .int .i64 ck) (by simp [results, Tryz.results60, go_sem]) rfl ⟨by rw [HE.out, if_pos HZ.out], HB1.out⟩
  case pos =>
  subst hz
  have HSv := Lib.hid (HSh.out (HVv.out rfl))
  clear HVv HSh
  have y0 := T1.cell 0
  have y1 := T1.cell 1
  have z0 := R1.cell 0
  have z1 := R1.cell 1
  simp only [List.getElem?_toArray, List.getElem?_cons_zero, List.getElem?_cons_succ] at y0 y1 z0 z1
  have yl := T1.lt
  have zl := R1.lt
  cases sh
  · go_wp2_with (go_at_call 99; with_reducible refine (HSv.out _ HB1.out).mono ?_; rintro e w2 ⟨rfl, hb2⟩)
    exact bodyPost_ret (v := .int .i64 8) (by simp [results, Tryz.results60, go_sem]) rfl ⟨by rw [HE.out]; simp, HB1.out.trans (hb2.mono HB1.out.size)⟩
  · go_wp2_with (go_at_call 99; with_reducible refine (HSv.out _ HB1.out).mono ?_; rintro e w2 ⟨rfl, hb2⟩)
    exact bodyPost_ret (v := .int .i64 0) (by simp [results, Tryz.results60, go_sem]) rfl ⟨by rw [HE.out]; simp, HB1.out.trans (hb2.mono HB1.out.size)⟩
end Go.Proofs.YtighfmgkoepfkaaGreat
