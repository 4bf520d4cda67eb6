/- The law FlowTruth. -/
import Derived.Test.YtighfmgkoepfkaaMD
import Derived.Test.YtighfmgkoepfkaaMX
import Derived.Test.YtighfmgkoepfkaaMI
namespace Go.Proofs.Ytighfmgkoepfkaa
open Go.RowKit

theorem heldL_bd {ms : List Mv} {ma : List Int} (hb : ∀ k, k < ms.length → 0 ≤ iget ma k ∧ iget ma k ≤ 65536) (id st : Int) (h0 : 0 ≤ st) (h1 : st ≤ 65536) : ∀ k, k ≤ ms.length → -(65536 * k) ≤ heldL ms ma id st k ∧ heldL ms ma id st k ≤ 65536 * (k + 1)
  | 0, _ => by show -(65536 * ((0 : Nat) : Int)) ≤ st ∧ st ≤ 65536 * (((0 : Nat) : Int) + 1); omega
  | k + 1, h => by
    have ih := heldL_bd hb id st h0 h1 k (by omega)
    have q := hb k (by omega)
    show -(65536 * ((k + 1 : Nat) : Int)) ≤ (heldL ms ma id st k + ind ((mat ms k).to = id) (iget ma k)) - ind ((mat ms k).fr = id) (iget ma k) ∧ (heldL ms ma id st k + ind ((mat ms k).to = id) (iget ma k)) - ind ((mat ms k).fr = id) (iget ma k) ≤ 65536 * (((k + 1 : Nat) : Int) + 1)
    unfold ind
    split <;> split <;> omega
theorem maT_len (ms : List Mv) (l : List U16) (k : Nat) : (maT ms l k).length = k := by simp [maT]
theorem stT_len (hs : List Hd) (l : List U16) (k : Nat) : (stT hs l k).length = k := by simp [stT]
theorem enT_len (hs : List Hd) (ms : List Mv) (l : List U16) (ma : List Int) (k : Nat) : (enT hs ms l ma k).length = k := by simp [enT]
theorem enT_pre {hs : List Hd} {ms : List Mv} {l : List U16} {ma : List Int} {k i : Nat} (h : i < k) : iget (enT hs ms l ma k) i = iget (enT hs ms l ma (i + 1)) i := by rw [enT_at h, enT_at (Nat.lt_succ_self i)]
/-- What is left of a division, of one span. -/
theorem mod_r {lo hi x : Int} (h : lo ≤ hi) (hx : 0 ≤ x) : ∃ r, x.tmod (hi - lo + 1) = r ∧ modIn lo hi x = lo + r ∧ 0 ≤ r ∧ r ≤ hi - lo := by
  refine ⟨_, rfl, rfl, Int.tmod_nonneg _ hx, ?_⟩
  have := Int.tmod_lt_of_pos x (show 0 < hi - lo + 1 by omega)
  omega
theorem told_some {hs : List Hd} {ms : List Mv} {kind id : Int} {st en ma : List Int} (h : (toldL hs ms kind id st en ma).2 = true) : toldL hs ms kind id st en ma = ((toldL hs ms kind id st en ma).1, true) := Prod.ext rfl h
theorem told_no {hs : List Hd} {ms : List Mv} {kind id : Int} {st en ma : List Int} (h : ¬ (toldL hs ms kind id st en ma).2 = true) : toldL hs ms kind id st en ma = ((toldL hs ms kind id st en ma).1, false) := Prod.ext rfl (Bool.eq_false_iff.2 h)
theorem own_apart {W : World} {B e size n : Nat} {v : Value} {xs : List Value} {k : Nat} (h : W.ownsRow B e size v n xs) (hk : k < B) : v.ownBlock ≠ some k := fun q => by have := (own_lt h q).1; omega
set_option maxRecDepth 100000 in
set_option maxHeartbeats 12800000 in
theorem flowTruth_walk (t : TR) (S1 : Option Addr) (k1 q1 : Nat) (us : List U16) (S2 : Option Addr) (k2 q2 : Nat) (vs : List U16) (kind id : Int) (w : World) (h : t.Ok w) (hu : SAt encU 1 w S1 k1 us) (hm : SAt encU 1 w S2 k2 vs) (l1 : k1 ≤ 9223372036854775807) (l2 : k2 ≤ 9223372036854775807) : Calls Try.prog 8 #[t.v, .slice S1 k1 q1, .slice S2 k2 q2, vAt kind id] w fun e w' => e = .returned (.bool true) ∧ Below w.heap.size w w' := by
  obtain ⟨A, n, c, B, m, d, hs, ms⟩ := t
  have HSan := Lib.hid (fun u => sanity_any u)
  obtain ⟨fb, hfb⟩ : ∃ b, fewB n m = b := ⟨_, rfl⟩
  have HFew := Lib.hid (fun u => few_any A n c B m d u h.n_le h.m_le)
  rw [hfb] at HFew
  have HCk := Lib.hid (fun (u : World) (hu : TR.Ok u ⟨A, n, c, B, m, d, hs, ms⟩) => Check_any ⟨A, n, c, B, m, d, hs, ms⟩ u hu)
  have hn9 : n ≤ 9223372036854775807 := h.n_le
  have hm9 : m ≤ 9223372036854775807 := h.m_le
  dsimp only [TR.v, vAt] at *
  have HO0 := Lib.hid h
  have HU0 := Lib.hid hu
  have HV0 := Lib.hid hm
  have HB0 : Hid (Below w.heap.size w ((w.alloc (.cells #[.slice A n c, .slice B m d] 25)).alloc (.cells #[.int .i64 kind, .int .i64 id] 27))) := Lib.hid (((Below.refl w.heap.size w).alloc (Nat.le_refl _) _).alloc (by simp) _)
  have T0 : Hid (Blk ((w.alloc (.cells #[.slice A n c, .slice B m d] 25)).alloc (.cells #[.int .i64 kind, .int .i64 id] 27)) w.heap.size 25 #[.slice A n c, .slice B m d]) := Lib.hid ((Blk.at_new 25 #[.slice A n c, .slice B m d] rfl).alloc _)
  have X0 : Hid (Blk ((w.alloc (.cells #[.slice A n c, .slice B m d] 25)).alloc (.cells #[.int .i64 kind, .int .i64 id] 27)) (w.heap.size + 1) 27 #[.int .i64 kind, .int .i64 id]) := Lib.hid (Blk.at_new 27 #[.int .i64 kind, .int .i64 id] (by simp))
  have O0 := Lib.hid ((h).below HB0.out)
  have U0 := Lib.hid ((hu).below HB0.out)
  have V0 := Lib.hid ((hm).below HB0.out)
  go_enter Try.func8, Try.ntmps8
  go_upto_region 1 with fail
  generalize hV : (w.alloc (.cells #[.slice A n c, .slice B m d] 25)).alloc (.cells #[.int .i64 kind, .int .i64 id] 27) = V0 at *
  clear hV
  clear h hu hm hfb
  cases fb with
  | false =>
    have yT0 := T0.out.cell 0
    have yT1 := T0.out.cell 1
    have yX0 := X0.out.cell 0
    have yX1 := X0.out.cell 1
    simp only [List.getElem?_toArray, List.getElem?_cons_zero, List.getElem?_cons_succ] at yT0 yT1 yX0 yX1
    have yTl := T0.out.lt
    have yXl := X0.out.lt
    go_upto_region 2 with (go_at_call 13; with_reducible refine (HFew.out _).mono ?_; rintro e u1 ⟨rfl, hb1⟩; have T1 := Lib.hid (T0.out.below hb1); have X1 := Lib.hid (X0.out.below hb1); have O1 := Lib.hid (O0.out.below hb1); have U1 := Lib.hid (U0.out.below hb1); have V1 := Lib.hid (V0.out.below hb1); have HB1 := Lib.hid (HB0.out.trans (hb1.mono HB0.out.size)); clear hb1; have y1T0 := T1.out.cell 0; have y1T1 := T1.out.cell 1; have y1X0 := X1.out.cell 0; have y1X1 := X1.out.cell 1; simp only [List.getElem?_toArray, List.getElem?_cons_zero, List.getElem?_cons_succ] at y1T0 y1T1 y1X0 y1X1; have y1Tl := T1.out.lt; have y1Xl := X1.out.lt)
    clear yT0 yT1 yX0 yX1 yTl yXl y1T0 y1T1 y1X0 y1X1 y1Tl y1Xl T0 X0 O0 U0 V0 HB0
    have yT0 := T1.out.cell 0
    have yT1 := T1.out.cell 1
    have yX0 := X1.out.cell 0
    have yX1 := X1.out.cell 1
    simp only [List.getElem?_toArray, List.getElem?_cons_zero, List.getElem?_cons_succ] at yT0 yT1 yX0 yX1
    have yTl := T1.out.lt
    have yXl := X1.out.lt
    go_wp2_with (go_at_call 14; with_reducible refine (HSan.out _).mono ?_; rintro e u2 ⟨rfl, hb2⟩; have T2 := Lib.hid (T1.out.below hb2); have X2 := Lib.hid (X1.out.below hb2); have O2 := Lib.hid (O1.out.below hb2); have U2 := Lib.hid (U1.out.below hb2); have V2 := Lib.hid (V1.out.below hb2); have HB2 := Lib.hid (HB1.out.trans (hb2.mono HB1.out.size)); clear hb2; have y2T0 := T2.out.cell 0; have y2T1 := T2.out.cell 1; have y2X0 := X2.out.cell 0; have y2X1 := X2.out.cell 1; simp only [List.getElem?_toArray, List.getElem?_cons_zero, List.getElem?_cons_succ] at y2T0 y2T1 y2X0 y2X1; have y2Tl := T2.out.lt; have y2Xl := X2.out.lt)
    exact bodyPost_ret (v := .bool true) (by simp [results, Try.results8, go_sem]) rfl ⟨rfl, HB2.out⟩
  | true =>
  by_cases hc : tcheck hs ms = 0
  case neg =>
    generalize tcheck hs ms = ck at *
    have hcb : (ck != 0) = true := by simpa using hc
    clear hc
    have yT0 := T0.out.cell 0
    have yT1 := T0.out.cell 1
    have yX0 := X0.out.cell 0
    have yX1 := X0.out.cell 1
    simp only [List.getElem?_toArray, List.getElem?_cons_zero, List.getElem?_cons_succ] at yT0 yT1 yX0 yX1
    have yTl := T0.out.lt
    have yXl := X0.out.lt
    go_upto_region 2 with (first | (go_at_call 13; with_reducible refine (HFew.out _).mono ?_; rintro e u1 ⟨rfl, hb1⟩; have T1 := Lib.hid (T0.out.below hb1); have X1 := Lib.hid (X0.out.below hb1); have O1 := Lib.hid (O0.out.below hb1); have U1 := Lib.hid (U0.out.below hb1); have V1 := Lib.hid (V0.out.below hb1); have HB1 := Lib.hid (HB0.out.trans (hb1.mono HB0.out.size)); clear hb1; have y1T0 := T1.out.cell 0; have y1T1 := T1.out.cell 1; have y1X0 := X1.out.cell 0; have y1X1 := X1.out.cell 1; simp only [List.getElem?_toArray, List.getElem?_cons_zero, List.getElem?_cons_succ] at y1T0 y1T1 y1X0 y1X1; have y1Tl := T1.out.lt; have y1Xl := X1.out.lt) | (go_at_call 26; with_reducible refine (HCk.out _ O1.out).mono ?_; rintro e u2 ⟨rfl, hb2⟩; have T2 := Lib.hid (T1.out.below hb2); have X2 := Lib.hid (X1.out.below hb2); have O2 := Lib.hid (O1.out.below hb2); have U2 := Lib.hid (U1.out.below hb2); have V2 := Lib.hid (V1.out.below hb2); have HB2 := Lib.hid (HB1.out.trans (hb2.mono HB1.out.size)); clear hb2; have y2T0 := T2.out.cell 0; have y2T1 := T2.out.cell 1; have y2X0 := X2.out.cell 0; have y2X1 := X2.out.cell 1; simp only [List.getElem?_toArray, List.getElem?_cons_zero, List.getElem?_cons_succ] at y2T0 y2T1 y2X0 y2X1; have y2Tl := T2.out.lt; have y2Xl := X2.out.lt))
    clear yT0 yT1 yX0 yX1 yTl yXl y1T0 y1T1 y1X0 y1X1 y1Tl y1Xl y2T0 y2T1 y2X0 y2X1 y2Tl y2Xl T0 X0 O0 U0 V0 T1 X1 O1 U1 V1 HB0 HB1
    have yT0 := T2.out.cell 0
    have yT1 := T2.out.cell 1
    have yX0 := X2.out.cell 0
    have yX1 := X2.out.cell 1
    simp only [List.getElem?_toArray, List.getElem?_cons_zero, List.getElem?_cons_succ] at yT0 yT1 yX0 yX1
    have yTl := T2.out.lt
    have yXl := X2.out.lt
    go_wp2_with (go_at_call 14; with_reducible refine (HSan.out _).mono ?_; rintro e u3 ⟨rfl, hb3⟩; have T3 := Lib.hid (T2.out.below hb3); have X3 := Lib.hid (X2.out.below hb3); have O3 := Lib.hid (O2.out.below hb3); have U3 := Lib.hid (U2.out.below hb3); have V3 := Lib.hid (V2.out.below hb3); have HB3 := Lib.hid (HB2.out.trans (hb3.mono HB2.out.size)); clear hb3; have y3T0 := T3.out.cell 0; have y3T1 := T3.out.cell 1; have y3X0 := X3.out.cell 0; have y3X1 := X3.out.cell 1; simp only [List.getElem?_toArray, List.getElem?_cons_zero, List.getElem?_cons_succ] at y3T0 y3T1 y3X0 y3X1; have y3Tl := T3.out.lt; have y3Xl := X3.out.lt)
    exact bodyPost_ret (v := .bool true) (by simp [results, Try.results8, go_sem]) rfl ⟨rfl, HB3.out⟩
  case pos =>
  have hv := tcheck_zero.1 hc
  have HTV := Lib.hid hv
  have HTc := Lib.hid hc
  rw [hc] at HCk
  have HLh := Lib.hid (show hs.length = n from O0.out.h.len)
  have HLm := Lib.hid (show ms.length = m from O0.out.m.len)
  have hn : n ≤ 9 := by rw [← HLh.out]; exact hv.lenH
  have hm : m ≤ 24 := by rw [← HLm.out]; exact hv.lenM
  clear hc hv
  by_cases g1 : k1 < n
  case pos =>
    have hkb : decide ((k1 : Int) < (n : Int)) = true := decide_eq_true (by omega)
    have yT0 := T0.out.cell 0
    have yT1 := T0.out.cell 1
    have yX0 := X0.out.cell 0
    have yX1 := X0.out.cell 1
    simp only [List.getElem?_toArray, List.getElem?_cons_zero, List.getElem?_cons_succ] at yT0 yT1 yX0 yX1
    have yTl := T0.out.lt
    have yXl := X0.out.lt
    go_upto_region 2 with (first | (go_at_call 13; with_reducible refine (HFew.out _).mono ?_; rintro e u1 ⟨rfl, hb1⟩; have T1 := Lib.hid (T0.out.below hb1); have X1 := Lib.hid (X0.out.below hb1); have O1 := Lib.hid (O0.out.below hb1); have U1 := Lib.hid (U0.out.below hb1); have V1 := Lib.hid (V0.out.below hb1); have HB1 := Lib.hid (HB0.out.trans (hb1.mono HB0.out.size)); clear hb1; have y1T0 := T1.out.cell 0; have y1T1 := T1.out.cell 1; have y1X0 := X1.out.cell 0; have y1X1 := X1.out.cell 1; simp only [List.getElem?_toArray, List.getElem?_cons_zero, List.getElem?_cons_succ] at y1T0 y1T1 y1X0 y1X1; have y1Tl := T1.out.lt; have y1Xl := X1.out.lt) | (go_at_call 26; with_reducible refine (HCk.out _ O1.out).mono ?_; rintro e u2 ⟨rfl, hb2⟩; have T2 := Lib.hid (T1.out.below hb2); have X2 := Lib.hid (X1.out.below hb2); have O2 := Lib.hid (O1.out.below hb2); have U2 := Lib.hid (U1.out.below hb2); have V2 := Lib.hid (V1.out.below hb2); have HB2 := Lib.hid (HB1.out.trans (hb2.mono HB1.out.size)); clear hb2; have y2T0 := T2.out.cell 0; have y2T1 := T2.out.cell 1; have y2X0 := X2.out.cell 0; have y2X1 := X2.out.cell 1; simp only [List.getElem?_toArray, List.getElem?_cons_zero, List.getElem?_cons_succ] at y2T0 y2T1 y2X0 y2X1; have y2Tl := T2.out.lt; have y2Xl := X2.out.lt))
    clear yT0 yT1 yX0 yX1 yTl yXl y1T0 y1T1 y1X0 y1X1 y1Tl y1Xl y2T0 y2T1 y2X0 y2X1 y2Tl y2Xl T0 X0 O0 U0 V0 T1 X1 O1 U1 V1 HB0 HB1
    have yT0 := T2.out.cell 0
    have yT1 := T2.out.cell 1
    have yX0 := X2.out.cell 0
    have yX1 := X2.out.cell 1
    simp only [List.getElem?_toArray, List.getElem?_cons_zero, List.getElem?_cons_succ] at yT0 yT1 yX0 yX1
    have yTl := T2.out.lt
    have yXl := X2.out.lt
    go_wp2_with (go_at_call 14; with_reducible refine (HSan.out _).mono ?_; rintro e u3 ⟨rfl, hb3⟩; have T3 := Lib.hid (T2.out.below hb3); have X3 := Lib.hid (X2.out.below hb3); have O3 := Lib.hid (O2.out.below hb3); have U3 := Lib.hid (U2.out.below hb3); have V3 := Lib.hid (V2.out.below hb3); have HB3 := Lib.hid (HB2.out.trans (hb3.mono HB2.out.size)); clear hb3; have y3T0 := T3.out.cell 0; have y3T1 := T3.out.cell 1; have y3X0 := X3.out.cell 0; have y3X1 := X3.out.cell 1; simp only [List.getElem?_toArray, List.getElem?_cons_zero, List.getElem?_cons_succ] at y3T0 y3T1 y3X0 y3X1; have y3Tl := T3.out.lt; have y3Xl := X3.out.lt)
    exact bodyPost_ret (v := .bool true) (by simp [results, Try.results8, go_sem]) rfl ⟨rfl, HB3.out⟩
  case neg =>
  have hka : decide ((k1 : Int) < (n : Int)) = false := decide_eq_false (by omega)
  by_cases g2 : k2 < m
  case pos =>
    have hkb : decide ((k2 : Int) < (m : Int)) = true := decide_eq_true (by omega)
    have yT0 := T0.out.cell 0
    have yT1 := T0.out.cell 1
    have yX0 := X0.out.cell 0
    have yX1 := X0.out.cell 1
    simp only [List.getElem?_toArray, List.getElem?_cons_zero, List.getElem?_cons_succ] at yT0 yT1 yX0 yX1
    have yTl := T0.out.lt
    have yXl := X0.out.lt
    go_upto_region 2 with (first | (go_at_call 13; with_reducible refine (HFew.out _).mono ?_; rintro e u1 ⟨rfl, hb1⟩; have T1 := Lib.hid (T0.out.below hb1); have X1 := Lib.hid (X0.out.below hb1); have O1 := Lib.hid (O0.out.below hb1); have U1 := Lib.hid (U0.out.below hb1); have V1 := Lib.hid (V0.out.below hb1); have HB1 := Lib.hid (HB0.out.trans (hb1.mono HB0.out.size)); clear hb1; have y1T0 := T1.out.cell 0; have y1T1 := T1.out.cell 1; have y1X0 := X1.out.cell 0; have y1X1 := X1.out.cell 1; simp only [List.getElem?_toArray, List.getElem?_cons_zero, List.getElem?_cons_succ] at y1T0 y1T1 y1X0 y1X1; have y1Tl := T1.out.lt; have y1Xl := X1.out.lt) | (go_at_call 26; with_reducible refine (HCk.out _ O1.out).mono ?_; rintro e u2 ⟨rfl, hb2⟩; have T2 := Lib.hid (T1.out.below hb2); have X2 := Lib.hid (X1.out.below hb2); have O2 := Lib.hid (O1.out.below hb2); have U2 := Lib.hid (U1.out.below hb2); have V2 := Lib.hid (V1.out.below hb2); have HB2 := Lib.hid (HB1.out.trans (hb2.mono HB1.out.size)); clear hb2; have y2T0 := T2.out.cell 0; have y2T1 := T2.out.cell 1; have y2X0 := X2.out.cell 0; have y2X1 := X2.out.cell 1; simp only [List.getElem?_toArray, List.getElem?_cons_zero, List.getElem?_cons_succ] at y2T0 y2T1 y2X0 y2X1; have y2Tl := T2.out.lt; have y2Xl := X2.out.lt))
    clear yT0 yT1 yX0 yX1 yTl yXl y1T0 y1T1 y1X0 y1X1 y1Tl y1Xl y2T0 y2T1 y2X0 y2X1 y2Tl y2Xl T0 X0 O0 U0 V0 T1 X1 O1 U1 V1 HB0 HB1
    have yT0 := T2.out.cell 0
    have yT1 := T2.out.cell 1
    have yX0 := X2.out.cell 0
    have yX1 := X2.out.cell 1
    simp only [List.getElem?_toArray, List.getElem?_cons_zero, List.getElem?_cons_succ] at yT0 yT1 yX0 yX1
    have yTl := T2.out.lt
    have yXl := X2.out.lt
    go_wp2_with (go_at_call 14; with_reducible refine (HSan.out _).mono ?_; rintro e u3 ⟨rfl, hb3⟩; have T3 := Lib.hid (T2.out.below hb3); have X3 := Lib.hid (X2.out.below hb3); have O3 := Lib.hid (O2.out.below hb3); have U3 := Lib.hid (U2.out.below hb3); have V3 := Lib.hid (V2.out.below hb3); have HB3 := Lib.hid (HB2.out.trans (hb3.mono HB2.out.size)); clear hb3; have y3T0 := T3.out.cell 0; have y3T1 := T3.out.cell 1; have y3X0 := X3.out.cell 0; have y3X1 := X3.out.cell 1; simp only [List.getElem?_toArray, List.getElem?_cons_zero, List.getElem?_cons_succ] at y3T0 y3T1 y3X0 y3X1; have y3Tl := T3.out.lt; have y3Xl := X3.out.lt)
    exact bodyPost_ret (v := .bool true) (by simp [results, Try.results8, go_sem]) rfl ⟨rfl, HB3.out⟩
  case neg =>
  have hkb : decide ((k2 : Int) < (m : Int)) = false := decide_eq_false (by omega)
  have yT0 := T0.out.cell 0
  have yT1 := T0.out.cell 1
  have yX0 := X0.out.cell 0
  have yX1 := X0.out.cell 1
  simp only [List.getElem?_toArray, List.getElem?_cons_zero, List.getElem?_cons_succ] at yT0 yT1 yX0 yX1
  have yTl := T0.out.lt
  have yXl := X0.out.lt
  go_upto_region 3 with (first | (go_at_call 13; with_reducible refine (HFew.out _).mono ?_; rintro e u1 ⟨rfl, hb1⟩; have T1 := Lib.hid (T0.out.below hb1); have X1 := Lib.hid (X0.out.below hb1); have O1 := Lib.hid (O0.out.below hb1); have U1 := Lib.hid (U0.out.below hb1); have V1 := Lib.hid (V0.out.below hb1); have HB1 := Lib.hid (HB0.out.trans (hb1.mono HB0.out.size)); clear hb1; have y1T0 := T1.out.cell 0; have y1T1 := T1.out.cell 1; have y1X0 := X1.out.cell 0; have y1X1 := X1.out.cell 1; simp only [List.getElem?_toArray, List.getElem?_cons_zero, List.getElem?_cons_succ] at y1T0 y1T1 y1X0 y1X1; have y1Tl := T1.out.lt; have y1Xl := X1.out.lt) | (go_at_call 26; with_reducible refine (HCk.out _ O1.out).mono ?_; rintro e u2 ⟨rfl, hb2⟩; have T2 := Lib.hid (T1.out.below hb2); have X2 := Lib.hid (X1.out.below hb2); have O2 := Lib.hid (O1.out.below hb2); have U2 := Lib.hid (U1.out.below hb2); have V2 := Lib.hid (V1.out.below hb2); have HB2 := Lib.hid (HB1.out.trans (hb2.mono HB1.out.size)); clear hb2; have y2T0 := T2.out.cell 0; have y2T1 := T2.out.cell 1; have y2X0 := X2.out.cell 0; have y2X1 := X2.out.cell 1; simp only [List.getElem?_toArray, List.getElem?_cons_zero, List.getElem?_cons_succ] at y2T0 y2T1 y2X0 y2X1; have y2Tl := T2.out.lt; have y2Xl := X2.out.lt))
  clear yT0 yT1 yX0 yX1 yTl yXl y1T0 y1T1 y1X0 y1X1 y1Tl y1Xl y2T0 y2T1 y2X0 y2X1 y2Tl y2Xl T0 X0 O0 U0 V0 T1 X1 O1 U1 V1 HB0 HB1
  clear hka hkb
  go_upto_region 5 with fail
  have bC := below_new u2 (.cells #[.slice none 0 0, .slice none 0 0, .slice none 0 0] 32)
  have HTc1 := Lib.hid (T2.out.below bC)
  have HXc1 := Lib.hid (X2.out.below bC)
  have HCc1 := Lib.hid (Blk.new u2 32 #[.slice none 0 0, .slice none 0 0, .slice none 0 0])
  have HB1 := Lib.hid (HB2.out.trans (bC.mono HB2.out.size))
  have HOr := Lib.hid (fun (W : World) (hW : Below w.heap.size w W) => (HO0.out.below hW : TR.Ok W ⟨A, n, c, B, m, d, hs, ms⟩))
  have HUr := Lib.hid (fun (W : World) (hW : Below w.heap.size w W) => (HU0.out.below hW : SAt encU 1 W S1 k1 us))
  have HVr := Lib.hid (fun (W : World) (hW : Below w.heap.size w W) => (HV0.out.below hW : SAt encU 1 W S2 k2 vs))
  have hgw : w.heap.size + 2 ≤ u2.heap.size := X2.out.lt
  generalize hU : u2.alloc (.cells #[.slice none 0 0, .slice none 0 0, .slice none 0 0] 32) = U at *
  have hgU : u2.heap.size + 1 ≤ U.heap.size := by rw [← hU]; simp
  generalize hg : u2.heap.size = g at *
  have HGw := Lib.hid hgw
  have HGU := Lib.hid hgU
  clear hU hg bC hgw hgU T2 X2 O2 U2 V2 HB2
  obtain ⟨ii, hi0, hi1, hi2, hi3⟩ := info_parts info_int
  have HII := Lib.hid (And.intro hi0 (And.intro hi1 (And.intro hi2 hi3)))
  clear hi0 hi1 hi2 hi3
  go_loopw [10, 11] (fun i _ wx => ∃ (k : Nat) (A3 : Option Addr) (a3 : Nat), k ≤ m ∧ i = .int .i64 (k : Int) ∧ wx.ownsRow (g + 1) 3 1 (.slice A3 k a3) k ((maT ms vs k).flatMap encI) ∧ Below w.heap.size w wx ∧ g + 1 ≤ wx.heap.size ∧ Blk wx w.heap.size 25 #[.slice A n c, .slice B m d] ∧ Blk wx (w.heap.size + 1) 27 #[.int .i64 kind, .int .i64 id] ∧ Blk wx g 32 #[.slice none 0 0, .slice none 0 0, .slice A3 k a3]) (fun i _ _ => m - (intOf i).toNat)
  case atStart => exact ⟨0, none, 0, Nat.zero_le _, rfl, by simpa [maT] using World.ownsRow_nil _ _ _ _, HB1.out, HGU.out, HTc1.out, HXc1.out, HCc1.out⟩
  case round =>
    obtain ⟨k, A3, a3, hk, rfl, ow, hb, hgs, ht, hx, hc⟩ := hrel
    have OW := Lib.hid ow
    have HBk := Lib.hid hb
    have HGs := Lib.hid hgs
    have HTk := Lib.hid ht
    have HXk := Lib.hid hx
    have HCk2 := Lib.hid hc
    have HLT := Lib.hid (fun (r : Nat) hr => own_lt (g := r) ow hr)
    clear ow hb hgs ht hx hc
    have y0 := HTk.out.cell 0
    have y1 := HTk.out.cell 1
    have x0 := HXk.out.cell 0
    have x1 := HXk.out.cell 1
    have z0 := HCk2.out.cell 0
    have z1 := HCk2.out.cell 1
    have z2 := HCk2.out.cell 2
    simp only [List.getElem?_toArray, List.getElem?_cons_zero, List.getElem?_cons_succ] at y0 y1 x0 x1 z0 z1 z2
    have yl := HTk.out.lt
    have xl := HXk.out.lt
    have zl := HCk2.out.lt
    by_cases hkm : k < m
    case neg =>
      have hkm2 : m = k := by omega
      subst hkm2
      have HMl := Lib.hid (show (maT ms vs m).length = m from maT_len ms vs m)
      have HMa := Lib.hid (show maT ms vs ms.length = maT ms vs m by rw [HLm.out])
      have HMb := Lib.hid (show ∀ q, q < ms.length → 0 ≤ iget (maT ms vs m) q ∧ iget (maT ms vs m) q ≤ 65536 from fun q hq => by
        have b := HTV.out.mv_bound (by rw [mat_eq hq]; exact List.getElem_mem hq : mat ms q ∈ ms)
        rw [maT_at (by rw [← HLm.out]; exact hq)]
        have := modIn_in b.2.1 (uget_in vs q).1
        omega)
      generalize maT ms vs m = ma at *
      obtain ⟨b2, hb2⟩ : ∃ b, wr.heap.size = b := ⟨_, rfl⟩
      have HLM := Lib.hid (show ∀ r, (Value.slice A3 m a3).ownBlock = some r → r < b2 from fun r hr => by have := (HLT.out r hr).2; omega)
      have HBg := Lib.hid (show g < b2 by have := HCk2.out.lt; omega)
      have HBb0 := Lib.hid (show b2 ≤ wr.heap.size by omega)
      go_upto_region 10 with fail
      clear y0 y1 x0 x1 z0 z1 z2 yl xl zl hb2
      go_loopw [12, 13, 14, 15] (fun i _ _ _ wx => ∃ (j : Nat) (A1 : Option Addr) (a1 : Nat) (A2 : Option Addr) (a2 : Nat), j ≤ n ∧ i = .int .i64 (j : Int) ∧ wx.ownsRow b2 3 1 (.slice A1 j a1) j ((stT hs us j).flatMap encI) ∧ wx.ownsRow b2 3 1 (.slice A2 j a2) j ((enT hs ms us ma j).flatMap encI) ∧ (∀ r, (Value.slice A1 j a1).ownBlock = some r → (Value.slice A2 j a2).ownBlock ≠ some r) ∧ wx.ownsRow (g + 1) 3 1 (.slice A3 m a3) m (ma.flatMap encI) ∧ b2 ≤ wx.heap.size ∧ Below w.heap.size w wx ∧ g + 1 ≤ wx.heap.size ∧ Blk wx w.heap.size 25 #[.slice A n c, .slice B m d] ∧ Blk wx (w.heap.size + 1) 27 #[.int .i64 kind, .int .i64 id] ∧ Blk wx g 32 #[.slice A1 j a1, .slice A2 j a2, .slice A3 m a3] ∧ ∀ p, p < j → (hat hs p).el ≤ heldL ms ma (hat hs p).id (modIn (hat hs p).sl (hat hs p).sh (uget us p)) ms.length ∧ heldL ms ma (hat hs p).id (modIn (hat hs p).sl (hat hs p).sh (uget us p)) ms.length ≤ (hat hs p).eh) (fun i _ _ _ _ => n - (intOf i).toNat)
      case atStart => exact ⟨0, none, 0, none, 0, Nat.zero_le _, rfl, by simpa [stT] using World.ownsRow_nil _ _ _ _, by simpa [enT] using World.ownsRow_nil _ _ _ _, fun r hr => (by cases hr), OW.out, HBb0.out, HBk.out, HGs.out, HTk.out, HXk.out, HCk2.out, fun p hp => absurd hp (Nat.not_lt_zero _)⟩
      case round =>
        clear HBk HTk HXk HCk2 OW HGs HBb0 HLT HB1 HTc1 HXc1 HCc1
        obtain ⟨j, A1, a1, A2, a2, hj, rfl, ows, owe, hds, owm, hbb, hb, hgs, ht, hx, hc, hsp⟩ := hrel
        have OWs := Lib.hid ows
        have OWe := Lib.hid owe
        have OWm := Lib.hid owm
        have HDs := Lib.hid hds
        have HBb := Lib.hid hbb
        have HBk := Lib.hid hb
        have HTk := Lib.hid ht
        have HXk := Lib.hid hx
        have HCk2 := Lib.hid hc
        have HSp := Lib.hid hsp
        clear ows owe hds owm hbb hb hgs ht hx hc hsp
        have y0 := HTk.out.cell 0
        have y1 := HTk.out.cell 1
        have x0 := HXk.out.cell 0
        have x1 := HXk.out.cell 1
        have z0 := HCk2.out.cell 0
        have z1 := HCk2.out.cell 1
        have z2 := HCk2.out.cell 2
        simp only [List.getElem?_toArray, List.getElem?_cons_zero, List.getElem?_cons_succ] at y0 y1 x0 x1 z0 z1 z2
        have yl := HTk.out.lt
        have xl := HXk.out.lt
        have zl := HCk2.out.lt
        by_cases hjn : j < n
        case neg =>
          go_upto_region 25 with fail
          clear y0 y1 x0 x1 z0 z1 z2 yl xl zl
          obtain rfl : j = n := by omega
          have HFit := Lib.hid (show fitsL hs ms (stT hs us hs.length) (enT hs ms us ma hs.length) ma = true by
            rw [← HMa.out]
            refine truth_fits HTV.out fun p hp => ?_
            rw [enT_at hp, HMa.out]
            exact HSp.out p (by have := HLh.out; omega))
          have HAg := Lib.hid ((agrL_course HTV.out).2 ⟨_, _, _, HFit.out⟩)
          have HTf := Lib.hid (told_fits (kind := kind) (id := id) HTV.out HFit.out)
          obtain ⟨e1, f1, e2, hs1, hc1, _⟩ := SAt_of_row (enc := encI) (zs := stT hs us j) encI_len (stT_len _ _ _) OWs.out
          cases e2
          obtain ⟨e1, f1, e2, hs2, hc2, _⟩ := SAt_of_row (enc := encI) (zs := enT hs ms us ma j) encI_len (enT_len _ _ _ _ _) OWe.out
          cases e2
          obtain ⟨e1, f1, e2, hs3, hc3, _⟩ := SAt_of_row (enc := encI) (zs := ma) encI_len HMl.out OWm.out
          cases e2
          have hjl : hs.length = j := HLh.out
          have HB0 := HBk
          have T0 := HTk
          have X0 := HXk
          have C0 := HCk2
          have O0 := Lib.hid (HOr.out _ HBk.out)
          have P0 := Lib.hid hs1
          have Q0 := Lib.hid hs2
          have R0 := Lib.hid hs3
          have HCc := Lib.hid (fun (u : World) (hu : TR.Ok u ⟨A, j, c, B, m, d, hs, ms⟩) (q1 : SAt encI 1 u A1 j (stT hs us j)) (q2 : SAt encI 1 u A2 j (enT hs ms us ma j)) (q3 : SAt encI 1 u A3 m ma) => CheckCourse_any ⟨A, j, c, B, m, d, hs, ms⟩ A1 j a1 A2 j a2 A3 m a3 _ _ _ u hu q1 q2 q3)
          have HTo := Lib.hid (fun (u : World) (hu : TR.Ok u ⟨A, j, c, B, m, d, hs, ms⟩) (q1 : SAt encI 1 u A1 j (stT hs us j)) (q2 : SAt encI 1 u A2 j (enT hs ms us ma j)) (q3 : SAt encI 1 u A3 m ma) => told_any ⟨A, j, c, B, m, d, hs, ms⟩ kind id A1 j a1 A2 j a2 A3 m a3 _ _ _ u hu q1 q2 q3 (show j ≤ 1000000 by omega) (show m ≤ 1000000 by omega))
          have HFi := Lib.hid (fun (u : World) (hu : TR.Ok u ⟨A, j, c, B, m, d, hs, ms⟩) => fi_yes hu HTc.out HAg.out)
          have HCz := Lib.hid (show ckCo hs ms (stT hs us j) (enT hs ms us ma j) ma = 0 by
            have := HFit.out
            rw [hjl] at this
            unfold ckCo
            rw [if_neg (by rw [HTc.out]; decide), if_pos this])
          dsimp only [TR.v, vAt, vCo] at HCc HTo HFi
          rw [HCz.out] at HCc
          rw [hjl] at HTf
          clear hs1 hs2 hs3 hc1 hc2 hc3 hjl
          obtain ⟨TL, hTL⟩ : ∃ x, toldL hs ms kind id (stT hs us j) (enT hs ms us ma j) ma = x := ⟨_, rfl⟩
          rw [hTL] at HTf HTo
          obtain ⟨tv, tb⟩ := TL
          dsimp only at HTf HTo
          clear hTL
          by_cases hp : plE hs ms kind id = 0
          case pos =>
            have HG1 := Lib.hid (fun (u : World) (hu : TR.Ok u ⟨A, j, c, B, m, d, hs, ms⟩) => (Least_any ⟨A, j, c, B, m, d, hs, ms⟩ kind id u hu).mono fun e w' h => ask_ok h hp HAg.out)
            have HG2 := Lib.hid (fun (u : World) (hu : TR.Ok u ⟨A, j, c, B, m, d, hs, ms⟩) => (Greatest_any ⟨A, j, c, B, m, d, hs, ms⟩ kind id u hu).mono fun e w' h => ask_ok h hp HAg.out)
            dsimp only [TR.v, vAt] at HG1 HG2
            obtain rfl : tb = true := HTf.out.1.1 hp
            have HLe := Lib.hid (HTf.out.2 hp)
            obtain ⟨lo, hlo⟩ : ∃ x, limN hs ms kind id false = x := ⟨_, rfl⟩
            obtain ⟨hi, hhi⟩ : ∃ x, limN hs ms kind id true = x := ⟨_, rfl⟩
            rw [hlo] at HG1 HLe
            rw [hhi] at HG2 HLe
            clear hlo hhi hp HTf
            have yT0 := T0.out.cell 0
            have yT1 := T0.out.cell 1
            have yX0 := X0.out.cell 0
            have yX1 := X0.out.cell 1
            have yC0 := C0.out.cell 0
            have yC1 := C0.out.cell 1
            have yC2 := C0.out.cell 2
            simp only [List.getElem?_toArray, List.getElem?_cons_zero, List.getElem?_cons_succ] at yT0 yT1 yX0 yX1 yC0 yC1 yC2
            have yTl := T0.out.lt
            have yXl := X0.out.lt
            have yCl := C0.out.lt
            have HC := Lib.hid (HG1.out _ O0.out)
            try dsimp only [TR.v, vCt] at HC
            go_upto_region 26 with (go_at_call 16; with_reducible refine HC.out.mono ?_; rintro e u1 ⟨D1, dn1, dc1, D2, dn2, dc2, D3, dn3, dc3, dw, D4, dn4, dc4, dst, den, dma, rfl, k1, k2, k3, hf, hb⟩)
            clear yT0 yT1 yX0 yX1 yC0 yC1 yC2 yTl yXl yCl
            clear HC
            have bn := hb
            have bq : Below u1.heap.size u1 (u1.alloc (.cells #[.int .i64 lo, .slice D1 dn1 dc1, .slice D2 dn2 dc2, .slice D3 dn3 dc3, .int .i64 dw, .slice D4 dn4 dc4] 39)) := ((Below.refl u1.heap.size u1).alloc (Nat.le_refl _) _)
            have bn := hb.trans (bq.mono hb.size)
            have T1 := Lib.hid (T0.out.below bn)
            have X1 := Lib.hid (X0.out.below bn)
            have C1 := Lib.hid (C0.out.below bn)
            have O1 := Lib.hid (O0.out.below bn)
            have P1 := Lib.hid (P0.out.below bn)
            have Q1 := Lib.hid (Q0.out.below bn)
            have R1 := Lib.hid (R0.out.below bn)
            have HB1 := Lib.hid (HB0.out.trans (bn.mono HB0.out.size))
            have Da1 : Hid (Blk (u1.alloc (.cells #[.int .i64 lo, .slice D1 dn1 dc1, .slice D2 dn2 dc2, .slice D3 dn3 dc3, .int .i64 dw, .slice D4 dn4 dc4] 39)) u1.heap.size 39 #[.int .i64 lo, .slice D1 dn1 dc1, .slice D2 dn2 dc2, .slice D3 dn3 dc3, .int .i64 dw, .slice D4 dn4 dc4]) := Lib.hid (Blk.at_new 39 #[.int .i64 lo, .slice D1 dn1 dc1, .slice D2 dn2 dc2, .slice D3 dn3 dc3, .int .i64 dw, .slice D4 dn4 dc4] rfl)
            generalize hV : u1.alloc (.cells #[.int .i64 lo, .slice D1 dn1 dc1, .slice D2 dn2 dc2, .slice D3 dn3 dc3, .int .i64 dw, .slice D4 dn4 dc4] 39) = V1 at *
            generalize hp : u1.heap.size = p1 at *
            clear hV hp bq
            clear hb bn T0 X0 C0 O0 P0 Q0 R0 HB0
            clear k1 k2 k3 hf
            have yT0 := T1.out.cell 0
            have yT1 := T1.out.cell 1
            have yX0 := X1.out.cell 0
            have yX1 := X1.out.cell 1
            have yC0 := C1.out.cell 0
            have yC1 := C1.out.cell 1
            have yC2 := C1.out.cell 2
            have yDa0 := Da1.out.cell 0
            have yDa1 := Da1.out.cell 1
            have yDa2 := Da1.out.cell 2
            have yDa3 := Da1.out.cell 3
            have yDa4 := Da1.out.cell 4
            have yDa5 := Da1.out.cell 5
            simp only [List.getElem?_toArray, List.getElem?_cons_zero, List.getElem?_cons_succ] at yT0 yT1 yX0 yX1 yC0 yC1 yC2 yDa0 yDa1 yDa2 yDa3 yDa4 yDa5
            have yTl := T1.out.lt
            have yXl := X1.out.lt
            have yCl := C1.out.lt
            have yDal := Da1.out.lt
            have HC := Lib.hid (HG2.out _ O1.out)
            try dsimp only [TR.v, vCt] at HC
            go_upto_region 27 with (go_at_call 17; with_reducible refine HC.out.mono ?_; rintro e u2 ⟨E1, en1, ec1, E2, en2, ec2, E3, en3, ec3, ew, E4, en4, ec4, est, een, ema, rfl, k1, k2, k3, hf, hb⟩)
            clear yT0 yT1 yX0 yX1 yC0 yC1 yC2 yDa0 yDa1 yDa2 yDa3 yDa4 yDa5 yTl yXl yCl yDal
            clear HC
            have bn := hb
            have bq : Below u2.heap.size u2 (u2.alloc (.cells #[.int .i64 hi, .slice E1 en1 ec1, .slice E2 en2 ec2, .slice E3 en3 ec3, .int .i64 ew, .slice E4 en4 ec4] 39)) := ((Below.refl u2.heap.size u2).alloc (Nat.le_refl _) _)
            have bn := hb.trans (bq.mono hb.size)
            have T2 := Lib.hid (T1.out.below bn)
            have X2 := Lib.hid (X1.out.below bn)
            have C2 := Lib.hid (C1.out.below bn)
            have O2 := Lib.hid (O1.out.below bn)
            have P2 := Lib.hid (P1.out.below bn)
            have Q2 := Lib.hid (Q1.out.below bn)
            have R2 := Lib.hid (R1.out.below bn)
            have Da2 := Lib.hid (Da1.out.below bn)
            have HB2 := Lib.hid (HB1.out.trans (bn.mono HB1.out.size))
            have Db2 : Hid (Blk (u2.alloc (.cells #[.int .i64 hi, .slice E1 en1 ec1, .slice E2 en2 ec2, .slice E3 en3 ec3, .int .i64 ew, .slice E4 en4 ec4] 39)) u2.heap.size 39 #[.int .i64 hi, .slice E1 en1 ec1, .slice E2 en2 ec2, .slice E3 en3 ec3, .int .i64 ew, .slice E4 en4 ec4]) := Lib.hid (Blk.at_new 39 #[.int .i64 hi, .slice E1 en1 ec1, .slice E2 en2 ec2, .slice E3 en3 ec3, .int .i64 ew, .slice E4 en4 ec4] rfl)
            generalize hV : u2.alloc (.cells #[.int .i64 hi, .slice E1 en1 ec1, .slice E2 en2 ec2, .slice E3 en3 ec3, .int .i64 ew, .slice E4 en4 ec4] 39) = V2 at *
            generalize hp : u2.heap.size = p2 at *
            clear hV hp bq
            clear hb bn T1 X1 C1 O1 P1 Q1 R1 Da1 HB1
            clear k1 k2 k3 hf
            have yT0 := T2.out.cell 0
            have yT1 := T2.out.cell 1
            have yX0 := X2.out.cell 0
            have yX1 := X2.out.cell 1
            have yC0 := C2.out.cell 0
            have yC1 := C2.out.cell 1
            have yC2 := C2.out.cell 2
            have yDa0 := Da2.out.cell 0
            have yDa1 := Da2.out.cell 1
            have yDa2 := Da2.out.cell 2
            have yDa3 := Da2.out.cell 3
            have yDa4 := Da2.out.cell 4
            have yDa5 := Da2.out.cell 5
            have yDb0 := Db2.out.cell 0
            have yDb1 := Db2.out.cell 1
            have yDb2 := Db2.out.cell 2
            have yDb3 := Db2.out.cell 3
            have yDb4 := Db2.out.cell 4
            have yDb5 := Db2.out.cell 5
            simp only [List.getElem?_toArray, List.getElem?_cons_zero, List.getElem?_cons_succ] at yT0 yT1 yX0 yX1 yC0 yC1 yC2 yDa0 yDa1 yDa2 yDa3 yDa4 yDa5 yDb0 yDb1 yDb2 yDb3 yDb4 yDb5
            have yTl := T2.out.lt
            have yXl := X2.out.lt
            have yCl := C2.out.lt
            have yDal := Da2.out.lt
            have yDbl := Db2.out.lt
            have HC := Lib.hid (HFi.out _ O2.out)
            try dsimp only [TR.v, vCt] at HC
            go_upto_region 28 with (go_at_call 15; with_reducible refine HC.out.mono ?_; rintro e u3 ⟨F1, fn1, fc1, F2, fn2, fc2, F3, fn3, fc3, fst, fen, fma, rfl, k1, k2, k3, hf, hb⟩)
            clear yT0 yT1 yX0 yX1 yC0 yC1 yC2 yDa0 yDa1 yDa2 yDa3 yDa4 yDa5 yDb0 yDb1 yDb2 yDb3 yDb4 yDb5 yTl yXl yCl yDal yDbl
            clear HC
            have bn := hb
            have bq : Below u3.heap.size u3 (u3.alloc (.cells #[.slice F1 fn1 fc1, .slice F2 fn2 fc2, .slice F3 fn3 fc3] 32)) := ((Below.refl u3.heap.size u3).alloc (Nat.le_refl _) _)
            have bn := hb.trans (bq.mono hb.size)
            have T3 := Lib.hid (T2.out.below bn)
            have X3 := Lib.hid (X2.out.below bn)
            have C3 := Lib.hid (C2.out.below bn)
            have O3 := Lib.hid (O2.out.below bn)
            have P3 := Lib.hid (P2.out.below bn)
            have Q3 := Lib.hid (Q2.out.below bn)
            have R3 := Lib.hid (R2.out.below bn)
            have Da3 := Lib.hid (Da2.out.below bn)
            have Db3 := Lib.hid (Db2.out.below bn)
            have HB3 := Lib.hid (HB2.out.trans (bn.mono HB2.out.size))
            have Dc3 : Hid (Blk (u3.alloc (.cells #[.slice F1 fn1 fc1, .slice F2 fn2 fc2, .slice F3 fn3 fc3] 32)) u3.heap.size 32 #[.slice F1 fn1 fc1, .slice F2 fn2 fc2, .slice F3 fn3 fc3]) := Lib.hid (Blk.at_new 32 #[.slice F1 fn1 fc1, .slice F2 fn2 fc2, .slice F3 fn3 fc3] rfl)
            generalize hV : u3.alloc (.cells #[.slice F1 fn1 fc1, .slice F2 fn2 fc2, .slice F3 fn3 fc3] 32) = V3 at *
            generalize hp : u3.heap.size = p3 at *
            clear hV hp bq
            clear hb bn T2 X2 C2 O2 P2 Q2 R2 Da2 Db2 HB2
            clear k1 k2 k3 hf
            have yT0 := T3.out.cell 0
            have yT1 := T3.out.cell 1
            have yX0 := X3.out.cell 0
            have yX1 := X3.out.cell 1
            have yC0 := C3.out.cell 0
            have yC1 := C3.out.cell 1
            have yC2 := C3.out.cell 2
            have yDa0 := Da3.out.cell 0
            have yDa1 := Da3.out.cell 1
            have yDa2 := Da3.out.cell 2
            have yDa3 := Da3.out.cell 3
            have yDa4 := Da3.out.cell 4
            have yDa5 := Da3.out.cell 5
            have yDb0 := Db3.out.cell 0
            have yDb1 := Db3.out.cell 1
            have yDb2 := Db3.out.cell 2
            have yDb3 := Db3.out.cell 3
            have yDb4 := Db3.out.cell 4
            have yDb5 := Db3.out.cell 5
            have yDc0 := Dc3.out.cell 0
            have yDc1 := Dc3.out.cell 1
            have yDc2 := Dc3.out.cell 2
            simp only [List.getElem?_toArray, List.getElem?_cons_zero, List.getElem?_cons_succ] at yT0 yT1 yX0 yX1 yC0 yC1 yC2 yDa0 yDa1 yDa2 yDa3 yDa4 yDa5 yDb0 yDb1 yDb2 yDb3 yDb4 yDb5 yDc0 yDc1 yDc2
            have yTl := T3.out.lt
            have yXl := X3.out.lt
            have yCl := C3.out.lt
            have yDal := Da3.out.lt
            have yDbl := Db3.out.lt
            have yDcl := Dc3.out.lt
            have HC := Lib.hid (HTo.out _ O3.out P3.out Q3.out R3.out)
            try dsimp only [TR.v, vCt] at HC
            go_upto_region 29 with (go_at_call 33; with_reducible refine HC.out.mono ?_; rintro e u4 ⟨rfl, hb⟩)
            clear yT0 yT1 yX0 yX1 yC0 yC1 yC2 yDa0 yDa1 yDa2 yDa3 yDa4 yDa5 yDb0 yDb1 yDb2 yDb3 yDb4 yDb5 yDc0 yDc1 yDc2 yTl yXl yCl yDal yDbl yDcl
            clear HC
            have bn := hb
            have T4 := Lib.hid (T3.out.below bn)
            have X4 := Lib.hid (X3.out.below bn)
            have C4 := Lib.hid (C3.out.below bn)
            have O4 := Lib.hid (O3.out.below bn)
            have P4 := Lib.hid (P3.out.below bn)
            have Q4 := Lib.hid (Q3.out.below bn)
            have R4 := Lib.hid (R3.out.below bn)
            have Da4 := Lib.hid (Da3.out.below bn)
            have Db4 := Lib.hid (Db3.out.below bn)
            have Dc4 := Lib.hid (Dc3.out.below bn)
            have HB4 := Lib.hid (HB3.out.trans (bn.mono HB3.out.size))
            clear hb bn T3 X3 C3 O3 P3 Q3 R3 Da3 Db3 Dc3 HB3
            have yT0 := T4.out.cell 0
            have yT1 := T4.out.cell 1
            have yX0 := X4.out.cell 0
            have yX1 := X4.out.cell 1
            have yC0 := C4.out.cell 0
            have yC1 := C4.out.cell 1
            have yC2 := C4.out.cell 2
            have yDa0 := Da4.out.cell 0
            have yDa1 := Da4.out.cell 1
            have yDa2 := Da4.out.cell 2
            have yDa3 := Da4.out.cell 3
            have yDa4 := Da4.out.cell 4
            have yDa5 := Da4.out.cell 5
            have yDb0 := Db4.out.cell 0
            have yDb1 := Db4.out.cell 1
            have yDb2 := Db4.out.cell 2
            have yDb3 := Db4.out.cell 3
            have yDb4 := Db4.out.cell 4
            have yDb5 := Db4.out.cell 5
            have yDc0 := Dc4.out.cell 0
            have yDc1 := Dc4.out.cell 1
            have yDc2 := Dc4.out.cell 2
            simp only [List.getElem?_toArray, List.getElem?_cons_zero, List.getElem?_cons_succ] at yT0 yT1 yX0 yX1 yC0 yC1 yC2 yDa0 yDa1 yDa2 yDa3 yDa4 yDa5 yDb0 yDb1 yDb2 yDb3 yDb4 yDb5 yDc0 yDc1 yDc2
            have yTl := T4.out.lt
            have yXl := X4.out.lt
            have yCl := C4.out.lt
            have yDal := Da4.out.lt
            have yDbl := Db4.out.lt
            have yDcl := Dc4.out.lt
            have HC := Lib.hid (HCc.out _ O4.out P4.out Q4.out R4.out)
            try dsimp only [TR.v, vCt] at HC
            go_upto_region 31 with (go_at_call 32; with_reducible refine HC.out.mono ?_; rintro e u5 ⟨rfl, hb⟩)
            clear yT0 yT1 yX0 yX1 yC0 yC1 yC2 yDa0 yDa1 yDa2 yDa3 yDa4 yDa5 yDb0 yDb1 yDb2 yDb3 yDb4 yDb5 yDc0 yDc1 yDc2 yTl yXl yCl yDal yDbl yDcl
            clear HC
            have bn := hb
            have T5 := Lib.hid (T4.out.below bn)
            have X5 := Lib.hid (X4.out.below bn)
            have C5 := Lib.hid (C4.out.below bn)
            have O5 := Lib.hid (O4.out.below bn)
            have P5 := Lib.hid (P4.out.below bn)
            have Q5 := Lib.hid (Q4.out.below bn)
            have R5 := Lib.hid (R4.out.below bn)
            have Da5 := Lib.hid (Da4.out.below bn)
            have Db5 := Lib.hid (Db4.out.below bn)
            have Dc5 := Lib.hid (Dc4.out.below bn)
            have HB5 := Lib.hid (HB4.out.trans (bn.mono HB4.out.size))
            clear hb bn T4 X4 C4 O4 P4 Q4 R4 Da4 Db4 Dc4 HB4
            have hle1 : decide (lo ≤ tv) = true := decide_eq_true HLe.out.1
            have hle2 : decide (tv ≤ hi) = true := decide_eq_true HLe.out.2
            have yT0 := T5.out.cell 0
            have yT1 := T5.out.cell 1
            have yX0 := X5.out.cell 0
            have yX1 := X5.out.cell 1
            have yC0 := C5.out.cell 0
            have yC1 := C5.out.cell 1
            have yC2 := C5.out.cell 2
            have yDa0 := Da5.out.cell 0
            have yDa1 := Da5.out.cell 1
            have yDa2 := Da5.out.cell 2
            have yDa3 := Da5.out.cell 3
            have yDa4 := Da5.out.cell 4
            have yDa5 := Da5.out.cell 5
            have yDb0 := Db5.out.cell 0
            have yDb1 := Db5.out.cell 1
            have yDb2 := Db5.out.cell 2
            have yDb3 := Db5.out.cell 3
            have yDb4 := Db5.out.cell 4
            have yDb5 := Db5.out.cell 5
            have yDc0 := Dc5.out.cell 0
            have yDc1 := Dc5.out.cell 1
            have yDc2 := Dc5.out.cell 2
            simp only [List.getElem?_toArray, List.getElem?_cons_zero, List.getElem?_cons_succ] at yT0 yT1 yX0 yX1 yC0 yC1 yC2 yDa0 yDa1 yDa2 yDa3 yDa4 yDa5 yDb0 yDb1 yDb2 yDb3 yDb4 yDb5 yDc0 yDc1 yDc2
            have yTl := T5.out.lt
            have yXl := X5.out.lt
            have yCl := C5.out.lt
            have yDal := Da5.out.lt
            have yDbl := Db5.out.lt
            have yDcl := Dc5.out.lt
            go_wp2_with (go_at_call 14; with_reducible refine (HSan.out _).mono ?_; rintro e u6 ⟨rfl, hb6⟩; have T6 := Lib.hid (T5.out.below hb6); have X6 := Lib.hid (X5.out.below hb6); have C6 := Lib.hid (C5.out.below hb6); have O6 := Lib.hid (O5.out.below hb6); have P6 := Lib.hid (P5.out.below hb6); have Q6 := Lib.hid (Q5.out.below hb6); have R6 := Lib.hid (R5.out.below hb6); have Da6 := Lib.hid (Da5.out.below hb6); have Db6 := Lib.hid (Db5.out.below hb6); have Dc6 := Lib.hid (Dc5.out.below hb6); have HB6 := Lib.hid (HB5.out.trans (hb6.mono HB5.out.size)); clear hb6; have y6T0 := T6.out.cell 0; have y6T1 := T6.out.cell 1; have y6X0 := X6.out.cell 0; have y6X1 := X6.out.cell 1; have y6C0 := C6.out.cell 0; have y6C1 := C6.out.cell 1; have y6C2 := C6.out.cell 2; have y6Da0 := Da6.out.cell 0; have y6Da1 := Da6.out.cell 1; have y6Da2 := Da6.out.cell 2; have y6Da3 := Da6.out.cell 3; have y6Da4 := Da6.out.cell 4; have y6Da5 := Da6.out.cell 5; have y6Db0 := Db6.out.cell 0; have y6Db1 := Db6.out.cell 1; have y6Db2 := Db6.out.cell 2; have y6Db3 := Db6.out.cell 3; have y6Db4 := Db6.out.cell 4; have y6Db5 := Db6.out.cell 5; have y6Dc0 := Dc6.out.cell 0; have y6Dc1 := Dc6.out.cell 1; have y6Dc2 := Dc6.out.cell 2; simp only [List.getElem?_toArray, List.getElem?_cons_zero, List.getElem?_cons_succ] at y6T0 y6T1 y6X0 y6X1 y6C0 y6C1 y6C2 y6Da0 y6Da1 y6Da2 y6Da3 y6Da4 y6Da5 y6Db0 y6Db1 y6Db2 y6Db3 y6Db4 y6Db5 y6Dc0 y6Dc1 y6Dc2; have y6Tl := T6.out.lt; have y6Xl := X6.out.lt; have y6Cl := C6.out.lt; have y6Dal := Da6.out.lt; have y6Dbl := Db6.out.lt; have y6Dcl := Dc6.out.lt)
            exact bodyPost_ret (v := .bool true) (by simp [results, Try.results8, go_sem]) rfl ⟨rfl, HB6.out⟩
          case neg =>
            have HG1 := Lib.hid (fun (u : World) (hu : TR.Ok u ⟨A, j, c, B, m, d, hs, ms⟩) => (Least_any ⟨A, j, c, B, m, d, hs, ms⟩ kind id u hu).mono fun e w' h => ask_err h hp)
            have HG2 := Lib.hid (fun (u : World) (hu : TR.Ok u ⟨A, j, c, B, m, d, hs, ms⟩) => (Greatest_any ⟨A, j, c, B, m, d, hs, ms⟩ kind id u hu).mono fun e w' h => ask_err h hp)
            dsimp only [TR.v, vAt] at HG1 HG2
            obtain rfl : tb = false := by
              cases tb
              · rfl
              · exact absurd (HTf.out.1.2 rfl) hp
            generalize plE hs ms kind id = pe at *
            have hpb : (pe == 0) = false := by simpa using hp
            clear hp HTf
            have yT0 := T0.out.cell 0
            have yT1 := T0.out.cell 1
            have yX0 := X0.out.cell 0
            have yX1 := X0.out.cell 1
            have yC0 := C0.out.cell 0
            have yC1 := C0.out.cell 1
            have yC2 := C0.out.cell 2
            simp only [List.getElem?_toArray, List.getElem?_cons_zero, List.getElem?_cons_succ] at yT0 yT1 yX0 yX1 yC0 yC1 yC2
            have yTl := T0.out.lt
            have yXl := X0.out.lt
            have yCl := C0.out.lt
            have HC := Lib.hid (HG1.out _ O0.out)
            try dsimp only [TR.v, vCt] at HC
            go_upto_region 26 with (go_at_call 16; with_reducible refine HC.out.mono ?_; rintro e u1 ⟨rfl, hb⟩)
            clear yT0 yT1 yX0 yX1 yC0 yC1 yC2 yTl yXl yCl
            clear HC
            have bn := hb
            have bq : Below u1.heap.size u1 (u1.alloc (.cells #[.int .i64 0, .slice none 0 0, .slice none 0 0, .slice none 0 0, .int .i64 0, .slice none 0 0] 39)) := ((Below.refl u1.heap.size u1).alloc (Nat.le_refl _) _)
            have bn := hb.trans (bq.mono hb.size)
            have T1 := Lib.hid (T0.out.below bn)
            have X1 := Lib.hid (X0.out.below bn)
            have C1 := Lib.hid (C0.out.below bn)
            have O1 := Lib.hid (O0.out.below bn)
            have P1 := Lib.hid (P0.out.below bn)
            have Q1 := Lib.hid (Q0.out.below bn)
            have R1 := Lib.hid (R0.out.below bn)
            have HB1 := Lib.hid (HB0.out.trans (bn.mono HB0.out.size))
            have Da1 : Hid (Blk (u1.alloc (.cells #[.int .i64 0, .slice none 0 0, .slice none 0 0, .slice none 0 0, .int .i64 0, .slice none 0 0] 39)) u1.heap.size 39 #[.int .i64 0, .slice none 0 0, .slice none 0 0, .slice none 0 0, .int .i64 0, .slice none 0 0]) := Lib.hid (Blk.at_new 39 #[.int .i64 0, .slice none 0 0, .slice none 0 0, .slice none 0 0, .int .i64 0, .slice none 0 0] rfl)
            generalize hV : u1.alloc (.cells #[.int .i64 0, .slice none 0 0, .slice none 0 0, .slice none 0 0, .int .i64 0, .slice none 0 0] 39) = V1 at *
            generalize hp : u1.heap.size = p1 at *
            clear hV hp bq
            clear hb bn T0 X0 C0 O0 P0 Q0 R0 HB0
            have yT0 := T1.out.cell 0
            have yT1 := T1.out.cell 1
            have yX0 := X1.out.cell 0
            have yX1 := X1.out.cell 1
            have yC0 := C1.out.cell 0
            have yC1 := C1.out.cell 1
            have yC2 := C1.out.cell 2
            have yDa0 := Da1.out.cell 0
            have yDa1 := Da1.out.cell 1
            have yDa2 := Da1.out.cell 2
            have yDa3 := Da1.out.cell 3
            have yDa4 := Da1.out.cell 4
            have yDa5 := Da1.out.cell 5
            simp only [List.getElem?_toArray, List.getElem?_cons_zero, List.getElem?_cons_succ] at yT0 yT1 yX0 yX1 yC0 yC1 yC2 yDa0 yDa1 yDa2 yDa3 yDa4 yDa5
            have yTl := T1.out.lt
            have yXl := X1.out.lt
            have yCl := C1.out.lt
            have yDal := Da1.out.lt
            have HC := Lib.hid (HG2.out _ O1.out)
            try dsimp only [TR.v, vCt] at HC
            go_upto_region 27 with (go_at_call 17; with_reducible refine HC.out.mono ?_; rintro e u2 ⟨rfl, hb⟩)
            clear yT0 yT1 yX0 yX1 yC0 yC1 yC2 yDa0 yDa1 yDa2 yDa3 yDa4 yDa5 yTl yXl yCl yDal
            clear HC
            have bn := hb
            have bq : Below u2.heap.size u2 (u2.alloc (.cells #[.int .i64 0, .slice none 0 0, .slice none 0 0, .slice none 0 0, .int .i64 0, .slice none 0 0] 39)) := ((Below.refl u2.heap.size u2).alloc (Nat.le_refl _) _)
            have bn := hb.trans (bq.mono hb.size)
            have T2 := Lib.hid (T1.out.below bn)
            have X2 := Lib.hid (X1.out.below bn)
            have C2 := Lib.hid (C1.out.below bn)
            have O2 := Lib.hid (O1.out.below bn)
            have P2 := Lib.hid (P1.out.below bn)
            have Q2 := Lib.hid (Q1.out.below bn)
            have R2 := Lib.hid (R1.out.below bn)
            have Da2 := Lib.hid (Da1.out.below bn)
            have HB2 := Lib.hid (HB1.out.trans (bn.mono HB1.out.size))
            have Db2 : Hid (Blk (u2.alloc (.cells #[.int .i64 0, .slice none 0 0, .slice none 0 0, .slice none 0 0, .int .i64 0, .slice none 0 0] 39)) u2.heap.size 39 #[.int .i64 0, .slice none 0 0, .slice none 0 0, .slice none 0 0, .int .i64 0, .slice none 0 0]) := Lib.hid (Blk.at_new 39 #[.int .i64 0, .slice none 0 0, .slice none 0 0, .slice none 0 0, .int .i64 0, .slice none 0 0] rfl)
            generalize hV : u2.alloc (.cells #[.int .i64 0, .slice none 0 0, .slice none 0 0, .slice none 0 0, .int .i64 0, .slice none 0 0] 39) = V2 at *
            generalize hp : u2.heap.size = p2 at *
            clear hV hp bq
            clear hb bn T1 X1 C1 O1 P1 Q1 R1 Da1 HB1
            have yT0 := T2.out.cell 0
            have yT1 := T2.out.cell 1
            have yX0 := X2.out.cell 0
            have yX1 := X2.out.cell 1
            have yC0 := C2.out.cell 0
            have yC1 := C2.out.cell 1
            have yC2 := C2.out.cell 2
            have yDa0 := Da2.out.cell 0
            have yDa1 := Da2.out.cell 1
            have yDa2 := Da2.out.cell 2
            have yDa3 := Da2.out.cell 3
            have yDa4 := Da2.out.cell 4
            have yDa5 := Da2.out.cell 5
            have yDb0 := Db2.out.cell 0
            have yDb1 := Db2.out.cell 1
            have yDb2 := Db2.out.cell 2
            have yDb3 := Db2.out.cell 3
            have yDb4 := Db2.out.cell 4
            have yDb5 := Db2.out.cell 5
            simp only [List.getElem?_toArray, List.getElem?_cons_zero, List.getElem?_cons_succ] at yT0 yT1 yX0 yX1 yC0 yC1 yC2 yDa0 yDa1 yDa2 yDa3 yDa4 yDa5 yDb0 yDb1 yDb2 yDb3 yDb4 yDb5
            have yTl := T2.out.lt
            have yXl := X2.out.lt
            have yCl := C2.out.lt
            have yDal := Da2.out.lt
            have yDbl := Db2.out.lt
            have HC := Lib.hid (HFi.out _ O2.out)
            try dsimp only [TR.v, vCt] at HC
            go_upto_region 28 with (go_at_call 15; with_reducible refine HC.out.mono ?_; rintro e u3 ⟨F1, fn1, fc1, F2, fn2, fc2, F3, fn3, fc3, fst, fen, fma, rfl, k1, k2, k3, hf, hb⟩)
            clear yT0 yT1 yX0 yX1 yC0 yC1 yC2 yDa0 yDa1 yDa2 yDa3 yDa4 yDa5 yDb0 yDb1 yDb2 yDb3 yDb4 yDb5 yTl yXl yCl yDal yDbl
            clear HC
            have bn := hb
            have bq : Below u3.heap.size u3 (u3.alloc (.cells #[.slice F1 fn1 fc1, .slice F2 fn2 fc2, .slice F3 fn3 fc3] 32)) := ((Below.refl u3.heap.size u3).alloc (Nat.le_refl _) _)
            have bn := hb.trans (bq.mono hb.size)
            have T3 := Lib.hid (T2.out.below bn)
            have X3 := Lib.hid (X2.out.below bn)
            have C3 := Lib.hid (C2.out.below bn)
            have O3 := Lib.hid (O2.out.below bn)
            have P3 := Lib.hid (P2.out.below bn)
            have Q3 := Lib.hid (Q2.out.below bn)
            have R3 := Lib.hid (R2.out.below bn)
            have Da3 := Lib.hid (Da2.out.below bn)
            have Db3 := Lib.hid (Db2.out.below bn)
            have HB3 := Lib.hid (HB2.out.trans (bn.mono HB2.out.size))
            have Dc3 : Hid (Blk (u3.alloc (.cells #[.slice F1 fn1 fc1, .slice F2 fn2 fc2, .slice F3 fn3 fc3] 32)) u3.heap.size 32 #[.slice F1 fn1 fc1, .slice F2 fn2 fc2, .slice F3 fn3 fc3]) := Lib.hid (Blk.at_new 32 #[.slice F1 fn1 fc1, .slice F2 fn2 fc2, .slice F3 fn3 fc3] rfl)
            generalize hV : u3.alloc (.cells #[.slice F1 fn1 fc1, .slice F2 fn2 fc2, .slice F3 fn3 fc3] 32) = V3 at *
            generalize hp : u3.heap.size = p3 at *
            clear hV hp bq
            clear hb bn T2 X2 C2 O2 P2 Q2 R2 Da2 Db2 HB2
            clear k1 k2 k3 hf
            have yT0 := T3.out.cell 0
            have yT1 := T3.out.cell 1
            have yX0 := X3.out.cell 0
            have yX1 := X3.out.cell 1
            have yC0 := C3.out.cell 0
            have yC1 := C3.out.cell 1
            have yC2 := C3.out.cell 2
            have yDa0 := Da3.out.cell 0
            have yDa1 := Da3.out.cell 1
            have yDa2 := Da3.out.cell 2
            have yDa3 := Da3.out.cell 3
            have yDa4 := Da3.out.cell 4
            have yDa5 := Da3.out.cell 5
            have yDb0 := Db3.out.cell 0
            have yDb1 := Db3.out.cell 1
            have yDb2 := Db3.out.cell 2
            have yDb3 := Db3.out.cell 3
            have yDb4 := Db3.out.cell 4
            have yDb5 := Db3.out.cell 5
            have yDc0 := Dc3.out.cell 0
            have yDc1 := Dc3.out.cell 1
            have yDc2 := Dc3.out.cell 2
            simp only [List.getElem?_toArray, List.getElem?_cons_zero, List.getElem?_cons_succ] at yT0 yT1 yX0 yX1 yC0 yC1 yC2 yDa0 yDa1 yDa2 yDa3 yDa4 yDa5 yDb0 yDb1 yDb2 yDb3 yDb4 yDb5 yDc0 yDc1 yDc2
            have yTl := T3.out.lt
            have yXl := X3.out.lt
            have yCl := C3.out.lt
            have yDal := Da3.out.lt
            have yDbl := Db3.out.lt
            have yDcl := Dc3.out.lt
            have HC := Lib.hid (HTo.out _ O3.out P3.out Q3.out R3.out)
            try dsimp only [TR.v, vCt] at HC
            go_upto_region 29 with (go_at_call 33; with_reducible refine HC.out.mono ?_; rintro e u4 ⟨rfl, hb⟩)
            clear yT0 yT1 yX0 yX1 yC0 yC1 yC2 yDa0 yDa1 yDa2 yDa3 yDa4 yDa5 yDb0 yDb1 yDb2 yDb3 yDb4 yDb5 yDc0 yDc1 yDc2 yTl yXl yCl yDal yDbl yDcl
            clear HC
            have bn := hb
            have T4 := Lib.hid (T3.out.below bn)
            have X4 := Lib.hid (X3.out.below bn)
            have C4 := Lib.hid (C3.out.below bn)
            have O4 := Lib.hid (O3.out.below bn)
            have P4 := Lib.hid (P3.out.below bn)
            have Q4 := Lib.hid (Q3.out.below bn)
            have R4 := Lib.hid (R3.out.below bn)
            have Da4 := Lib.hid (Da3.out.below bn)
            have Db4 := Lib.hid (Db3.out.below bn)
            have Dc4 := Lib.hid (Dc3.out.below bn)
            have HB4 := Lib.hid (HB3.out.trans (bn.mono HB3.out.size))
            clear hb bn T3 X3 C3 O3 P3 Q3 R3 Da3 Db3 Dc3 HB3
            have yT0 := T4.out.cell 0
            have yT1 := T4.out.cell 1
            have yX0 := X4.out.cell 0
            have yX1 := X4.out.cell 1
            have yC0 := C4.out.cell 0
            have yC1 := C4.out.cell 1
            have yC2 := C4.out.cell 2
            have yDa0 := Da4.out.cell 0
            have yDa1 := Da4.out.cell 1
            have yDa2 := Da4.out.cell 2
            have yDa3 := Da4.out.cell 3
            have yDa4 := Da4.out.cell 4
            have yDa5 := Da4.out.cell 5
            have yDb0 := Db4.out.cell 0
            have yDb1 := Db4.out.cell 1
            have yDb2 := Db4.out.cell 2
            have yDb3 := Db4.out.cell 3
            have yDb4 := Db4.out.cell 4
            have yDb5 := Db4.out.cell 5
            have yDc0 := Dc4.out.cell 0
            have yDc1 := Dc4.out.cell 1
            have yDc2 := Dc4.out.cell 2
            simp only [List.getElem?_toArray, List.getElem?_cons_zero, List.getElem?_cons_succ] at yT0 yT1 yX0 yX1 yC0 yC1 yC2 yDa0 yDa1 yDa2 yDa3 yDa4 yDa5 yDb0 yDb1 yDb2 yDb3 yDb4 yDb5 yDc0 yDc1 yDc2
            have yTl := T4.out.lt
            have yXl := X4.out.lt
            have yCl := C4.out.lt
            have yDal := Da4.out.lt
            have yDbl := Db4.out.lt
            have yDcl := Dc4.out.lt
            have HC := Lib.hid (HCc.out _ O4.out P4.out Q4.out R4.out)
            try dsimp only [TR.v, vCt] at HC
            go_upto_region 31 with (go_at_call 32; with_reducible refine HC.out.mono ?_; rintro e u5 ⟨rfl, hb⟩)
            clear yT0 yT1 yX0 yX1 yC0 yC1 yC2 yDa0 yDa1 yDa2 yDa3 yDa4 yDa5 yDb0 yDb1 yDb2 yDb3 yDb4 yDb5 yDc0 yDc1 yDc2 yTl yXl yCl yDal yDbl yDcl
            clear HC
            have bn := hb
            have T5 := Lib.hid (T4.out.below bn)
            have X5 := Lib.hid (X4.out.below bn)
            have C5 := Lib.hid (C4.out.below bn)
            have O5 := Lib.hid (O4.out.below bn)
            have P5 := Lib.hid (P4.out.below bn)
            have Q5 := Lib.hid (Q4.out.below bn)
            have R5 := Lib.hid (R4.out.below bn)
            have Da5 := Lib.hid (Da4.out.below bn)
            have Db5 := Lib.hid (Db4.out.below bn)
            have Dc5 := Lib.hid (Dc4.out.below bn)
            have HB5 := Lib.hid (HB4.out.trans (bn.mono HB4.out.size))
            clear hb bn T4 X4 C4 O4 P4 Q4 R4 Da4 Db4 Dc4 HB4
            have yT0 := T5.out.cell 0
            have yT1 := T5.out.cell 1
            have yX0 := X5.out.cell 0
            have yX1 := X5.out.cell 1
            have yC0 := C5.out.cell 0
            have yC1 := C5.out.cell 1
            have yC2 := C5.out.cell 2
            have yDa0 := Da5.out.cell 0
            have yDa1 := Da5.out.cell 1
            have yDa2 := Da5.out.cell 2
            have yDa3 := Da5.out.cell 3
            have yDa4 := Da5.out.cell 4
            have yDa5 := Da5.out.cell 5
            have yDb0 := Db5.out.cell 0
            have yDb1 := Db5.out.cell 1
            have yDb2 := Db5.out.cell 2
            have yDb3 := Db5.out.cell 3
            have yDb4 := Db5.out.cell 4
            have yDb5 := Db5.out.cell 5
            have yDc0 := Dc5.out.cell 0
            have yDc1 := Dc5.out.cell 1
            have yDc2 := Dc5.out.cell 2
            simp only [List.getElem?_toArray, List.getElem?_cons_zero, List.getElem?_cons_succ] at yT0 yT1 yX0 yX1 yC0 yC1 yC2 yDa0 yDa1 yDa2 yDa3 yDa4 yDa5 yDb0 yDb1 yDb2 yDb3 yDb4 yDb5 yDc0 yDc1 yDc2
            have yTl := T5.out.lt
            have yXl := X5.out.lt
            have yCl := C5.out.lt
            have yDal := Da5.out.lt
            have yDbl := Db5.out.lt
            have yDcl := Dc5.out.lt
            go_wp2_with (go_at_call 14; with_reducible refine (HSan.out _).mono ?_; rintro e u6 ⟨rfl, hb6⟩; have T6 := Lib.hid (T5.out.below hb6); have X6 := Lib.hid (X5.out.below hb6); have C6 := Lib.hid (C5.out.below hb6); have O6 := Lib.hid (O5.out.below hb6); have P6 := Lib.hid (P5.out.below hb6); have Q6 := Lib.hid (Q5.out.below hb6); have R6 := Lib.hid (R5.out.below hb6); have Da6 := Lib.hid (Da5.out.below hb6); have Db6 := Lib.hid (Db5.out.below hb6); have Dc6 := Lib.hid (Dc5.out.below hb6); have HB6 := Lib.hid (HB5.out.trans (hb6.mono HB5.out.size)); clear hb6; have y6T0 := T6.out.cell 0; have y6T1 := T6.out.cell 1; have y6X0 := X6.out.cell 0; have y6X1 := X6.out.cell 1; have y6C0 := C6.out.cell 0; have y6C1 := C6.out.cell 1; have y6C2 := C6.out.cell 2; have y6Da0 := Da6.out.cell 0; have y6Da1 := Da6.out.cell 1; have y6Da2 := Da6.out.cell 2; have y6Da3 := Da6.out.cell 3; have y6Da4 := Da6.out.cell 4; have y6Da5 := Da6.out.cell 5; have y6Db0 := Db6.out.cell 0; have y6Db1 := Db6.out.cell 1; have y6Db2 := Db6.out.cell 2; have y6Db3 := Db6.out.cell 3; have y6Db4 := Db6.out.cell 4; have y6Db5 := Db6.out.cell 5; have y6Dc0 := Dc6.out.cell 0; have y6Dc1 := Dc6.out.cell 1; have y6Dc2 := Dc6.out.cell 2; simp only [List.getElem?_toArray, List.getElem?_cons_zero, List.getElem?_cons_succ] at y6T0 y6T1 y6X0 y6X1 y6C0 y6C1 y6C2 y6Da0 y6Da1 y6Da2 y6Da3 y6Da4 y6Da5 y6Db0 y6Db1 y6Db2 y6Db3 y6Db4 y6Db5 y6Dc0 y6Dc1 y6Dc2; have y6Tl := T6.out.lt; have y6Xl := X6.out.lt; have y6Cl := C6.out.lt; have y6Dal := Da6.out.lt; have y6Dbl := Db6.out.lt; have y6Dcl := Dc6.out.lt)
            exact bodyPost_ret (v := .bool true) (by simp [results, Try.results8, go_sem]) rfl ⟨rfl, HB6.out⟩
        case pos =>
          have hjl : j < hs.length := by rw [HLh.out]; exact hjn
          have hju : j < us.length := by have := HU0.out.len; omega
          obtain ⟨bH, oH, eH, hH⟩ := HO0.out.h.at_ (by dsimp only; omega)
          obtain ⟨bU, oU, eU, hU⟩ := HU0.out.at_ (by omega)
          dsimp only at eH
          subst eH eU
          have HUs := Lib.hid hU
          have hH2 := hH.below HBk.out
          obtain ⟨u0, u1, u2, u3, u4, u5⟩ := Hds.at_ hH2 (List.getElem?_eq_getElem hjl)
          have ul := hH2.lt
          have HHe := Lib.hid (hat_eq hjl)
          have hbd := HTV.out.hd_bound (List.getElem_mem hjl)
          rw [← HHe.out] at u0 u1 u2 u3 u4 u5 hbd
          have HAt := Lib.hid (List.getElem?_eq_getElem hju)
          obtain ⟨uv, huv⟩ : ∃ x, uget us j = x := ⟨_, rfl⟩
          have HUv := Lib.hid huv
          have HUx := Lib.hid (show ((us[j]'hju).1 : Int) = uv by rw [← huv]; exact (uget_at hju).symm)
          have huin := uget_in us j
          rw [huv] at huin
          clear huv hH hU hH2
          obtain ⟨x, hx⟩ : ∃ x, hat hs j = x := ⟨_, rfl⟩
          rw [hx] at u0 u1 u2 u3 u4 u5 hbd
          obtain ⟨dd, sl, sh, el, eh, bk⟩ := x
          have HHd := Lib.hid hx
          dsimp only at u0 u1 u2 u3 u4 u5 hbd
          obtain ⟨hb1, hb2', hb3, hb4, hb5, hb6⟩ := hbd
          obtain ⟨hu1, hu2⟩ := huin
          obtain ⟨r, hr, hr2, hr3, hr4⟩ := mod_r hb2' hu1
          have HRr := Lib.hid hr2
          have hne : sh - sl + 1 ≠ 0 := by omega
          clear hx hr2
          have bn := below_new wr (.cells #[.int .i64 dd, .int .i64 sl, .int .i64 sh, .int .i64 el, .int .i64 eh, .int .i64 bk] 47)
          have HB12 := Lib.hid (HBk.out.trans (bn.mono HBk.out.size))
          have HT12 := Lib.hid (HTk.out.below bn)
          have HX12 := Lib.hid (HXk.out.below bn)
          have HC12 := Lib.hid (HCk2.out.below bn)
          have HH12 := Lib.hid (Blk.new wr 47 #[.int .i64 dd, .int .i64 sl, .int .i64 sh, .int .i64 el, .int .i64 eh, .int .i64 bk])
          have OWs12 := Lib.hid (owns_below OWs.out bn)
          have OWe12 := Lib.hid (owns_below OWe.out bn)
          have OWm12 := Lib.hid (owns_below OWm.out bn)
          have HBb12 := Lib.hid (Nat.le_trans HBb.out bn.size)
          clear bn
          go_upto_region 13 with fail
          clear u0 u1 u2 u3 u4 u5 ul y0 y1 x0 x1 z0 z1 z2 yl xl zl
          generalize hV : wr.alloc (.cells #[.int .i64 dd, .int .i64 sl, .int .i64 sh, .int .i64 el, .int .i64 eh, .int .i64 bk] 47) = V12 at *
          generalize hg12 : wr.heap.size = g12 at *
          have HG12 := Lib.hid (show b2 ≤ g12 from HBb.out)
          clear hV hg12
          have h0 := HH12.out.cell 0
          have h1 := HH12.out.cell 1
          have h2 := HH12.out.cell 2
          have h3 := HH12.out.cell 3
          have h4 := HH12.out.cell 4
          simp only [List.getElem?_toArray, List.getElem?_cons_zero, List.getElem?_cons_succ] at h0 h1 h2 h3 h4
          have hhl := HH12.out.lt
          have hl2 := HUs.out.below HB12.out
          have s0 := hl2.c j _ HAt.out 0 _ rfl
          rw [Nat.mul_one, Nat.add_zero, HUx.out] at s0
          have sl' := hl2.lt
          clear hl2
          obtain ⟨xc, xf'⟩ := xcell (W := V12)
          refine wp_region_quiet_tail 18 (by kernel_rfl) (by kernel_rfl) ?_
          simp only [List.take_succ_cons, List.take_zero, List.drop_succ_cons, List.drop_zero]
          repeat (first | go_big_quiet_step (fail) | quiet_step (fail))
          refine wpQuiet_nil ?_
          intro w13 hb13
          have HB13 := Lib.hid (HB12.out.trans (hb13.mono HB12.out.size))
          have HT13 := Lib.hid (HT12.out.below hb13)
          have HX13 := Lib.hid (HX12.out.below hb13)
          have HC13 := Lib.hid (HC12.out.below hb13)
          have HH13 := Lib.hid (HH12.out.below hb13)
          have OWs13 := Lib.hid (owns_below OWs12.out hb13)
          have OWe13 := Lib.hid (owns_below OWe12.out hb13)
          have OWm13 := Lib.hid (owns_below OWm12.out hb13)
          have HBb13 := Lib.hid (Nat.le_trans HBb12.out hb13.size)
          clear h0 h1 h2 h3 h4 hhl s0 sl' xc xf' hb13
          obtain ⟨nn, hnn⟩ : ∃ x, sl + r = x := ⟨_, rfl⟩
          rw [hnn]
          have HNn := Lib.hid (show modIn sl sh (uget us j) = nn by rw [HUv.out, HRr.out]; exact hnn)
          have HN0 := Lib.hid (show 0 ≤ nn ∧ nn ≤ 65536 from ⟨by omega, by omega⟩)
          have z0 := HC13.out.cell 0
          have z1 := HC13.out.cell 1
          have z2 := HC13.out.cell 2
          simp only [List.getElem?_toArray, List.getElem?_cons_zero, List.getElem?_cons_succ] at z0 z1 z2
          have zl := HC13.out.lt
          clear hnn hr hb1 hb2' hb3 hb4 hb5 hb6 hu1 hu2 hr3 hr4 hne
          have OS14 := Lib.hid (OWs13.out.alloc (.cells #[.int .i64 nn] 3))
          have HBn14 := Lib.hid (below_new w13 (.cells #[.int .i64 nn] 3))
          have hbs := HBb13.out
          go_wp2_with (at_builtin; go_loud (refine wpList_append_own_at _ rfl (.tmp 113) (.tmp 115) 28 rfl b2 3 ii (.int .i64 0) 1 8 Try.underlying28 HII.out.1 HII.out.2.1 HII.out.2.2.1 HII.out.2.2.2 rfl (by decide) (.slice A1 j a1) j ((stT hs us j).flatMap encI) rfl OS14.out ⟨w13.heap.size, 0, none⟩ 1 1 [.int .i64 nn] rfl rfl (cell_one_new _ _ _) (one_intsL [nn]) (by unfold maxLen; omega) (by omega) (by simp; omega) ?_))
          intro v' w14 ho hgr _ hat
          obtain ⟨g5, c5, rfl⟩ := ownsRow_succ ho
          have HL14 := Lib.hid (fun (r : Nat) hr => own_lt (g := r) OS14.out hr)
          have HO14 := Lib.hid ho
          have HG14 := Lib.hid hgr
          have HA14 := Lib.hid hat
          have hb2g := HBg.out
          have hGw := HGw.out
          have hc14 := (HC13.out.alloc (.cells #[.int .i64 nn] 3)).grown hgr (fun h => by have := (HL14.out _ h).1; omega)
          have HC14 := Lib.hid hc14
          have HT14 := Lib.hid ((HT13.out.alloc (.cells #[.int .i64 nn] 3)).grown hgr (fun h => by have := (HL14.out _ h).1; omega))
          have HX14 := Lib.hid ((HX13.out.alloc (.cells #[.int .i64 nn] 3)).grown hgr (fun h => by have := (HL14.out _ h).1; omega))
          have HH14 := Lib.hid ((HH13.out.alloc (.cells #[.int .i64 nn] 3)).grown hgr (fun h => own_ne OWs13.out HH13.out (by decide) h))
          have HB14 := Lib.hid ((HB13.out.trans (HBn14.out.mono HB13.out.size)).grown hgr (by have := HB13.out.size; simp; omega) (fun r hr => by have := (HL14.out _ hr).1; omega))
          have HE14 := Lib.hid (owns_grown (OWe13.out.alloc (.cells #[.int .i64 nn] 3)) hgr (fun r hr e => HDs.out r e hr))
          have HM14 := Lib.hid (owns_grown (OWm13.out.alloc (.cells #[.int .i64 nn] 3)) hgr (fun r hr e => by have := (HL14.out _ e).1; have := HLM.out r hr; omega))
          have HD14 := Lib.hid (show ∀ r, (Value.slice (some ⟨g5, 0, none⟩) (j + 1) c5).ownBlock = some r → (Value.slice A2 j a2).ownBlock ≠ some r from fun r hr e => by
            rcases HA14.out with q1 | q1
            · exact HDs.out r (by rw [← hr, q1]) e
            · have e1 := (own_lt OWe13.out e).2
              rw [q1] at hr
              have e2 := Option.some.inj hr
              have e3 : (w13.alloc (.cells #[.int .i64 nn] 3)).heap.size = w13.heap.size + 1 := by simp
              omega)
          have HBb14 := Lib.hid (show b2 ≤ w14.heap.size by have e1 := hgr.size; simp at e1; omega)
          have z14 := hc14.cell 0
          have zl14 := hc14.lt
          have zf0 := hc14.frozen 0
          simp only [List.getElem?_toArray, List.getElem?_cons_zero] at z14
          clear ho hgr hat hc14 z0 z1 z2 zl
          go_upto_region 16 with fail
          have HB15 := Lib.hid (HB14.out.setCell (p := ⟨g, 0, none⟩) (by simp; omega) (.slice (some ⟨g5, 0, none⟩) (j + 1) c5))
          have HT15 := Lib.hid (HT14.out.far (p := ⟨g, 0, none⟩) (by simp; omega) (.slice (some ⟨g5, 0, none⟩) (j + 1) c5))
          have HX15 := Lib.hid (HX14.out.far (p := ⟨g, 0, none⟩) (by simp; omega) (.slice (some ⟨g5, 0, none⟩) (j + 1) c5))
          have HH15 := Lib.hid (HH14.out.far (p := ⟨g, 0, none⟩) (by have := HG12.out; simp; omega) (.slice (some ⟨g5, 0, none⟩) (j + 1) c5))
          have HC15 := Lib.hid (show Blk (w14.setCell ⟨g, 0, none⟩ (.slice (some ⟨g5, 0, none⟩) (j + 1) c5)) g 32 #[.slice (some ⟨g5, 0, none⟩) (j + 1) c5, .slice A2 j a2, .slice A3 m a3] by simpa using HC14.out.set_ 0 (.slice (some ⟨g5, 0, none⟩) (j + 1) c5))
          have OWs15 := Lib.hid (show (w14.setCell ⟨g, 0, none⟩ (.slice (some ⟨g5, 0, none⟩) (j + 1) c5)).ownsRow b2 3 1 (.slice (some ⟨g5, 0, none⟩) (j + 1) c5) (j + 1) ((stT hs us (j + 1)).flatMap encI) by
            rw [stT_step, HHd.out, HNn.out, List.flatMap_append]
            exact owns_grown HO14.out (grownBy_set w14 g 0 _) (fun r hr e => by have := (own_lt HO14.out hr).1; have e2 := Option.some.inj e; omega))
          have OWe15 := Lib.hid (owns_grown HE14.out (grownBy_set w14 g 0 (.slice (some ⟨g5, 0, none⟩) (j + 1) c5)) (fun r hr e => by have := (own_lt HE14.out hr).1; have e2 := Option.some.inj e; omega))
          have OWm15 := Lib.hid (owns_grown HM14.out (grownBy_set w14 g 0 (.slice (some ⟨g5, 0, none⟩) (j + 1) c5)) (fun r hr e => by have := (own_lt HM14.out hr).1; have e2 := Option.some.inj e; omega))
          have HDs15 := HD14
          have HBb15 := Lib.hid (show b2 ≤ (w14.setCell ⟨g, 0, none⟩ (.slice (some ⟨g5, 0, none⟩) (j + 1) c5)).heap.size by simpa [World.setCell] using HBb14.out)
          clear z14 zl14 zf0
          generalize w14.setCell ⟨g, 0, none⟩ (.slice (some ⟨g5, 0, none⟩) (j + 1) c5) = V15 at *
          obtain ⟨e1, f1, e2, hs3, _, _⟩ := SAt_of_row (enc := encI) (zs := ma) encI_len HMl.out OWm15.out
          cases e2
          have HS3 := Lib.hid hs3
          clear hs3 HB12 HT12 HX12 HC12 HH12 OWs12 OWe12 OWm12 HBb12 HB13 HT13 HX13 HC13 HH13 OWs13 OWe13 OWm13 HBb13 HB14 HT14 HX14 HC14 HH14 HE14 HM14 HD14 HBb14 OS14 HBn14 HL14 HO14 HG14 HA14 HBk HTk HXk HCk2 OWs OWe OWm HDs HBb hbs
          have HHb := Lib.hid (show ∀ q, q ≤ m → -(65536 * 24) ≤ heldL ms ma dd nn q ∧ heldL ms ma dd nn q ≤ 65536 * 25 from fun q hq => by
            have := heldL_bd HMb.out dd nn HN0.out.1 HN0.out.2 q (by rw [HLm.out]; exact hq)
            omega)
          go_loopw [14, 15] (fun i k wx => ∃ q : Nat, q ≤ m ∧ i = .int .i64 (heldL ms ma dd nn q) ∧ k = .int .i64 (q : Int) ∧ Below V15.heap.size V15 wx) (fun _ k _ => m - (intOf k).toNat)
          case atStart => exact ⟨0, Nat.zero_le _, rfl, rfl, Below.refl _ _⟩
          case round =>
            obtain ⟨q, hq, rfl, rfl, hb⟩ := hrel
            have HTq := Lib.hid (HT15.out.below hb)
            have HXq := Lib.hid (HX15.out.below hb)
            have HCq := Lib.hid (HC15.out.below hb)
            have HHq := Lib.hid (HH15.out.below hb)
            have HBq := Lib.hid (HB15.out.trans (hb.mono HB15.out.size))
            have HBr := Lib.hid hb
            clear hb
            by_cases hqm : q < m
            case pos =>
              have hql : q < ms.length := by rw [HLm.out]; exact hqm
              have hqa : q < ma.length := by rw [HMl.out]; exact hqm
              obtain ⟨bM, oM, eM, hM⟩ := HO0.out.m.at_ (by dsimp only; omega)
              obtain ⟨bA, oA, eA, hA⟩ := HS3.out.at_ (by omega)
              dsimp only at eM
              subst eM eA
              have HMo := Lib.hid hM
              have HAo := Lib.hid hA
              have hM2 := hM.below HBq.out
              obtain ⟨m0, m1, m2, m3, m4⟩ := Mvs.at_ hM2 (List.getElem?_eq_getElem hql)
              have ml := hM2.lt
              have HMe := Lib.hid (mat_eq hql)
              obtain ⟨tt, htt⟩ : ∃ x, (mat ms q).to = x := ⟨_, rfl⟩
              obtain ⟨ff, hff⟩ : ∃ x, (mat ms q).fr = x := ⟨_, rfl⟩
              obtain ⟨mm, hmm⟩ : ∃ x, iget ma q = x := ⟨_, rfl⟩
              have HSq := Lib.hid (show heldL ms ma dd nn (q + 1) = (heldL ms ma dd nn q + ind ((mat ms q).to = dd) (iget ma q)) - ind ((mat ms q).fr = dd) (iget ma q) from rfl)
              rw [htt, hff, hmm] at HSq
              rw [← HMe.out, htt] at m2
              rw [← HMe.out, hff] at m1
              have HFf := Lib.hid hff
              have HMm := Lib.hid hmm
              obtain ⟨bd1, bd2⟩ := HHb.out q hq
              obtain ⟨be1, be2⟩ := HMb.out q hql
              rw [hmm] at be1 be2
              have hq24 : q ≤ 24 := by omega
              obtain ⟨X, hX⟩ : ∃ x, heldL ms ma dd nn q = x := ⟨_, rfl⟩
              rw [hX] at bd1 bd2 HSq
              rw [hX]
              clear hM hA hM2 htt hff hmm hX
              have y0 := HTq.out.cell 0
              have y1 := HTq.out.cell 1
              have z0 := HCq.out.cell 0
              have z1 := HCq.out.cell 1
              have z2 := HCq.out.cell 2
              have h0 := HHq.out.cell 0
              have h1 := HHq.out.cell 1
              have h2 := HHq.out.cell 2
              have h3 := HHq.out.cell 3
              have h4 := HHq.out.cell 4
              simp only [List.getElem?_toArray, List.getElem?_cons_zero, List.getElem?_cons_succ] at y0 y1 z0 z1 z2 h0 h1 h2 h3 h4
              have yl := HTq.out.lt
              have zl := HCq.out.lt
              have hl := HHq.out.lt
              go_upto_region 18 with fail
              obtain ⟨xc, xf'⟩ := xcell (W := wr)
              refine wp_region_quiet_tail 9 (by kernel_rfl) (by kernel_rfl) ?_
              simp only [List.take_succ_cons, List.take_zero, List.drop_succ_cons, List.drop_zero]
              repeat (first | go_big_quiet_step (fail) | quiet_step (fail))
              refine wpQuiet_nil ?_
              intro w5 hb5
              have HT5 := Lib.hid (HTq.out.below hb5)
              have HC5 := Lib.hid (HCq.out.below hb5)
              have HH5 := Lib.hid (HHq.out.below hb5)
              have HB5 := Lib.hid (HBr.out.trans (hb5.mono HBr.out.size))
              have HM5 := Lib.hid ((HMo.out.below HBq.out).below hb5)
              have HA5 := Lib.hid ((HAo.out.below HBr.out).below hb5)
              clear y0 y1 z0 z1 z2 h0 h1 h2 h3 h4 yl zl hl m0 m1 m2 m3 m4 ml xc xf' hb5
              by_cases c1 : tt = dd
              case pos =>
                have c1b : (tt == dd) = true := by simpa using c1
                have y0 := HT5.out.cell 0
                have y1 := HT5.out.cell 1
                have z0 := HC5.out.cell 0
                have z1 := HC5.out.cell 1
                have z2 := HC5.out.cell 2
                have h0 := HH5.out.cell 0
                have h1 := HH5.out.cell 1
                have h2 := HH5.out.cell 2
                have h3 := HH5.out.cell 3
                have h4 := HH5.out.cell 4
                simp only [List.getElem?_toArray, List.getElem?_cons_zero, List.getElem?_cons_succ] at y0 y1 z0 z1 z2 h0 h1 h2 h3 h4
                have yl := HT5.out.lt
                have zl := HC5.out.lt
                have hl := HH5.out.lt
                have s0 := HA5.out.c q _ (List.getElem?_eq_getElem hqa) 0 _ rfl
                rw [Nat.mul_one, Nat.add_zero, ← iget_eq hqa, HMm.out] at s0
                have sl' := HA5.out.lt
                obtain ⟨m0, m1, m2, m3, m4⟩ := Mvs.at_ HM5.out (List.getElem?_eq_getElem hql)
                have ml := HM5.out.lt
                rw [← HMe.out, HFf.out] at m1
                rw [show ind (tt = dd) mm = mm from if_pos c1] at HSq
                clear c1
                go_upto_region 20 with fail
                obtain ⟨xc, xf'⟩ := xcell (W := w5)
                refine wp_region_quiet_tail 9 (by kernel_rfl) (by kernel_rfl) ?_
                simp only [List.take_succ_cons, List.take_zero, List.drop_succ_cons, List.drop_zero]
                repeat (first | go_big_quiet_step (fail) | quiet_step (fail))
                refine wpQuiet_nil ?_
                intro w6 hb6
                have HC6 := Lib.hid (HC5.out.below hb6)
                have HA6 := Lib.hid (HA5.out.below hb6)
                have HB6 := Lib.hid (HB5.out.trans (hb6.mono HB5.out.size))
                clear y0 y1 z0 z1 z2 h0 h1 h2 h3 h4 yl zl hl s0 sl' m0 m1 m2 m3 m4 ml xc xf' hb6
                by_cases c2 : ff = dd
                case pos =>
                  have c2b : (ff == dd) = true := by simpa using c2
                  have z0 := HC6.out.cell 0
                  have z1 := HC6.out.cell 1
                  have z2 := HC6.out.cell 2
                  simp only [List.getElem?_toArray, List.getElem?_cons_zero, List.getElem?_cons_succ] at z0 z1 z2
                  have zl := HC6.out.lt
                  have s0 := HA6.out.c q _ (List.getElem?_eq_getElem hqa) 0 _ rfl
                  rw [Nat.mul_one, Nat.add_zero, ← iget_eq hqa, HMm.out] at s0
                  have sl' := HA6.out.lt
                  rw [show ind (ff = dd) mm = mm from if_pos c2] at HSq
                  clear c2
                  go_wp2
                  go_roundw
                  case rel => exact ⟨q + 1, by omega, by rw [HSq.out]; simp, by go_num, HB6.out⟩
                  case measure => simp [intOf]; omega
                case neg =>
                  have c2b : (ff == dd) = false := by simpa using c2
                  rw [show ind (ff = dd) mm = 0 from if_neg c2] at HSq
                  clear c2
                  go_wp2
                  go_roundw
                  case rel => exact ⟨q + 1, by omega, by rw [HSq.out]; simp, by go_num, HB6.out⟩
                  case measure => simp [intOf]; omega
              case neg =>
                have c1b : (tt == dd) = false := by simpa using c1
                have y0 := HT5.out.cell 0
                have y1 := HT5.out.cell 1
                have z0 := HC5.out.cell 0
                have z1 := HC5.out.cell 1
                have z2 := HC5.out.cell 2
                have h0 := HH5.out.cell 0
                have h1 := HH5.out.cell 1
                have h2 := HH5.out.cell 2
                have h3 := HH5.out.cell 3
                have h4 := HH5.out.cell 4
                simp only [List.getElem?_toArray, List.getElem?_cons_zero, List.getElem?_cons_succ] at y0 y1 z0 z1 z2 h0 h1 h2 h3 h4
                have yl := HT5.out.lt
                have zl := HC5.out.lt
                have hl := HH5.out.lt
                obtain ⟨m0, m1, m2, m3, m4⟩ := Mvs.at_ HM5.out (List.getElem?_eq_getElem hql)
                have ml := HM5.out.lt
                rw [← HMe.out, HFf.out] at m1
                rw [show ind (tt = dd) mm = 0 from if_neg c1] at HSq
                clear c1
                go_upto_region 20 with fail
                obtain ⟨xc, xf'⟩ := xcell (W := w5)
                refine wp_region_quiet_tail 9 (by kernel_rfl) (by kernel_rfl) ?_
                simp only [List.take_succ_cons, List.take_zero, List.drop_succ_cons, List.drop_zero]
                repeat (first | go_big_quiet_step (fail) | quiet_step (fail))
                refine wpQuiet_nil ?_
                intro w6 hb6
                have HC6 := Lib.hid (HC5.out.below hb6)
                have HA6 := Lib.hid (HA5.out.below hb6)
                have HB6 := Lib.hid (HB5.out.trans (hb6.mono HB5.out.size))
                clear y0 y1 z0 z1 z2 h0 h1 h2 h3 h4 yl zl hl m0 m1 m2 m3 m4 ml xc xf' hb6
                by_cases c2 : ff = dd
                case pos =>
                  have c2b : (ff == dd) = true := by simpa using c2
                  have z0 := HC6.out.cell 0
                  have z1 := HC6.out.cell 1
                  have z2 := HC6.out.cell 2
                  simp only [List.getElem?_toArray, List.getElem?_cons_zero, List.getElem?_cons_succ] at z0 z1 z2
                  have zl := HC6.out.lt
                  have s0 := HA6.out.c q _ (List.getElem?_eq_getElem hqa) 0 _ rfl
                  rw [Nat.mul_one, Nat.add_zero, ← iget_eq hqa, HMm.out] at s0
                  have sl' := HA6.out.lt
                  rw [show ind (ff = dd) mm = mm from if_pos c2] at HSq
                  clear c2
                  go_wp2
                  go_roundw
                  case rel => exact ⟨q + 1, by omega, by rw [HSq.out]; simp, by go_num, HB6.out⟩
                  case measure => simp [intOf]; omega
                case neg =>
                  have c2b : (ff == dd) = false := by simpa using c2
                  rw [show ind (ff = dd) mm = 0 from if_neg c2] at HSq
                  clear c2
                  go_wp2
                  go_roundw
                  case rel => exact ⟨q + 1, by omega, by rw [HSq.out]; simp, by go_num, HB6.out⟩
                  case measure => simp [intOf]; omega
            case neg =>
              obtain rfl : q = m := by omega
              have y0 := HTq.out.cell 0
              have y1 := HTq.out.cell 1
              have z0 := HCq.out.cell 0
              have z1 := HCq.out.cell 1
              have z2 := HCq.out.cell 2
              have h0 := HHq.out.cell 0
              have h1 := HHq.out.cell 1
              have h2 := HHq.out.cell 2
              have h3 := HHq.out.cell 3
              have h4 := HHq.out.cell 4
              simp only [List.getElem?_toArray, List.getElem?_cons_zero, List.getElem?_cons_succ] at y0 y1 z0 z1 z2 h0 h1 h2 h3 h4
              have yl := HTq.out.lt
              have zl := HCq.out.lt
              have hl := HHq.out.lt
              obtain ⟨X, hX⟩ : ∃ x, heldL ms ma dd nn q = x := ⟨_, rfl⟩
              rw [hX]
              have HXe := Lib.hid hX
              clear hX
              by_cases c1 : X < el
              case pos =>
                have c1b : decide (X < el) = true := decide_eq_true c1
                go_wp2_with (go_at_call 14; with_reducible refine (HSan.out _).mono ?_; rintro e u9 ⟨rfl, hb9⟩)
                exact bodyPost_ret (v := .bool true) (by simp [results, Try.results8, go_sem]) rfl ⟨rfl, HBq.out.trans (hb9.mono HBq.out.size)⟩
              case neg =>
                have c1b : decide (X < el) = false := decide_eq_false c1
                by_cases c2 : eh < X
                case pos =>
                  have c2b : decide (eh < X) = true := decide_eq_true c2
                  go_wp2_with (go_at_call 14; with_reducible refine (HSan.out _).mono ?_; rintro e u9 ⟨rfl, hb9⟩)
                  exact bodyPost_ret (v := .bool true) (by simp [results, Try.results8, go_sem]) rfl ⟨rfl, HBq.out.trans (hb9.mono HBq.out.size)⟩
                case neg =>
                  have c2b : decide (eh < X) = false := decide_eq_false c2
                  have HEn := Lib.hid (show el ≤ X ∧ X ≤ eh from ⟨by omega, by omega⟩)
                  clear c1 c2
                  have OS1 := Lib.hid (owns_below OWs15.out HBr.out)
                  have OE1 := Lib.hid ((owns_below OWe15.out HBr.out).alloc (.cells #[.int .i64 X] 3))
                  have OM1 := Lib.hid (owns_below OWm15.out HBr.out)
                  have HSz := Lib.hid HBr.out.size
                  have HBn := Lib.hid (below_new wr (.cells #[.int .i64 X] 3))
                  have HBs := HBb15.out
                  have hsz := HBr.out.size
                  go_wp2_with (at_builtin; go_loud (refine wpList_append_own_at _ rfl (.tmp 171) (.tmp 173) 28 rfl b2 3 ii (.int .i64 0) 1 8 Try.underlying28 HII.out.1 HII.out.2.1 HII.out.2.2.1 HII.out.2.2.2 rfl (by decide) (.slice A2 j a2) j ((enT hs ms us ma j).flatMap encI) rfl OE1.out ⟨wr.heap.size, 0, none⟩ 1 1 [.int .i64 X] rfl rfl (cell_one_new _ _ _) (one_intsL [X]) (by unfold maxLen; omega) (by omega) (by simp; omega) ?_))
                  intro v' w7 ho hgr _ hat
                  obtain ⟨g7, c7, rfl⟩ := ownsRow_succ ho
                  have HL7 := Lib.hid (fun (r : Nat) hr => own_lt (g := r) OE1.out hr)
                  have HO7 := Lib.hid ho
                  have HG7 := Lib.hid hgr
                  have HA7 := Lib.hid hat
                  have hb2g := HBg.out
                  have hGw := HGw.out
                  have hc7 := (HCq.out.alloc (.cells #[.int .i64 X] 3)).grown hgr (fun h => by have := (HL7.out _ h).1; omega)
                  have HC7 := Lib.hid hc7
                  have HT7 := Lib.hid ((HTq.out.alloc (.cells #[.int .i64 X] 3)).grown hgr (fun h => by have := (HL7.out _ h).1; omega))
                  have HX7 := Lib.hid ((HXq.out.alloc (.cells #[.int .i64 X] 3)).grown hgr (fun h => by have := (HL7.out _ h).1; omega))
                  have HB7 := Lib.hid ((HBq.out.trans (HBn.out.mono HBq.out.size)).grown hgr (by have := HBq.out.size; simp; omega) (fun r hr => by have := (HL7.out _ hr).1; omega))
                  have HS7 := Lib.hid (owns_grown (OS1.out.alloc (.cells #[.int .i64 X] 3)) hgr (fun r hr e => HDs15.out r hr e))
                  have HM7 := Lib.hid (owns_grown (OM1.out.alloc (.cells #[.int .i64 X] 3)) hgr (fun r hr e => by have := (HL7.out _ e).1; have := HLM.out r hr; omega))
                  have HD7 := Lib.hid (show ∀ r, (Value.slice (some ⟨g5, 0, none⟩) (j + 1) c5).ownBlock = some r → (Value.slice (some ⟨g7, 0, none⟩) (j + 1) c7).ownBlock ≠ some r from fun r hr e => by
                    rcases HA7.out with q1 | q1
                    · exact HDs15.out r hr (by rw [← e, q1])
                    · have e1 := (own_lt OS1.out hr).2
                      rw [q1] at e
                      have e2 := Option.some.inj e
                      have e3 : (wr.alloc (.cells #[.int .i64 X] 3)).heap.size = wr.heap.size + 1 := by simp
                      omega)
                  have z1 := hc7.cell 1
                  have zl7 := hc7.lt
                  have zf1 := hc7.frozen 1
                  simp only [List.getElem?_toArray, List.getElem?_cons_zero, List.getElem?_cons_succ] at z1
                  clear ho hgr hat hc7
                  go_wp2
                  go_roundw
                  case rel =>
                    have hb7 : b2 ≤ w7.heap.size := by have e1 := HG7.out.size; have e2 := HSz.out; simp at e1; omega
                    refine ⟨j + 1, some ⟨g5, 0, none⟩, c5, some ⟨g7, 0, none⟩, c7, by omega, by go_num, ?_, ?_, HD7.out, ?_, by simpa [World.setCell] using hb7, HB7.out.setCell (p := ⟨g, 1, none⟩) (by simp; omega) _, by simp [World.setCell]; omega, HT7.out.far (p := ⟨g, 1, none⟩) (by simp; omega) _, HX7.out.far (p := ⟨g, 1, none⟩) (by simp; omega) _, by simpa using HC7.out.set_ 1 (.slice (some ⟨g7, 0, none⟩) (j + 1) c7), fun p hp => ?_⟩
                    · exact owns_grown HS7.out (grownBy_set w7 g 1 _) (fun r hr e => by have := (own_lt HS7.out hr).1; have e2 := Option.some.inj e; omega)
                    · rw [enT_step, HHd.out, List.flatMap_append]
                      have e9 : heldL ms ma dd (modIn sl sh (uget us j)) ms.length = X := by rw [HNn.out, HLm.out]; exact HXe.out
                      rw [e9]
                      exact owns_grown HO7.out (grownBy_set w7 g 1 _) (fun r hr e => by have := (own_lt HO7.out hr).1; have e2 := Option.some.inj e; omega)
                    · exact owns_grown HM7.out (grownBy_set w7 g 1 _) (fun r hr e => by have := (own_lt HM7.out hr).1; have e2 := Option.some.inj e; omega)
                    · rcases Nat.lt_succ_iff_lt_or_eq.1 hp with hp | hp
                      · exact HSp.out p hp
                      · subst hp
                        have e9 : heldL ms ma dd (modIn sl sh (uget us p)) ms.length = X := by rw [HNn.out, HLm.out]; exact HXe.out
                        rw [HHd.out]
                        rw [e9]
                        exact HEn.out
                  case measure => simp [intOf]; omega
    case pos =>
      have hkl : k < ms.length := by rw [HLm.out]; exact hkm
      have hkv : k < vs.length := by have := HV0.out.len; omega
      obtain ⟨bM, oM, eM, hM⟩ := HO0.out.m.at_ (by dsimp only; omega)
      obtain ⟨bV, oV, eV, hV⟩ := HV0.out.at_ (by omega)
      dsimp only at eM
      subst eM eV
      have HVs := Lib.hid hV
      have hM2 := hM.below HBk.out
      obtain ⟨m0, m1, m2, m3, m4⟩ := Mvs.at_ hM2 (List.getElem?_eq_getElem hkl)
      have ml := hM2.lt
      have HMe := Lib.hid (mat_eq hkl)
      have hbd := HTV.out.mv_bound (List.getElem_mem hkl)
      have HAt := Lib.hid (List.getElem?_eq_getElem hkv)
      obtain ⟨uv, huv⟩ : ∃ x, uget vs k = x := ⟨_, rfl⟩
      have HUx := Lib.hid (show ((vs[k]'hkv).1 : Int) = uv by rw [← huv]; exact (uget_at hkv).symm)
      have huin := uget_in vs k
      have hst := maT_step ms vs k
      rw [huv] at huin hst
      rw [← HMe.out] at m0 m1 m2 m3 m4 hbd
      clear huv hM hV hM2
      obtain ⟨lo, hlo⟩ : ∃ x, (mat ms k).lo = x := ⟨_, rfl⟩
      obtain ⟨hi, hhi⟩ : ∃ x, (mat ms k).hi = x := ⟨_, rfl⟩
      rw [hlo] at m3 hbd hst
      rw [hhi] at m4 hbd hst
      obtain ⟨hb1, hb2, hb3⟩ := hbd
      obtain ⟨hu1, hu2⟩ := huin
      obtain ⟨r, hr, hr2, hr3, hr4⟩ := mod_r hb2 hu1
      rw [hr2] at hst
      have HSt := Lib.hid hst
      have hne : hi - lo + 1 ≠ 0 := by omega
      clear hst hr2 hlo hhi
      have bn := below_new wr (.cells #[.int .i64 lo, .int .i64 hi] 45)
      have HB8 := Lib.hid (HBk.out.trans (bn.mono HBk.out.size))
      have HGs8 := Lib.hid (Nat.le_trans HGs.out bn.size)
      have HT8 := Lib.hid (HTk.out.below bn)
      have HX8 := Lib.hid (HXk.out.below bn)
      have HC8 := Lib.hid (HCk2.out.below bn)
      have HS8 := Lib.hid (Blk.new wr 45 #[.int .i64 lo, .int .i64 hi])
      have OW8 := Lib.hid (owns_below OW.out bn)
      clear bn
      go_upto_region 8 with fail
      clear m0 m1 m2 m3 m4 ml y0 y1 x0 x1 z0 z1 z2 yl xl zl
      generalize hV : wr.alloc (.cells #[.int .i64 lo, .int .i64 hi] 45) = V8 at *
      generalize hg8 : wr.heap.size = g8 at *
      have HL8 := Lib.hid (show ∀ r, (Value.slice A3 k a3).ownBlock = some r → g + 1 ≤ r ∧ r < g8 from fun r hr => HLT.out r hr)
      clear hV hg8 HLT HBk HGs HTk HXk HCk2 OW
      refine wp_region_preC 20 [(17, 79), (18, 80)] (fun v' => Below w.heap.size w v' ∧ g + 1 ≤ v'.heap.size ∧ Blk v' w.heap.size 25 #[.slice A n c, .slice (some ⟨bM, oM, none⟩) m d] ∧ Blk v' (w.heap.size + 1) 27 #[.int .i64 kind, .int .i64 id] ∧ Blk v' g 32 #[.slice none 0 0, .slice none 0 0, .slice A3 k a3] ∧ Blk v' g8 45 #[.int .i64 lo, .int .i64 hi]) (OneRow 3 1 (g + 1) k 17 18 (.slice A3 k a3) ((maT ms vs k).flatMap encI) [.int .i64 (lo + r)]) (by kernel_rfl) (by kernel_rfl) ?hw ?hC ?h0 ?hP ?ex
      case hw => exact ⟨HB8.out, HGs8.out, HT8.out, HX8.out, HC8.out, HS8.out⟩
      case hC =>
        rintro v1 v2 ⟨h0, hb0, qt, qx, qc, qs⟩ kk
        exact ⟨h0.trans (kk.mono h0.size), Nat.le_trans hb0 kk.size, qt.below kk, qx.below kk, qc.below kk, qs.below kk⟩
      case h0 =>
        intro v' hv'
        refine OneRow.below (W := V8) ?_ hv'
        exact ⟨by simpa using OW8.out, fun h => (by cases h)⟩
      case hP => exact fun ls vs v v' _ h kk => h.below kk
      case ex =>
        apply Exists.intro
        refine ⟨?walk, ?loud⟩
        case walk =>
          rintro V ⟨h0, hb0, qt, qx, qc, qs⟩
          have yc0 := qc.cell 0
          have yc1 := qc.cell 1
          have yc2 := qc.cell 2
          have oc0 := qs.cell 0
          have oc1 := qs.cell 1
          simp only [List.getElem?_toArray, List.getElem?_cons_zero, List.getElem?_cons_succ] at yc0 yc1 yc2 oc0 oc1
          have ycl := qc.lt
          have ocl := qs.lt
          have hl2 := HVs.out.below h0
          have s0 := hl2.c k _ HAt.out 0 _ rfl
          rw [Nat.mul_one, Nat.add_zero, HUx.out] at s0
          have sl := hl2.lt
          clear hl2
          obtain ⟨xc, xf'⟩ := xcell (W := V)
          simp only [List.take_succ_cons, List.take_zero, qOf, isLoud, List.any_cons, List.any_nil, Nat.reduceBEq, Bool.or_false, Bool.or_true, Nat.reduceAdd, Bool.false_eq_true, if_true, if_false, beq_self_eq_true, Nat.zero_add]
          repeat (first | go_big_quiet_step (fail) | quiet_step (fail))
          exact wpQuiet_nil rfl
        case loud =>
          simp only [List.drop_succ_cons, List.drop_zero]
          refine ⟨?_, ?_⟩
          · rintro p hp vs' V ⟨h0, hb0, qt, qx, qc, qs⟩ ls hI hls hw o ho
            simp only [List.mem_cons, List.not_mem_nil, or_false] at hp
            rcases hp with rfl | rfl
            · simp only [List.getElem?_cons_succ, List.getElem?_cons_zero, Option.some.injEq] at ho
              subst ho
              simp [loudAt, loudUpon, go_sem, execOp, putsL, Act.put]
              exact ⟨⟨h0.alloc h0.size _, by omega, qt.alloc _, qx.alloc _, qc.alloc _, qs.alloc _⟩, hI.lay (by decide)⟩
            · have h9 := hw (17, 79) (by simp) (by kernel_rfl)
              obtain ⟨g', e, hbk⟩ := hI.new h9 hls
              have hrow := hI.row
              have h8 := hls
              simp only [h8, cond_false, Nat.add_zero, List.append_nil] at hrow
              simp only [List.getElem?_cons_succ, List.getElem?_cons_zero, Option.some.injEq] at ho
              subst ho
              refine loudAt_append (.tmp 63) (.tmp 79) 28 rfl (g + 1) 3 ii (.int .i64 0) 1 8 Try.underlying28 HII.out.1 HII.out.2.1 HII.out.2.2.1 HII.out.2.2.2 rfl (by decide) (.slice A3 k a3) k ((maT ms vs k).flatMap encI) rfl hrow ⟨g', 0, none⟩ 1 1 [.int .i64 (lo + r)] e rfl ?c1 (one_intsL [lo + r]) (by unfold maxLen; omega) (by omega) hb0 ?_
              case c1 =>
                have g0 := hbk.cell 0
                simp only [List.getElem?_toArray, List.getElem?_cons_zero] at g0
                intro j' u hj'
                match j', hj' with
                | 0, hj' => simp at hj'; subst hj'; simpa [Addr.add] using g0
              intro v' w3 hown' hgrow hat
              have hGw := HGw.out
              refine ⟨⟨h0.grown hgrow h0.size (fun kk hk => by have := (HL8.out _ hk).1; omega), Nat.le_trans hb0 hgrow.size, qt.grown hgrow (fun h => by have := (HL8.out _ h).1; omega), qx.grown hgrow (fun h => by have := (HL8.out _ h).1; omega), qc.grown hgrow (fun h => by have := (HL8.out _ h).1; omega), qs.grown hgrow (fun h => by have := (HL8.out _ h).2; omega)⟩, hI.app v' hown'⟩
          · rintro ls vs' V22 ⟨B22, hbase22, t_22, x_22, c_22, s_22⟩ hI hls
            have h8 := hls (18, 80) (by simp)
            have hrow := hI.row
            simp only [h8, cond_true] at hrow
            have HN := Lib.hid hrow
            clear hrow hI hls h8
            simp only [putsL, List.foldl_cons, List.foldl_nil, Act.put, List.setIfInBounds_toArray, List.set_cons_succ, List.set_cons_zero]
            generalize vs' 18 = v18 at *
            generalize vs' 17 = v17 at *
            obtain ⟨g', cap', rfl⟩ := ownsRow_succ HN.out
            have oc0 := c_22.cell 0
            have oc1 := c_22.cell 1
            have oc2 := c_22.cell 2
            simp only [List.getElem?_toArray, List.getElem?_cons_zero, List.getElem?_cons_succ] at oc0 oc1 oc2
            have ol := c_22.lt
            have of2 := c_22.frozen 2
            have HB22 := Lib.hid B22
            have HT22 := Lib.hid t_22
            have HX22 := Lib.hid x_22
            have HC22 := Lib.hid c_22
            have hGw := HGw.out
            clear B22 t_22 x_22 c_22 s_22
            go_wp2
            go_roundw
            case rel =>
              refine ⟨k + 1, some ⟨g', 0, none⟩, cap', by omega, by go_num, ?_, HB22.out.setCell (p := ⟨g, 2, none⟩) (by simp; omega) _, by simpa [World.setCell] using hbase22, HT22.out.far (p := ⟨g, 2, none⟩) (by simp; omega) _, HX22.out.far (p := ⟨g, 2, none⟩) (by simp; omega) _, by simpa using HC22.out.set_ 2 (.slice (some ⟨g', 0, none⟩) (k + 1) cap')⟩
              rw [HSt.out, List.flatMap_append]
              exact owns_grown HN.out (grownBy_set V22 g 2 _) (fun r hr e => by have := (own_lt HN.out hr).1; have e2 := Option.some.inj e; omega)
            case measure => simp [intOf]; omega
open Go.WideShapes Go.ChangeShapes Go.Joins Go.Deep
set_option maxRecDepth 100000 in
theorem flowTruth_lifted (os : Os) (started : os.Started) (H : Type) (enc : TypeId × Value → H) :
    ReturnsInHanded Rows.flowTruthRow.assume Try.checked os 8 .any (Rows.flowTruthSpec.pre6 enc Try.prog Try.f8 Rows.flowTruthRow.domain false) (Rows.flowTruthSpec.post enc Try.prog Try.f8 false Rows.flowTruthRow.fresh Rows.flowTruthRow.handsOn Rows.flowTruthRow.again) := by
  refine returnsInHanded_of_change (C := Try.checked) (by kernel_rfl) started (by kernel_rfl) Try.func8
    (ChangeSpec.witness6 (enc := enc) (C := Try.checked) false ⟨#[], #[.agg #[.slice none 0 0, .slice none 0 0], .slice none 0 0, .slice none 0 0, .agg #[.int .i64 0, .int .i64 0]], []⟩ 8 (by kernel_rfl) (by kernel_rfl) (by kernel_rfl) (by kernel_rfl)) ?_
  intro W base args ds gs before hval0 hW hcnd _
  have hval : ∀ (j : Nat) t v, Try.f8.params[j]? = some t → args[j]? = some v → Value.okWide Try.prog W .any base t v := hval0
  have hW' := hW
  obtain ⟨p, q, hA0, hV, rfl, hfz, hnd⟩ := hW
  obtain ⟨rfl, rfl⟩ := trodVars_none hV
  have hA : DataW.TrodAll enc Try.prog W 0 (fun _ => true) true [25, 68, 68, 27] args.toList ds p := hA0
  obtain ⟨v0, v1, v2, v3, d0, d1, d2, d3, p0, p1, p2, p3, rfl, rfl, rfl, h0, h1, h2, h3⟩ := trodAll_four hA
  obtain ⟨t, rfl, hT, _, rfl⟩ := open_tr (hval 0 25 v0 rfl rfl) h0
  obtain ⟨S1, k1, q1, us, rfl, hU, l1, _⟩ := open_us (hval 1 68 v1 rfl rfl) h1
  obtain ⟨S2, k2, q2, vs, rfl, hV, l2, _⟩ := open_us (hval 2 68 v2 rfl rfl) h2
  obtain ⟨kind, id, rfl, _, rfl⟩ := open_at (hval 3 27 v3 rfl rfl) h3
  refine (flowTruth_walk t S1 k1 q1 us S2 k2 q2 vs kind id W hT hU hV l1 l2).mono fun e W' ⟨he, hb⟩ => ⟨_, he, law_post laid_out (by kernel_rfl) rfl Try.underlying4 rfl hW' rfl rfl rfl hb⟩

theorem flowTruth : Rows.FlowTruthSaid :=
  OpenClaim.holds_of_wide 8 Try.f8 rfl rfl rfl rfl rfl rfl rfl ⟨rfl, rfl, rfl, rfl, rfl⟩ rfl rfl rfl rfl rfl (by kernel_rfl) Try.func8 (by kernel_rfl)
    (of_decide_eq_true (by kernel_rfl)) (by unfold Func.isWrapper; first | (rw [if_pos (by decide +kernel)]; kernel_rfl) | (rw [if_neg (by decide +kernel)]; exact ⟨rfl, rfl⟩))
    (fun os started H enc _ => flowTruth_lifted os started H enc)
#print axioms flowTruth
end Go.Proofs.Ytighfmgkoepfkaa
