/- The law FlowFinds: its walk. -/
import Derived.Test.YtighfmgkoepfkaaMI
namespace Go.Proofs.Ytighfmgkoepfkaa
open Go.RowKit

set_option maxRecDepth 100000 in
set_option maxHeartbeats 12800000 in
theorem flowFinds_walk (t : TR) (w : World) (h : t.Ok w) : Calls Try.prog 4 #[t.v] w fun e w' => e = .returned (.bool true) ∧ Below w.heap.size w w' := by
  obtain ⟨A, n, c, B, m, d, hs, ms⟩ := t
  have HSan := Lib.hid (fun u => sanity_any u)
  obtain ⟨fb, hfb⟩ : ∃ b, fewB n m = b := ⟨_, rfl⟩
  have HFew := Lib.hid (fun u => few_any A n c B m d u h.n_le h.m_le)
  rw [hfb] at HFew
  have HV := Lib.hid (tcheck_zero (hs := hs) (ms := ms))
  dsimp only [TR.v] at *
  have HB0 : Hid (Below w.heap.size w (w.alloc (.cells #[.slice A n c, .slice B m d] 25))) := Lib.hid ((Below.refl w.heap.size w).alloc (Nat.le_refl _) _)
  have T0 : Hid (Blk (w.alloc (.cells #[.slice A n c, .slice B m d] 25)) w.heap.size 25 #[.slice A n c, .slice B m d]) := Lib.hid (Blk.at_new 25 #[.slice A n c, .slice B m d] rfl)
  have O0 := Lib.hid ((h).below HB0.out)
  go_enter Try.func4, Try.ntmps4
  go_upto_region 1 with fail
  generalize hV : w.alloc (.cells #[.slice A n c, .slice B m d] 25) = V0 at *
  clear hV
  clear h hfb
  cases fb with
  | false =>
    have yT0 := T0.out.cell 0
    have yT1 := T0.out.cell 1
    simp only [List.getElem?_toArray, List.getElem?_cons_zero, List.getElem?_cons_succ] at yT0 yT1
    have yTl := T0.out.lt
    go_upto_region 2 with (go_at_call 13; with_reducible refine (HFew.out _).mono ?_; rintro e u1 ⟨rfl, hb1⟩; have T1 := Lib.hid (T0.out.below hb1); have O1 := Lib.hid (O0.out.below hb1); have HB1 := Lib.hid (HB0.out.trans (hb1.mono HB0.out.size)); clear hb1; have y1T0 := T1.out.cell 0; have y1T1 := T1.out.cell 1; simp only [List.getElem?_toArray, List.getElem?_cons_zero, List.getElem?_cons_succ] at y1T0 y1T1; have y1Tl := T1.out.lt)
    clear yT0 yT1 yTl y1T0 y1T1 y1Tl T0 O0 HB0
    have yT0 := T1.out.cell 0
    have yT1 := T1.out.cell 1
    simp only [List.getElem?_toArray, List.getElem?_cons_zero, List.getElem?_cons_succ] at yT0 yT1
    have yTl := T1.out.lt
    go_wp2_with (go_at_call 14; with_reducible refine (HSan.out _).mono ?_; rintro e u2 ⟨rfl, hb2⟩; have T2 := Lib.hid (T1.out.below hb2); have O2 := Lib.hid (O1.out.below hb2); have HB2 := Lib.hid (HB1.out.trans (hb2.mono HB1.out.size)); clear hb2; have y2T0 := T2.out.cell 0; have y2T1 := T2.out.cell 1; simp only [List.getElem?_toArray, List.getElem?_cons_zero, List.getElem?_cons_succ] at y2T0 y2T1; have y2Tl := T2.out.lt)
    exact bodyPost_ret (v := .bool true) (by simp [results, Try.results4, go_sem]) rfl ⟨rfl, HB2.out⟩
  | true =>
  have yT0 := T0.out.cell 0
  have yT1 := T0.out.cell 1
  simp only [List.getElem?_toArray, List.getElem?_cons_zero, List.getElem?_cons_succ] at yT0 yT1
  have yTl := T0.out.lt
  go_upto_region 3 with (go_at_call 13; with_reducible refine (HFew.out _).mono ?_; rintro e u1 ⟨rfl, hb1⟩; have T1 := Lib.hid (T0.out.below hb1); have O1 := Lib.hid (O0.out.below hb1); have HB1 := Lib.hid (HB0.out.trans (hb1.mono HB0.out.size)); clear hb1; have y1T0 := T1.out.cell 0; have y1T1 := T1.out.cell 1; simp only [List.getElem?_toArray, List.getElem?_cons_zero, List.getElem?_cons_succ] at y1T0 y1T1; have y1Tl := T1.out.lt)
  clear yT0 yT1 yTl y1T0 y1T1 y1Tl T0 O0 HB0
  by_cases hc : tcheck hs ms = 0
  case neg =>
    have HZ := Lib.hid hc
    have HF := Lib.hid (fun (u : World) (hu : TR.Ok u ⟨A, n, c, B, m, d, hs, ms⟩) => fi_err hu hc)
    have HG := Lib.hid (fun (u : World) (hu : TR.Ok u ⟨A, n, c, B, m, d, hs, ms⟩) => co_err hu hc)
    have HR := Lib.hid (fun (u : World) (hu : TR.Ok u ⟨A, n, c, B, m, d, hs, ms⟩) => RCheck_any ⟨A, n, c, B, m, d, hs, ms⟩ u hu)
    dsimp only [TR.v] at HF HG HR
    generalize tcheck hs ms = tc at *
    have htb : (tc != 0) = true := by simpa using hc
    have hte : (tc == tc) = true := by simp
    clear hc
    have yT0 := T1.out.cell 0
    have yT1 := T1.out.cell 1
    simp only [List.getElem?_toArray, List.getElem?_cons_zero, List.getElem?_cons_succ] at yT0 yT1
    have yTl := T1.out.lt
    have HC := Lib.hid (HF.out _ O1.out)
    try dsimp only [TR.v, vCt] at HC
    go_upto_region 4 with (go_at_call 15; with_reducible refine HC.out.mono ?_; rintro e u2 ⟨rfl, hb⟩)
    clear yT0 yT1 yTl
    clear HC
    have bn := hb
    have bq : Below u2.heap.size u2 (u2.alloc (.cells #[.slice none 0 0, .slice none 0 0, .slice none 0 0] 32)) := ((Below.refl u2.heap.size u2).alloc (Nat.le_refl _) _)
    have bn := hb.trans (bq.mono hb.size)
    have T2 := Lib.hid (T1.out.below bn)
    have O2 := Lib.hid (O1.out.below bn)
    have HB2 := Lib.hid (HB1.out.trans (bn.mono HB1.out.size))
    have C2 : Hid (Blk (u2.alloc (.cells #[.slice none 0 0, .slice none 0 0, .slice none 0 0] 32)) u2.heap.size 32 #[.slice none 0 0, .slice none 0 0, .slice none 0 0]) := Lib.hid (Blk.at_new 32 #[.slice none 0 0, .slice none 0 0, .slice none 0 0] rfl)
    generalize hV : u2.alloc (.cells #[.slice none 0 0, .slice none 0 0, .slice none 0 0] 32) = V2 at *
    generalize hp : u2.heap.size = p2 at *
    clear hV hp bq
    clear hb bn T1 O1 HB1
    have yT0 := T2.out.cell 0
    have yT1 := T2.out.cell 1
    have yC0 := C2.out.cell 0
    have yC1 := C2.out.cell 1
    have yC2 := C2.out.cell 2
    simp only [List.getElem?_toArray, List.getElem?_cons_zero, List.getElem?_cons_succ] at yT0 yT1 yC0 yC1 yC2
    have yTl := T2.out.lt
    have yCl := C2.out.lt
    have HC := Lib.hid (HG.out _ O2.out)
    try dsimp only [TR.v, vCt] at HC
    go_upto_region 5 with (go_at_call 19; with_reducible refine HC.out.mono ?_; rintro e u3 ⟨rfl, hb⟩)
    clear yT0 yT1 yC0 yC1 yC2 yTl yCl
    clear HC
    have bn := hb
    have bq : Below u3.heap.size u3 (u3.alloc (.cells #[.int .i64 0, .slice none 0 0] 37)) := ((Below.refl u3.heap.size u3).alloc (Nat.le_refl _) _)
    have bn := hb.trans (bq.mono hb.size)
    have T3 := Lib.hid (T2.out.below bn)
    have O3 := Lib.hid (O2.out.below bn)
    have C3 := Lib.hid (C2.out.below bn)
    have HB3 := Lib.hid (HB2.out.trans (bn.mono HB2.out.size))
    have X3 : Hid (Blk (u3.alloc (.cells #[.int .i64 0, .slice none 0 0] 37)) u3.heap.size 37 #[.int .i64 0, .slice none 0 0]) := Lib.hid (Blk.at_new 37 #[.int .i64 0, .slice none 0 0] rfl)
    generalize hV : u3.alloc (.cells #[.int .i64 0, .slice none 0 0] 37) = V3 at *
    generalize hp : u3.heap.size = p3 at *
    clear hV hp bq
    clear hb bn T2 O2 C2 HB2
    have yT0 := T3.out.cell 0
    have yT1 := T3.out.cell 1
    have yC0 := C3.out.cell 0
    have yC1 := C3.out.cell 1
    have yC2 := C3.out.cell 2
    have yX0 := X3.out.cell 0
    have yX1 := X3.out.cell 1
    simp only [List.getElem?_toArray, List.getElem?_cons_zero, List.getElem?_cons_succ] at yT0 yT1 yC0 yC1 yC2 yX0 yX1
    have yTl := T3.out.lt
    have yCl := C3.out.lt
    have yXl := X3.out.lt
    have HC := Lib.hid (HR.out _ O3.out)
    try dsimp only [TR.v, vCt] at HC
    go_upto_region 6 with (go_at_call 20; with_reducible refine HC.out.mono ?_; rintro e u4 ⟨rfl, hb⟩)
    clear yT0 yT1 yC0 yC1 yC2 yX0 yX1 yTl yCl yXl
    clear HC
    have bn := hb
    have T4 := Lib.hid (T3.out.below bn)
    have O4 := Lib.hid (O3.out.below bn)
    have C4 := Lib.hid (C3.out.below bn)
    have X4 := Lib.hid (X3.out.below bn)
    have HB4 := Lib.hid (HB3.out.trans (bn.mono HB3.out.size))
    clear hb bn T3 O3 C3 X3 HB3
    have yT0 := T4.out.cell 0
    have yT1 := T4.out.cell 1
    have yC0 := C4.out.cell 0
    have yC1 := C4.out.cell 1
    have yC2 := C4.out.cell 2
    have yX0 := X4.out.cell 0
    have yX1 := X4.out.cell 1
    simp only [List.getElem?_toArray, List.getElem?_cons_zero, List.getElem?_cons_succ] at yT0 yT1 yC0 yC1 yC2 yX0 yX1
    have yTl := T4.out.lt
    have yCl := C4.out.lt
    have yXl := X4.out.lt
    go_wp2_with (go_at_call 14; with_reducible refine (HSan.out _).mono ?_; rintro e u5 ⟨rfl, hb5⟩; have T5 := Lib.hid (T4.out.below hb5); have O5 := Lib.hid (O4.out.below hb5); have C5 := Lib.hid (C4.out.below hb5); have X5 := Lib.hid (X4.out.below hb5); have HB5 := Lib.hid (HB4.out.trans (hb5.mono HB4.out.size)); clear hb5; have y5T0 := T5.out.cell 0; have y5T1 := T5.out.cell 1; have y5C0 := C5.out.cell 0; have y5C1 := C5.out.cell 1; have y5C2 := C5.out.cell 2; have y5X0 := X5.out.cell 0; have y5X1 := X5.out.cell 1; simp only [List.getElem?_toArray, List.getElem?_cons_zero, List.getElem?_cons_succ] at y5T0 y5T1 y5C0 y5C1 y5C2 y5X0 y5X1; have y5Tl := T5.out.lt; have y5Cl := C5.out.lt; have y5Xl := X5.out.lt)
    exact bodyPost_ret (v := .bool true) (by simp [results, Try.results4, go_sem]) rfl ⟨rfl, HB5.out⟩
  case pos =>
  have HTV := Lib.hid (HV.out.1 hc)
  have HR := Lib.hid (fun (u : World) (hu : TR.Ok u ⟨A, n, c, B, m, d, hs, ms⟩) => RCheck_any ⟨A, n, c, B, m, d, hs, ms⟩ u hu)
  have HA := Lib.hid (fun (u : World) (hu : TR.Ok u ⟨A, n, c, B, m, d, hs, ms⟩) => RAgrees_any ⟨A, n, c, B, m, d, hs, ms⟩ u hu HTV.out)
  dsimp only [TR.v] at HR HA
  rw [hc] at HR
  cases ha : agrL hs ms with
  | false =>
    rw [ha] at HA
    have HF := Lib.hid (fun (u : World) (hu : TR.Ok u ⟨A, n, c, B, m, d, hs, ms⟩) => fi_no hu hc ha)
    have HG := Lib.hid (fun (u : World) (hu : TR.Ok u ⟨A, n, c, B, m, d, hs, ms⟩) => co_no hu hc ha)
    have HCk := Lib.hid (show ∀ way s, showsL hs ms way s = true → ckCut hs ms way s = 0 from fun way s hh => by unfold ckCut; rw [if_neg (by simpa using hc), if_pos hh])
    dsimp only [TR.v] at HF HG
    clear hc ha
    have yT0 := T1.out.cell 0
    have yT1 := T1.out.cell 1
    simp only [List.getElem?_toArray, List.getElem?_cons_zero, List.getElem?_cons_succ] at yT0 yT1
    have yTl := T1.out.lt
    have HC := Lib.hid (HF.out _ O1.out)
    try dsimp only [TR.v, vCt] at HC
    go_upto_region 4 with (go_at_call 15; with_reducible refine HC.out.mono ?_; rintro e u2 ⟨rfl, hb⟩)
    clear yT0 yT1 yTl
    clear HC
    have bn := hb
    have bq : Below u2.heap.size u2 (u2.alloc (.cells #[.slice none 0 0, .slice none 0 0, .slice none 0 0] 32)) := ((Below.refl u2.heap.size u2).alloc (Nat.le_refl _) _)
    have bn := hb.trans (bq.mono hb.size)
    have T2 := Lib.hid (T1.out.below bn)
    have O2 := Lib.hid (O1.out.below bn)
    have HB2 := Lib.hid (HB1.out.trans (bn.mono HB1.out.size))
    have C2 : Hid (Blk (u2.alloc (.cells #[.slice none 0 0, .slice none 0 0, .slice none 0 0] 32)) u2.heap.size 32 #[.slice none 0 0, .slice none 0 0, .slice none 0 0]) := Lib.hid (Blk.at_new 32 #[.slice none 0 0, .slice none 0 0, .slice none 0 0] rfl)
    generalize hV : u2.alloc (.cells #[.slice none 0 0, .slice none 0 0, .slice none 0 0] 32) = V2 at *
    generalize hp : u2.heap.size = p2 at *
    clear hV hp bq
    clear hb bn T1 O1 HB1
    have yT0 := T2.out.cell 0
    have yT1 := T2.out.cell 1
    have yC0 := C2.out.cell 0
    have yC1 := C2.out.cell 1
    have yC2 := C2.out.cell 2
    simp only [List.getElem?_toArray, List.getElem?_cons_zero, List.getElem?_cons_succ] at yT0 yT1 yC0 yC1 yC2
    have yTl := T2.out.lt
    have yCl := C2.out.lt
    have HC := Lib.hid (HG.out _ O2.out)
    try dsimp only [TR.v, vCt] at HC
    go_upto_region 5 with (go_at_call 19; with_reducible refine HC.out.mono ?_; rintro e u3 ⟨way, As, ks, cs, s, rfl, hS, hk9, hsh, hb⟩)
    clear yT0 yT1 yC0 yC1 yC2 yTl yCl
    clear HC
    have bn := hb
    have bq : Below u3.heap.size u3 (u3.alloc (.cells #[.int .i64 way, .slice As ks cs] 37)) := ((Below.refl u3.heap.size u3).alloc (Nat.le_refl _) _)
    have bn := hb.trans (bq.mono hb.size)
    have T3 := Lib.hid (T2.out.below bn)
    have O3 := Lib.hid (O2.out.below bn)
    have C3 := Lib.hid (C2.out.below bn)
    have HB3 := Lib.hid (HB2.out.trans (bn.mono HB2.out.size))
    have S3 := Lib.hid ((hS).below bq)
    have X3 : Hid (Blk (u3.alloc (.cells #[.int .i64 way, .slice As ks cs] 37)) u3.heap.size 37 #[.int .i64 way, .slice As ks cs]) := Lib.hid (Blk.at_new 37 #[.int .i64 way, .slice As ks cs] rfl)
    generalize hV : u3.alloc (.cells #[.int .i64 way, .slice As ks cs] 37) = V3 at *
    generalize hp : u3.heap.size = p3 at *
    clear hV hp bq
    clear hb bn T2 O2 C2 HB2
    clear hS
    have HQ := Lib.hid (fun (u : World) (hu : TR.Ok u ⟨A, n, c, B, m, d, hs, ms⟩) (hq : SAt encI 1 u As ks s) => RCheckCut_any ⟨A, n, c, B, m, d, hs, ms⟩ way As ks cs s u hu hq (by omega))
    dsimp only [TR.v, vCt] at HQ
    rw [HCk.out way s hsh] at HQ
    clear hsh
    have yT0 := T3.out.cell 0
    have yT1 := T3.out.cell 1
    have yC0 := C3.out.cell 0
    have yC1 := C3.out.cell 1
    have yC2 := C3.out.cell 2
    have yX0 := X3.out.cell 0
    have yX1 := X3.out.cell 1
    simp only [List.getElem?_toArray, List.getElem?_cons_zero, List.getElem?_cons_succ] at yT0 yT1 yC0 yC1 yC2 yX0 yX1
    have yTl := T3.out.lt
    have yCl := C3.out.lt
    have yXl := X3.out.lt
    have HC := Lib.hid (HR.out _ O3.out)
    try dsimp only [TR.v, vCt] at HC
    go_upto_region 6 with (go_at_call 20; with_reducible refine HC.out.mono ?_; rintro e u4 ⟨rfl, hb⟩)
    clear yT0 yT1 yC0 yC1 yC2 yX0 yX1 yTl yCl yXl
    clear HC
    have bn := hb
    have T4 := Lib.hid (T3.out.below bn)
    have O4 := Lib.hid (O3.out.below bn)
    have C4 := Lib.hid (C3.out.below bn)
    have X4 := Lib.hid (X3.out.below bn)
    have S4 := Lib.hid (S3.out.below bn)
    have HB4 := Lib.hid (HB3.out.trans (bn.mono HB3.out.size))
    clear hb bn T3 O3 C3 X3 S3 HB3
    have yT0 := T4.out.cell 0
    have yT1 := T4.out.cell 1
    have yC0 := C4.out.cell 0
    have yC1 := C4.out.cell 1
    have yC2 := C4.out.cell 2
    have yX0 := X4.out.cell 0
    have yX1 := X4.out.cell 1
    simp only [List.getElem?_toArray, List.getElem?_cons_zero, List.getElem?_cons_succ] at yT0 yT1 yC0 yC1 yC2 yX0 yX1
    have yTl := T4.out.lt
    have yCl := C4.out.lt
    have yXl := X4.out.lt
    have HC := Lib.hid (HA.out _ O4.out)
    try dsimp only [TR.v, vCt] at HC
    go_upto_region 9 with (go_at_call 21; with_reducible refine HC.out.mono ?_; rintro e u5 ⟨rfl, hb⟩)
    clear yT0 yT1 yC0 yC1 yC2 yX0 yX1 yTl yCl yXl
    clear HC
    have bn := hb
    have T5 := Lib.hid (T4.out.below bn)
    have O5 := Lib.hid (O4.out.below bn)
    have C5 := Lib.hid (C4.out.below bn)
    have X5 := Lib.hid (X4.out.below bn)
    have S5 := Lib.hid (S4.out.below bn)
    have HB5 := Lib.hid (HB4.out.trans (bn.mono HB4.out.size))
    clear hb bn T4 O4 C4 X4 S4 HB4
    have yT0 := T5.out.cell 0
    have yT1 := T5.out.cell 1
    have yC0 := C5.out.cell 0
    have yC1 := C5.out.cell 1
    have yC2 := C5.out.cell 2
    have yX0 := X5.out.cell 0
    have yX1 := X5.out.cell 1
    simp only [List.getElem?_toArray, List.getElem?_cons_zero, List.getElem?_cons_succ] at yT0 yT1 yC0 yC1 yC2 yX0 yX1
    have yTl := T5.out.lt
    have yCl := C5.out.lt
    have yXl := X5.out.lt
    go_upto_region 11 with (go_at_call 22; with_reducible refine (HQ.out _ O5.out S5.out).mono ?_; rintro e u6 ⟨rfl, hb6⟩; have T6 := Lib.hid (T5.out.below hb6); have O6 := Lib.hid (O5.out.below hb6); have C6 := Lib.hid (C5.out.below hb6); have X6 := Lib.hid (X5.out.below hb6); have S6 := Lib.hid (S5.out.below hb6); have HB6 := Lib.hid (HB5.out.trans (hb6.mono HB5.out.size)); clear hb6; have y6T0 := T6.out.cell 0; have y6T1 := T6.out.cell 1; have y6C0 := C6.out.cell 0; have y6C1 := C6.out.cell 1; have y6C2 := C6.out.cell 2; have y6X0 := X6.out.cell 0; have y6X1 := X6.out.cell 1; simp only [List.getElem?_toArray, List.getElem?_cons_zero, List.getElem?_cons_succ] at y6T0 y6T1 y6C0 y6C1 y6C2 y6X0 y6X1; have y6Tl := T6.out.lt; have y6Cl := C6.out.lt; have y6Xl := X6.out.lt)
    clear yT0 yT1 yC0 yC1 yC2 yX0 yX1 yTl yCl yXl y6T0 y6T1 y6C0 y6C1 y6C2 y6X0 y6X1 y6Tl y6Cl y6Xl T5 O5 C5 X5 S5 HB5
    have yT0 := T6.out.cell 0
    have yT1 := T6.out.cell 1
    have yC0 := C6.out.cell 0
    have yC1 := C6.out.cell 1
    have yC2 := C6.out.cell 2
    have yX0 := X6.out.cell 0
    have yX1 := X6.out.cell 1
    simp only [List.getElem?_toArray, List.getElem?_cons_zero, List.getElem?_cons_succ] at yT0 yT1 yC0 yC1 yC2 yX0 yX1
    have yTl := T6.out.lt
    have yCl := C6.out.lt
    have yXl := X6.out.lt
    go_wp2_with (go_at_call 14; with_reducible refine (HSan.out _).mono ?_; rintro e u7 ⟨rfl, hb7⟩; have T7 := Lib.hid (T6.out.below hb7); have O7 := Lib.hid (O6.out.below hb7); have C7 := Lib.hid (C6.out.below hb7); have X7 := Lib.hid (X6.out.below hb7); have S7 := Lib.hid (S6.out.below hb7); have HB7 := Lib.hid (HB6.out.trans (hb7.mono HB6.out.size)); clear hb7; have y7T0 := T7.out.cell 0; have y7T1 := T7.out.cell 1; have y7C0 := C7.out.cell 0; have y7C1 := C7.out.cell 1; have y7C2 := C7.out.cell 2; have y7X0 := X7.out.cell 0; have y7X1 := X7.out.cell 1; simp only [List.getElem?_toArray, List.getElem?_cons_zero, List.getElem?_cons_succ] at y7T0 y7T1 y7C0 y7C1 y7C2 y7X0 y7X1; have y7Tl := T7.out.lt; have y7Cl := C7.out.lt; have y7Xl := X7.out.lt)
    exact bodyPost_ret (v := .bool true) (by simp [results, Try.results4, go_sem]) rfl ⟨rfl, HB7.out⟩
  | true =>
    rw [ha] at HA
    have HF := Lib.hid (fun (u : World) (hu : TR.Ok u ⟨A, n, c, B, m, d, hs, ms⟩) => fi_yes hu hc ha)
    have HG := Lib.hid (fun (u : World) (hu : TR.Ok u ⟨A, n, c, B, m, d, hs, ms⟩) => co_yes hu hc ha)
    dsimp only [TR.v] at HF HG
    clear hc ha
    have yT0 := T1.out.cell 0
    have yT1 := T1.out.cell 1
    simp only [List.getElem?_toArray, List.getElem?_cons_zero, List.getElem?_cons_succ] at yT0 yT1
    have yTl := T1.out.lt
    have HC := Lib.hid (HF.out _ O1.out)
    try dsimp only [TR.v, vCt] at HC
    go_upto_region 4 with (go_at_call 15; with_reducible refine HC.out.mono ?_; rintro e u2 ⟨A1, n1, c1, A2, n2, c2, A3, n3, c3, st, en, ma, rfl, k1, k2, k3, hf, hb⟩)
    clear yT0 yT1 yTl
    clear HC
    have bn := hb
    have bq : Below u2.heap.size u2 (u2.alloc (.cells #[.slice A1 n1 c1, .slice A2 n2 c2, .slice A3 n3 c3] 32)) := ((Below.refl u2.heap.size u2).alloc (Nat.le_refl _) _)
    have bn := hb.trans (bq.mono hb.size)
    have T2 := Lib.hid (T1.out.below bn)
    have O2 := Lib.hid (O1.out.below bn)
    have HB2 := Lib.hid (HB1.out.trans (bn.mono HB1.out.size))
    have K2 := Lib.hid ((k1).below bq)
    have L2 := Lib.hid ((k2).below bq)
    have M2 := Lib.hid ((k3).below bq)
    have C2 : Hid (Blk (u2.alloc (.cells #[.slice A1 n1 c1, .slice A2 n2 c2, .slice A3 n3 c3] 32)) u2.heap.size 32 #[.slice A1 n1 c1, .slice A2 n2 c2, .slice A3 n3 c3]) := Lib.hid (Blk.at_new 32 #[.slice A1 n1 c1, .slice A2 n2 c2, .slice A3 n3 c3] rfl)
    generalize hV : u2.alloc (.cells #[.slice A1 n1 c1, .slice A2 n2 c2, .slice A3 n3 c3] 32) = V2 at *
    generalize hp : u2.heap.size = p2 at *
    clear hV hp bq
    clear hb bn T1 O1 HB1
    clear k1 k2 k3
    have HQ := Lib.hid (fun (u : World) (hu : TR.Ok u ⟨A, n, c, B, m, d, hs, ms⟩) (h1 : SAt encI 1 u A1 n1 st) (h2 : SAt encI 1 u A2 n2 en) (h3 : SAt encI 1 u A3 n3 ma) => RFits_any ⟨A, n, c, B, m, d, hs, ms⟩ A1 n1 c1 A2 n2 c2 A3 n3 c3 st en ma u hu h1 h2 h3 HTV.out)
    dsimp only [TR.v] at HQ
    rw [hf] at HQ
    clear hf
    have yT0 := T2.out.cell 0
    have yT1 := T2.out.cell 1
    have yC0 := C2.out.cell 0
    have yC1 := C2.out.cell 1
    have yC2 := C2.out.cell 2
    simp only [List.getElem?_toArray, List.getElem?_cons_zero, List.getElem?_cons_succ] at yT0 yT1 yC0 yC1 yC2
    have yTl := T2.out.lt
    have yCl := C2.out.lt
    have HC := Lib.hid (HG.out _ O2.out)
    try dsimp only [TR.v, vCt] at HC
    go_upto_region 5 with (go_at_call 19; with_reducible refine HC.out.mono ?_; rintro e u3 ⟨rfl, hb⟩)
    clear yT0 yT1 yC0 yC1 yC2 yTl yCl
    clear HC
    have bn := hb
    have bq : Below u3.heap.size u3 (u3.alloc (.cells #[.int .i64 0, .slice none 0 0] 37)) := ((Below.refl u3.heap.size u3).alloc (Nat.le_refl _) _)
    have bn := hb.trans (bq.mono hb.size)
    have T3 := Lib.hid (T2.out.below bn)
    have O3 := Lib.hid (O2.out.below bn)
    have C3 := Lib.hid (C2.out.below bn)
    have K3 := Lib.hid (K2.out.below bn)
    have L3 := Lib.hid (L2.out.below bn)
    have M3 := Lib.hid (M2.out.below bn)
    have HB3 := Lib.hid (HB2.out.trans (bn.mono HB2.out.size))
    have X3 : Hid (Blk (u3.alloc (.cells #[.int .i64 0, .slice none 0 0] 37)) u3.heap.size 37 #[.int .i64 0, .slice none 0 0]) := Lib.hid (Blk.at_new 37 #[.int .i64 0, .slice none 0 0] rfl)
    generalize hV : u3.alloc (.cells #[.int .i64 0, .slice none 0 0] 37) = V3 at *
    generalize hp : u3.heap.size = p3 at *
    clear hV hp bq
    clear hb bn T2 O2 C2 K2 L2 M2 HB2
    have yT0 := T3.out.cell 0
    have yT1 := T3.out.cell 1
    have yC0 := C3.out.cell 0
    have yC1 := C3.out.cell 1
    have yC2 := C3.out.cell 2
    have yX0 := X3.out.cell 0
    have yX1 := X3.out.cell 1
    simp only [List.getElem?_toArray, List.getElem?_cons_zero, List.getElem?_cons_succ] at yT0 yT1 yC0 yC1 yC2 yX0 yX1
    have yTl := T3.out.lt
    have yCl := C3.out.lt
    have yXl := X3.out.lt
    have HC := Lib.hid (HR.out _ O3.out)
    try dsimp only [TR.v, vCt] at HC
    go_upto_region 6 with (go_at_call 20; with_reducible refine HC.out.mono ?_; rintro e u4 ⟨rfl, hb⟩)
    clear yT0 yT1 yC0 yC1 yC2 yX0 yX1 yTl yCl yXl
    clear HC
    have bn := hb
    have T4 := Lib.hid (T3.out.below bn)
    have O4 := Lib.hid (O3.out.below bn)
    have C4 := Lib.hid (C3.out.below bn)
    have K4 := Lib.hid (K3.out.below bn)
    have L4 := Lib.hid (L3.out.below bn)
    have M4 := Lib.hid (M3.out.below bn)
    have X4 := Lib.hid (X3.out.below bn)
    have HB4 := Lib.hid (HB3.out.trans (bn.mono HB3.out.size))
    clear hb bn T3 O3 C3 K3 L3 M3 X3 HB3
    have yT0 := T4.out.cell 0
    have yT1 := T4.out.cell 1
    have yC0 := C4.out.cell 0
    have yC1 := C4.out.cell 1
    have yC2 := C4.out.cell 2
    have yX0 := X4.out.cell 0
    have yX1 := X4.out.cell 1
    simp only [List.getElem?_toArray, List.getElem?_cons_zero, List.getElem?_cons_succ] at yT0 yT1 yC0 yC1 yC2 yX0 yX1
    have yTl := T4.out.lt
    have yCl := C4.out.lt
    have yXl := X4.out.lt
    have HC := Lib.hid (HA.out _ O4.out)
    try dsimp only [TR.v, vCt] at HC
    go_upto_region 9 with (go_at_call 21; with_reducible refine HC.out.mono ?_; rintro e u5 ⟨rfl, hb⟩)
    clear yT0 yT1 yC0 yC1 yC2 yX0 yX1 yTl yCl yXl
    clear HC
    have bn := hb
    have T5 := Lib.hid (T4.out.below bn)
    have O5 := Lib.hid (O4.out.below bn)
    have C5 := Lib.hid (C4.out.below bn)
    have K5 := Lib.hid (K4.out.below bn)
    have L5 := Lib.hid (L4.out.below bn)
    have M5 := Lib.hid (M4.out.below bn)
    have X5 := Lib.hid (X4.out.below bn)
    have HB5 := Lib.hid (HB4.out.trans (bn.mono HB4.out.size))
    clear hb bn T4 O4 C4 K4 L4 M4 X4 HB4
    have yT0 := T5.out.cell 0
    have yT1 := T5.out.cell 1
    have yC0 := C5.out.cell 0
    have yC1 := C5.out.cell 1
    have yC2 := C5.out.cell 2
    have yX0 := X5.out.cell 0
    have yX1 := X5.out.cell 1
    simp only [List.getElem?_toArray, List.getElem?_cons_zero, List.getElem?_cons_succ] at yT0 yT1 yC0 yC1 yC2 yX0 yX1
    have yTl := T5.out.lt
    have yCl := C5.out.lt
    have yXl := X5.out.lt
    go_wp2_with (first | (go_at_call 14; with_reducible refine (HSan.out _).mono ?_; rintro e u6 ⟨rfl, hb6⟩; have T6 := Lib.hid (T5.out.below hb6); have O6 := Lib.hid (O5.out.below hb6); have C6 := Lib.hid (C5.out.below hb6); have K6 := Lib.hid (K5.out.below hb6); have L6 := Lib.hid (L5.out.below hb6); have M6 := Lib.hid (M5.out.below hb6); have X6 := Lib.hid (X5.out.below hb6); have HB6 := Lib.hid (HB5.out.trans (hb6.mono HB5.out.size)); clear hb6; have y6T0 := T6.out.cell 0; have y6T1 := T6.out.cell 1; have y6C0 := C6.out.cell 0; have y6C1 := C6.out.cell 1; have y6C2 := C6.out.cell 2; have y6X0 := X6.out.cell 0; have y6X1 := X6.out.cell 1; simp only [List.getElem?_toArray, List.getElem?_cons_zero, List.getElem?_cons_succ] at y6T0 y6T1 y6C0 y6C1 y6C2 y6X0 y6X1; have y6Tl := T6.out.lt; have y6Cl := C6.out.lt; have y6Xl := X6.out.lt) | (go_at_call 23; with_reducible refine (HQ.out _ O6.out K6.out L6.out M6.out).mono ?_; rintro e u7 ⟨rfl, hb7⟩; have T7 := Lib.hid (T6.out.below hb7); have O7 := Lib.hid (O6.out.below hb7); have C7 := Lib.hid (C6.out.below hb7); have K7 := Lib.hid (K6.out.below hb7); have L7 := Lib.hid (L6.out.below hb7); have M7 := Lib.hid (M6.out.below hb7); have X7 := Lib.hid (X6.out.below hb7); have HB7 := Lib.hid (HB6.out.trans (hb7.mono HB6.out.size)); clear hb7; have y7T0 := T7.out.cell 0; have y7T1 := T7.out.cell 1; have y7C0 := C7.out.cell 0; have y7C1 := C7.out.cell 1; have y7C2 := C7.out.cell 2; have y7X0 := X7.out.cell 0; have y7X1 := X7.out.cell 1; simp only [List.getElem?_toArray, List.getElem?_cons_zero, List.getElem?_cons_succ] at y7T0 y7T1 y7C0 y7C1 y7C2 y7X0 y7X1; have y7Tl := T7.out.lt; have y7Cl := C7.out.lt; have y7Xl := X7.out.lt))
    exact bodyPost_ret (v := .bool true) (by simp [results, Try.results4, go_sem]) rfl ⟨rfl, HB7.out⟩
open Go.WideShapes Go.ChangeShapes Go.Joins Go.Deep
set_option maxRecDepth 100000 in
theorem flowFinds_lifted (os : Os) (started : os.Started) (H : Type) (enc : TypeId × Value → H) :
    ReturnsInHanded Rows.flowFindsRow.assume Try.checked os 4 .any (Rows.flowFindsSpec.pre6 enc Try.prog Try.f4 Rows.flowFindsRow.domain false) (Rows.flowFindsSpec.post enc Try.prog Try.f4 false Rows.flowFindsRow.fresh Rows.flowFindsRow.handsOn Rows.flowFindsRow.again) := by
  refine returnsInHanded_of_change (C := Try.checked) (by kernel_rfl) started (by kernel_rfl) Try.func4
    (ChangeSpec.witness6 (enc := enc) (C := Try.checked) false ⟨#[], #[.agg #[.slice none 0 0, .slice none 0 0]], []⟩ 8 (by kernel_rfl) (by kernel_rfl) (by kernel_rfl) (by kernel_rfl)) ?_
  intro W base args ds gs before hval0 hW hcnd _
  have hval : ∀ (j : Nat) t v, Try.f4.params[j]? = some t → args[j]? = some v → Value.okWide Try.prog W .any base t v := hval0
  have hW' := hW
  obtain ⟨p, q, hA0, hV, rfl, hfz, hnd⟩ := hW
  obtain ⟨rfl, rfl⟩ := trodVars_none hV
  have hA : DataW.TrodAll enc Try.prog W 0 (fun _ => true) true [25] args.toList ds p := hA0
  obtain ⟨v0, d0, rfl, rfl, h0⟩ := trodAll_one hA
  obtain ⟨t, rfl, hT, _, rfl⟩ := open_tr (hval 0 25 v0 rfl rfl) h0
  refine (flowFinds_walk t W hT).mono fun e W' ⟨he, hb⟩ => ⟨_, he, law_post laid_out (by kernel_rfl) rfl Try.underlying4 rfl hW' rfl rfl rfl hb⟩

theorem flowFinds : Rows.FlowFindsSaid :=
  OpenClaim.holds_of_wide 4 Try.f4 rfl rfl rfl rfl rfl rfl rfl ⟨rfl, rfl, rfl, rfl, rfl⟩ rfl rfl rfl rfl rfl (by kernel_rfl) Try.func4 (by kernel_rfl)
    (of_decide_eq_true (by kernel_rfl)) (by unfold Func.isWrapper; first | (rw [if_pos (by decide +kernel)]; kernel_rfl) | (rw [if_neg (by decide +kernel)]; exact ⟨rfl, rfl⟩))
    (fun os started H enc _ => flowFinds_lifted os started H enc)
#print axioms flowFinds
end Go.Proofs.Ytighfmgkoepfkaa
