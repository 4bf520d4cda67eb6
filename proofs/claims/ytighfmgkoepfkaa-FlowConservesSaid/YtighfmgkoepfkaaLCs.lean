/- The law FlowConserves. -/
import Derived.Test.YtighfmgkoepfkaaMI
namespace Go.Proofs.Ytighfmgkoepfkaa
open Go.RowKit

structure CO where
  A1 : Option Addr
  n1 : Nat
  c1 : Nat
  A2 : Option Addr
  n2 : Nat
  c2 : Nat
  A3 : Option Addr
  n3 : Nat
  c3 : Nat
  st : List Int
  en : List Int
  ma : List Int
def encCo (x : CO) : List Value := [.slice x.A1 x.n1 x.c1, .slice x.A2 x.n2 x.c2, .slice x.A3 x.n3 x.c3]
theorem encCo_len (x : CO) : (encCo x).length = 3 := rfl
/-- A course in memory that is one of the trade. -/
structure CO.Ok (w : World) (hs : List Hd) (ms : List Mv) (x : CO) : Prop where
  h1 : SAt encI 1 w x.A1 x.n1 x.st
  h2 : SAt encI 1 w x.A2 x.n2 x.en
  h3 : SAt encI 1 w x.A3 x.n3 x.ma
  fit : fitsL hs ms x.st x.en x.ma = true
theorem CO.Ok.below {w w' : World} {hs : List Hd} {ms : List Mv} {x : CO} (h : x.Ok w hs ms) (hb : Below w.heap.size w w') : x.Ok w' hs ms := ⟨h.h1.below hb, h.h2.below hb, h.h3.below hb, h.fit⟩
theorem hcons_bound {hs : List Hd} {P : Int → Bool} {st en : List Int} : ∀ k, (∀ i, i < k → (0 ≤ iget st i ∧ iget st i ≤ 65536) ∧ 0 ≤ iget en i ∧ iget en i ≤ 65536) → -(65536 * (k : Int)) ≤ hcons hs P st en k ∧ hcons hs P st en k ≤ 65536 * (k : Int)
  | 0, _ => by show _ ≤ (0 : Int) ∧ (0 : Int) ≤ _; omega
  | k + 1, h => by
    have ih := hcons_bound (hs := hs) (P := P) k fun i hi => h i (by omega)
    have := h k (by omega)
    show _ ≤ (if P (hat hs k).id = true then hcons hs P st en k + iget st k - iget en k else hcons hs P st en k) ∧ (if P (hat hs k).id = true then hcons hs P st en k + iget st k - iget en k else hcons hs P st en k) ≤ _
    split <;> omega
theorem mcons_bound {ms : List Mv} {P : Int → Bool} {ma : List Int} {x : Int} (hx : -600000 ≤ x ∧ x ≤ 600000) : ∀ k, (∀ i, i < k → 0 ≤ iget ma i ∧ iget ma i ≤ 65536) → -(600000 + 65536 * (k : Int)) ≤ mcons ms P ma x k ∧ mcons ms P ma x k ≤ 600000 + 65536 * (k : Int)
  | 0, _ => by show _ ≤ x ∧ x ≤ _; omega
  | k + 1, h => by
    have ih := mcons_bound (ms := ms) (P := P) hx k fun i hi => h i (by omega)
    have := h k (by omega)
    show _ ≤ (mcons ms P ma x k + (if P (mat ms k).to = true then iget ma k else 0)) - (if P (mat ms k).fr = true then iget ma k else 0) ∧ (mcons ms P ma x k + (if P (mat ms k).to = true then iget ma k else 0)) - (if P (mat ms k).fr = true then iget ma k else 0) ≤ _
    split <;> split <;> omega
theorem course_bound {hs : List Hd} {ms : List Mv} (hv : TV hs ms) {st en ma : List Int} (hf : fitsL hs ms st en ma = true) : (∀ i, i < hs.length → (0 ≤ iget st i ∧ iget st i ≤ 65536) ∧ 0 ≤ iget en i ∧ iget en i ≤ 65536) ∧ ∀ k, k < ms.length → 0 ≤ iget ma k ∧ iget ma k ≤ 65536 := by
  obtain ⟨_, a, b, _⟩ := fitsL_prop.1 hf
  refine ⟨fun i hi => ?_, fun k hk => ?_⟩
  · have := a i hi
    have := hv.hd_bound (by rw [hat_eq hi]; exact List.getElem_mem hi : hat hs i ∈ hs)
    omega
  · have := b k hk
    have := hv.mv_bound (by rw [mat_eq hk]; exact List.getElem_mem hk : mat ms k ∈ ms)
    omega
theorem info_co : (Try.prog.info? 32).map (fun i => (i.zero, i.size, i.bytes)) = some (some (.agg #[.slice none 0 0, .slice none 0 0, .slice none 0 0]), 3, 72) := by kernel_rfl
theorem one_slices (l : List (Option Addr × Nat × Nat)) : ∀ u ∈ l.map (fun x => Value.slice x.1 x.2.1 x.2.2), u.oneCell' = true := by
  intro u hu
  obtain ⟨x, _, rfl⟩ := List.mem_map.1 hu
  rfl
set_option maxRecDepth 100000 in
set_option maxHeartbeats 12800000 in
theorem flowConserves_walk (t : TR) (kind id : Int) (Ai : Option Addr) (ki ci : Nat) (ids : List Int) (w : World) (h : t.Ok w) (hi : SAt encI 1 w Ai ki ids) : Calls Try.prog 3 #[t.v, vAt kind id, .slice Ai ki ci] w fun e w' => e = .returned (.bool true) ∧ Below w.heap.size w w' := by
  obtain ⟨A, n, c, B, m, d, hs, ms⟩ := t
  have HSan := Lib.hid (fun u => sanity_any u)
  obtain ⟨fb, hfb⟩ : ∃ b, fewB n m = b := ⟨_, rfl⟩
  have HFew := Lib.hid (fun u => few_any A n c B m d u h.n_le h.m_le)
  rw [hfb] at HFew
  dsimp only [TR.v] at *
  have HB0 : Hid (Below w.heap.size w ((w.alloc (.cells #[.slice A n c, .slice B m d] 25)).alloc (.cells #[.int .i64 kind, .int .i64 id] 27))) := Lib.hid (((Below.refl w.heap.size w).alloc (Nat.le_refl _) _).alloc (by simp) _)
  have T0 : Hid (Blk ((w.alloc (.cells #[.slice A n c, .slice B m d] 25)).alloc (.cells #[.int .i64 kind, .int .i64 id] 27)) w.heap.size 25 #[.slice A n c, .slice B m d]) := Lib.hid ((Blk.at_new 25 #[.slice A n c, .slice B m d] rfl).alloc _)
  have At0 : Hid (Blk ((w.alloc (.cells #[.slice A n c, .slice B m d] 25)).alloc (.cells #[.int .i64 kind, .int .i64 id] 27)) (w.heap.size + 1) 27 #[.int .i64 kind, .int .i64 id]) := Lib.hid (Blk.at_new 27 #[.int .i64 kind, .int .i64 id] (by simp))
  have O0 := Lib.hid ((h).below HB0.out)
  have I0 := Lib.hid ((hi).below HB0.out)
  go_enter Try.func3, Try.ntmps3
  go_upto_region 1 with fail
  generalize hV : (w.alloc (.cells #[.slice A n c, .slice B m d] 25)).alloc (.cells #[.int .i64 kind, .int .i64 id] 27) = V0 at *
  clear hV
  clear h hi hfb
  cases fb with
  | false =>
    have yT0 := T0.out.cell 0
    have yT1 := T0.out.cell 1
    have yAt0 := At0.out.cell 0
    have yAt1 := At0.out.cell 1
    simp only [List.getElem?_toArray, List.getElem?_cons_zero, List.getElem?_cons_succ] at yT0 yT1 yAt0 yAt1
    have yTl := T0.out.lt
    have yAtl := At0.out.lt
    go_upto_region 2 with (go_at_call 13; with_reducible refine (HFew.out _).mono ?_; rintro e u1 ⟨rfl, hb1⟩; have T1 := Lib.hid (T0.out.below hb1); have At1 := Lib.hid (At0.out.below hb1); have O1 := Lib.hid (O0.out.below hb1); have I1 := Lib.hid (I0.out.below hb1); have HB1 := Lib.hid (HB0.out.trans (hb1.mono HB0.out.size)); clear hb1; have y1T0 := T1.out.cell 0; have y1T1 := T1.out.cell 1; have y1At0 := At1.out.cell 0; have y1At1 := At1.out.cell 1; simp only [List.getElem?_toArray, List.getElem?_cons_zero, List.getElem?_cons_succ] at y1T0 y1T1 y1At0 y1At1; have y1Tl := T1.out.lt; have y1Atl := At1.out.lt)
    clear yT0 yT1 yAt0 yAt1 yTl yAtl y1T0 y1T1 y1At0 y1At1 y1Tl y1Atl T0 At0 O0 I0 HB0
    have yT0 := T1.out.cell 0
    have yT1 := T1.out.cell 1
    have yAt0 := At1.out.cell 0
    have yAt1 := At1.out.cell 1
    simp only [List.getElem?_toArray, List.getElem?_cons_zero, List.getElem?_cons_succ] at yT0 yT1 yAt0 yAt1
    have yTl := T1.out.lt
    have yAtl := At1.out.lt
    go_wp2_with (go_at_call 14; with_reducible refine (HSan.out _).mono ?_; rintro e u2 ⟨rfl, hb2⟩; have T2 := Lib.hid (T1.out.below hb2); have At2 := Lib.hid (At1.out.below hb2); have O2 := Lib.hid (O1.out.below hb2); have I2 := Lib.hid (I1.out.below hb2); have HB2 := Lib.hid (HB1.out.trans (hb2.mono HB1.out.size)); clear hb2; have y2T0 := T2.out.cell 0; have y2T1 := T2.out.cell 1; have y2At0 := At2.out.cell 0; have y2At1 := At2.out.cell 1; simp only [List.getElem?_toArray, List.getElem?_cons_zero, List.getElem?_cons_succ] at y2T0 y2T1 y2At0 y2At1; have y2Tl := T2.out.lt; have y2Atl := At2.out.lt)
    exact bodyPost_ret (v := .bool true) (by simp [results, Try.results3, go_sem]) rfl ⟨rfl, HB2.out⟩
  | true =>
  by_cases hk60 : 20 < ki
  case pos =>
    have hkb : decide ((20 : Int) < (ki : Int)) = true := decide_eq_true (by omega)
    have yT0 := T0.out.cell 0
    have yT1 := T0.out.cell 1
    have yAt0 := At0.out.cell 0
    have yAt1 := At0.out.cell 1
    simp only [List.getElem?_toArray, List.getElem?_cons_zero, List.getElem?_cons_succ] at yT0 yT1 yAt0 yAt1
    have yTl := T0.out.lt
    have yAtl := At0.out.lt
    go_upto_region 2 with (go_at_call 13; with_reducible refine (HFew.out _).mono ?_; rintro e u1 ⟨rfl, hb1⟩; have T1 := Lib.hid (T0.out.below hb1); have At1 := Lib.hid (At0.out.below hb1); have O1 := Lib.hid (O0.out.below hb1); have I1 := Lib.hid (I0.out.below hb1); have HB1 := Lib.hid (HB0.out.trans (hb1.mono HB0.out.size)); clear hb1; have y1T0 := T1.out.cell 0; have y1T1 := T1.out.cell 1; have y1At0 := At1.out.cell 0; have y1At1 := At1.out.cell 1; simp only [List.getElem?_toArray, List.getElem?_cons_zero, List.getElem?_cons_succ] at y1T0 y1T1 y1At0 y1At1; have y1Tl := T1.out.lt; have y1Atl := At1.out.lt)
    clear yT0 yT1 yAt0 yAt1 yTl yAtl y1T0 y1T1 y1At0 y1At1 y1Tl y1Atl T0 At0 O0 I0 HB0
    have yT0 := T1.out.cell 0
    have yT1 := T1.out.cell 1
    have yAt0 := At1.out.cell 0
    have yAt1 := At1.out.cell 1
    simp only [List.getElem?_toArray, List.getElem?_cons_zero, List.getElem?_cons_succ] at yT0 yT1 yAt0 yAt1
    have yTl := T1.out.lt
    have yAtl := At1.out.lt
    go_wp2_with (go_at_call 14; with_reducible refine (HSan.out _).mono ?_; rintro e u2 ⟨rfl, hb2⟩; have T2 := Lib.hid (T1.out.below hb2); have At2 := Lib.hid (At1.out.below hb2); have O2 := Lib.hid (O1.out.below hb2); have I2 := Lib.hid (I1.out.below hb2); have HB2 := Lib.hid (HB1.out.trans (hb2.mono HB1.out.size)); clear hb2; have y2T0 := T2.out.cell 0; have y2T1 := T2.out.cell 1; have y2At0 := At2.out.cell 0; have y2At1 := At2.out.cell 1; simp only [List.getElem?_toArray, List.getElem?_cons_zero, List.getElem?_cons_succ] at y2T0 y2T1 y2At0 y2At1; have y2Tl := T2.out.lt; have y2Atl := At2.out.lt)
    exact bodyPost_ret (v := .bool true) (by simp [results, Try.results3, go_sem]) rfl ⟨rfl, HB2.out⟩
  case neg =>
  have hkb : decide ((20 : Int) < (ki : Int)) = false := decide_eq_false (by omega)
  have yT0 := T0.out.cell 0
  have yT1 := T0.out.cell 1
  have yAt0 := At0.out.cell 0
  have yAt1 := At0.out.cell 1
  simp only [List.getElem?_toArray, List.getElem?_cons_zero, List.getElem?_cons_succ] at yT0 yT1 yAt0 yAt1
  have yTl := T0.out.lt
  have yAtl := At0.out.lt
  go_upto_region 3 with (go_at_call 13; with_reducible refine (HFew.out _).mono ?_; rintro e u1 ⟨rfl, hb1⟩; have T1 := Lib.hid (T0.out.below hb1); have At1 := Lib.hid (At0.out.below hb1); have O1 := Lib.hid (O0.out.below hb1); have I1 := Lib.hid (I0.out.below hb1); have HB1 := Lib.hid (HB0.out.trans (hb1.mono HB0.out.size)); clear hb1; have y1T0 := T1.out.cell 0; have y1T1 := T1.out.cell 1; have y1At0 := At1.out.cell 0; have y1At1 := At1.out.cell 1; simp only [List.getElem?_toArray, List.getElem?_cons_zero, List.getElem?_cons_succ] at y1T0 y1T1 y1At0 y1At1; have y1Tl := T1.out.lt; have y1Atl := At1.out.lt)
  clear yT0 yT1 yAt0 yAt1 yTl yAtl y1T0 y1T1 y1At0 y1At1 y1Tl y1Atl T0 At0 O0 I0 HB0
  clear hkb
  by_cases hn : nwE hs ms = 0
  case neg =>
    have HF := Lib.hid (fun (u : World) (hu : TR.Ok u ⟨A, n, c, B, m, d, hs, ms⟩) => fi_bad hu hn)
    dsimp only [TR.v] at HF
    generalize nwE hs ms = ne at *
    have hnb : (ne != 0) = true := by simpa using hn
    clear hn
    have yT0 := T1.out.cell 0
    have yT1 := T1.out.cell 1
    have yAt0 := At1.out.cell 0
    have yAt1 := At1.out.cell 1
    simp only [List.getElem?_toArray, List.getElem?_cons_zero, List.getElem?_cons_succ] at yT0 yT1 yAt0 yAt1
    have yTl := T1.out.lt
    have yAtl := At1.out.lt
    have HC := Lib.hid (HF.out _ O1.out)
    try dsimp only [TR.v, vCt] at HC
    go_upto_region 5 with (go_at_call 15; with_reducible refine HC.out.mono ?_; rintro e u2 ⟨rfl, hb⟩)
    clear yT0 yT1 yAt0 yAt1 yTl yAtl
    clear HC
    have bn := hb
    have bq : Below u2.heap.size u2 (u2.alloc (.cells #[.slice none 0 0, .slice none 0 0, .slice none 0 0] 32)) := ((Below.refl u2.heap.size u2).alloc (Nat.le_refl _) _)
    have bn := hb.trans (bq.mono hb.size)
    have T2 := Lib.hid (T1.out.below bn)
    have At2 := Lib.hid (At1.out.below bn)
    have O2 := Lib.hid (O1.out.below bn)
    have I2 := Lib.hid (I1.out.below bn)
    have HB2 := Lib.hid (HB1.out.trans (bn.mono HB1.out.size))
    have C2 : Hid (Blk (u2.alloc (.cells #[.slice none 0 0, .slice none 0 0, .slice none 0 0] 32)) u2.heap.size 32 #[.slice none 0 0, .slice none 0 0, .slice none 0 0]) := Lib.hid (Blk.at_new 32 #[.slice none 0 0, .slice none 0 0, .slice none 0 0] rfl)
    generalize hV : u2.alloc (.cells #[.slice none 0 0, .slice none 0 0, .slice none 0 0] 32) = V2 at *
    generalize hp : u2.heap.size = p2 at *
    clear hV hp bq
    clear hb bn T1 At1 O1 I1 HB1
    have yT0 := T2.out.cell 0
    have yT1 := T2.out.cell 1
    have yAt0 := At2.out.cell 0
    have yAt1 := At2.out.cell 1
    have yC0 := C2.out.cell 0
    have yC1 := C2.out.cell 1
    have yC2 := C2.out.cell 2
    simp only [List.getElem?_toArray, List.getElem?_cons_zero, List.getElem?_cons_succ] at yT0 yT1 yAt0 yAt1 yC0 yC1 yC2
    have yTl := T2.out.lt
    have yAtl := At2.out.lt
    have yCl := C2.out.lt
    go_wp2_with (go_at_call 14; with_reducible refine (HSan.out _).mono ?_; rintro e u3 ⟨rfl, hb3⟩; have T3 := Lib.hid (T2.out.below hb3); have At3 := Lib.hid (At2.out.below hb3); have O3 := Lib.hid (O2.out.below hb3); have I3 := Lib.hid (I2.out.below hb3); have C3 := Lib.hid (C2.out.below hb3); have HB3 := Lib.hid (HB2.out.trans (hb3.mono HB2.out.size)); clear hb3; have y3T0 := T3.out.cell 0; have y3T1 := T3.out.cell 1; have y3At0 := At3.out.cell 0; have y3At1 := At3.out.cell 1; have y3C0 := C3.out.cell 0; have y3C1 := C3.out.cell 1; have y3C2 := C3.out.cell 2; simp only [List.getElem?_toArray, List.getElem?_cons_zero, List.getElem?_cons_succ] at y3T0 y3T1 y3At0 y3At1 y3C0 y3C1 y3C2; have y3Tl := T3.out.lt; have y3Atl := At3.out.lt; have y3Cl := C3.out.lt)
    exact bodyPost_ret (v := .bool true) (by simp [results, Try.results3, go_sem]) rfl ⟨rfl, HB3.out⟩
  case pos =>
  obtain ⟨hv, ha⟩ := nwE_zero hn
  have hc := tcheck_zero.2 hv
  have HTV := Lib.hid hv
  have HF := Lib.hid (fun (u : World) (hu : TR.Ok u ⟨A, n, c, B, m, d, hs, ms⟩) => fi_yes hu hc ha)
  dsimp only [TR.v] at HF
  have HLh := Lib.hid (show hs.length = n from O1.out.h.len)
  have HLm := Lib.hid (show ms.length = m from O1.out.m.len)
  have hn9 : n ≤ 9 := by rw [← HLh.out]; exact hv.lenH
  have hm24 : m ≤ 24 := by rw [← HLm.out]; exact hv.lenM
  have HHas := Lib.hid (fun (u : World) (x : Int) (hu : SAt encI 1 u Ai ki ids) => has_any Ai ki ci ids x u hu (by omega))
  have yT0 := T1.out.cell 0
  have yT1 := T1.out.cell 1
  have yAt0 := At1.out.cell 0
  have yAt1 := At1.out.cell 1
  simp only [List.getElem?_toArray, List.getElem?_cons_zero, List.getElem?_cons_succ] at yT0 yT1 yAt0 yAt1
  have yTl := T1.out.lt
  have yAtl := At1.out.lt
  have HC := Lib.hid (HF.out _ O1.out)
  try dsimp only [TR.v, vCt] at HC
  go_upto_region 6 with (go_at_call 15; with_reducible refine HC.out.mono ?_; rintro e u2 ⟨A1, n1, c1, A2, n2, c2, A3, n3, c3, st, en, ma, rfl, k1, k2, k3, hf, hb⟩)
  clear yT0 yT1 yAt0 yAt1 yTl yAtl
  clear HC
  have bn := hb
  have bq : Below u2.heap.size u2 (u2.alloc (.cells #[.slice A1 n1 c1, .slice A2 n2 c2, .slice A3 n3 c3] 32)) := ((Below.refl u2.heap.size u2).alloc (Nat.le_refl _) _)
  have bn := hb.trans (bq.mono hb.size)
  have T2 := Lib.hid (T1.out.below bn)
  have At2 := Lib.hid (At1.out.below bn)
  have O2 := Lib.hid (O1.out.below bn)
  have I2 := Lib.hid (I1.out.below bn)
  have HB2 := Lib.hid (HB1.out.trans (bn.mono HB1.out.size))
  have K2 := Lib.hid ((k1).below bq)
  have L2 := Lib.hid ((k2).below bq)
  have M2 := Lib.hid ((k3).below bq)
  have C2 : Hid (Blk (u2.alloc (.cells #[.slice A1 n1 c1, .slice A2 n2 c2, .slice A3 n3 c3] 32)) u2.heap.size 32 #[.slice A1 n1 c1, .slice A2 n2 c2, .slice A3 n3 c3]) := Lib.hid (Blk.at_new 32 #[.slice A1 n1 c1, .slice A2 n2 c2, .slice A3 n3 c3] rfl)
  generalize hV : u2.alloc (.cells #[.slice A1 n1 c1, .slice A2 n2 c2, .slice A3 n3 c3] 32) = V2 at *
  generalize hp : u2.heap.size = p2 at *
  clear hV hp bq
  clear hb bn T1 At1 O1 I1 HB1
  clear k1 k2 k3
  have HFit := Lib.hid hf
  clear hf
  by_cases hp : plE hs ms kind id = 0
  case neg =>
    have HG1 := Lib.hid (fun (u : World) (hu : TR.Ok u ⟨A, n, c, B, m, d, hs, ms⟩) => (Least_any ⟨A, n, c, B, m, d, hs, ms⟩ kind id u hu).mono fun e w' h => ask_err h hp)
    have HG2 := Lib.hid (fun (u : World) (hu : TR.Ok u ⟨A, n, c, B, m, d, hs, ms⟩) => (Greatest_any ⟨A, n, c, B, m, d, hs, ms⟩ kind id u hu).mono fun e w' h => ask_err h hp)
    dsimp only [TR.v] at HG1 HG2
    generalize plE hs ms kind id = pe at *
    have hpb : (pe == 0) = false := by simpa using hp
    clear hp
    have yT0 := T2.out.cell 0
    have yT1 := T2.out.cell 1
    have yAt0 := At2.out.cell 0
    have yAt1 := At2.out.cell 1
    have yC0 := C2.out.cell 0
    have yC1 := C2.out.cell 1
    have yC2 := C2.out.cell 2
    simp only [List.getElem?_toArray, List.getElem?_cons_zero, List.getElem?_cons_succ] at yT0 yT1 yAt0 yAt1 yC0 yC1 yC2
    have yTl := T2.out.lt
    have yAtl := At2.out.lt
    have yCl := C2.out.lt
    have HC := Lib.hid (HG1.out _ O2.out)
    try dsimp only [TR.v, vCt] at HC
    go_upto_region 7 with (go_at_call 16; with_reducible refine HC.out.mono ?_; rintro e u3 ⟨rfl, hb⟩)
    clear yT0 yT1 yAt0 yAt1 yC0 yC1 yC2 yTl yAtl yCl
    clear HC
    have bn := hb
    have bq : Below u3.heap.size u3 (u3.alloc (.cells #[.int .i64 0, .slice none 0 0, .slice none 0 0, .slice none 0 0, .int .i64 0, .slice none 0 0] 39)) := ((Below.refl u3.heap.size u3).alloc (Nat.le_refl _) _)
    have bn := hb.trans (bq.mono hb.size)
    have T3 := Lib.hid (T2.out.below bn)
    have At3 := Lib.hid (At2.out.below bn)
    have O3 := Lib.hid (O2.out.below bn)
    have I3 := Lib.hid (I2.out.below bn)
    have C3 := Lib.hid (C2.out.below bn)
    have K3 := Lib.hid (K2.out.below bn)
    have L3 := Lib.hid (L2.out.below bn)
    have M3 := Lib.hid (M2.out.below bn)
    have HB3 := Lib.hid (HB2.out.trans (bn.mono HB2.out.size))
    have P3 : Hid (Blk (u3.alloc (.cells #[.int .i64 0, .slice none 0 0, .slice none 0 0, .slice none 0 0, .int .i64 0, .slice none 0 0] 39)) u3.heap.size 39 #[.int .i64 0, .slice none 0 0, .slice none 0 0, .slice none 0 0, .int .i64 0, .slice none 0 0]) := Lib.hid (Blk.at_new 39 #[.int .i64 0, .slice none 0 0, .slice none 0 0, .slice none 0 0, .int .i64 0, .slice none 0 0] rfl)
    generalize hV : u3.alloc (.cells #[.int .i64 0, .slice none 0 0, .slice none 0 0, .slice none 0 0, .int .i64 0, .slice none 0 0] 39) = V3 at *
    generalize hp : u3.heap.size = p3 at *
    clear hV hp bq
    clear hb bn T2 At2 O2 I2 C2 K2 L2 M2 HB2
    have yT0 := T3.out.cell 0
    have yT1 := T3.out.cell 1
    have yAt0 := At3.out.cell 0
    have yAt1 := At3.out.cell 1
    have yC0 := C3.out.cell 0
    have yC1 := C3.out.cell 1
    have yC2 := C3.out.cell 2
    have yP0 := P3.out.cell 0
    have yP1 := P3.out.cell 1
    have yP2 := P3.out.cell 2
    have yP3 := P3.out.cell 3
    have yP4 := P3.out.cell 4
    have yP5 := P3.out.cell 5
    simp only [List.getElem?_toArray, List.getElem?_cons_zero, List.getElem?_cons_succ] at yT0 yT1 yAt0 yAt1 yC0 yC1 yC2 yP0 yP1 yP2 yP3 yP4 yP5
    have yTl := T3.out.lt
    have yAtl := At3.out.lt
    have yCl := C3.out.lt
    have yPl := P3.out.lt
    have HC := Lib.hid (HG2.out _ O3.out)
    try dsimp only [TR.v, vCt] at HC
    go_upto_region 8 with (go_at_call 17; with_reducible refine HC.out.mono ?_; rintro e u4 ⟨rfl, hb⟩)
    clear yT0 yT1 yAt0 yAt1 yC0 yC1 yC2 yP0 yP1 yP2 yP3 yP4 yP5 yTl yAtl yCl yPl
    clear HC
    have bn := hb
    have bq : Below u4.heap.size u4 (u4.alloc (.cells #[.int .i64 0, .slice none 0 0, .slice none 0 0, .slice none 0 0, .int .i64 0, .slice none 0 0] 39)) := ((Below.refl u4.heap.size u4).alloc (Nat.le_refl _) _)
    have bn := hb.trans (bq.mono hb.size)
    have T4 := Lib.hid (T3.out.below bn)
    have At4 := Lib.hid (At3.out.below bn)
    have O4 := Lib.hid (O3.out.below bn)
    have I4 := Lib.hid (I3.out.below bn)
    have C4 := Lib.hid (C3.out.below bn)
    have K4 := Lib.hid (K3.out.below bn)
    have L4 := Lib.hid (L3.out.below bn)
    have M4 := Lib.hid (M3.out.below bn)
    have P4 := Lib.hid (P3.out.below bn)
    have HB4 := Lib.hid (HB3.out.trans (bn.mono HB3.out.size))
    have Q4 : Hid (Blk (u4.alloc (.cells #[.int .i64 0, .slice none 0 0, .slice none 0 0, .slice none 0 0, .int .i64 0, .slice none 0 0] 39)) u4.heap.size 39 #[.int .i64 0, .slice none 0 0, .slice none 0 0, .slice none 0 0, .int .i64 0, .slice none 0 0]) := Lib.hid (Blk.at_new 39 #[.int .i64 0, .slice none 0 0, .slice none 0 0, .slice none 0 0, .int .i64 0, .slice none 0 0] rfl)
    generalize hV : u4.alloc (.cells #[.int .i64 0, .slice none 0 0, .slice none 0 0, .slice none 0 0, .int .i64 0, .slice none 0 0] 39) = V4 at *
    generalize hp : u4.heap.size = p4 at *
    clear hV hp bq
    clear hb bn T3 At3 O3 I3 C3 K3 L3 M3 P3 HB3
    have yT0 := T4.out.cell 0
    have yT1 := T4.out.cell 1
    have yAt0 := At4.out.cell 0
    have yAt1 := At4.out.cell 1
    have yC0 := C4.out.cell 0
    have yC1 := C4.out.cell 1
    have yC2 := C4.out.cell 2
    have yP0 := P4.out.cell 0
    have yP1 := P4.out.cell 1
    have yP2 := P4.out.cell 2
    have yP3 := P4.out.cell 3
    have yP4 := P4.out.cell 4
    have yP5 := P4.out.cell 5
    have yQ0 := Q4.out.cell 0
    have yQ1 := Q4.out.cell 1
    have yQ2 := Q4.out.cell 2
    have yQ3 := Q4.out.cell 3
    have yQ4 := Q4.out.cell 4
    have yQ5 := Q4.out.cell 5
    simp only [List.getElem?_toArray, List.getElem?_cons_zero, List.getElem?_cons_succ] at yT0 yT1 yAt0 yAt1 yC0 yC1 yC2 yP0 yP1 yP2 yP3 yP4 yP5 yQ0 yQ1 yQ2 yQ3 yQ4 yQ5
    have yTl := T4.out.lt
    have yAtl := At4.out.lt
    have yCl := C4.out.lt
    have yPl := P4.out.lt
    have yQl := Q4.out.lt
    go_upto_region 12 with fail
    have bn := below_new V4 (.cells #[.slice A1 n1 c1, .slice A2 n2 c2, .slice A3 n3 c3] 32)
    have HTU := Lib.hid (T4.out.below bn)
    have HIU := Lib.hid (I4.out.below bn)
    have HOU := Lib.hid (O4.out.below bn)
    have HBU := Lib.hid (HB4.out.trans (bn.mono HB4.out.size))
    have HSU := Lib.hid (show SAt encCo 3 (V4.alloc (.cells #[.slice A1 n1 c1, .slice A2 n2 c2, .slice A3 n3 c3] 32)) (some ⟨V4.heap.size, 0, none⟩) 1 [⟨A1, n1, c1, A2, n2, c2, A3, n3, c3, st, en, ma⟩] from SAt_blk (enc := encCo) (k := 3) (fun _ => rfl) (zs := [⟨A1, n1, c1, A2, n2, c2, A3, n3, c3, st, en, ma⟩]) (Blk.new V4 32 #[.slice A1 n1 c1, .slice A2 n2 c2, .slice A3 n3 c3]))
    have HAll := Lib.hid (show ∀ x ∈ [(⟨A1, n1, c1, A2, n2, c2, A3, n3, c3, st, en, ma⟩ : CO)], x.Ok (V4.alloc (.cells #[.slice A1 n1 c1, .slice A2 n2 c2, .slice A3 n3 c3] 32)) hs ms from fun x hx => by
      rw [List.mem_singleton] at hx
      subst hx
      exact ⟨K4.out.below bn, L4.out.below bn, M4.out.below bn, HFit.out⟩)
    generalize hU : V4.alloc (.cells #[.slice A1 n1 c1, .slice A2 n2 c2, .slice A3 n3 c3] 32) = U at *
    generalize hp : V4.heap.size = p at *
    generalize hLs : [(⟨A1, n1, c1, A2, n2, c2, A3, n3, c3, st, en, ma⟩ : CO)] = Ls at *
    clear hU hp hLs bn yT0 yT1 yAt0 yAt1 yC0 yC1 yC2 yP0 yP1 yP2 yP3 yP4 yP5 yQ0 yQ1 yQ2 yQ3 yQ4 yQ5 yTl yAtl yCl yPl yQl
    obtain ⟨q, hq⟩ : ∃ q : Nat, q = 1 := ⟨_, rfl⟩
    rw [show (Value.slice (some ⟨p, 0, none⟩) 1 1) = Value.slice (some ⟨p, 0, none⟩) q 1 by rw [hq]]
    have HSV := Lib.hid (show SAt encCo 3 U (some ⟨p, 0, none⟩) q Ls by rw [hq]; exact HSU.out)
    have hq3 : q ≤ 3 := by omega
    clear hq HSU
    go_loopw [14, 15, 16, 17, 18, 19] (fun i _ _ _ _ _ wx => ∃ e : Nat, e ≤ q ∧ i = .int .i64 (e : Int) ∧ Below U.heap.size U wx) (fun i _ _ _ _ _ _ => q - (intOf i).toNat)
    case atStart => exact ⟨0, Nat.zero_le _, rfl, Below.refl _ _⟩
    case round =>
      obtain ⟨e, he, rfl, hb⟩ := hrel
      have HE := Lib.hid hb
      have HBe := Lib.hid (HBU.out.trans (hb.mono HBU.out.size))
      have HTe := Lib.hid (HTU.out.below hb)
      clear hb
      by_cases heq : e < q
      case neg =>
        go_wp2_with (go_at_call 14; with_reducible refine (HSan.out _).mono ?_; rintro e u ⟨rfl, hb⟩)
        exact bodyPost_ret (v := .bool true) (by simp [results, Try.results3, go_sem]) rfl ⟨rfl, HBe.out.trans (hb.mono HBe.out.size)⟩
      case pos =>
        have hel : e < Ls.length := by rw [HSV.out.len]; exact heq
        obtain ⟨bL, oL, eL, hL⟩ := HSV.out.at_ (by omega)
        cases eL
        have hL2 := hL.below HE.out
        have HXo := Lib.hid ((HAll.out _ (List.getElem_mem hel)).below HE.out)
        have u0 := hL2.c e _ (List.getElem?_eq_getElem hel) 0 _ rfl
        have u1 := hL2.c e _ (List.getElem?_eq_getElem hel) 1 _ rfl
        have u2 := hL2.c e _ (List.getElem?_eq_getElem hel) 2 _ rfl
        simp only [Nat.zero_add, Nat.add_zero] at u0 u1 u2
        have ul := hL2.lt
        clear hL hL2
        generalize Ls[e] = x at *
        obtain ⟨A1, n1, c1, A2, n2, c2, A3, n3, c3, st, en, ma⟩ := x
        have HX := Lib.hid HXo.out
        dsimp only at u0 u1 u2
        have HP := Lib.hid (fitsL_prop.1 HX.out.fit).1
        obtain rfl : n1 = n := by have := HP.out.1; have := HX.out.h1.len; have := HLh.out; dsimp only at *; omega
        obtain rfl : n2 = n1 := by have := HP.out.2.1; have := HX.out.h2.len; have := HLh.out; dsimp only at *; omega
        obtain rfl : n3 = m := by have := HP.out.2.2; have := HX.out.h3.len; have := HLm.out; dsimp only at *; omega
        have HBd := Lib.hid (course_bound HTV.out HX.out.fit)
        have HZero := Lib.hid (conserve_all HTV.out HX.out.fit)
        have HCons := Lib.hid (conserve HTV.out HX.out.fit ids.contains)
        dsimp only at HBd HZero HCons HP
        rw [HLh.out] at HBd HZero HCons
        rw [HLm.out] at HBd HCons
        have y0 := HTe.out.cell 0
        have y1 := HTe.out.cell 1
        simp only [List.getElem?_toArray, List.getElem?_cons_zero, List.getElem?_cons_succ] at y0 y1
        have yl := HTe.out.lt
        go_upto_region 15 with fail
        have HBn := Lib.hid (below_new wr (.cells #[.slice A1 n2 c1, .slice A2 n2 c2, .slice A3 n3 c3] 32))
        have HD := Lib.hid (Blk.new wr 32 #[.slice A1 n2 c1, .slice A2 n2 c2, .slice A3 n3 c3])
        generalize hV : wr.alloc (.cells #[.slice A1 n2 c1, .slice A2 n2 c2, .slice A3 n3 c3] 32) = V at *
        generalize hp : wr.heap.size = p at *
        have HE2 := Lib.hid (HE.out.trans (HBn.out.mono (by rw [← hp]; exact HE.out.size)))
        have HB2 := Lib.hid (HBe.out.trans (HBn.out.mono (by rw [← hp]; exact HBe.out.size)))
        subst hp
        have HT2 := Lib.hid (HTe.out.below HBn.out)
        have HX2 := Lib.hid (HX.out.below HBn.out)
        clear hV u0 u1 u2 ul y0 y1 yl HTe HBe HX HXo HBn
        have y0 := HT2.out.cell 0
        have y1 := HT2.out.cell 1
        have z0 := HD.out.cell 0
        have z1 := HD.out.cell 1
        have z2 := HD.out.cell 2
        simp only [List.getElem?_toArray, List.getElem?_cons_zero, List.getElem?_cons_succ] at y0 y1 z0 z1 z2
        have yl := HT2.out.lt
        have zl := HD.out.lt
        go_upto_region 20 with fail
        clear y0 y1 yl z0 z1 z2 zl
        go_loopw [16, 17, 18] (fun a b i wx => ∃ (k : Nat) (X Y : Int), k ≤ n2 ∧ i = .int .i64 (k : Int) ∧ a = .int .i64 X ∧ b = .int .i64 Y ∧ X = hcons hs (fun _ => true) st en k ∧ Y = hcons hs ids.contains st en k ∧ Below V.heap.size V wx) (fun _ _ i _ => n2 - (intOf i).toNat)
        case atStart => exact ⟨0, 0, 0, Nat.zero_le _, rfl, rfl, rfl, rfl, rfl, Below.refl _ _⟩
        case round =>
          obtain ⟨k, X, Y, hk, rfl, rfl, rfl, hX, hY, hb⟩ := hrel
          have HX := Lib.hid hX
          have HY := Lib.hid hY
          have HBV := Lib.hid hb
          have HB3 := Lib.hid (HB2.out.trans (hb.mono HB2.out.size))
          have HT3 := Lib.hid (HT2.out.below hb)
          have HD3 := Lib.hid (HD.out.below hb)
          have HX3 := Lib.hid (HX2.out.below hb)
          have HI3 := Lib.hid (HIU.out.below (HE2.out.trans (hb.mono HE2.out.size)))
          have HO3 := Lib.hid (HOU.out.below (HE2.out.trans (hb.mono HE2.out.size)))
          have b1 := hcons_bound (hs := hs) (P := fun _ => true) (st := st) (en := en) k fun i hi => HBd.out.1 i (by omega)
          have b2 := hcons_bound (hs := hs) (P := ids.contains) (st := st) (en := en) k fun i hi => HBd.out.1 i (by omega)
          rw [← hX] at b1
          rw [← hY] at b2
          have hx1 : -600000 ≤ X := by omega
          have hx2 : X ≤ 600000 := by omega
          have hy1 : -600000 ≤ Y := by omega
          have hy2 : Y ≤ 600000 := by omega
          clear hX hY hb b1 b2
          have y0 := HT3.out.cell 0
          have y1 := HT3.out.cell 1
          have z0 := HD3.out.cell 0
          have z1 := HD3.out.cell 1
          have z2 := HD3.out.cell 2
          simp only [List.getElem?_toArray, List.getElem?_cons_zero, List.getElem?_cons_succ] at y0 y1 z0 z1 z2
          have yl := HT3.out.lt
          have zl := HD3.out.lt
          by_cases hkn : k < n2
          case neg =>
            obtain rfl : k = n2 := by omega
            obtain rfl : X = 0 := by rw [HX.out]; exact HZero.out
            have HYn := Lib.hid (show mcons ms ids.contains ma Y n3 = 0 by rw [HY.out]; exact HCons.out)
            clear HX HY
            go_upto_region 26 with fail
            clear y0 y1 yl z0 z1 z2 zl
            go_loopw [17, 19] (fun b i wx => ∃ (j : Nat) (Z : Int), j ≤ n3 ∧ i = .int .i64 (j : Int) ∧ b = .int .i64 Z ∧ Z = mcons ms ids.contains ma Y j ∧ Below wr.heap.size wr wx) (fun _ i _ => n3 - (intOf i).toNat)
            case atStart => exact ⟨0, Y, Nat.zero_le _, rfl, rfl, rfl, Below.refl _ _⟩
            case round =>
              obtain ⟨j, Z, hj, rfl, rfl, hZ, hb⟩ := hrel
              have HZ := Lib.hid hZ
              have HBW := Lib.hid hb
              have HB4 := Lib.hid (HB3.out.trans (hb.mono HB3.out.size))
              have HT4 := Lib.hid (HT3.out.below hb)
              have HD4 := Lib.hid (HD3.out.below hb)
              have HX4 := Lib.hid (HX3.out.below hb)
              have HI4 := Lib.hid (HI3.out.below hb)
              have HO4 := Lib.hid (HO3.out.below hb)
              have b3 := mcons_bound (ms := ms) (P := ids.contains) (ma := ma) (x := Y) ⟨hy1, hy2⟩ j fun i hi => HBd.out.2 i (by omega)
              rw [← hZ] at b3
              have hz1 : -2200000 ≤ Z := by omega
              have hz2 : Z ≤ 2200000 := by omega
              clear hZ b3
              have y0 := HT4.out.cell 0
              have y1 := HT4.out.cell 1
              have z0 := HD4.out.cell 0
              have z1 := HD4.out.cell 1
              have z2 := HD4.out.cell 2
              simp only [List.getElem?_toArray, List.getElem?_cons_zero, List.getElem?_cons_succ] at y0 y1 z0 z1 z2
              have yl := HT4.out.lt
              have zl := HD4.out.lt
              by_cases hjm : j < n3
              case neg =>
                obtain rfl : j = n3 := by omega
                obtain rfl : Z = 0 := by rw [HZ.out]; exact HYn.out
                have HEn := Lib.hid (HE2.out.trans ((HBV.out.trans (hb.mono HBV.out.size)).mono HE2.out.size))
                clear hb
                go_wp2
                go_roundw
                case rel => exact ⟨e + 1, by omega, by go_num, HEn.out⟩
                case measure => simp [intOf]; omega
              case pos =>
                clear hb
                have hjl : j < ms.length := by rw [HLm.out]; exact hjm
                have hja : j < ma.length := by have := HX4.out.h3.len; dsimp only at this; omega
                obtain ⟨bM, oM, eM, hM⟩ := HO4.out.m.at_ (by dsimp only; omega)
                obtain ⟨bA, oA, eA, hA⟩ := HX4.out.h3.at_ (by dsimp only; omega)
                dsimp only at eM eA
                subst eM eA
                have HMo := Lib.hid hM
                have HAo := Lib.hid hA
                have HMe := Lib.hid (mat_eq hjl)
                have HAe := Lib.hid (iget_eq hja)
                have HBj := Lib.hid (HBd.out.2 j (by omega))
                have HSt := Lib.hid (show mcons ms ids.contains ma Y (j + 1) = (mcons ms ids.contains ma Y j + (if ids.contains (mat ms j).to = true then iget ma j else 0)) - (if ids.contains (mat ms j).fr = true then iget ma j else 0) from rfl)
                obtain ⟨tt, htt⟩ : ∃ x, (mat ms j).to = x := ⟨_, rfl⟩
                obtain ⟨ff, hff⟩ : ∃ x, (mat ms j).fr = x := ⟨_, rfl⟩
                obtain ⟨mm, hmm⟩ : ∃ x, iget ma j = x := ⟨_, rfl⟩
                have HH1 := Lib.hid (fun u (hu : SAt encI 1 u Ai ki ids) => HHas.out u tt hu)
                have HH2 := Lib.hid (fun u (hu : SAt encI 1 u Ai ki ids) => HHas.out u ff hu)
                rw [htt, hff, hmm, ← HZ.out] at HSt
                obtain ⟨m0, m1, m2, m3, m4⟩ := Mvs.at_ hM (List.getElem?_eq_getElem hjl)
                have ml := hM.lt
                have s0 := hA.c j _ (List.getElem?_eq_getElem hja) 0 _ rfl
                rw [Nat.mul_one, Nat.add_zero, ← HAe.out, hmm] at s0
                have sl := hA.lt
                rw [← HMe.out, hff] at m1
                rw [← HMe.out, htt] at m2
                obtain ⟨q1, q2⟩ := HBj.out
                rw [hmm] at q1 q2
                have HTt := Lib.hid htt
                have HFf := Lib.hid hff
                have HMm := Lib.hid hmm
                clear hM hA htt hff hmm
                generalize ids.contains tt = b1 at *
                generalize ids.contains ff = b2 at *
                cases b1 <;> cases b2
                · have HW4 := HBW
                  go_wp2_with (first | (go_at_call 18; with_reducible refine (HH1.out _ HI4.out).mono ?_; rintro e w5 ⟨rfl, hb5⟩; have HT5 := Lib.hid (HT4.out.below hb5); have HD5 := Lib.hid (HD4.out.below hb5); have HI5 := Lib.hid (HI4.out.below hb5); have HM5 := Lib.hid (HMo.out.below hb5); have HA5 := Lib.hid (HAo.out.below hb5); have HW5 := Lib.hid (HW4.out.trans (hb5.mono HW4.out.size)); clear hb5; have yy50 := HT5.out.cell 0; have yy51 := HT5.out.cell 1; have zz50 := HD5.out.cell 0; have zz51 := HD5.out.cell 1; have zz52 := HD5.out.cell 2; simp only [List.getElem?_toArray, List.getElem?_cons_zero, List.getElem?_cons_succ] at yy50 yy51 zz50 zz51 zz52; have yyl5 := HT5.out.lt; have zzl5 := HD5.out.lt; obtain ⟨mm50, mm51, mm52, mm53, mm54⟩ := Mvs.at_ HM5.out (List.getElem?_eq_getElem hjl); rw [← HMe.out, HFf.out] at mm51; rw [← HMe.out, HTt.out] at mm52; have mml5 := HM5.out.lt; have ss50 := HA5.out.c j _ (List.getElem?_eq_getElem hja) 0 _ rfl; rw [Nat.mul_one, Nat.add_zero, ← HAe.out, HMm.out] at ss50; have ssl5 := HA5.out.lt) | (go_at_call 18; with_reducible refine (HH2.out _ HI5.out).mono ?_; rintro e w6 ⟨rfl, hb6⟩; have HT6 := Lib.hid (HT5.out.below hb6); have HD6 := Lib.hid (HD5.out.below hb6); have HI6 := Lib.hid (HI5.out.below hb6); have HM6 := Lib.hid (HM5.out.below hb6); have HA6 := Lib.hid (HA5.out.below hb6); have HW6 := Lib.hid (HW5.out.trans (hb6.mono HW5.out.size)); clear hb6; have yy60 := HT6.out.cell 0; have yy61 := HT6.out.cell 1; have zz60 := HD6.out.cell 0; have zz61 := HD6.out.cell 1; have zz62 := HD6.out.cell 2; simp only [List.getElem?_toArray, List.getElem?_cons_zero, List.getElem?_cons_succ] at yy60 yy61 zz60 zz61 zz62; have yyl6 := HT6.out.lt; have zzl6 := HD6.out.lt; obtain ⟨mm60, mm61, mm62, mm63, mm64⟩ := Mvs.at_ HM6.out (List.getElem?_eq_getElem hjl); rw [← HMe.out, HFf.out] at mm61; rw [← HMe.out, HTt.out] at mm62; have mml6 := HM6.out.lt; have ss60 := HA6.out.c j _ (List.getElem?_eq_getElem hja) 0 _ rfl; rw [Nat.mul_one, Nat.add_zero, ← HAe.out, HMm.out] at ss60; have ssl6 := HA6.out.lt))
                  go_roundw
                  case rel => exact ⟨j + 1, Z, by omega, by go_num, rfl, by rw [HSt.out]; simp, HW6.out⟩
                  case measure => simp [intOf]; omega
                · have HW4 := HBW
                  go_wp2_with (first | (go_at_call 18; with_reducible refine (HH1.out _ HI4.out).mono ?_; rintro e w5 ⟨rfl, hb5⟩; have HT5 := Lib.hid (HT4.out.below hb5); have HD5 := Lib.hid (HD4.out.below hb5); have HI5 := Lib.hid (HI4.out.below hb5); have HM5 := Lib.hid (HMo.out.below hb5); have HA5 := Lib.hid (HAo.out.below hb5); have HW5 := Lib.hid (HW4.out.trans (hb5.mono HW4.out.size)); clear hb5; have yy50 := HT5.out.cell 0; have yy51 := HT5.out.cell 1; have zz50 := HD5.out.cell 0; have zz51 := HD5.out.cell 1; have zz52 := HD5.out.cell 2; simp only [List.getElem?_toArray, List.getElem?_cons_zero, List.getElem?_cons_succ] at yy50 yy51 zz50 zz51 zz52; have yyl5 := HT5.out.lt; have zzl5 := HD5.out.lt; obtain ⟨mm50, mm51, mm52, mm53, mm54⟩ := Mvs.at_ HM5.out (List.getElem?_eq_getElem hjl); rw [← HMe.out, HFf.out] at mm51; rw [← HMe.out, HTt.out] at mm52; have mml5 := HM5.out.lt; have ss50 := HA5.out.c j _ (List.getElem?_eq_getElem hja) 0 _ rfl; rw [Nat.mul_one, Nat.add_zero, ← HAe.out, HMm.out] at ss50; have ssl5 := HA5.out.lt) | (go_at_call 18; with_reducible refine (HH2.out _ HI5.out).mono ?_; rintro e w6 ⟨rfl, hb6⟩; have HT6 := Lib.hid (HT5.out.below hb6); have HD6 := Lib.hid (HD5.out.below hb6); have HI6 := Lib.hid (HI5.out.below hb6); have HM6 := Lib.hid (HM5.out.below hb6); have HA6 := Lib.hid (HA5.out.below hb6); have HW6 := Lib.hid (HW5.out.trans (hb6.mono HW5.out.size)); clear hb6; have yy60 := HT6.out.cell 0; have yy61 := HT6.out.cell 1; have zz60 := HD6.out.cell 0; have zz61 := HD6.out.cell 1; have zz62 := HD6.out.cell 2; simp only [List.getElem?_toArray, List.getElem?_cons_zero, List.getElem?_cons_succ] at yy60 yy61 zz60 zz61 zz62; have yyl6 := HT6.out.lt; have zzl6 := HD6.out.lt; obtain ⟨mm60, mm61, mm62, mm63, mm64⟩ := Mvs.at_ HM6.out (List.getElem?_eq_getElem hjl); rw [← HMe.out, HFf.out] at mm61; rw [← HMe.out, HTt.out] at mm62; have mml6 := HM6.out.lt; have ss60 := HA6.out.c j _ (List.getElem?_eq_getElem hja) 0 _ rfl; rw [Nat.mul_one, Nat.add_zero, ← HAe.out, HMm.out] at ss60; have ssl6 := HA6.out.lt))
                  go_roundw
                  case rel => exact ⟨j + 1, Z - mm, by omega, by go_num, rfl, by rw [HSt.out]; simp, HW6.out⟩
                  case measure => simp [intOf]; omega
                · have HW4 := HBW
                  go_wp2_with (first | (go_at_call 18; with_reducible refine (HH1.out _ HI4.out).mono ?_; rintro e w5 ⟨rfl, hb5⟩; have HT5 := Lib.hid (HT4.out.below hb5); have HD5 := Lib.hid (HD4.out.below hb5); have HI5 := Lib.hid (HI4.out.below hb5); have HM5 := Lib.hid (HMo.out.below hb5); have HA5 := Lib.hid (HAo.out.below hb5); have HW5 := Lib.hid (HW4.out.trans (hb5.mono HW4.out.size)); clear hb5; have yy50 := HT5.out.cell 0; have yy51 := HT5.out.cell 1; have zz50 := HD5.out.cell 0; have zz51 := HD5.out.cell 1; have zz52 := HD5.out.cell 2; simp only [List.getElem?_toArray, List.getElem?_cons_zero, List.getElem?_cons_succ] at yy50 yy51 zz50 zz51 zz52; have yyl5 := HT5.out.lt; have zzl5 := HD5.out.lt; obtain ⟨mm50, mm51, mm52, mm53, mm54⟩ := Mvs.at_ HM5.out (List.getElem?_eq_getElem hjl); rw [← HMe.out, HFf.out] at mm51; rw [← HMe.out, HTt.out] at mm52; have mml5 := HM5.out.lt; have ss50 := HA5.out.c j _ (List.getElem?_eq_getElem hja) 0 _ rfl; rw [Nat.mul_one, Nat.add_zero, ← HAe.out, HMm.out] at ss50; have ssl5 := HA5.out.lt) | (go_at_call 18; with_reducible refine (HH2.out _ HI5.out).mono ?_; rintro e w6 ⟨rfl, hb6⟩; have HT6 := Lib.hid (HT5.out.below hb6); have HD6 := Lib.hid (HD5.out.below hb6); have HI6 := Lib.hid (HI5.out.below hb6); have HM6 := Lib.hid (HM5.out.below hb6); have HA6 := Lib.hid (HA5.out.below hb6); have HW6 := Lib.hid (HW5.out.trans (hb6.mono HW5.out.size)); clear hb6; have yy60 := HT6.out.cell 0; have yy61 := HT6.out.cell 1; have zz60 := HD6.out.cell 0; have zz61 := HD6.out.cell 1; have zz62 := HD6.out.cell 2; simp only [List.getElem?_toArray, List.getElem?_cons_zero, List.getElem?_cons_succ] at yy60 yy61 zz60 zz61 zz62; have yyl6 := HT6.out.lt; have zzl6 := HD6.out.lt; obtain ⟨mm60, mm61, mm62, mm63, mm64⟩ := Mvs.at_ HM6.out (List.getElem?_eq_getElem hjl); rw [← HMe.out, HFf.out] at mm61; rw [← HMe.out, HTt.out] at mm62; have mml6 := HM6.out.lt; have ss60 := HA6.out.c j _ (List.getElem?_eq_getElem hja) 0 _ rfl; rw [Nat.mul_one, Nat.add_zero, ← HAe.out, HMm.out] at ss60; have ssl6 := HA6.out.lt))
                  go_roundw
                  case rel => exact ⟨j + 1, Z + mm, by omega, by go_num, rfl, by rw [HSt.out]; simp, HW6.out⟩
                  case measure => simp [intOf]; omega
                · have HW4 := HBW
                  go_wp2_with (first | (go_at_call 18; with_reducible refine (HH1.out _ HI4.out).mono ?_; rintro e w5 ⟨rfl, hb5⟩; have HT5 := Lib.hid (HT4.out.below hb5); have HD5 := Lib.hid (HD4.out.below hb5); have HI5 := Lib.hid (HI4.out.below hb5); have HM5 := Lib.hid (HMo.out.below hb5); have HA5 := Lib.hid (HAo.out.below hb5); have HW5 := Lib.hid (HW4.out.trans (hb5.mono HW4.out.size)); clear hb5; have yy50 := HT5.out.cell 0; have yy51 := HT5.out.cell 1; have zz50 := HD5.out.cell 0; have zz51 := HD5.out.cell 1; have zz52 := HD5.out.cell 2; simp only [List.getElem?_toArray, List.getElem?_cons_zero, List.getElem?_cons_succ] at yy50 yy51 zz50 zz51 zz52; have yyl5 := HT5.out.lt; have zzl5 := HD5.out.lt; obtain ⟨mm50, mm51, mm52, mm53, mm54⟩ := Mvs.at_ HM5.out (List.getElem?_eq_getElem hjl); rw [← HMe.out, HFf.out] at mm51; rw [← HMe.out, HTt.out] at mm52; have mml5 := HM5.out.lt; have ss50 := HA5.out.c j _ (List.getElem?_eq_getElem hja) 0 _ rfl; rw [Nat.mul_one, Nat.add_zero, ← HAe.out, HMm.out] at ss50; have ssl5 := HA5.out.lt) | (go_at_call 18; with_reducible refine (HH2.out _ HI5.out).mono ?_; rintro e w6 ⟨rfl, hb6⟩; have HT6 := Lib.hid (HT5.out.below hb6); have HD6 := Lib.hid (HD5.out.below hb6); have HI6 := Lib.hid (HI5.out.below hb6); have HM6 := Lib.hid (HM5.out.below hb6); have HA6 := Lib.hid (HA5.out.below hb6); have HW6 := Lib.hid (HW5.out.trans (hb6.mono HW5.out.size)); clear hb6; have yy60 := HT6.out.cell 0; have yy61 := HT6.out.cell 1; have zz60 := HD6.out.cell 0; have zz61 := HD6.out.cell 1; have zz62 := HD6.out.cell 2; simp only [List.getElem?_toArray, List.getElem?_cons_zero, List.getElem?_cons_succ] at yy60 yy61 zz60 zz61 zz62; have yyl6 := HT6.out.lt; have zzl6 := HD6.out.lt; obtain ⟨mm60, mm61, mm62, mm63, mm64⟩ := Mvs.at_ HM6.out (List.getElem?_eq_getElem hjl); rw [← HMe.out, HFf.out] at mm61; rw [← HMe.out, HTt.out] at mm62; have mml6 := HM6.out.lt; have ss60 := HA6.out.c j _ (List.getElem?_eq_getElem hja) 0 _ rfl; rw [Nat.mul_one, Nat.add_zero, ← HAe.out, HMm.out] at ss60; have ssl6 := HA6.out.lt))
                  go_roundw
                  case rel => exact ⟨j + 1, Z, by omega, by go_num, rfl, by rw [HSt.out]; simp, HW6.out⟩
                  case measure => simp [intOf]; omega
          case pos =>
            have hkl : k < hs.length := by rw [HLh.out]; exact hkn
            have hks : k < st.length := by have := HX3.out.h1.len; dsimp only at this; omega
            have hke : k < en.length := by have := HX3.out.h2.len; dsimp only at this; omega
            obtain ⟨bH, oH, eH, hH⟩ := HO3.out.h.at_ (by dsimp only; omega)
            obtain ⟨bA, oA, eA, hA⟩ := HX3.out.h1.at_ (by dsimp only; omega)
            obtain ⟨bB, oB, eB, hB⟩ := HX3.out.h2.at_ (by dsimp only; omega)
            dsimp only at eH eA eB
            subst eH eA eB
            have HHo := Lib.hid hH
            have HAo := Lib.hid hA
            have HBo := Lib.hid hB
            have HHe := Lib.hid (hat_eq hkl)
            have HAe := Lib.hid (iget_eq hks)
            have HBe := Lib.hid (iget_eq hke)
            have HBk := Lib.hid (HBd.out.1 k (by omega))
            have HS1 := Lib.hid (show hcons hs (fun _ => true) st en (k + 1) = hcons hs (fun _ => true) st en k + iget st k - iget en k from if_pos rfl)
            have HS2 := Lib.hid (show hcons hs ids.contains st en (k + 1) = if ids.contains (hat hs k).id = true then hcons hs ids.contains st en k + iget st k - iget en k else hcons hs ids.contains st en k from rfl)
            rw [← HX.out] at HS1
            rw [← HY.out] at HS2
            obtain ⟨dd, hdd⟩ : ∃ x, (hat hs k).id = x := ⟨_, rfl⟩
            obtain ⟨ss, hss⟩ : ∃ x, iget st k = x := ⟨_, rfl⟩
            obtain ⟨ee, hee⟩ : ∃ x, iget en k = x := ⟨_, rfl⟩
            rw [hss, hee] at HS1
            rw [hdd, hss, hee] at HS2
            have HH1 := Lib.hid (fun u (hu : SAt encI 1 u Ai ki ids) => HHas.out u dd hu)
            have s0 := hA.c k _ (List.getElem?_eq_getElem hks) 0 _ rfl
            have t0 := hB.c k _ (List.getElem?_eq_getElem hke) 0 _ rfl
            rw [Nat.mul_one, Nat.add_zero, ← HAe.out, hss] at s0
            rw [Nat.mul_one, Nat.add_zero, ← HBe.out, hee] at t0
            have sl := hA.lt
            have tl := hB.lt
            obtain ⟨⟨q1, q2⟩, q3, q4⟩ := HBk.out
            rw [hss] at q1 q2
            rw [hee] at q3 q4
            have HDd := Lib.hid hdd
            have HSs := Lib.hid hss
            have HEe := Lib.hid hee
            clear hH hA hB hdd hss hee
            go_upto_region 22 with fail
            obtain ⟨xc, xf'⟩ := xcell (W := wr)
            refine wp_region_quiet_tail 13 (by kernel_rfl) (by kernel_rfl) ?_
            simp only [List.take_succ_cons, List.take_zero, List.drop_succ_cons, List.drop_zero]
            repeat (first | go_big_quiet_step (fail) | quiet_step (fail))
            refine wpQuiet_nil ?_
            intro w5 hb5
            have HBV5 := Lib.hid (HBV.out.trans (hb5.mono HBV.out.size))
            have HT5 := Lib.hid (HT3.out.below hb5)
            have HD5 := Lib.hid (HD3.out.below hb5)
            have HI5 := Lib.hid (HI3.out.below hb5)
            have HA5 := Lib.hid (HAo.out.below hb5)
            have HB5 := Lib.hid (HBo.out.below hb5)
            have hH5 := HHo.out.below hb5
            clear y0 y1 yl z0 z1 z2 zl s0 t0 sl tl xc xf' hb5
            have y0 := HT5.out.cell 0
            have y1 := HT5.out.cell 1
            have z0 := HD5.out.cell 0
            have z1 := HD5.out.cell 1
            have z2 := HD5.out.cell 2
            simp only [List.getElem?_toArray, List.getElem?_cons_zero, List.getElem?_cons_succ] at y0 y1 z0 z1 z2
            have yl := HT5.out.lt
            have zl := HD5.out.lt
            obtain ⟨u0, u1, u2, u3, u4, u5⟩ := Hds.at_ hH5 (List.getElem?_eq_getElem hkl)
            rw [← HHe.out, HDd.out] at u0
            have ul := hH5.lt
            clear hH5
            generalize ids.contains dd = b1 at *
            cases b1
            case false =>
              go_wp2_with (go_at_call 18; with_reducible refine (HH1.out _ HI5.out).mono ?_; rintro e w6 ⟨rfl, hb6⟩)
              have HBV6 := Lib.hid (HBV5.out.trans (hb6.mono HBV5.out.size))
              go_roundw
              case rel => exact ⟨k + 1, X + ss - ee, Y, by omega, by go_num, rfl, rfl, HS1.out.symm, HS2.out.symm, HBV6.out⟩
              case measure => simp [intOf]; omega
            case true =>
              go_upto_region 24 with (go_at_call 18; with_reducible refine (HH1.out _ HI5.out).mono ?_; rintro e w6 ⟨rfl, hb6⟩)
              have HBV6 := Lib.hid (HBV5.out.trans (hb6.mono HBV5.out.size))
              have HD6 := Lib.hid (HD5.out.below hb6)
              have hA6 := HA5.out.below hb6
              have hB6 := HB5.out.below hb6
              clear y0 y1 yl z0 z1 z2 zl u0 u1 u2 u3 u4 u5 ul hb6
              have z0 := HD6.out.cell 0
              have z1 := HD6.out.cell 1
              have z2 := HD6.out.cell 2
              simp only [List.getElem?_toArray, List.getElem?_cons_zero, List.getElem?_cons_succ] at z0 z1 z2
              have zl := HD6.out.lt
              have s0 := hA6.c k _ (List.getElem?_eq_getElem hks) 0 _ rfl
              have t0 := hB6.c k _ (List.getElem?_eq_getElem hke) 0 _ rfl
              rw [Nat.mul_one, Nat.add_zero, ← HAe.out, HSs.out] at s0
              rw [Nat.mul_one, Nat.add_zero, ← HBe.out, HEe.out] at t0
              have sl := hA6.lt
              have tl := hB6.lt
              clear hA6 hB6
              obtain ⟨xc, xf'⟩ := xcell (W := w6)
              refine wp_region_quiet_tail 13 (by kernel_rfl) (by kernel_rfl) ?_
              simp only [List.take_succ_cons, List.take_zero, List.drop_succ_cons, List.drop_zero]
              repeat (first | go_big_quiet_step (fail) | quiet_step (fail))
              refine wpQuiet_nil ?_
              intro w7 hb7
              have HBV7 := Lib.hid (HBV6.out.trans (hb7.mono HBV6.out.size))
              clear xc xf' hb7
              go_wp2
              go_roundw
              case rel => exact ⟨k + 1, X + ss - ee, Y + ss - ee, by omega, by go_num, rfl, rfl, HS1.out.symm, by rw [HS2.out]; simp, HBV7.out⟩
              case measure => simp [intOf]; omega
  case pos =>
    have HG1 := Lib.hid (fun (u : World) (hu : TR.Ok u ⟨A, n, c, B, m, d, hs, ms⟩) => (Least_any ⟨A, n, c, B, m, d, hs, ms⟩ kind id u hu).mono fun e w' h => ask_ok h hp ha)
    have HG2 := Lib.hid (fun (u : World) (hu : TR.Ok u ⟨A, n, c, B, m, d, hs, ms⟩) => (Greatest_any ⟨A, n, c, B, m, d, hs, ms⟩ kind id u hu).mono fun e w' h => ask_ok h hp ha)
    dsimp only [TR.v] at HG1 HG2
    generalize limN hs ms kind id false = lo at *
    generalize limN hs ms kind id true = hi at *
    clear hp
    have yT0 := T2.out.cell 0
    have yT1 := T2.out.cell 1
    have yAt0 := At2.out.cell 0
    have yAt1 := At2.out.cell 1
    have yC0 := C2.out.cell 0
    have yC1 := C2.out.cell 1
    have yC2 := C2.out.cell 2
    simp only [List.getElem?_toArray, List.getElem?_cons_zero, List.getElem?_cons_succ] at yT0 yT1 yAt0 yAt1 yC0 yC1 yC2
    have yTl := T2.out.lt
    have yAtl := At2.out.lt
    have yCl := C2.out.lt
    have HC := Lib.hid (HG1.out _ O2.out)
    try dsimp only [TR.v, vCt] at HC
    go_upto_region 7 with (go_at_call 16; with_reducible refine HC.out.mono ?_; rintro e u3 ⟨D1, dn1, dc1, D2, dn2, dc2, D3, dn3, dc3, dw, D4, dn4, dc4, dst, den, dma, rfl, k1, k2, k3, hf, hb⟩)
    clear yT0 yT1 yAt0 yAt1 yC0 yC1 yC2 yTl yAtl yCl
    clear HC
    have bn := hb
    have bq : Below u3.heap.size u3 (u3.alloc (.cells #[.int .i64 lo, .slice D1 dn1 dc1, .slice D2 dn2 dc2, .slice D3 dn3 dc3, .int .i64 dw, .slice D4 dn4 dc4] 39)) := ((Below.refl u3.heap.size u3).alloc (Nat.le_refl _) _)
    have bn := hb.trans (bq.mono hb.size)
    have T3 := Lib.hid (T2.out.below bn)
    have At3 := Lib.hid (At2.out.below bn)
    have O3 := Lib.hid (O2.out.below bn)
    have I3 := Lib.hid (I2.out.below bn)
    have C3 := Lib.hid (C2.out.below bn)
    have K3 := Lib.hid (K2.out.below bn)
    have L3 := Lib.hid (L2.out.below bn)
    have M3 := Lib.hid (M2.out.below bn)
    have HB3 := Lib.hid (HB2.out.trans (bn.mono HB2.out.size))
    have Ka3 := Lib.hid ((k1).below bq)
    have La3 := Lib.hid ((k2).below bq)
    have Ma3 := Lib.hid ((k3).below bq)
    have P3 : Hid (Blk (u3.alloc (.cells #[.int .i64 lo, .slice D1 dn1 dc1, .slice D2 dn2 dc2, .slice D3 dn3 dc3, .int .i64 dw, .slice D4 dn4 dc4] 39)) u3.heap.size 39 #[.int .i64 lo, .slice D1 dn1 dc1, .slice D2 dn2 dc2, .slice D3 dn3 dc3, .int .i64 dw, .slice D4 dn4 dc4]) := Lib.hid (Blk.at_new 39 #[.int .i64 lo, .slice D1 dn1 dc1, .slice D2 dn2 dc2, .slice D3 dn3 dc3, .int .i64 dw, .slice D4 dn4 dc4] rfl)
    generalize hV : u3.alloc (.cells #[.int .i64 lo, .slice D1 dn1 dc1, .slice D2 dn2 dc2, .slice D3 dn3 dc3, .int .i64 dw, .slice D4 dn4 dc4] 39) = V3 at *
    generalize hp : u3.heap.size = p3 at *
    clear hV hp bq
    clear hb bn T2 At2 O2 I2 C2 K2 L2 M2 HB2
    clear k1 k2 k3
    have HFd := Lib.hid hf
    clear hf
    have yT0 := T3.out.cell 0
    have yT1 := T3.out.cell 1
    have yAt0 := At3.out.cell 0
    have yAt1 := At3.out.cell 1
    have yC0 := C3.out.cell 0
    have yC1 := C3.out.cell 1
    have yC2 := C3.out.cell 2
    have yP0 := P3.out.cell 0
    have yP1 := P3.out.cell 1
    have yP2 := P3.out.cell 2
    have yP3 := P3.out.cell 3
    have yP4 := P3.out.cell 4
    have yP5 := P3.out.cell 5
    simp only [List.getElem?_toArray, List.getElem?_cons_zero, List.getElem?_cons_succ] at yT0 yT1 yAt0 yAt1 yC0 yC1 yC2 yP0 yP1 yP2 yP3 yP4 yP5
    have yTl := T3.out.lt
    have yAtl := At3.out.lt
    have yCl := C3.out.lt
    have yPl := P3.out.lt
    have HC := Lib.hid (HG2.out _ O3.out)
    try dsimp only [TR.v, vCt] at HC
    go_upto_region 8 with (go_at_call 17; with_reducible refine HC.out.mono ?_; rintro e u4 ⟨E1, en1, ec1, E2, en2, ec2, E3, en3, ec3, ew, E4, en4, ec4, est, een, ema, rfl, k1, k2, k3, hf, hb⟩)
    clear yT0 yT1 yAt0 yAt1 yC0 yC1 yC2 yP0 yP1 yP2 yP3 yP4 yP5 yTl yAtl yCl yPl
    clear HC
    have bn := hb
    have bq : Below u4.heap.size u4 (u4.alloc (.cells #[.int .i64 hi, .slice E1 en1 ec1, .slice E2 en2 ec2, .slice E3 en3 ec3, .int .i64 ew, .slice E4 en4 ec4] 39)) := ((Below.refl u4.heap.size u4).alloc (Nat.le_refl _) _)
    have bn := hb.trans (bq.mono hb.size)
    have T4 := Lib.hid (T3.out.below bn)
    have At4 := Lib.hid (At3.out.below bn)
    have O4 := Lib.hid (O3.out.below bn)
    have I4 := Lib.hid (I3.out.below bn)
    have C4 := Lib.hid (C3.out.below bn)
    have K4 := Lib.hid (K3.out.below bn)
    have L4 := Lib.hid (L3.out.below bn)
    have M4 := Lib.hid (M3.out.below bn)
    have P4 := Lib.hid (P3.out.below bn)
    have Ka4 := Lib.hid (Ka3.out.below bn)
    have La4 := Lib.hid (La3.out.below bn)
    have Ma4 := Lib.hid (Ma3.out.below bn)
    have HB4 := Lib.hid (HB3.out.trans (bn.mono HB3.out.size))
    have Kb4 := Lib.hid ((k1).below bq)
    have Lb4 := Lib.hid ((k2).below bq)
    have Mb4 := Lib.hid ((k3).below bq)
    have Q4 : Hid (Blk (u4.alloc (.cells #[.int .i64 hi, .slice E1 en1 ec1, .slice E2 en2 ec2, .slice E3 en3 ec3, .int .i64 ew, .slice E4 en4 ec4] 39)) u4.heap.size 39 #[.int .i64 hi, .slice E1 en1 ec1, .slice E2 en2 ec2, .slice E3 en3 ec3, .int .i64 ew, .slice E4 en4 ec4]) := Lib.hid (Blk.at_new 39 #[.int .i64 hi, .slice E1 en1 ec1, .slice E2 en2 ec2, .slice E3 en3 ec3, .int .i64 ew, .slice E4 en4 ec4] rfl)
    generalize hV : u4.alloc (.cells #[.int .i64 hi, .slice E1 en1 ec1, .slice E2 en2 ec2, .slice E3 en3 ec3, .int .i64 ew, .slice E4 en4 ec4] 39) = V4 at *
    generalize hp : u4.heap.size = p4 at *
    clear hV hp bq
    clear hb bn T3 At3 O3 I3 C3 K3 L3 M3 P3 Ka3 La3 Ma3 HB3
    clear k1 k2 k3
    have HFe := Lib.hid hf
    clear hf
    have yT0 := T4.out.cell 0
    have yT1 := T4.out.cell 1
    have yAt0 := At4.out.cell 0
    have yAt1 := At4.out.cell 1
    have yC0 := C4.out.cell 0
    have yC1 := C4.out.cell 1
    have yC2 := C4.out.cell 2
    have yP0 := P4.out.cell 0
    have yP1 := P4.out.cell 1
    have yP2 := P4.out.cell 2
    have yP3 := P4.out.cell 3
    have yP4 := P4.out.cell 4
    have yP5 := P4.out.cell 5
    have yQ0 := Q4.out.cell 0
    have yQ1 := Q4.out.cell 1
    have yQ2 := Q4.out.cell 2
    have yQ3 := Q4.out.cell 3
    have yQ4 := Q4.out.cell 4
    have yQ5 := Q4.out.cell 5
    simp only [List.getElem?_toArray, List.getElem?_cons_zero, List.getElem?_cons_succ] at yT0 yT1 yAt0 yAt1 yC0 yC1 yC2 yP0 yP1 yP2 yP3 yP4 yP5 yQ0 yQ1 yQ2 yQ3 yQ4 yQ5
    have yTl := T4.out.lt
    have yAtl := At4.out.lt
    have yCl := C4.out.lt
    have yPl := P4.out.lt
    have yQl := Q4.out.lt
    obtain ⟨ii, hi0, hi1, hi2, hi3⟩ := info_parts info_co
    go_wp2_with (at_builtin; go_loud (refine wpList_append_grows _ rfl (.tmp 57) (.tmp 62) 42 rfl 32 ii (.agg #[.slice none 0 0, .slice none 0 0, .slice none 0 0]) 3 72 Try.underlying42 hi0 hi1 hi2 hi3 rfl (by decide) (some ⟨V4.heap.size, 0, none⟩) 1 1 [.slice A1 n1 c1, .slice A2 n2 c2, .slice A3 n3 c3] rfl (by intro h; cases h) rfl ?k3 ⟨V4.heap.size + 1, 0, none⟩ 2 2 [.slice D1 dn1 dc1, .slice D2 dn2 dc2, .slice D3 dn3 dc3, .slice E1 en1 ec1, .slice E2 en2 ec2, .slice E3 en3 ec3] rfl rfl ?k4 (one_slices [(D1, dn1, dc1), (D2, dn2, dc2), (D3, dn3, dc3), (E1, en1, ec1), (E2, en2, ec2), (E3, en3, ec3)]) (by omega) (by unfold maxLen; omega) (by omega) ?_))
    case k3 =>
      intro b hb j u hj
      obtain rfl := Option.some.inj hb
      have := ((Blk.new V4 32 #[.slice A1 n1 c1, .slice A2 n2 c2, .slice A3 n3 c3]).alloc (.cells #[.slice D1 dn1 dc1, .slice D2 dn2 dc2, .slice D3 dn3 dc3, .slice E1 en1 ec1, .slice E2 en2 ec2, .slice E3 en3 ec3] 32)).cell j
      have hadd : (⟨V4.heap.size, 0, none⟩ : Addr).add j = ⟨V4.heap.size, j, none⟩ := by unfold Addr.add; split <;> simp_all
      rw [hadd, this]
      simpa using hj
    case k4 =>
      intro j u hj
      have := (Blk.at_new (W := (V4.alloc (.cells #[.slice A1 n1 c1, .slice A2 n2 c2, .slice A3 n3 c3] 32))) (g := V4.heap.size + 1) 32 #[.slice D1 dn1 dc1, .slice D2 dn2 dc2, .slice D3 dn3 dc3, .slice E1 en1 ec1, .slice E2 en2 ec2, .slice E3 en3 ec3] (by simp)).cell j
      have hadd : (⟨V4.heap.size + 1, 0, none⟩ : Addr).add j = ⟨V4.heap.size + 1, j, none⟩ := by unfold Addr.add; split <;> simp_all
      rw [hadd, this]
      simpa using hj
    intro v' U ho hgr
    obtain ⟨g9, c9, rfl⟩ := ownsRow_succ ho
    obtain ⟨A9, c9', e9, hs9, _, _⟩ := SAt_of_row (enc := encCo) (zs := [(⟨A1, n1, c1, A2, n2, c2, A3, n3, c3, st, en, ma⟩ : CO), ⟨D1, dn1, dc1, D2, dn2, dc2, D3, dn3, dc3, dst, den, dma⟩, ⟨E1, en1, ec1, E2, en2, ec2, E3, en3, ec3, est, een, ema⟩]) encCo_len rfl ho
    cases e9
    have bn : Below V4.heap.size V4 U := (((Below.refl _ _).alloc (Nat.le_refl _) _).alloc (by simp) _).grown hgr (by simp; omega) (fun r hr => by cases hr)
    have HTU := Lib.hid (T4.out.below bn)
    have HIU := Lib.hid (I4.out.below bn)
    have HOU := Lib.hid (O4.out.below bn)
    have HBU := Lib.hid (HB4.out.trans (bn.mono HB4.out.size))
    have HSU := Lib.hid (show SAt encCo 3 U (some ⟨g9, 0, none⟩) 3 [(⟨A1, n1, c1, A2, n2, c2, A3, n3, c3, st, en, ma⟩ : CO), ⟨D1, dn1, dc1, D2, dn2, dc2, D3, dn3, dc3, dst, den, dma⟩, ⟨E1, en1, ec1, E2, en2, ec2, E3, en3, ec3, est, een, ema⟩] from hs9)
    have HAll := Lib.hid (show ∀ x ∈ [(⟨A1, n1, c1, A2, n2, c2, A3, n3, c3, st, en, ma⟩ : CO), ⟨D1, dn1, dc1, D2, dn2, dc2, D3, dn3, dc3, dst, den, dma⟩, ⟨E1, en1, ec1, E2, en2, ec2, E3, en3, ec3, est, een, ema⟩], x.Ok U hs ms from fun x hx => by
      simp only [List.mem_cons, List.not_mem_nil, or_false] at hx
      rcases hx with rfl | rfl | rfl
      · exact ⟨K4.out.below bn, L4.out.below bn, M4.out.below bn, HFit.out⟩
      · exact ⟨Ka4.out.below bn, La4.out.below bn, Ma4.out.below bn, HFd.out⟩
      · exact ⟨Kb4.out.below bn, Lb4.out.below bn, Mb4.out.below bn, HFe.out⟩)
    go_upto_region 12 with fail
    generalize hLs : [(⟨A1, n1, c1, A2, n2, c2, A3, n3, c3, st, en, ma⟩ : CO), ⟨D1, dn1, dc1, D2, dn2, dc2, D3, dn3, dc3, dst, den, dma⟩, ⟨E1, en1, ec1, E2, en2, ec2, E3, en3, ec3, est, een, ema⟩] = Ls at *
    clear hLs bn hs9 ho hgr yT0 yT1 yAt0 yAt1 yC0 yC1 yC2 yP0 yP1 yP2 yP3 yP4 yP5 yQ0 yQ1 yQ2 yQ3 yQ4 yQ5 yTl yAtl yCl yPl yQl
    obtain ⟨q, hq⟩ : ∃ q : Nat, q = 3 := ⟨_, rfl⟩
    rw [show (Value.slice (some ⟨g9, 0, none⟩) 3 c9) = Value.slice (some ⟨g9, 0, none⟩) q c9 by rw [hq]]
    have HSV := Lib.hid (show SAt encCo 3 U (some ⟨g9, 0, none⟩) q Ls by rw [hq]; exact HSU.out)
    have hq3 : q ≤ 3 := by omega
    clear hq HSU
    go_loopw [14, 15, 16, 17, 18, 19] (fun i _ _ _ _ _ wx => ∃ e : Nat, e ≤ q ∧ i = .int .i64 (e : Int) ∧ Below U.heap.size U wx) (fun i _ _ _ _ _ _ => q - (intOf i).toNat)
    case atStart => exact ⟨0, Nat.zero_le _, rfl, Below.refl _ _⟩
    case round =>
      obtain ⟨e, he, rfl, hb⟩ := hrel
      have HE := Lib.hid hb
      have HBe := Lib.hid (HBU.out.trans (hb.mono HBU.out.size))
      have HTe := Lib.hid (HTU.out.below hb)
      clear hb
      by_cases heq : e < q
      case neg =>
        go_wp2_with (go_at_call 14; with_reducible refine (HSan.out _).mono ?_; rintro e u ⟨rfl, hb⟩)
        exact bodyPost_ret (v := .bool true) (by simp [results, Try.results3, go_sem]) rfl ⟨rfl, HBe.out.trans (hb.mono HBe.out.size)⟩
      case pos =>
        have hel : e < Ls.length := by rw [HSV.out.len]; exact heq
        obtain ⟨bL, oL, eL, hL⟩ := HSV.out.at_ (by omega)
        cases eL
        have hL2 := hL.below HE.out
        have HXo := Lib.hid ((HAll.out _ (List.getElem_mem hel)).below HE.out)
        have u0 := hL2.c e _ (List.getElem?_eq_getElem hel) 0 _ rfl
        have u1 := hL2.c e _ (List.getElem?_eq_getElem hel) 1 _ rfl
        have u2 := hL2.c e _ (List.getElem?_eq_getElem hel) 2 _ rfl
        simp only [Nat.zero_add, Nat.add_zero] at u0 u1 u2
        have ul := hL2.lt
        clear hL hL2
        generalize Ls[e] = x at *
        obtain ⟨A1, n1, c1, A2, n2, c2, A3, n3, c3, st, en, ma⟩ := x
        have HX := Lib.hid HXo.out
        dsimp only at u0 u1 u2
        have HP := Lib.hid (fitsL_prop.1 HX.out.fit).1
        obtain rfl : n1 = n := by have := HP.out.1; have := HX.out.h1.len; have := HLh.out; dsimp only at *; omega
        obtain rfl : n2 = n1 := by have := HP.out.2.1; have := HX.out.h2.len; have := HLh.out; dsimp only at *; omega
        obtain rfl : n3 = m := by have := HP.out.2.2; have := HX.out.h3.len; have := HLm.out; dsimp only at *; omega
        have HBd := Lib.hid (course_bound HTV.out HX.out.fit)
        have HZero := Lib.hid (conserve_all HTV.out HX.out.fit)
        have HCons := Lib.hid (conserve HTV.out HX.out.fit ids.contains)
        dsimp only at HBd HZero HCons HP
        rw [HLh.out] at HBd HZero HCons
        rw [HLm.out] at HBd HCons
        have y0 := HTe.out.cell 0
        have y1 := HTe.out.cell 1
        simp only [List.getElem?_toArray, List.getElem?_cons_zero, List.getElem?_cons_succ] at y0 y1
        have yl := HTe.out.lt
        go_upto_region 15 with fail
        have HBn := Lib.hid (below_new wr (.cells #[.slice A1 n2 c1, .slice A2 n2 c2, .slice A3 n3 c3] 32))
        have HD := Lib.hid (Blk.new wr 32 #[.slice A1 n2 c1, .slice A2 n2 c2, .slice A3 n3 c3])
        generalize hV : wr.alloc (.cells #[.slice A1 n2 c1, .slice A2 n2 c2, .slice A3 n3 c3] 32) = V at *
        generalize hp : wr.heap.size = p at *
        have HE2 := Lib.hid (HE.out.trans (HBn.out.mono (by rw [← hp]; exact HE.out.size)))
        have HB2 := Lib.hid (HBe.out.trans (HBn.out.mono (by rw [← hp]; exact HBe.out.size)))
        subst hp
        have HT2 := Lib.hid (HTe.out.below HBn.out)
        have HX2 := Lib.hid (HX.out.below HBn.out)
        clear hV u0 u1 u2 ul y0 y1 yl HTe HBe HX HXo HBn
        have y0 := HT2.out.cell 0
        have y1 := HT2.out.cell 1
        have z0 := HD.out.cell 0
        have z1 := HD.out.cell 1
        have z2 := HD.out.cell 2
        simp only [List.getElem?_toArray, List.getElem?_cons_zero, List.getElem?_cons_succ] at y0 y1 z0 z1 z2
        have yl := HT2.out.lt
        have zl := HD.out.lt
        go_upto_region 20 with fail
        clear y0 y1 yl z0 z1 z2 zl
        go_loopw [16, 17, 18] (fun a b i wx => ∃ (k : Nat) (X Y : Int), k ≤ n2 ∧ i = .int .i64 (k : Int) ∧ a = .int .i64 X ∧ b = .int .i64 Y ∧ X = hcons hs (fun _ => true) st en k ∧ Y = hcons hs ids.contains st en k ∧ Below V.heap.size V wx) (fun _ _ i _ => n2 - (intOf i).toNat)
        case atStart => exact ⟨0, 0, 0, Nat.zero_le _, rfl, rfl, rfl, rfl, rfl, Below.refl _ _⟩
        case round =>
          obtain ⟨k, X, Y, hk, rfl, rfl, rfl, hX, hY, hb⟩ := hrel
          have HX := Lib.hid hX
          have HY := Lib.hid hY
          have HBV := Lib.hid hb
          have HB3 := Lib.hid (HB2.out.trans (hb.mono HB2.out.size))
          have HT3 := Lib.hid (HT2.out.below hb)
          have HD3 := Lib.hid (HD.out.below hb)
          have HX3 := Lib.hid (HX2.out.below hb)
          have HI3 := Lib.hid (HIU.out.below (HE2.out.trans (hb.mono HE2.out.size)))
          have HO3 := Lib.hid (HOU.out.below (HE2.out.trans (hb.mono HE2.out.size)))
          have b1 := hcons_bound (hs := hs) (P := fun _ => true) (st := st) (en := en) k fun i hi => HBd.out.1 i (by omega)
          have b2 := hcons_bound (hs := hs) (P := ids.contains) (st := st) (en := en) k fun i hi => HBd.out.1 i (by omega)
          rw [← hX] at b1
          rw [← hY] at b2
          have hx1 : -600000 ≤ X := by omega
          have hx2 : X ≤ 600000 := by omega
          have hy1 : -600000 ≤ Y := by omega
          have hy2 : Y ≤ 600000 := by omega
          clear hX hY hb b1 b2
          have y0 := HT3.out.cell 0
          have y1 := HT3.out.cell 1
          have z0 := HD3.out.cell 0
          have z1 := HD3.out.cell 1
          have z2 := HD3.out.cell 2
          simp only [List.getElem?_toArray, List.getElem?_cons_zero, List.getElem?_cons_succ] at y0 y1 z0 z1 z2
          have yl := HT3.out.lt
          have zl := HD3.out.lt
          by_cases hkn : k < n2
          case neg =>
            obtain rfl : k = n2 := by omega
            obtain rfl : X = 0 := by rw [HX.out]; exact HZero.out
            have HYn := Lib.hid (show mcons ms ids.contains ma Y n3 = 0 by rw [HY.out]; exact HCons.out)
            clear HX HY
            go_upto_region 26 with fail
            clear y0 y1 yl z0 z1 z2 zl
            go_loopw [17, 19] (fun b i wx => ∃ (j : Nat) (Z : Int), j ≤ n3 ∧ i = .int .i64 (j : Int) ∧ b = .int .i64 Z ∧ Z = mcons ms ids.contains ma Y j ∧ Below wr.heap.size wr wx) (fun _ i _ => n3 - (intOf i).toNat)
            case atStart => exact ⟨0, Y, Nat.zero_le _, rfl, rfl, rfl, Below.refl _ _⟩
            case round =>
              obtain ⟨j, Z, hj, rfl, rfl, hZ, hb⟩ := hrel
              have HZ := Lib.hid hZ
              have HBW := Lib.hid hb
              have HB4 := Lib.hid (HB3.out.trans (hb.mono HB3.out.size))
              have HT4 := Lib.hid (HT3.out.below hb)
              have HD4 := Lib.hid (HD3.out.below hb)
              have HX4 := Lib.hid (HX3.out.below hb)
              have HI4 := Lib.hid (HI3.out.below hb)
              have HO4 := Lib.hid (HO3.out.below hb)
              have b3 := mcons_bound (ms := ms) (P := ids.contains) (ma := ma) (x := Y) ⟨hy1, hy2⟩ j fun i hi => HBd.out.2 i (by omega)
              rw [← hZ] at b3
              have hz1 : -2200000 ≤ Z := by omega
              have hz2 : Z ≤ 2200000 := by omega
              clear hZ b3
              have y0 := HT4.out.cell 0
              have y1 := HT4.out.cell 1
              have z0 := HD4.out.cell 0
              have z1 := HD4.out.cell 1
              have z2 := HD4.out.cell 2
              simp only [List.getElem?_toArray, List.getElem?_cons_zero, List.getElem?_cons_succ] at y0 y1 z0 z1 z2
              have yl := HT4.out.lt
              have zl := HD4.out.lt
              by_cases hjm : j < n3
              case neg =>
                obtain rfl : j = n3 := by omega
                obtain rfl : Z = 0 := by rw [HZ.out]; exact HYn.out
                have HEn := Lib.hid (HE2.out.trans ((HBV.out.trans (hb.mono HBV.out.size)).mono HE2.out.size))
                clear hb
                go_wp2
                go_roundw
                case rel => exact ⟨e + 1, by omega, by go_num, HEn.out⟩
                case measure => simp [intOf]; omega
              case pos =>
                clear hb
                have hjl : j < ms.length := by rw [HLm.out]; exact hjm
                have hja : j < ma.length := by have := HX4.out.h3.len; dsimp only at this; omega
                obtain ⟨bM, oM, eM, hM⟩ := HO4.out.m.at_ (by dsimp only; omega)
                obtain ⟨bA, oA, eA, hA⟩ := HX4.out.h3.at_ (by dsimp only; omega)
                dsimp only at eM eA
                subst eM eA
                have HMo := Lib.hid hM
                have HAo := Lib.hid hA
                have HMe := Lib.hid (mat_eq hjl)
                have HAe := Lib.hid (iget_eq hja)
                have HBj := Lib.hid (HBd.out.2 j (by omega))
                have HSt := Lib.hid (show mcons ms ids.contains ma Y (j + 1) = (mcons ms ids.contains ma Y j + (if ids.contains (mat ms j).to = true then iget ma j else 0)) - (if ids.contains (mat ms j).fr = true then iget ma j else 0) from rfl)
                obtain ⟨tt, htt⟩ : ∃ x, (mat ms j).to = x := ⟨_, rfl⟩
                obtain ⟨ff, hff⟩ : ∃ x, (mat ms j).fr = x := ⟨_, rfl⟩
                obtain ⟨mm, hmm⟩ : ∃ x, iget ma j = x := ⟨_, rfl⟩
                have HH1 := Lib.hid (fun u (hu : SAt encI 1 u Ai ki ids) => HHas.out u tt hu)
                have HH2 := Lib.hid (fun u (hu : SAt encI 1 u Ai ki ids) => HHas.out u ff hu)
                rw [htt, hff, hmm, ← HZ.out] at HSt
                obtain ⟨m0, m1, m2, m3, m4⟩ := Mvs.at_ hM (List.getElem?_eq_getElem hjl)
                have ml := hM.lt
                have s0 := hA.c j _ (List.getElem?_eq_getElem hja) 0 _ rfl
                rw [Nat.mul_one, Nat.add_zero, ← HAe.out, hmm] at s0
                have sl := hA.lt
                rw [← HMe.out, hff] at m1
                rw [← HMe.out, htt] at m2
                obtain ⟨q1, q2⟩ := HBj.out
                rw [hmm] at q1 q2
                have HTt := Lib.hid htt
                have HFf := Lib.hid hff
                have HMm := Lib.hid hmm
                clear hM hA htt hff hmm
                generalize ids.contains tt = b1 at *
                generalize ids.contains ff = b2 at *
                cases b1 <;> cases b2
                · have HW4 := HBW
                  go_wp2_with (first | (go_at_call 18; with_reducible refine (HH1.out _ HI4.out).mono ?_; rintro e w5 ⟨rfl, hb5⟩; have HT5 := Lib.hid (HT4.out.below hb5); have HD5 := Lib.hid (HD4.out.below hb5); have HI5 := Lib.hid (HI4.out.below hb5); have HM5 := Lib.hid (HMo.out.below hb5); have HA5 := Lib.hid (HAo.out.below hb5); have HW5 := Lib.hid (HW4.out.trans (hb5.mono HW4.out.size)); clear hb5; have yy50 := HT5.out.cell 0; have yy51 := HT5.out.cell 1; have zz50 := HD5.out.cell 0; have zz51 := HD5.out.cell 1; have zz52 := HD5.out.cell 2; simp only [List.getElem?_toArray, List.getElem?_cons_zero, List.getElem?_cons_succ] at yy50 yy51 zz50 zz51 zz52; have yyl5 := HT5.out.lt; have zzl5 := HD5.out.lt; obtain ⟨mm50, mm51, mm52, mm53, mm54⟩ := Mvs.at_ HM5.out (List.getElem?_eq_getElem hjl); rw [← HMe.out, HFf.out] at mm51; rw [← HMe.out, HTt.out] at mm52; have mml5 := HM5.out.lt; have ss50 := HA5.out.c j _ (List.getElem?_eq_getElem hja) 0 _ rfl; rw [Nat.mul_one, Nat.add_zero, ← HAe.out, HMm.out] at ss50; have ssl5 := HA5.out.lt) | (go_at_call 18; with_reducible refine (HH2.out _ HI5.out).mono ?_; rintro e w6 ⟨rfl, hb6⟩; have HT6 := Lib.hid (HT5.out.below hb6); have HD6 := Lib.hid (HD5.out.below hb6); have HI6 := Lib.hid (HI5.out.below hb6); have HM6 := Lib.hid (HM5.out.below hb6); have HA6 := Lib.hid (HA5.out.below hb6); have HW6 := Lib.hid (HW5.out.trans (hb6.mono HW5.out.size)); clear hb6; have yy60 := HT6.out.cell 0; have yy61 := HT6.out.cell 1; have zz60 := HD6.out.cell 0; have zz61 := HD6.out.cell 1; have zz62 := HD6.out.cell 2; simp only [List.getElem?_toArray, List.getElem?_cons_zero, List.getElem?_cons_succ] at yy60 yy61 zz60 zz61 zz62; have yyl6 := HT6.out.lt; have zzl6 := HD6.out.lt; obtain ⟨mm60, mm61, mm62, mm63, mm64⟩ := Mvs.at_ HM6.out (List.getElem?_eq_getElem hjl); rw [← HMe.out, HFf.out] at mm61; rw [← HMe.out, HTt.out] at mm62; have mml6 := HM6.out.lt; have ss60 := HA6.out.c j _ (List.getElem?_eq_getElem hja) 0 _ rfl; rw [Nat.mul_one, Nat.add_zero, ← HAe.out, HMm.out] at ss60; have ssl6 := HA6.out.lt))
                  go_roundw
                  case rel => exact ⟨j + 1, Z, by omega, by go_num, rfl, by rw [HSt.out]; simp, HW6.out⟩
                  case measure => simp [intOf]; omega
                · have HW4 := HBW
                  go_wp2_with (first | (go_at_call 18; with_reducible refine (HH1.out _ HI4.out).mono ?_; rintro e w5 ⟨rfl, hb5⟩; have HT5 := Lib.hid (HT4.out.below hb5); have HD5 := Lib.hid (HD4.out.below hb5); have HI5 := Lib.hid (HI4.out.below hb5); have HM5 := Lib.hid (HMo.out.below hb5); have HA5 := Lib.hid (HAo.out.below hb5); have HW5 := Lib.hid (HW4.out.trans (hb5.mono HW4.out.size)); clear hb5; have yy50 := HT5.out.cell 0; have yy51 := HT5.out.cell 1; have zz50 := HD5.out.cell 0; have zz51 := HD5.out.cell 1; have zz52 := HD5.out.cell 2; simp only [List.getElem?_toArray, List.getElem?_cons_zero, List.getElem?_cons_succ] at yy50 yy51 zz50 zz51 zz52; have yyl5 := HT5.out.lt; have zzl5 := HD5.out.lt; obtain ⟨mm50, mm51, mm52, mm53, mm54⟩ := Mvs.at_ HM5.out (List.getElem?_eq_getElem hjl); rw [← HMe.out, HFf.out] at mm51; rw [← HMe.out, HTt.out] at mm52; have mml5 := HM5.out.lt; have ss50 := HA5.out.c j _ (List.getElem?_eq_getElem hja) 0 _ rfl; rw [Nat.mul_one, Nat.add_zero, ← HAe.out, HMm.out] at ss50; have ssl5 := HA5.out.lt) | (go_at_call 18; with_reducible refine (HH2.out _ HI5.out).mono ?_; rintro e w6 ⟨rfl, hb6⟩; have HT6 := Lib.hid (HT5.out.below hb6); have HD6 := Lib.hid (HD5.out.below hb6); have HI6 := Lib.hid (HI5.out.below hb6); have HM6 := Lib.hid (HM5.out.below hb6); have HA6 := Lib.hid (HA5.out.below hb6); have HW6 := Lib.hid (HW5.out.trans (hb6.mono HW5.out.size)); clear hb6; have yy60 := HT6.out.cell 0; have yy61 := HT6.out.cell 1; have zz60 := HD6.out.cell 0; have zz61 := HD6.out.cell 1; have zz62 := HD6.out.cell 2; simp only [List.getElem?_toArray, List.getElem?_cons_zero, List.getElem?_cons_succ] at yy60 yy61 zz60 zz61 zz62; have yyl6 := HT6.out.lt; have zzl6 := HD6.out.lt; obtain ⟨mm60, mm61, mm62, mm63, mm64⟩ := Mvs.at_ HM6.out (List.getElem?_eq_getElem hjl); rw [← HMe.out, HFf.out] at mm61; rw [← HMe.out, HTt.out] at mm62; have mml6 := HM6.out.lt; have ss60 := HA6.out.c j _ (List.getElem?_eq_getElem hja) 0 _ rfl; rw [Nat.mul_one, Nat.add_zero, ← HAe.out, HMm.out] at ss60; have ssl6 := HA6.out.lt))
                  go_roundw
                  case rel => exact ⟨j + 1, Z - mm, by omega, by go_num, rfl, by rw [HSt.out]; simp, HW6.out⟩
                  case measure => simp [intOf]; omega
                · have HW4 := HBW
                  go_wp2_with (first | (go_at_call 18; with_reducible refine (HH1.out _ HI4.out).mono ?_; rintro e w5 ⟨rfl, hb5⟩; have HT5 := Lib.hid (HT4.out.below hb5); have HD5 := Lib.hid (HD4.out.below hb5); have HI5 := Lib.hid (HI4.out.below hb5); have HM5 := Lib.hid (HMo.out.below hb5); have HA5 := Lib.hid (HAo.out.below hb5); have HW5 := Lib.hid (HW4.out.trans (hb5.mono HW4.out.size)); clear hb5; have yy50 := HT5.out.cell 0; have yy51 := HT5.out.cell 1; have zz50 := HD5.out.cell 0; have zz51 := HD5.out.cell 1; have zz52 := HD5.out.cell 2; simp only [List.getElem?_toArray, List.getElem?_cons_zero, List.getElem?_cons_succ] at yy50 yy51 zz50 zz51 zz52; have yyl5 := HT5.out.lt; have zzl5 := HD5.out.lt; obtain ⟨mm50, mm51, mm52, mm53, mm54⟩ := Mvs.at_ HM5.out (List.getElem?_eq_getElem hjl); rw [← HMe.out, HFf.out] at mm51; rw [← HMe.out, HTt.out] at mm52; have mml5 := HM5.out.lt; have ss50 := HA5.out.c j _ (List.getElem?_eq_getElem hja) 0 _ rfl; rw [Nat.mul_one, Nat.add_zero, ← HAe.out, HMm.out] at ss50; have ssl5 := HA5.out.lt) | (go_at_call 18; with_reducible refine (HH2.out _ HI5.out).mono ?_; rintro e w6 ⟨rfl, hb6⟩; have HT6 := Lib.hid (HT5.out.below hb6); have HD6 := Lib.hid (HD5.out.below hb6); have HI6 := Lib.hid (HI5.out.below hb6); have HM6 := Lib.hid (HM5.out.below hb6); have HA6 := Lib.hid (HA5.out.below hb6); have HW6 := Lib.hid (HW5.out.trans (hb6.mono HW5.out.size)); clear hb6; have yy60 := HT6.out.cell 0; have yy61 := HT6.out.cell 1; have zz60 := HD6.out.cell 0; have zz61 := HD6.out.cell 1; have zz62 := HD6.out.cell 2; simp only [List.getElem?_toArray, List.getElem?_cons_zero, List.getElem?_cons_succ] at yy60 yy61 zz60 zz61 zz62; have yyl6 := HT6.out.lt; have zzl6 := HD6.out.lt; obtain ⟨mm60, mm61, mm62, mm63, mm64⟩ := Mvs.at_ HM6.out (List.getElem?_eq_getElem hjl); rw [← HMe.out, HFf.out] at mm61; rw [← HMe.out, HTt.out] at mm62; have mml6 := HM6.out.lt; have ss60 := HA6.out.c j _ (List.getElem?_eq_getElem hja) 0 _ rfl; rw [Nat.mul_one, Nat.add_zero, ← HAe.out, HMm.out] at ss60; have ssl6 := HA6.out.lt))
                  go_roundw
                  case rel => exact ⟨j + 1, Z + mm, by omega, by go_num, rfl, by rw [HSt.out]; simp, HW6.out⟩
                  case measure => simp [intOf]; omega
                · have HW4 := HBW
                  go_wp2_with (first | (go_at_call 18; with_reducible refine (HH1.out _ HI4.out).mono ?_; rintro e w5 ⟨rfl, hb5⟩; have HT5 := Lib.hid (HT4.out.below hb5); have HD5 := Lib.hid (HD4.out.below hb5); have HI5 := Lib.hid (HI4.out.below hb5); have HM5 := Lib.hid (HMo.out.below hb5); have HA5 := Lib.hid (HAo.out.below hb5); have HW5 := Lib.hid (HW4.out.trans (hb5.mono HW4.out.size)); clear hb5; have yy50 := HT5.out.cell 0; have yy51 := HT5.out.cell 1; have zz50 := HD5.out.cell 0; have zz51 := HD5.out.cell 1; have zz52 := HD5.out.cell 2; simp only [List.getElem?_toArray, List.getElem?_cons_zero, List.getElem?_cons_succ] at yy50 yy51 zz50 zz51 zz52; have yyl5 := HT5.out.lt; have zzl5 := HD5.out.lt; obtain ⟨mm50, mm51, mm52, mm53, mm54⟩ := Mvs.at_ HM5.out (List.getElem?_eq_getElem hjl); rw [← HMe.out, HFf.out] at mm51; rw [← HMe.out, HTt.out] at mm52; have mml5 := HM5.out.lt; have ss50 := HA5.out.c j _ (List.getElem?_eq_getElem hja) 0 _ rfl; rw [Nat.mul_one, Nat.add_zero, ← HAe.out, HMm.out] at ss50; have ssl5 := HA5.out.lt) | (go_at_call 18; with_reducible refine (HH2.out _ HI5.out).mono ?_; rintro e w6 ⟨rfl, hb6⟩; have HT6 := Lib.hid (HT5.out.below hb6); have HD6 := Lib.hid (HD5.out.below hb6); have HI6 := Lib.hid (HI5.out.below hb6); have HM6 := Lib.hid (HM5.out.below hb6); have HA6 := Lib.hid (HA5.out.below hb6); have HW6 := Lib.hid (HW5.out.trans (hb6.mono HW5.out.size)); clear hb6; have yy60 := HT6.out.cell 0; have yy61 := HT6.out.cell 1; have zz60 := HD6.out.cell 0; have zz61 := HD6.out.cell 1; have zz62 := HD6.out.cell 2; simp only [List.getElem?_toArray, List.getElem?_cons_zero, List.getElem?_cons_succ] at yy60 yy61 zz60 zz61 zz62; have yyl6 := HT6.out.lt; have zzl6 := HD6.out.lt; obtain ⟨mm60, mm61, mm62, mm63, mm64⟩ := Mvs.at_ HM6.out (List.getElem?_eq_getElem hjl); rw [← HMe.out, HFf.out] at mm61; rw [← HMe.out, HTt.out] at mm62; have mml6 := HM6.out.lt; have ss60 := HA6.out.c j _ (List.getElem?_eq_getElem hja) 0 _ rfl; rw [Nat.mul_one, Nat.add_zero, ← HAe.out, HMm.out] at ss60; have ssl6 := HA6.out.lt))
                  go_roundw
                  case rel => exact ⟨j + 1, Z, by omega, by go_num, rfl, by rw [HSt.out]; simp, HW6.out⟩
                  case measure => simp [intOf]; omega
          case pos =>
            have hkl : k < hs.length := by rw [HLh.out]; exact hkn
            have hks : k < st.length := by have := HX3.out.h1.len; dsimp only at this; omega
            have hke : k < en.length := by have := HX3.out.h2.len; dsimp only at this; omega
            obtain ⟨bH, oH, eH, hH⟩ := HO3.out.h.at_ (by dsimp only; omega)
            obtain ⟨bA, oA, eA, hA⟩ := HX3.out.h1.at_ (by dsimp only; omega)
            obtain ⟨bB, oB, eB, hB⟩ := HX3.out.h2.at_ (by dsimp only; omega)
            dsimp only at eH eA eB
            subst eH eA eB
            have HHo := Lib.hid hH
            have HAo := Lib.hid hA
            have HBo := Lib.hid hB
            have HHe := Lib.hid (hat_eq hkl)
            have HAe := Lib.hid (iget_eq hks)
            have HBe := Lib.hid (iget_eq hke)
            have HBk := Lib.hid (HBd.out.1 k (by omega))
            have HS1 := Lib.hid (show hcons hs (fun _ => true) st en (k + 1) = hcons hs (fun _ => true) st en k + iget st k - iget en k from if_pos rfl)
            have HS2 := Lib.hid (show hcons hs ids.contains st en (k + 1) = if ids.contains (hat hs k).id = true then hcons hs ids.contains st en k + iget st k - iget en k else hcons hs ids.contains st en k from rfl)
            rw [← HX.out] at HS1
            rw [← HY.out] at HS2
            obtain ⟨dd, hdd⟩ : ∃ x, (hat hs k).id = x := ⟨_, rfl⟩
            obtain ⟨ss, hss⟩ : ∃ x, iget st k = x := ⟨_, rfl⟩
            obtain ⟨ee, hee⟩ : ∃ x, iget en k = x := ⟨_, rfl⟩
            rw [hss, hee] at HS1
            rw [hdd, hss, hee] at HS2
            have HH1 := Lib.hid (fun u (hu : SAt encI 1 u Ai ki ids) => HHas.out u dd hu)
            have s0 := hA.c k _ (List.getElem?_eq_getElem hks) 0 _ rfl
            have t0 := hB.c k _ (List.getElem?_eq_getElem hke) 0 _ rfl
            rw [Nat.mul_one, Nat.add_zero, ← HAe.out, hss] at s0
            rw [Nat.mul_one, Nat.add_zero, ← HBe.out, hee] at t0
            have sl := hA.lt
            have tl := hB.lt
            obtain ⟨⟨q1, q2⟩, q3, q4⟩ := HBk.out
            rw [hss] at q1 q2
            rw [hee] at q3 q4
            have HDd := Lib.hid hdd
            have HSs := Lib.hid hss
            have HEe := Lib.hid hee
            clear hH hA hB hdd hss hee
            go_upto_region 22 with fail
            obtain ⟨xc, xf'⟩ := xcell (W := wr)
            refine wp_region_quiet_tail 13 (by kernel_rfl) (by kernel_rfl) ?_
            simp only [List.take_succ_cons, List.take_zero, List.drop_succ_cons, List.drop_zero]
            repeat (first | go_big_quiet_step (fail) | quiet_step (fail))
            refine wpQuiet_nil ?_
            intro w5 hb5
            have HBV5 := Lib.hid (HBV.out.trans (hb5.mono HBV.out.size))
            have HT5 := Lib.hid (HT3.out.below hb5)
            have HD5 := Lib.hid (HD3.out.below hb5)
            have HI5 := Lib.hid (HI3.out.below hb5)
            have HA5 := Lib.hid (HAo.out.below hb5)
            have HB5 := Lib.hid (HBo.out.below hb5)
            have hH5 := HHo.out.below hb5
            clear y0 y1 yl z0 z1 z2 zl s0 t0 sl tl xc xf' hb5
            have y0 := HT5.out.cell 0
            have y1 := HT5.out.cell 1
            have z0 := HD5.out.cell 0
            have z1 := HD5.out.cell 1
            have z2 := HD5.out.cell 2
            simp only [List.getElem?_toArray, List.getElem?_cons_zero, List.getElem?_cons_succ] at y0 y1 z0 z1 z2
            have yl := HT5.out.lt
            have zl := HD5.out.lt
            obtain ⟨u0, u1, u2, u3, u4, u5⟩ := Hds.at_ hH5 (List.getElem?_eq_getElem hkl)
            rw [← HHe.out, HDd.out] at u0
            have ul := hH5.lt
            clear hH5
            generalize ids.contains dd = b1 at *
            cases b1
            case false =>
              go_wp2_with (go_at_call 18; with_reducible refine (HH1.out _ HI5.out).mono ?_; rintro e w6 ⟨rfl, hb6⟩)
              have HBV6 := Lib.hid (HBV5.out.trans (hb6.mono HBV5.out.size))
              go_roundw
              case rel => exact ⟨k + 1, X + ss - ee, Y, by omega, by go_num, rfl, rfl, HS1.out.symm, HS2.out.symm, HBV6.out⟩
              case measure => simp [intOf]; omega
            case true =>
              go_upto_region 24 with (go_at_call 18; with_reducible refine (HH1.out _ HI5.out).mono ?_; rintro e w6 ⟨rfl, hb6⟩)
              have HBV6 := Lib.hid (HBV5.out.trans (hb6.mono HBV5.out.size))
              have HD6 := Lib.hid (HD5.out.below hb6)
              have hA6 := HA5.out.below hb6
              have hB6 := HB5.out.below hb6
              clear y0 y1 yl z0 z1 z2 zl u0 u1 u2 u3 u4 u5 ul hb6
              have z0 := HD6.out.cell 0
              have z1 := HD6.out.cell 1
              have z2 := HD6.out.cell 2
              simp only [List.getElem?_toArray, List.getElem?_cons_zero, List.getElem?_cons_succ] at z0 z1 z2
              have zl := HD6.out.lt
              have s0 := hA6.c k _ (List.getElem?_eq_getElem hks) 0 _ rfl
              have t0 := hB6.c k _ (List.getElem?_eq_getElem hke) 0 _ rfl
              rw [Nat.mul_one, Nat.add_zero, ← HAe.out, HSs.out] at s0
              rw [Nat.mul_one, Nat.add_zero, ← HBe.out, HEe.out] at t0
              have sl := hA6.lt
              have tl := hB6.lt
              clear hA6 hB6
              obtain ⟨xc, xf'⟩ := xcell (W := w6)
              refine wp_region_quiet_tail 13 (by kernel_rfl) (by kernel_rfl) ?_
              simp only [List.take_succ_cons, List.take_zero, List.drop_succ_cons, List.drop_zero]
              repeat (first | go_big_quiet_step (fail) | quiet_step (fail))
              refine wpQuiet_nil ?_
              intro w7 hb7
              have HBV7 := Lib.hid (HBV6.out.trans (hb7.mono HBV6.out.size))
              clear xc xf' hb7
              go_wp2
              go_roundw
              case rel => exact ⟨k + 1, X + ss - ee, Y + ss - ee, by omega, by go_num, rfl, rfl, HS1.out.symm, by rw [HS2.out]; simp, HBV7.out⟩
              case measure => simp [intOf]; omega
open Go.WideShapes Go.ChangeShapes Go.Joins Go.Deep
set_option maxRecDepth 100000 in
theorem flowConserves_lifted (os : Os) (started : os.Started) (H : Type) (enc : TypeId × Value → H) :
    ReturnsInHanded Rows.flowConservesRow.assume Try.checked os 3 .any (Rows.flowConservesSpec.pre6 enc Try.prog Try.f3 Rows.flowConservesRow.domain false) (Rows.flowConservesSpec.post enc Try.prog Try.f3 false Rows.flowConservesRow.fresh Rows.flowConservesRow.handsOn Rows.flowConservesRow.again) := by
  refine returnsInHanded_of_change (C := Try.checked) (by kernel_rfl) started (by kernel_rfl) Try.func3
    (ChangeSpec.witness6 (enc := enc) (C := Try.checked) false ⟨#[], #[.agg #[.slice none 0 0, .slice none 0 0], .agg #[.int .i64 0, .int .i64 0], .slice none 0 0], []⟩ 8 (by kernel_rfl) (by kernel_rfl) (by kernel_rfl) (by kernel_rfl)) ?_
  intro W base args ds gs before hval0 hW hcnd _
  have hval : ∀ (j : Nat) t v, Try.f3.params[j]? = some t → args[j]? = some v → Value.okWide Try.prog W .any base t v := hval0
  have hW' := hW
  obtain ⟨p, q, hA0, hV, rfl, hfz, hnd⟩ := hW
  obtain ⟨rfl, rfl⟩ := trodVars_none hV
  have hA : DataW.TrodAll enc Try.prog W 0 (fun _ => true) true [25, 27, 28] args.toList ds p := hA0
  obtain ⟨v0, v1, v2, d0, d1, d2, p0, p1, p2, rfl, rfl, rfl, h0, h1, h2⟩ := trodAll_three hA
  obtain ⟨t, rfl, hT, _, rfl⟩ := open_tr (hval 0 25 v0 rfl rfl) h0
  obtain ⟨kind, id, rfl, _, rfl⟩ := open_at (hval 1 27 v1 rfl rfl) h1
  obtain ⟨Ai, ki, ci, ids, rfl, hI, _, _⟩ := open_is (hval 2 28 v2 rfl rfl) h2
  refine (flowConserves_walk t kind id Ai ki ci ids W hT hI).mono fun e W' ⟨he, hb⟩ => ⟨_, he, law_post laid_out (by kernel_rfl) rfl Try.underlying4 rfl hW' rfl rfl rfl hb⟩

theorem flowConserves : Rows.FlowConservesSaid :=
  OpenClaim.holds_of_wide 3 Try.f3 rfl rfl rfl rfl rfl rfl rfl ⟨rfl, rfl, rfl, rfl, rfl⟩ rfl rfl rfl rfl rfl (by kernel_rfl) Try.func3 (by kernel_rfl)
    (of_decide_eq_true (by kernel_rfl)) (by unfold Func.isWrapper; first | (rw [if_pos (by decide +kernel)]; kernel_rfl) | (rw [if_neg (by decide +kernel)]; exact ⟨rfl, rfl⟩))
    (fun os started H enc _ => flowConserves_lifted os started H enc)
#print axioms flowConserves
end Go.Proofs.Ytighfmgkoepfkaa
