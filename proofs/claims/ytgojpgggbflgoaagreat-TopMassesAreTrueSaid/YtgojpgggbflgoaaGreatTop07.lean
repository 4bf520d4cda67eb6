/- The first error of a survey. -/
import Derived.Test.YtgojpgggbflgoaaGreatTop06
namespace Go.Proofs.YtgojpgggbflgoaaGreat
open Go.RowKit

def svH (x : Sv) : Bool := inB x.id 1 1099511627776 && (inB x.tick 0 1048576 && (inB x.sag 0 200 && decide (0 ≤ x.lo ∧ x.lo ≤ x.hi ∧ x.hi ≤ 2000)))
def mkB (a b : Int) : Bool := decide (0 ≤ a ∧ a ≤ b ∧ b ≤ 65536) && decide (b - a < 400)
/-- The survey and its first marks are right. -/
def pB (x : Sv) : Nat → Bool
  | 0 => svH x
  | 1 => svH x && mkB x.a0 x.b0
  | 2 => svH x && mkB x.a0 x.b0 && mkB x.a1 x.b1
  | 3 => svH x && mkB x.a0 x.b0 && mkB x.a1 x.b1 && mkB x.a2 x.b2
  | 4 => svH x && mkB x.a0 x.b0 && mkB x.a1 x.b1 && mkB x.a2 x.b2 && mkB x.a3 x.b3
  | 5 => svH x && mkB x.a0 x.b0 && mkB x.a1 x.b1 && mkB x.a2 x.b2 && mkB x.a3 x.b3 && mkB x.a4 x.b4
  | _ => svH x && mkB x.a0 x.b0 && mkB x.a1 x.b1 && mkB x.a2 x.b2 && mkB x.a3 x.b3 && mkB x.a4 x.b4 && mkB x.a5 x.b5
def chkE (ys : List Hy) (gs : List Gs) (x : Sv) : Int := if pB x 6 = false then 1 else if (denR ys gs x.hy x.lo x.hi).2 ≠ 0 then (denR ys gs x.hy x.lo x.hi).2 else if (exR x).2 = false then 9 else 0
theorem pB_ok {x : Sv} (h : pB x 6 = true) : MkOk x ∧ (0 ≤ x.lo ∧ x.lo ≤ x.hi ∧ x.hi ≤ 2000) := by
  unfold pB svH mkB inB at h
  simp only [Bool.and_eq_true, decide_eq_true_eq] at h
  unfold MkOk
  omega
set_option maxRecDepth 100000 in
set_option maxHeartbeats 12800000 in
theorem scheck_any (A : Option Addr) (n c : Nat) (B : Option Addr) (m d : Nat) (ys : List Hy) (gs : List Gs) (x : Sv) (w : World) (hA : SAt encY 3 w A n ys) (hB : SAt encG 5 w B m gs) (hn : n ≤ 1000000) (hm : m ≤ 1000000) (hys : YsOk ys) (hbd : GsOk gs) :
    Calls Tryz.prog 43 #[.agg #[.slice A n c, .slice B m d], vSv x] w fun e w' => e = .returned (.int .i64 (chkE ys gs x)) ∧ Below w.heap.size w w' := by
  have HD := Lib.hid (fun (u : World) (hu : Below w.heap.size w u) (h1 : 0 ≤ x.lo ∧ x.lo ≤ x.hi ∧ x.hi ≤ 2000) => density_any A n c B m d ys gs x u (hA.below hu) (hB.below hu) hn hm hys hbd (by omega) (by omega))
  have HX0 := Lib.hid (fun (u : World) (h1 : MkOk x) => extremes_any x u h1)
  obtain ⟨E, hE⟩ : ∃ E, chkE ys gs x = E := ⟨_, rfl⟩
  have HE := Lib.hid (show E = if pB x 6 = false then 1 else if (denR ys gs x.hy x.lo x.hi).2 ≠ 0 then (denR ys gs x.hy x.lo x.hi).2 else if (exR x).2 = false then 9 else 0 from hE.symm)
  rw [hE]
  have HOk := Lib.hid (fun h : pB x 6 = true => pB_ok h)
  clear hA hB hE
  have P0 := Lib.hid (show pB x 0 = (inB x.id 1 1099511627776 && (inB x.tick 0 1048576 && (inB x.sag 0 200 && decide (0 ≤ x.lo ∧ x.lo ≤ x.hi ∧ x.hi ≤ 2000)))) from rfl)
  have P1 := Lib.hid (show pB x 1 = (pB x 0 && (decide (0 ≤ x.a0 ∧ x.a0 ≤ x.b0 ∧ x.b0 ≤ 65536) && decide (x.b0 - x.a0 < 400))) from rfl)
  have P2 := Lib.hid (show pB x 2 = (pB x 1 && (decide (0 ≤ x.a1 ∧ x.a1 ≤ x.b1 ∧ x.b1 ≤ 65536) && decide (x.b1 - x.a1 < 400))) from rfl)
  have P3 := Lib.hid (show pB x 3 = (pB x 2 && (decide (0 ≤ x.a2 ∧ x.a2 ≤ x.b2 ∧ x.b2 ≤ 65536) && decide (x.b2 - x.a2 < 400))) from rfl)
  have P4 := Lib.hid (show pB x 4 = (pB x 3 && (decide (0 ≤ x.a3 ∧ x.a3 ≤ x.b3 ∧ x.b3 ≤ 65536) && decide (x.b3 - x.a3 < 400))) from rfl)
  have P5 := Lib.hid (show pB x 5 = (pB x 4 && (decide (0 ≤ x.a4 ∧ x.a4 ≤ x.b4 ∧ x.b4 ≤ 65536) && decide (x.b4 - x.a4 < 400))) from rfl)
  have P6 := Lib.hid (show pB x 6 = (pB x 5 && (decide (0 ≤ x.a5 ∧ x.a5 ≤ x.b5 ∧ x.b5 ≤ 65536) && decide (x.b5 - x.a5 < 400))) from rfl)
  have H1 := Lib.hid (fun u => swithin_any x.id 1 1099511627776 u)
  have H2 := Lib.hid (fun u => swithin_any x.tick 0 1048576 u)
  have H3 := Lib.hid (fun u => swithin_any x.sag 0 200 u)
  have H4 := Lib.hid (fun u => spans_any x.lo x.hi 0 2000 u)
  generalize pB x = pb at *
  generalize denR ys gs x.hy x.lo x.hi = den at *
  generalize exR x = ex at *
  obtain ⟨xi, xt, a0, b0, a1, b1, a2, b2, a3, b3, a4, b4, a5, b5, xs, xh, xl, xu⟩ := x
  dsimp only at HD HX0 HOk P0 P1 P2 P3 P4 P5 P6 H1 H2 H3 H4
  have hb0 := ((Below.refl w.heap.size w).alloc (Nat.le_refl _) (.cells #[.slice A n c, .slice B m d] 31)).alloc (by simp) (.cells #[.int .i64 xi, .int .i64 xt, .int .i64 a0, .int .i64 b0, .int .i64 a1, .int .i64 b1, .int .i64 a2, .int .i64 b2, .int .i64 a3, .int .i64 b3, .int .i64 a4, .int .i64 b4, .int .i64 a5, .int .i64 b5, .int .i64 xs, .int .i64 xh, .int .i64 xl, .int .i64 xu] 62)
  have t0 := (Blk.new w 31 #[.slice A n c, .slice B m d]).alloc (.cells #[.int .i64 xi, .int .i64 xt, .int .i64 a0, .int .i64 b0, .int .i64 a1, .int .i64 b1, .int .i64 a2, .int .i64 b2, .int .i64 a3, .int .i64 b3, .int .i64 a4, .int .i64 b4, .int .i64 a5, .int .i64 b5, .int .i64 xs, .int .i64 xh, .int .i64 xl, .int .i64 xu] 62)
  have x0 := Blk.at_new (W := w.alloc (.cells #[.slice A n c, .slice B m d] 31)) (g := w.heap.size + 1) 62 #[.int .i64 xi, .int .i64 xt, .int .i64 a0, .int .i64 b0, .int .i64 a1, .int .i64 b1, .int .i64 a2, .int .i64 b2, .int .i64 a3, .int .i64 b3, .int .i64 a4, .int .i64 b4, .int .i64 a5, .int .i64 b5, .int .i64 xs, .int .i64 xh, .int .i64 xl, .int .i64 xu] (by simp)
  go_enter Tryz.func43, Tryz.ntmps43
  go_upto_region 1 with fail
  generalize hW : (w.alloc (.cells #[.slice A n c, .slice B m d] 31)).alloc (.cells #[.int .i64 xi, .int .i64 xt, .int .i64 a0, .int .i64 b0, .int .i64 a1, .int .i64 b1, .int .i64 a2, .int .i64 b2, .int .i64 a3, .int .i64 b3, .int .i64 a4, .int .i64 b4, .int .i64 a5, .int .i64 b5, .int .i64 xs, .int .i64 xh, .int .i64 xl, .int .i64 xu] 62) = W at *
  clear hW
  have HT := Lib.hid t0
  have HX := Lib.hid x0
  have HB := Lib.hid hb0
  have q0 := x0.cell 0
  have q1 := x0.cell 1
  have q14 := x0.cell 14
  have q16 := x0.cell 16
  have q17 := x0.cell 17
  simp only [List.getElem?_toArray, List.getElem?_cons_zero, List.getElem?_cons_succ] at q0 q1 q14 q16 q17
  have ql := x0.lt
  clear t0 x0 hb0
  -- the head
  have hpb0 : ∃ b, pb 0 = b := ⟨_, rfl⟩
  have HPh := Lib.hid (fun (u : Bool) (e : pb 0 = u) => e)
  go_cut [5] (fun q wx => q = .bool (pb 0) ∧ Below W.heap.size W wx)
  case first =>
    as_aux_lemma =>
      have hP := P0.out
      clear P0 P1 P2 P3 P4 P5 P6 HPh hpb0
      generalize inB xi 1 1099511627776 = b1 at *
      generalize inB xt 0 1048576 = b2 at *
      generalize inB xs 0 200 = b3 at *
      generalize decide (0 ≤ xl ∧ xl ≤ xu ∧ xu ≤ 2000) = b4 at *
      generalize pb 0 = p0 at *
      cases b1 with
      | false =>
        obtain rfl : p0 = false := by rw [hP]; rfl
        clear hP
        go_wp2_with (go_at_call 36; (with_reducible refine (H1.out _).mono ?_); rintro e u1 ⟨rfl, rfl⟩)
        go_meet
        exact ⟨rfl, Below.refl _ _⟩
      | true =>
      cases b2 with
      | false =>
        obtain rfl : p0 = false := by rw [hP]; rfl
        clear hP
        go_wp2_with (first | (go_at_call 36; (with_reducible refine (H1.out _).mono ?_); rintro e u1 ⟨rfl, rfl⟩) | (go_at_call 36; (with_reducible refine (H2.out _).mono ?_); rintro e u1 ⟨rfl, rfl⟩))
        go_meet
        exact ⟨rfl, Below.refl _ _⟩
      | true =>
      cases b3 with
      | false =>
        obtain rfl : p0 = false := by rw [hP]; rfl
        clear hP
        go_wp2_with (first | (go_at_call 36; (with_reducible refine (H1.out _).mono ?_); rintro e u1 ⟨rfl, rfl⟩) | (go_at_call 36; (with_reducible refine (H2.out _).mono ?_); rintro e u1 ⟨rfl, rfl⟩) | (go_at_call 36; (with_reducible refine (H3.out _).mono ?_); rintro e u1 ⟨rfl, rfl⟩))
        go_meet
        exact ⟨rfl, Below.refl _ _⟩
      | true =>
        obtain rfl : p0 = b4 := by rw [hP]; rfl
        clear hP
        go_wp2_with (first | (go_at_call 36; (with_reducible refine (H1.out _).mono ?_); rintro e u1 ⟨rfl, rfl⟩) | (go_at_call 36; (with_reducible refine (H2.out _).mono ?_); rintro e u1 ⟨rfl, rfl⟩) | (go_at_call 36; (with_reducible refine (H3.out _).mono ?_); rintro e u1 ⟨rfl, rfl⟩) | (go_at_call 37; (with_reducible refine (H4.out _).mono ?_); rintro e u1 ⟨rfl, hb1⟩))
        go_meet
        exact ⟨rfl, hb1⟩
  case rest =>
  obtain ⟨rfl, hb1⟩ := hcut
  have HB1 := Lib.hid hb1
  clear hb1 P0 HPh hpb0 q0 q1 q14 q16 q17 ql H1 H2 H3 H4
  have HX1 := Lib.hid (HX.out.below HB1.out)
  have q2 := HX1.out.cell 2
  have q3 := HX1.out.cell 3
  have q4 := HX1.out.cell 4
  have q5 := HX1.out.cell 5
  have q6 := HX1.out.cell 6
  have q7 := HX1.out.cell 7
  have q8 := HX1.out.cell 8
  have q9 := HX1.out.cell 9
  have q10 := HX1.out.cell 10
  have q11 := HX1.out.cell 11
  have q12 := HX1.out.cell 12
  have q13 := HX1.out.cell 13
  simp only [List.getElem?_toArray, List.getElem?_cons_zero, List.getElem?_cons_succ] at q2 q3 q4 q5 q6 q7 q8 q9 q10 q11 q12 q13
  have ql := HX1.out.lt
  go_upto_region 3 with fail
  clear q2 q3 q4 q5 q6 q7 q8 q9 q10 q11 q12 q13 ql
  go_loopw [5, 7, 32] (fun b _ i wx => ∃ j : Nat, j ≤ 6 ∧ i = .int .i64 (j : Int) ∧ b = .bool (pb j) ∧ Below W.heap.size W wx) (fun _ _ i _ => 6 - (intOf i).toNat)
  case atStart => exact ⟨0, by omega, rfl, rfl, HB1.out⟩
  case round =>
    obtain ⟨j, hj, rfl, rfl, hb⟩ := hrel
    have HBk := Lib.hid hb
    clear hb
    by_cases hj6 : j < 6
    case pos =>
      as_aux_lemma =>
        obtain ⟨a, b, hidx, hPK⟩ : ∃ a b : Int, (∀ u : World, (Instr.index 60 (.agg #[.int .i64 a0, .int .i64 b0, .int .i64 a1, .int .i64 b1, .int .i64 a2, .int .i64 b2, .int .i64 a3, .int .i64 b3, .int .i64 a4, .int .i64 b4, .int .i64 a5, .int .i64 b5]) (.int .i64 (j : Int))).run Tryz.prog u = .ok (.agg #[.int .i64 a, .int .i64 b]) u) ∧ pb (j + 1) = (pb j && (decide (0 ≤ a ∧ a ≤ b ∧ b ≤ 65536) && decide (b - a < 400))) := by
          have hj7 : j = 0 ∨ j = 1 ∨ j = 2 ∨ j = 3 ∨ j = 4 ∨ j = 5 := by omega
          rcases hj7 with rfl | rfl | rfl | rfl | rfl | rfl
          · exact ⟨a0, b0, fun u => by kernel_rfl, P1.out⟩
          · exact ⟨a1, b1, fun u => by kernel_rfl, P2.out⟩
          · exact ⟨a2, b2, fun u => by kernel_rfl, P3.out⟩
          · exact ⟨a3, b3, fun u => by kernel_rfl, P4.out⟩
          · exact ⟨a4, b4, fun u => by kernel_rfl, P5.out⟩
          · exact ⟨a5, b5, fun u => by kernel_rfl, P6.out⟩
        have PK := Lib.hid hPK
        clear hPK P1 P2 P3 P4 P5 P6
        have HS := Lib.hid (fun u => spans_any a b 0 65536 u)
        have HBd := Lib.hid (fun e : decide (0 ≤ a ∧ a ≤ b ∧ b ≤ 65536) = true => of_decide_eq_true e)
        have b7 := below_new wr (.cells #[.int .i64 a, .int .i64 b] 43)
        have HB7 := Lib.hid (HBk.out.trans (b7.mono HBk.out.size))
        have HN7 := Lib.hid (Blk.new wr 43 #[.int .i64 a, .int .i64 b])
        clear b7
        generalize hp : pb j = p at *
        clear hp
        cases p with
        | false =>
          have HP := Lib.hid (show pb (j + 1) = false by rw [PK.out]; rfl)
          clear PK HS HBd
          go_wp2
          go_roundw
          case rel => exact ⟨j + 1, by omega, by go_num, by rw [HP.out], HB7.out⟩
          case measure => simp [intOf]; omega
        | true =>
          generalize hs : decide (0 ≤ a ∧ a ≤ b ∧ b ≤ 65536) = s at *
          clear hs
          cases s with
          | false =>
            have HP := Lib.hid (show pb (j + 1) = false by rw [PK.out]; rfl)
            clear PK HBd
            go_wp2_with (go_at_call 37; (with_reducible refine (HS.out _).mono ?_); rintro e u1 ⟨rfl, hb1⟩)
            have HB8 := Lib.hid (HB7.out.trans (hb1.mono HB7.out.size))
            clear hb1
            go_wp2
            go_roundw
            case rel => exact ⟨j + 1, by omega, by go_num, by rw [HP.out], HB8.out⟩
            case measure => simp [intOf]; omega
          | true =>
            have hbd := HBd.out rfl
            have HP := Lib.hid (show pb (j + 1) = decide (b - a < 400) by rw [PK.out]; simp)
            clear PK HBd
            go_wp2_with (go_at_call 37; (with_reducible refine (HS.out _).mono ?_); rintro e u1 ⟨rfl, hb1⟩; obtain ⟨z0, z1, zl⟩ := cells2 (HN7.out.below hb1))
            have HB8 := Lib.hid (HB7.out.trans (hb1.mono HB7.out.size))
            clear hb1
            go_wp2
            go_roundw
            case rel => exact ⟨j + 1, by omega, by go_num, by rw [HP.out], HB8.out⟩
            case measure => simp [intOf]; omega
    case neg =>
      as_aux_lemma =>
        obtain rfl : j = 6 := by omega
        clear P1 P2 P3 P4 P5 P6
        generalize pb 6 = p6 at *
        have HBw := Lib.hid (HB.out.trans (HBk.out.mono HB.out.size))
        cases p6 with
        | false =>
          as_aux_lemma =>
            have hE : E = 1 := by rw [HE.out, if_pos rfl]
            clear HE
            subst hE
            go_wp2
            exact bodyPost_ret (v := .int .i64 1) (by simp [results, Tryz.results43, go_sem]) rfl ⟨rfl, HBw.out⟩
        | true =>
          as_aux_lemma =>
            obtain ⟨hmk, hsh⟩ := HOk.out rfl
            have HMk := Lib.hid hmk
            obtain ⟨⟨d1, d2⟩, de⟩ := den
            obtain ⟨⟨x1, x2, x3, x4⟩, xb⟩ := ex
            dsimp only at HE HD HX0
            have HE2 := Lib.hid (show E = if de ≠ 0 then de else if xb = false then 9 else 0 by rw [HE.out, if_neg (by decide)])
            have HC := Lib.hid (HD.out wr HBw.out hsh)
            clear HE HOk HD hmk hsh
            have HXk := Lib.hid (HX.out.below HBk.out)
            have q0 := HXk.out.cell 0
            have q1 := HXk.out.cell 1
            have q2 := HXk.out.cell 2
            have q3 := HXk.out.cell 3
            have q4 := HXk.out.cell 4
            have q5 := HXk.out.cell 5
            have q6 := HXk.out.cell 6
            have q7 := HXk.out.cell 7
            have q8 := HXk.out.cell 8
            have q9 := HXk.out.cell 9
            have q10 := HXk.out.cell 10
            have q11 := HXk.out.cell 11
            have q12 := HXk.out.cell 12
            have q13 := HXk.out.cell 13
            have q14 := HXk.out.cell 14
            have q15 := HXk.out.cell 15
            have q16 := HXk.out.cell 16
            have q17 := HXk.out.cell 17
            simp only [List.getElem?_toArray, List.getElem?_cons_zero, List.getElem?_cons_succ] at q0 q1 q2 q3 q4 q5 q6 q7 q8 q9 q10 q11 q12 q13 q14 q15 q16 q17
            have ql := HXk.out.lt
            obtain ⟨y0, y1, yl⟩ := cells2 (HT.out.below HBk.out)
            go_upto_region 10 with (go_at_call 71; (with_reducible refine HC.out.mono ?_); rintro e u2 ⟨rfl, hb2⟩)
            have bq := below_new u2 (.cells #[.int .i64 d1, .int .i64 d2] 43)
            have bn := hb2.trans (bq.mono hb2.size)
            have HX2 := Lib.hid (HXk.out.below bn)
            have HB2 := Lib.hid (HBw.out.trans (bn.mono HBw.out.size))
            generalize hV : u2.alloc (.cells #[.int .i64 d1, .int .i64 d2] 43) = V at *
            clear hV bq bn hb2 q0 q1 q2 q3 q4 q5 q6 q7 q8 q9 q10 q11 q12 q13 q14 q15 q16 q17 ql y0 y1 yl HC HXk HBk
            by_cases hz : de = 0
            case neg =>
              as_aux_lemma =>
                have hzb : (de != 0) = true := by simpa using hz
                have hE : E = de := by rw [HE2.out, if_pos hz]
                clear HE2 hz
                subst hE
                go_wp2
                exact bodyPost_ret (v := .int .i64 E) (by simp [results, Tryz.results43, go_sem]) rfl ⟨rfl, HB2.out⟩
            case pos =>
              as_aux_lemma =>
                subst hz
                have HE3 := Lib.hid (show E = if xb = false then 9 else 0 by rw [HE2.out, if_neg (by decide)])
                clear HE2
                have q0 := HX2.out.cell 0
                have q1 := HX2.out.cell 1
                have q2 := HX2.out.cell 2
                have q3 := HX2.out.cell 3
                have q4 := HX2.out.cell 4
                have q5 := HX2.out.cell 5
                have q6 := HX2.out.cell 6
                have q7 := HX2.out.cell 7
                have q8 := HX2.out.cell 8
                have q9 := HX2.out.cell 9
                have q10 := HX2.out.cell 10
                have q11 := HX2.out.cell 11
                have q12 := HX2.out.cell 12
                have q13 := HX2.out.cell 13
                have q14 := HX2.out.cell 14
                have q15 := HX2.out.cell 15
                have q16 := HX2.out.cell 16
                have q17 := HX2.out.cell 17
                simp only [List.getElem?_toArray, List.getElem?_cons_zero, List.getElem?_cons_succ] at q0 q1 q2 q3 q4 q5 q6 q7 q8 q9 q10 q11 q12 q13 q14 q15 q16 q17
                have ql := HX2.out.lt
                have HC := Lib.hid (HX0.out V HMk.out)
                cases xb with
                | false =>
                  as_aux_lemma =>
                    have hE : E = 9 := by rw [HE3.out, if_pos rfl]
                    clear HE3
                    subst hE
                    go_wp2_with (go_at_call 72; (with_reducible refine HC.out.mono ?_); rintro e u3 ⟨rfl, hb3⟩)
                    exact bodyPost_ret (v := .int .i64 9) (by simp [results, Tryz.results43, go_sem]) rfl ⟨rfl, HB2.out.trans ((hb3.trans ((below_new u3 (.cells #[.int .i64 x1, .int .i64 x2, .int .i64 x3, .int .i64 x4] 147)).mono hb3.size)).mono HB2.out.size)⟩
                | true =>
                  as_aux_lemma =>
                    have hE : E = 0 := by rw [HE3.out, if_neg (by decide)]
                    clear HE3
                    subst hE
                    go_wp2_with (go_at_call 72; (with_reducible refine HC.out.mono ?_); rintro e u3 ⟨rfl, hb3⟩)
                    exact bodyPost_ret (v := .int .i64 0) (by simp [results, Tryz.results43, go_sem]) rfl ⟨rfl, HB2.out.trans ((hb3.trans ((below_new u3 (.cells #[.int .i64 x1, .int .i64 x2, .int .i64 x3, .int .i64 x4] 147)).mono hb3.size)).mono HB2.out.size)⟩
theorem bulbE_zero {ys : List Hy} {gs : List Gs} (h : bulbE ys gs = 0) : ys.length ≤ 8 ∧ gs.length ≤ 40 ∧ (∀ i, i < ys.length → hyF ys i = 0) ∧ (∀ i, i < gs.length → gsF ys gs i = 0) := by
  unfold bulbE at h
  by_cases c : 8 < ys.length ∨ 40 < gs.length
  · rw [if_pos c] at h; cases h
  rw [if_neg c] at h
  by_cases c2 : firstE (hyF ys) ys.length = 0
  case neg => rw [if_pos c2] at h; exact absurd h c2
  rw [if_neg (by simpa using c2)] at h
  exact ⟨by omega, by omega, firstE_zero c2, firstE_zero h⟩
theorem bulb_ys {ys : List Hy} {gs : List Gs} (h : bulbE ys gs = 0) : ∀ y ∈ ys, -100 ≤ y.lo ∧ y.lo ≤ y.hi ∧ y.hi ≤ 100 := by
  intro y hy
  obtain ⟨i, hi, rfl⟩ := List.getElem_of_mem hy
  have e := (bulbE_zero h).2.2.1 i hi
  rw [hyF_of hi] at e
  cases hb : hyB ys[i] with
  | false => rw [hb, if_pos rfl] at e; cases e
  | true =>
    unfold hyB at hb
    simp only [Bool.and_eq_true, decide_eq_true_eq] at hb
    exact hb.2
theorem bulb_gs {ys : List Hy} {gs : List Gs} (h : bulbE ys gs = 0) : ∀ g ∈ gs, 1 ≤ g.id ∧ (900 ≤ g.dense ∧ g.dense ≤ 1100) ∧ (0 ≤ g.lo ∧ g.lo ≤ g.hi ∧ g.hi ≤ 2000) := by
  intro g hg
  obtain ⟨i, hi, rfl⟩ := List.getElem_of_mem hg
  have e := (bulbE_zero h).2.2.2 i hi
  rw [gsF_of hi] at e
  cases hb : gsB gs[i] with
  | false => rw [hb, if_pos rfl] at e; cases e
  | true =>
    unfold gsB inB at hb
    simp only [Bool.and_eq_true, decide_eq_true_eq] at hb
    exact ⟨hb.1.1.1, hb.1.2, hb.2⟩
theorem bulb_YsOk {ys : List Hy} {gs : List Gs} (h : bulbE ys gs = 0) : YsOk ys := fun y hy => by have := bulb_ys h y hy; omega
theorem bulb_GsOk {ys : List Hy} {gs : List Gs} (h : bulbE ys gs = 0) : GsOk gs := fun g hg => by have := bulb_gs h g hg; omega
end Go.Proofs.YtgojpgggbflgoaaGreat
