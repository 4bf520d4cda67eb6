/- The first error of hydrometers and a survey; and of a ship. -/
import Derived.Test.YtgojpgggbflgoaaGreatTop07
namespace Go.Proofs.YtgojpgggbflgoaaGreat
open Go.RowKit

def chkA (ys : List Hy) (gs : List Gs) (x : Sv) : Int := if bulbE ys gs ≠ 0 then bulbE ys gs else chkE ys gs x
set_option maxRecDepth 100000 in
set_option maxHeartbeats 6400000 in
theorem SCheck_any (A : Option Addr) (n c : Nat) (B : Option Addr) (m d : Nat) (ys : List Hy) (gs : List Gs) (x : Sv) (w : World) (hA : SAt encY 3 w A n ys) (hB : SAt encG 5 w B m gs) (hn : n ≤ 9223372036854775807) (hm : m ≤ 9223372036854775807) :
    Calls Tryz.prog 22 #[.agg #[.slice A n c, .slice B m d], vSv x] w fun e w' => e = .returned (.int .i64 (chkA ys gs x)) ∧ Below w.heap.size w w' := by
  have HCb := Lib.hid (fun (u : World) (hu : Below w.heap.size w u) => CheckBulbs_any A n c B m d ys gs u (hA.below hu) (hB.below hu) hn hm)
  have HCk := Lib.hid (fun (u : World) (hu : Below w.heap.size w u) (h0 : bulbE ys gs = 0) => scheck_any A n c B m d ys gs x u (hA.below hu) (hB.below hu) (by have := (bulbE_zero h0).1; have := hA.len; omega) (by have := (bulbE_zero h0).2.1; have := hB.len; omega) (bulb_YsOk h0) (bulb_GsOk h0))
  obtain ⟨E, hE⟩ : ∃ E, chkA ys gs x = E := ⟨_, rfl⟩
  have HE := Lib.hid (show E = if bulbE ys gs ≠ 0 then bulbE ys gs else chkE ys gs x from hE.symm)
  rw [hE]
  clear hA hB hE
  generalize chkE ys gs x = ce at *
  generalize bulbE ys gs = be at *
  obtain ⟨xi, xt, a0, b0, a1, b1, a2, b2, a3, b3, a4, b4, a5, b5, xs, xh, xl, xu⟩ := x
  try dsimp only at HCk
  have hb0 := ((Below.refl w.heap.size w).alloc (Nat.le_refl _) (.cells #[.slice A n c, .slice B m d] 31)).alloc (by simp) (.cells #[.int .i64 xi, .int .i64 xt, .int .i64 a0, .int .i64 b0, .int .i64 a1, .int .i64 b1, .int .i64 a2, .int .i64 b2, .int .i64 a3, .int .i64 b3, .int .i64 a4, .int .i64 b4, .int .i64 a5, .int .i64 b5, .int .i64 xs, .int .i64 xh, .int .i64 xl, .int .i64 xu] 62)
  have t0 := (Blk.new w 31 #[.slice A n c, .slice B m d]).alloc (.cells #[.int .i64 xi, .int .i64 xt, .int .i64 a0, .int .i64 b0, .int .i64 a1, .int .i64 b1, .int .i64 a2, .int .i64 b2, .int .i64 a3, .int .i64 b3, .int .i64 a4, .int .i64 b4, .int .i64 a5, .int .i64 b5, .int .i64 xs, .int .i64 xh, .int .i64 xl, .int .i64 xu] 62)
  have x0 := Blk.at_new (W := w.alloc (.cells #[.slice A n c, .slice B m d] 31)) (g := w.heap.size + 1) 62 #[.int .i64 xi, .int .i64 xt, .int .i64 a0, .int .i64 b0, .int .i64 a1, .int .i64 b1, .int .i64 a2, .int .i64 b2, .int .i64 a3, .int .i64 b3, .int .i64 a4, .int .i64 b4, .int .i64 a5, .int .i64 b5, .int .i64 xs, .int .i64 xh, .int .i64 xl, .int .i64 xu] (by simp)
  go_enter Tryz.func22, Tryz.ntmps22
  go_upto_region 1 with fail
  generalize hW : (w.alloc (.cells #[.slice A n c, .slice B m d] 31)).alloc (.cells #[.int .i64 xi, .int .i64 xt, .int .i64 a0, .int .i64 b0, .int .i64 a1, .int .i64 b1, .int .i64 a2, .int .i64 b2, .int .i64 a3, .int .i64 b3, .int .i64 a4, .int .i64 b4, .int .i64 a5, .int .i64 b5, .int .i64 xs, .int .i64 xh, .int .i64 xl, .int .i64 xu] 62) = W at *
  clear hW
  have HT := Lib.hid t0
  have HX := Lib.hid x0
  have HB := Lib.hid hb0
  obtain ⟨y0, y1, yl⟩ := cells2 t0
  clear t0 x0 hb0
  have HC := Lib.hid (HCb.out W HB.out)
  by_cases hz : be = 0
  case neg =>
    have hzb : (be != 0) = true := by simpa using hz
    have hE : E = be := by rw [HE.out, if_pos hz]
    clear HE hz
    subst hE
    go_wp2_with (go_at_call 21; (with_reducible refine HC.out.mono ?_); rintro e u1 ⟨rfl, hb1⟩)
    exact bodyPost_ret (v := .int .i64 E) (by simp [results, Tryz.results22, go_sem]) rfl ⟨rfl, HB.out.trans (hb1.mono HB.out.size)⟩
  case pos =>
    subst hz
    have hE : E = ce := by rw [HE.out, if_neg (by decide)]
    clear HE
    subst hE
    go_upto_region 2 with (go_at_call 21; (with_reducible refine HC.out.mono ?_); rintro e u1 ⟨rfl, hb1⟩)
    have HB1 := Lib.hid (HB.out.trans (hb1.mono HB.out.size))
    have HX1 := Lib.hid (HX.out.below hb1)
    have HT1 := Lib.hid (HT.out.below hb1)
    clear hb1 HC y0 y1 yl HT HX HB
    obtain ⟨y0, y1, yl⟩ := cells2 HT1.out
    have q0 := HX1.out.cell 0
    have q1 := HX1.out.cell 1
    have q2 := HX1.out.cell 2
    have q3 := HX1.out.cell 3
    have q4 := HX1.out.cell 4
    have q5 := HX1.out.cell 5
    have q6 := HX1.out.cell 6
    have q7 := HX1.out.cell 7
    have q8 := HX1.out.cell 8
    have q9 := HX1.out.cell 9
    have q10 := HX1.out.cell 10
    have q11 := HX1.out.cell 11
    have q12 := HX1.out.cell 12
    have q13 := HX1.out.cell 13
    have q14 := HX1.out.cell 14
    have q15 := HX1.out.cell 15
    have q16 := HX1.out.cell 16
    have q17 := HX1.out.cell 17
    simp only [List.getElem?_toArray, List.getElem?_cons_zero, List.getElem?_cons_succ] at q0 q1 q2 q3 q4 q5 q6 q7 q8 q9 q10 q11 q12 q13 q14 q15 q16 q17
    have ql := HX1.out.lt
    have HC := Lib.hid (HCk.out u1 HB1.out (by trivial))
    go_wp2_with (go_at_call 43; (with_reducible refine HC.out.mono ?_); rintro e u2 ⟨rfl, hb2⟩)
    exact bodyPost_ret (v := .int .i64 E) (by simp [results, Tryz.results22, go_sem]) rfl ⟨rfl, HB1.out.trans (hb2.mono HB1.out.size)⟩
end Go.Proofs.YtgojpgggbflgoaaGreat
