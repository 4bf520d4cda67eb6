/- A survey is true of a ship with a mass. A set of IDs; what was true when a survey was made. The surveys of a list that are true. The masses that are told are those that all surveys allow. The true error, density and mean draught lie in their spans. The true mass lies among those of a survey. The true mass lies among those of each survey that is true, and so among those of all. -/
import Derived.Maps.OwnOps
import Derived.Maps.OwnSet
import Derived.Maps.AppendAt
import Derived.Test.YtgojpgggbflgoaaGreatTop13
import Derived.Test.YtgojpgggbflgoaaGreatTop09
namespace Go.Proofs.YtgojpgggbflgoaaGreat
open Go.RowKit

/-- The hydrometer showed the density, with its error. -/
def ShwP (ys : List Hy) (es : List Int) (hy lo hi dd : Int) : Prop := ∃ (i : Nat) (y : Hy) (e : Int), ys[i]? = some y ∧ es[i]? = some e ∧ y.id = hy ∧ lo ≤ dd + e ∧ dd + e ≤ hi
def WitP (mn : List (Int × Int)) (merr : Int) (ys : List Hy) (es : List Int) (x : Sv) (p0 p1 p2 p3 p4 p5 dd mm : Int) : Prop :=
  ShwP ys es x.hy x.lo x.hi dd ∧ (900 ≤ dd ∧ dd ≤ 1100) ∧ bendB x p0 p1 p2 p3 p4 p5 = true ∧ fitP mn merr (p0 + p1 + 6 * p2 + 6 * p3 + p4 + p5) mm dd
theorem bend_bd {x : Sv} {p0 p1 p2 p3 p4 p5 : Int} (h : bendB x p0 p1 p2 p3 p4 p5 = true) (k : MkOk x) : (0 ≤ p0 ∧ p0 ≤ 65536) ∧ (0 ≤ p1 ∧ p1 ≤ 65536) ∧ (0 ≤ p2 ∧ p2 ≤ 65536) ∧ (0 ≤ p3 ∧ p3 ≤ 65536) ∧ (0 ≤ p4 ∧ p4 ≤ 65536) ∧ (0 ≤ p5 ∧ p5 ≤ 65536) := by
  unfold bendB at h
  simp only [Bool.and_eq_true, List.all_eq_true, List.mem_range] at h
  have h0 := h.1 0 (by omega)
  have h1 := h.1 1 (by omega)
  have h2 := h.1 2 (by omega)
  have h3 := h.1 3 (by omega)
  have h4 := h.1 4 (by omega)
  have h5 := h.1 5 (by omega)
  simp only [bdB, inB, decide_eq_true_eq] at h0 h1 h2 h3 h4 h5
  unfold MkOk at k
  omega
set_option maxRecDepth 100000 in
set_option maxHeartbeats 12800000 in
theorem witnessed_any (id light lever height : Int) (A : Option Addr) (n c : Nat) (B : Option Addr) (m d : Nat) (merr : Int) (C : Option Addr) (q r : Nat) (terr turn least : Int) (mn : List (Int × Int)) (Y : Option Addr) (ny cy : Nat) (ys : List Hy) (E : Option Addr) (ne ce : Nat) (es : List Int) (x : Sv) (p0 p1 p2 p3 p4 p5 dd mm : Int) (w : World) (hB : CAt w B m mn) (hv : Valid mn) (hme : 0 ≤ merr ∧ merr ≤ 4000) (hY : SAt encY 3 w Y ny ys) (hny : ny ≤ 1000000) (hS : SAt encI 1 w E ne es) (hne : ne ≤ 9223372036854775807) (hes : ∀ e ∈ es, -1000000 ≤ e ∧ e ≤ 1000000) (hx : MkOk x) (hm0 : 0 ≤ mm ∧ mm ≤ 65536) :
    Calls Tryz.prog 23 #[.agg (cSp id light lever height A n c B m d merr C q r terr turn least), .slice Y ny cy, .slice E ne ce, vSv x, .agg #[.int .i64 p0, .int .i64 p1, .int .i64 p2, .int .i64 p3, .int .i64 p4, .int .i64 p5], .int .i64 dd, .int .i64 mm] w fun e w' => BoolP (WitP mn merr ys es x p0 p1 p2 p3 p4 p5 dd mm) e ∧ Below w.heap.size w w' := by
  have HBe := Lib.hid (fun (u : World) => Bends_any x p0 p1 p2 p3 p4 p5 u hx)
  have HBb := Lib.hid (fun h : bendB x p0 p1 p2 p3 p4 p5 = true => bend_bd h hx)
  have HFi := Lib.hid (fun (u : World) (hu : Below w.heap.size w u) (N : Int) (hN : -2000000 ≤ N ∧ N ≤ 2000000) (hd : 900 ≤ dd ∧ dd ≤ 1100) => Fits_any id light lever height A n c B m d merr C q r terr turn least mn N mm dd u (hB.below hu) hv hme hN hm0 hd)
  have HSi := Lib.hid (fun (u : World) (h : (0 ≤ p0 ∧ p0 ≤ 65536) ∧ (0 ≤ p1 ∧ p1 ≤ 65536) ∧ (0 ≤ p2 ∧ p2 ≤ 65536) ∧ (0 ≤ p3 ∧ p3 ≤ 65536) ∧ (0 ≤ p4 ∧ p4 ≤ 65536) ∧ (0 ≤ p5 ∧ p5 ≤ 65536)) => sixteen_any p0 p1 p2 p3 p4 p5 u (by omega) (by omega) (by omega) (by omega) (by omega) (by omega))
  have HW := Lib.hid (fun (h1 : ShwP ys es x.hy x.lo x.hi dd) (h2 : 900 ≤ dd ∧ dd ≤ 1100) (h3 : bendB x p0 p1 p2 p3 p4 p5 = true) (h4 : fitF mn merr (p0 + p1 + 6 * p2 + 6 * p3 + p4 + p5) mm dd = true) => show WitP mn merr ys es x p0 p1 p2 p3 p4 p5 dd mm from ⟨h1, h2, h3, fitF_P hv.pos h4⟩)
  have HY := Lib.hid (fun (u : World) (hu : Below w.heap.size w u) => hY.below hu)
  have HS := Lib.hid (fun (u : World) (hu : Below w.heap.size w u) => hS.below hu)
  have HYl := Lib.hid hY.len
  have HSl := Lib.hid hS.len
  have HEs := Lib.hid hes
  clear hB hv hY hS hx hes
  generalize WitP mn merr ys es x p0 p1 p2 p3 p4 p5 dd mm = WP at *
  generalize hbe : bendB x p0 p1 p2 p3 p4 p5 = bb at *
  clear hbe
  obtain ⟨xi, xt, a0, b0, a1, b1, a2, b2, a3, b3, a4, b4, a5, b5, xs, xh, xl, xu⟩ := x
  dsimp only [vSv] at HBe HW ⊢
  obtain ⟨SP, hSP⟩ : ∃ SP, ShwP ys es xh xl xu dd = SP := ⟨_, rfl⟩
  have HSP := Lib.hid (show ∀ (i : Nat) (y : Hy) (e : Int), ys[i]? = some y → es[i]? = some e → y.id = xh → xl ≤ dd + e → dd + e ≤ xu → SP from fun i y e h1 h2 h3 h4 h5 => hSP ▸ ⟨i, y, e, h1, h2, h3, h4, h5⟩)
  rw [hSP] at HW
  clear hSP
  have hb0 := ((Below.refl w.heap.size w).alloc (Nat.le_refl _) (.cells (cSp id light lever height A n c B m d merr C q r terr turn least) 27)).alloc (by simp) (.cells #[.int .i64 xi, .int .i64 xt, .int .i64 a0, .int .i64 b0, .int .i64 a1, .int .i64 b1, .int .i64 a2, .int .i64 b2, .int .i64 a3, .int .i64 b3, .int .i64 a4, .int .i64 b4, .int .i64 a5, .int .i64 b5, .int .i64 xs, .int .i64 xh, .int .i64 xl, .int .i64 xu] 62)
  have hb1 := hb0.alloc (by simp; omega) (.cells #[.int .i64 p0, .int .i64 p1, .int .i64 p2, .int .i64 p3, .int .i64 p4, .int .i64 p5] 72)
  have t0 := ((Blk.new w 27 (cSp id light lever height A n c B m d merr C q r terr turn least)).alloc (.cells #[.int .i64 xi, .int .i64 xt, .int .i64 a0, .int .i64 b0, .int .i64 a1, .int .i64 b1, .int .i64 a2, .int .i64 b2, .int .i64 a3, .int .i64 b3, .int .i64 a4, .int .i64 b4, .int .i64 a5, .int .i64 b5, .int .i64 xs, .int .i64 xh, .int .i64 xl, .int .i64 xu] 62)).alloc (.cells #[.int .i64 p0, .int .i64 p1, .int .i64 p2, .int .i64 p3, .int .i64 p4, .int .i64 p5] 72)
  have x0 := (Blk.at_new (W := w.alloc (.cells (cSp id light lever height A n c B m d merr C q r terr turn least) 27)) (g := w.heap.size + 1) 62 #[.int .i64 xi, .int .i64 xt, .int .i64 a0, .int .i64 b0, .int .i64 a1, .int .i64 b1, .int .i64 a2, .int .i64 b2, .int .i64 a3, .int .i64 b3, .int .i64 a4, .int .i64 b4, .int .i64 a5, .int .i64 b5, .int .i64 xs, .int .i64 xh, .int .i64 xl, .int .i64 xu] (by simp)).alloc (.cells #[.int .i64 p0, .int .i64 p1, .int .i64 p2, .int .i64 p3, .int .i64 p4, .int .i64 p5] 72)
  have m0 := Blk.at_new (W := (w.alloc (.cells (cSp id light lever height A n c B m d merr C q r terr turn least) 27)).alloc (.cells #[.int .i64 xi, .int .i64 xt, .int .i64 a0, .int .i64 b0, .int .i64 a1, .int .i64 b1, .int .i64 a2, .int .i64 b2, .int .i64 a3, .int .i64 b3, .int .i64 a4, .int .i64 b4, .int .i64 a5, .int .i64 b5, .int .i64 xs, .int .i64 xh, .int .i64 xl, .int .i64 xu] 62)) (g := w.heap.size + 2) 72 #[.int .i64 p0, .int .i64 p1, .int .i64 p2, .int .i64 p3, .int .i64 p4, .int .i64 p5] (by simp)
  clear hb0
  go_enter Tryz.func23, Tryz.ntmps23
  go_upto_region 1 with fail
  generalize hW : ((w.alloc (.cells (cSp id light lever height A n c B m d merr C q r terr turn least) 27)).alloc (.cells #[.int .i64 xi, .int .i64 xt, .int .i64 a0, .int .i64 b0, .int .i64 a1, .int .i64 b1, .int .i64 a2, .int .i64 b2, .int .i64 a3, .int .i64 b3, .int .i64 a4, .int .i64 b4, .int .i64 a5, .int .i64 b5, .int .i64 xs, .int .i64 xh, .int .i64 xl, .int .i64 xu] 62)).alloc (.cells #[.int .i64 p0, .int .i64 p1, .int .i64 p2, .int .i64 p3, .int .i64 p4, .int .i64 p5] 72) = W at *
  clear hW
  have HT := Lib.hid t0
  have HX := Lib.hid x0
  have HM := Lib.hid m0
  have HB0 := Lib.hid hb1
  clear t0 x0 m0 hb1
  go_upto_region 3 with fail
  go_loopw [15, 16, 17, 20] (fun s _ _ i wx => ∃ k : Nat, k ≤ ny ∧ i = .int .i64 (k : Int) ∧ ∃ sh, s = .bool sh ∧ (sh = true → 900 ≤ dd → dd ≤ 1100 → SP) ∧ Below W.heap.size W wx) (fun _ _ _ i _ => ny - (intOf i).toNat)
  case atStart => exact ⟨0, Nat.zero_le _, rfl, false, rfl, fun h => (by cases h), Below.refl _ _⟩
  case round =>
    obtain ⟨k, hk, rfl, sh, rfl, hsh, hb⟩ := hrel
    have HSh := Lib.hid hsh
    have HB := Lib.hid hb
    clear hsh
    by_cases hkn : k < ny
    case pos =>
      have hbw := HB0.out.trans (hb.mono HB0.out.size)
      have hky : k < ys.length := by rw [HYl.out]; exact hkn
      obtain ⟨bY, oY, rfl, hlY⟩ := (HY.out wr hbw).at_ (by omega)
      obtain ⟨c0, c1, c2⟩ := Hys.at_ hlY (List.getElem?_eq_getElem hky)
      have cl := hlY.lt
      have HYk := Lib.hid (show ys[k]? = some ys[k] from List.getElem?_eq_getElem hky)
      clear hlY
      generalize ys[k] = yk at *
      obtain ⟨yi, yl, yu⟩ := yk
      dsimp only at *
      have b5 := below_new wr (.cells #[.int .i64 yi, .int .i64 yl, .int .i64 yu] 68)
      have hn5 := Blk.new wr 68 #[.int .i64 yi, .int .i64 yl, .int .i64 yu]
      have HB5 := Lib.hid (hb.trans (b5.mono hb.size))
      go_upto_region 5 with fail
      generalize hV : wr.alloc (.cells #[.int .i64 yi, .int .i64 yl, .int .i64 yu] 68) = V at *
      generalize hg : wr.heap.size = g17 at *
      clear hV hg hb hbw b5 c0 c1 c2 cl
      obtain ⟨z0, z1, z2, zl⟩ := cells3 hn5
      have q15 := (HX.out.below HB5.out).cell 15
      have q16 := (HX.out.below HB5.out).cell 16
      have q17 := (HX.out.below HB5.out).cell 17
      simp only [List.getElem?_toArray, List.getElem?_cons_zero, List.getElem?_cons_succ] at q15 q16 q17
      have ql := (HX.out.below HB5.out).lt
      clear hn5
      by_cases hid : yi = xh
      case neg =>
        have hidb : (yi == xh) = false := by simpa using hid
        clear hid
        go_wp2
        go_roundw
        case rel => exact ⟨k + 1, by omega, by go_num, sh, rfl, HSh.out, HB5.out⟩
        case measure => simp [intOf]; omega
      case pos =>
      have hidb : (yi == xh) = true := by simpa using hid
      have HId := Lib.hid hid
      clear hid
      by_cases hke : k < ne
      case neg =>
        have hkd : decide ((k : Int) < (ne : Int)) = false := decide_eq_false (by omega)
        go_wp2
        go_roundw
        case rel => exact ⟨k + 1, by omega, by go_num, sh, rfl, HSh.out, HB5.out⟩
        case measure => simp [intOf]; omega
      case pos =>
      have hkd : decide ((k : Int) < (ne : Int)) = true := decide_eq_true (by omega)
      have hkel : k < es.length := by rw [HSl.out]; exact hke
      obtain ⟨bE, oE, rfl, hlE⟩ := (HS.out V (HB0.out.trans (HB5.out.mono HB0.out.size))).at_ (by omega)
      have e0 := hlE.c k _ (List.getElem?_eq_getElem hkel) 0 _ rfl
      rw [Nat.mul_one, Nat.add_zero] at e0
      have el := hlE.lt
      have heb := HEs.out _ (List.getElem_mem hkel)
      have HEk := Lib.hid (show es[k]? = some es[k] from List.getElem?_eq_getElem hkel)
      clear hlE
      generalize es[k] = ek at *
      by_cases hdd : 900 ≤ dd ∧ dd ≤ 1100
      case pos =>
        obtain ⟨hd1, hd2⟩ := hdd
        go_upto_region 6 with fail
        obtain ⟨xc, xf'⟩ := xcell (W := V)
        refine wp_region_quiet_tail 10 (by kernel_rfl) (by kernel_rfl) ?_
        simp only [List.take_succ_cons, List.take_zero, List.drop_succ_cons, List.drop_zero]
        repeat (first | go_big_quiet_step ((go_at_call 10; with_reducible refine calls_ext (shows_all _ _ _ _))) | quiet_step ((go_at_call 10; with_reducible refine calls_ext (shows_all _ _ _ _))))
        refine wpQuiet_nil ?_
        intro w6 hb6
        have HB6 := Lib.hid (HB5.out.trans (hb6.mono HB5.out.size))
        clear xc xf' z0 z1 z2 zl q15 q16 q17 ql e0 el hb6
        go_wp2
        go_roundw
        case rel => exact ⟨k + 1, by omega, by go_num, _, rfl, fun h _ _ => HSP.out k _ _ HYk.out HEk.out HId.out (by have := (by simpa [inB] using h : xl ≤ dd + ek ∧ dd + ek ≤ xu); omega) (by have := (by simpa [inB] using h : xl ≤ dd + ek ∧ dd + ek ≤ xu); omega), HB6.out⟩
        case measure => simp [intOf]; omega
      case neg =>
        go_upto_region 6 with fail
        obtain ⟨xc, xf'⟩ := xcell (W := V)
        refine wp_region_quiet_tail 10 (by kernel_rfl) (by kernel_rfl) ?_
        simp only [List.take_succ_cons, List.take_zero, List.drop_succ_cons, List.drop_zero]
        repeat (first | go_big_quiet_step ((go_at_call 10; with_reducible refine calls_ext (shows_all _ _ _ _))) | quiet_step ((go_at_call 10; with_reducible refine calls_ext (shows_all _ _ _ _))))
        refine wpQuiet_nil ?_
        intro w6 hb6
        have HB6 := Lib.hid (HB5.out.trans (hb6.mono HB5.out.size))
        clear xc xf' z0 z1 z2 zl q15 q16 q17 ql e0 el hb6
        go_wp2
        go_roundw
        case rel => exact ⟨k + 1, by omega, by go_num, _, rfl, fun _ h1 h2 => absurd ⟨h1, h2⟩ hdd, HB6.out⟩
        case measure => simp [intOf]; omega
    case neg =>
      clear hb
      have hkn2 : k = ny := by omega
      subst k
      have HB7 := Lib.hid (HB0.out.trans (HB.out.mono HB0.out.size))
      have HX7 := Lib.hid (HX.out.below HB.out)
      obtain ⟨tl, s0, s1, s2, s3, s4, s5, s6, s7, s8, s9, s10⟩ := blk11 (HT.out.below HB.out)
      obtain ⟨m0, m1, m2, m3, m4, m5, ml⟩ := cells6 (HM.out.below HB.out)
      have ql := HX7.out.lt
      obtain ⟨xc, xf'⟩ := xcell (W := wr)
      go_upto_region 8 with fail
      cases sh with
      | false =>
        refine wp_region_quiet_tail 23 (by kernel_rfl) (by kernel_rfl) ?_
        simp only [List.take_succ_cons, List.take_zero, List.drop_succ_cons, List.drop_zero]
        repeat (first | go_big_quiet_step (fail) | quiet_step (fail))
        refine wpQuiet_nil ?_
        intro w7 hb7
        have HBz := Lib.hid (HB7.out.trans (hb7.mono HB7.out.size))
        go_wp2
        exact bodyPost_ret (v := .bool false) (by simp [results, Tryz.results23, go_sem]) rfl ⟨BoolP.no, HBz.out⟩
      | true =>
      by_cases h1 : 900 ≤ dd
      case neg =>
        have d1 : decide (900 ≤ dd) = false := decide_eq_false h1
        refine wp_region_quiet_tail 23 (by kernel_rfl) (by kernel_rfl) ?_
        simp only [List.take_succ_cons, List.take_zero, List.drop_succ_cons, List.drop_zero]
        repeat (first | go_big_quiet_step (fail) | quiet_step (fail))
        refine wpQuiet_nil ?_
        intro w7 hb7
        have HBz := Lib.hid (HB7.out.trans (hb7.mono HB7.out.size))
        go_wp2
        exact bodyPost_ret (v := .bool false) (by simp [results, Tryz.results23, go_sem]) rfl ⟨BoolP.no, HBz.out⟩
      have d1 : decide (900 ≤ dd) = true := decide_eq_true h1
      by_cases h2 : dd ≤ 1100
      case neg =>
        have d2 : decide (dd ≤ 1100) = false := decide_eq_false h2
        refine wp_region_quiet_tail 23 (by kernel_rfl) (by kernel_rfl) ?_
        simp only [List.take_succ_cons, List.take_zero, List.drop_succ_cons, List.drop_zero]
        repeat (first | go_big_quiet_step (fail) | quiet_step (fail))
        refine wpQuiet_nil ?_
        intro w7 hb7
        have HBz := Lib.hid (HB7.out.trans (hb7.mono HB7.out.size))
        go_wp2
        exact bodyPost_ret (v := .bool false) (by simp [results, Tryz.results23, go_sem]) rfl ⟨BoolP.no, HBz.out⟩
      have d2 : decide (dd ≤ 1100) = true := decide_eq_true h2
      cases bb with
      | false =>
        refine wp_region_quiet_tail 23 (by kernel_rfl) (by kernel_rfl) ?_
        simp only [List.take_succ_cons, List.take_zero, List.drop_succ_cons, List.drop_zero]
        repeat (first | (refine wpQuiet_load_mid rfl 62 (.tmp 10) rfl (w.heap.size + 1) 0 rfl [.int .i64 xi, .int .i64 xt, .int .i64 a0, .int .i64 b0, .int .i64 a1, .int .i64 b1, .int .i64 a2, .int .i64 b2, .int .i64 a3, .int .i64 b3, .int .i64 a4, .int .i64 b4, .int .i64 a5, .int .i64 b5, .int .i64 xs, .int .i64 xh, .int .i64 xl, .int .i64 xu] _ (fun _ hx => by obtain ⟨y, rfl⟩ := hx; exact range_blk (HX7.out.below y.below)) Tryz.underlying62 rfl info_sv ?_; simp only [Act.put, List.setIfInBounds_toArray, List.set_cons_zero, List.set_cons_succ]) | go_big_quiet_step (first | (go_at_call 44; with_reducible refine calls_ext (HBe.out _)) | (go_at_call 46; with_reducible refine calls_ext (HSi2.out _)) | (go_at_call 45; with_reducible refine calls_ext (HFi2.out _ ?_); exact HB7.out.trans ((Ext.below _).mono HB7.out.size))) | quiet_step (first | (go_at_call 44; with_reducible refine calls_ext (HBe.out _)) | (go_at_call 46; with_reducible refine calls_ext (HSi2.out _)) | (go_at_call 45; with_reducible refine calls_ext (HFi2.out _ ?_); exact HB7.out.trans ((Ext.below _).mono HB7.out.size))))
        refine wpQuiet_nil ?_
        intro w7 hb7
        have HBz := Lib.hid (HB7.out.trans (hb7.mono HB7.out.size))
        go_wp2
        exact bodyPost_ret (v := .bool false) (by simp [results, Tryz.results23, go_sem]) rfl ⟨BoolP.no, HBz.out⟩
      | true =>
        have hpb := HBb.out rfl
        have HSi2 := Lib.hid (fun u => HSi.out u hpb)
        have HFi2 := Lib.hid (fun u hu => HFi.out u hu (p0 + p1 + 6 * p2 + 6 * p3 + p4 + p5) (by omega) ⟨h1, h2⟩)
        refine wp_region_quiet_tail 23 (by kernel_rfl) (by kernel_rfl) ?_
        simp only [List.take_succ_cons, List.take_zero, List.drop_succ_cons, List.drop_zero]
        repeat (first | (refine wpQuiet_load_mid rfl 62 (.tmp 10) rfl (w.heap.size + 1) 0 rfl [.int .i64 xi, .int .i64 xt, .int .i64 a0, .int .i64 b0, .int .i64 a1, .int .i64 b1, .int .i64 a2, .int .i64 b2, .int .i64 a3, .int .i64 b3, .int .i64 a4, .int .i64 b4, .int .i64 a5, .int .i64 b5, .int .i64 xs, .int .i64 xh, .int .i64 xl, .int .i64 xu] _ (fun _ hx => by obtain ⟨y, rfl⟩ := hx; exact range_blk (HX7.out.below y.below)) Tryz.underlying62 rfl info_sv ?_; simp only [Act.put, List.setIfInBounds_toArray, List.set_cons_zero, List.set_cons_succ]) | go_big_quiet_step (first | (go_at_call 44; with_reducible refine calls_ext (HBe.out _)) | (go_at_call 46; with_reducible refine calls_ext (HSi2.out _)) | (go_at_call 45; with_reducible refine calls_ext (HFi2.out _ ?_); exact HB7.out.trans ((Ext.below _).mono HB7.out.size))) | quiet_step (first | (go_at_call 44; with_reducible refine calls_ext (HBe.out _)) | (go_at_call 46; with_reducible refine calls_ext (HSi2.out _)) | (go_at_call 45; with_reducible refine calls_ext (HFi2.out _ ?_); exact HB7.out.trans ((Ext.below _).mono HB7.out.size))))
        refine wpQuiet_nil ?_
        intro w7 hb7
        have HBz := Lib.hid (HB7.out.trans (hb7.mono HB7.out.size))
        go_wp2
        exact bodyPost_ret (v := .bool (fitF mn merr (p0 + p1 + 6 * p2 + 6 * p3 + p4 + p5) mm dd)) (by simp [results, Tryz.results23, go_sem]) rfl ⟨BoolP.of fun h => HW.out (HSh.out (by trivial) h1 h2) ⟨h1, h2⟩ (by trivial) h, HBz.out⟩
end Go.Proofs.YtgojpgggbflgoaaGreat

namespace Go.Proofs.YtgojpgggbflgoaaGreat
open Go.RowKit

/-- Block b is a map that tells of each ID whether it was met. -/
def MapB (W : World) (b n : Nat) (p : Int → Bool) : Prop :=
  ∃ D : DataW Unit, W.ownsMap Tryz.prog 3 (plainElem Tryz.prog 4) b n D ∧ Maps.IsMap D ∧ ∀ x, D.atKey (.int .i64 x) (.lit (.bool false)) = .lit (.bool (p x))
theorem int_key : Go.Maps.Keyed Tryz.prog 3 := Go.Maps.int_keyed Tryz.underlying3
theorem wf_lit {x : Int} (h : -9223372036854775808 ≤ x ∧ x ≤ 9223372036854775807) : (Lit.int .i64 x).wf = true := by
  simp [Lit.wf, IntKind.min, IntKind.max, IntKind.signed, IntKind.bits]
  omega
theorem MapB.made (w : World) : MapB (w.alloc (.map #[] 0)) w.heap.size 0 (fun _ => false) :=
  ⟨_, World.ownsMap_made _ _ _ _, Maps.isMap_empty, fun _ => rfl⟩
theorem MapB.kept {w w' : World} {b n : Nat} {p : Int → Bool} {row : Option Nat} (h : MapB w b n p) (hg : w.grownBy w' row) (hne : some b ≠ row) : MapB w' b n p := by
  obtain ⟨D, ho, h1, h2⟩ := h
  exact ⟨D, ho.kept hg hne, h1, h2⟩
theorem MapB.below {w w' : World} {b n : Nat} {p : Int → Bool} (h : MapB w b n p) (hb : Below w.heap.size w w') : MapB w' b n p := h.kept (grownBy_of_below hb) (by simp)
theorem MapB.lt {w : World} {b n : Nat} {p : Int → Bool} (h : MapB w b n p) : b < w.heap.size := by
  obtain ⟨D, ho, _⟩ := h
  exact ho.lt
theorem zero_bool (w : World) : (zeroValue 4).run Tryz.prog w = .ok (.bool false) w := by kernel_rfl
theorem plainElem_bool_inv {P : Program} {e : TypeId} (he : P.underlying e = some .bool) {v : Value} {z : DataW Unit × List MemPlace} (h : plainElem P e v = some z) : ∃ c, v = .bool c ∧ z = (.lit (.bool c), []) := by
  unfold plainElem at h
  rw [he] at h
  cases v <;> simp at h
  exact ⟨_, rfl, h.symm⟩
theorem MapB.look {w : World} {b n : Nat} {p : Int → Bool} (h : MapB w b n p) {x : Int} (hx : -9223372036854775808 ≤ x ∧ x ≤ 9223372036854775807) :
    (Instr.lookup 71 (.map (some b)) (.int .i64 x) false).run Tryz.prog w = .ok (.bool (p x)) w := by
  obtain ⟨D, ho, h1, h2⟩ := h
  obtain ⟨v, ps, hrun, hv⟩ := ho.lookup int_key Tryz.underlying71 (zero_bool w) (plainElem_bool Tryz.underlying4 false) (Go.Maps.keyOf_int_mk Tryz.underlying3 (wf_lit hx))
  obtain ⟨c, rfl, hc⟩ := plainElem_bool_inv Tryz.underlying4 hv
  rw [h2 x] at hc
  cases hc
  exact hrun
theorem lit_ne {x y : Int} (h : y ≠ x) : (Lit.int .i64 y) ≠ (Lit.int .i64 x) := fun e => h (by cases e; rfl)
theorem MapB.store {w : World} {b n : Nat} {p : Int → Bool} (h : MapB w b n p) (hn : n < 1000) {x : Int} (hx : -9223372036854775808 ≤ x ∧ x ≤ 9223372036854775807) :
    ∃ w', (Instr.mapUpdate 71 (.map (some b)) (.int .i64 x) (.bool true)).run Tryz.prog w = .ok () w' ∧ MapB w' b (n + 1) (fun y => decide (y = x) || p y) ∧ w.grownBy w' (some b) := by
  obtain ⟨D, ho, h1, h2⟩ := h
  obtain ⟨w', hrun, ho', hg⟩ := ho.update int_key Tryz.underlying71 (by unfold maxLen; omega) (Go.Maps.keyOf_int_mk Tryz.underlying3 (wf_lit hx)) (plainElem_bool Tryz.underlying4 true)
  refine ⟨w', hrun, ⟨_, ho', h1.put _ _, fun y => ?_⟩, hg⟩
  by_cases e : y = x
  · subst e
    rw [Maps.atKey_put_same h1 (show WideAt.IsKeyLit (.int .i64 y) from trivial)]
    simp
  · rw [Maps.atKey_put_other (lit_ne e), h2]
    simp [e]
theorem wpList_load_want {P : Program} {ops : Array Oper} {rest : List Oper} {o : Oper} {a : Act} {w : World} {Q : Exit → Act → World → Prop} (hw : Region.wanted o (yielded ops a.tmps) = true) (ty : TypeId) (x : Operand) (ho : o.op = .load ty x) (b off : Nat) (hx : a.eval x = .pointer (some ⟨b, off, none⟩)) (cs : List Value) (d : TypeDesc) (hc : w.rangeAt b off cs)
    (hu : P.underlying ty = some d) (hd : d.isRow = true) (hi : (P.info? ty).map (·.size) = some cs.length) (h : wpList P ops Q rest (a.put o.dst (.agg cs.toArray)) w) : wpList P ops Q (o :: rest) a w :=
  BigFrame.wpList_want hw fun _ hK => wp_load_mid ty x ho b off hx cs d hc hu hd hi (hK _ _ h)
/-- A survey with what was true when it was made. -/
structure Sg where
  sv : Sv
  p0 : Int
  p1 : Int
  p2 : Int
  p3 : Int
  p4 : Int
  p5 : Int
  dd : Int
  af : Bool
def encSg (s : Sg) : List Value := encV s.sv ++ [.int .i64 s.p0, .int .i64 s.p1, .int .i64 s.p2, .int .i64 s.p3, .int .i64 s.p4, .int .i64 s.p5, .int .i64 s.dd, .bool s.af]
theorem encSg_len (s : Sg) : (encSg s).length = 26 := rfl
theorem info_sg : (Tryz.prog.info? 74).map (·.size) = some 26 := by kernel_rfl
theorem all26 (s : Sg) : (encSg s).toArray.all (·.oneCell') = true := all_oneCell_toArray (by simp [encSg, encV, Value.oneCell'])
end Go.Proofs.YtgojpgggbflgoaaGreat

namespace Go.Proofs.YtgojpgggbflgoaaGreat
open Go.RowKit

/-- A survey that is right, and true of a ship with a mass. -/
def TruP (mn : List (Int × Int)) (merr : Int) (ys : List Hy) (gs : List Gs) (es : List Int) (mm : Int) (x : Sv) : Prop := chkA ys gs x = 0 ∧ ∃ p0 p1 p2 p3 p4 p5 dd, WitP mn merr ys es x p0 p1 p2 p3 p4 p5 dd mm
structure KnoP (mn : List (Int × Int)) (merr : Int) (ys : List Hy) (gs : List Gs) (es : List Int) (mm : Int) (l : List Sv) : Prop where
  tru : ∀ x ∈ l, TruP mn merr ys gs es mm x
  ids : (l.map Sv.id).Nodup
theorem KnoP.nil {mn : List (Int × Int)} {merr : Int} {ys : List Hy} {gs : List Gs} {es : List Int} {mm : Int} : KnoP mn merr ys gs es mm [] := ⟨fun x h => (by cases h), List.nodup_nil⟩
theorem KnoP.snoc {mn : List (Int × Int)} {merr : Int} {ys : List Hy} {gs : List Gs} {es : List Int} {mm : Int} {l : List Sv} {x : Sv} (h : KnoP mn merr ys gs es mm l) (hx : TruP mn merr ys gs es mm x) (hi : l.any (fun y => y.id == x.id) = false) : KnoP mn merr ys gs es mm (l ++ [x]) := by
  refine ⟨fun y hy => ?_, ?_⟩
  · rcases List.mem_append.1 hy with hy | hy
    · exact h.tru y hy
    · have e : y = x := by simpa using hy
      rw [e]; exact hx
  · rw [List.map_append, List.nodup_append]
    refine ⟨h.ids, by simp, fun a ha b hb => ?_⟩
    obtain ⟨y, hy, rfl⟩ := List.mem_map.1 ha
    have e : b = x.id := by simpa using hb
    rw [e]
    intro c
    rw [List.any_eq_false] at hi
    exact hi y hy (by simpa using c)
theorem chkA_zero {ys : List Hy} {gs : List Gs} {x : Sv} (h : chkA ys gs x = 0) : bulbE ys gs = 0 ∧ chkE ys gs x = 0 := by
  unfold chkA at h
  split at h
  · exact absurd h ‹_›
  · exact ⟨Classical.byContradiction fun c => ‹¬ _› c, h⟩
theorem chkE_zero {ys : List Hy} {gs : List Gs} {x : Sv} (h : chkE ys gs x = 0) : pB x 6 = true ∧ (denR ys gs x.hy x.lo x.hi).2 = 0 ∧ (exR x).2 = true := by
  unfold chkE at h
  split at h
  · exact absurd h (by decide)
  · rename_i c1
    split at h
    · exact absurd h ‹_›
    · rename_i c2
      split at h
      · exact absurd h (by decide)
      · rename_i c3
        exact ⟨by simpa using c1, Classical.byContradiction fun c => c2 c, by simpa using c3⟩
theorem info_svp : (Tryz.prog.info? 62).map (fun i => (i.zero, i.size, i.bytes)) = some (some (.agg #[.int .i64 0, .int .i64 0, .int .i64 0, .int .i64 0, .int .i64 0, .int .i64 0, .int .i64 0, .int .i64 0, .int .i64 0, .int .i64 0, .int .i64 0, .int .i64 0, .int .i64 0, .int .i64 0, .int .i64 0, .int .i64 0, .int .i64 0, .int .i64 0]), 18, 144) := by kernel_rfl
theorem MapB.same {W : World} {b n : Nat} {p p' : Int → Bool} (h : MapB W b n p) (hp : ∀ x, p' x = p x) : MapB W b n p' := by
  have : p' = p := funext hp
  rw [this]; exact h
theorem cell6 {W : World} {g : Nat} {t : TypeId} {cs : List Value} (h : Blk W g t cs.toArray) (i : Nat) : W.cell? ⟨g, i, none⟩ = cs[i]? := by rw [h.cell i]; simp
theorem hbx6 {V u : World} {g : Nat} {t : TypeId} {x0 x1 x2 x3 x4 x5 x6 x7 x8 x9 x10 x11 x12 x13 x14 x15 x16 x17 p0 p1 p2 p3 p4 p5 dd : Int} {af : Bool} (h : Blk V g t #[.int .i64 x0, .int .i64 x1, .int .i64 x2, .int .i64 x3, .int .i64 x4, .int .i64 x5, .int .i64 x6, .int .i64 x7, .int .i64 x8, .int .i64 x9, .int .i64 x10, .int .i64 x11, .int .i64 x12, .int .i64 x13, .int .i64 x14, .int .i64 x15, .int .i64 x16, .int .i64 x17, .int .i64 p0, .int .i64 p1, .int .i64 p2, .int .i64 p3, .int .i64 p4, .int .i64 p5, .int .i64 dd, .bool af]) (hb : Below V.heap.size V u) :
    Hid (u.rangeAt g 18 [.int .i64 p0, .int .i64 p1, .int .i64 p2, .int .i64 p3, .int .i64 p4, .int .i64 p5]) ∧ u.cell? ⟨g, 24, none⟩ = some (.int .i64 dd) ∧ g < u.heap.size := by
  have k := h.below hb
  refine ⟨Lib.hid fun i v hv => ?_, cell6 k 24, k.lt⟩
  rw [cell6 k (18 + i)]
  match i, hv with
  | 0, h => exact h
  | 1, h => exact h
  | 2, h => exact h
  | 3, h => exact h
  | 4, h => exact h
  | 5, h => exact h
theorem info_m6 : (Tryz.prog.info? 72).map (·.size) = some 6 := by kernel_rfl
set_option maxRecDepth 100000 in
set_option maxHeartbeats 12800000 in
theorem known_any (id light lever height : Int) (A : Option Addr) (n c : Nat) (B : Option Addr) (m d : Nat) (merr : Int) (C : Option Addr) (q r : Nat) (terr turn least : Int) (_ : List Hl) (mn _ : List (Int × Int)) (Y : Option Addr) (ny cy : Nat) (G : Option Addr) (ng cg : Nat) (ys : List Hy) (gs : List Gs) (E : Option Addr) (ne ce : Nat) (es : List Int) (T : Option Addr) (nt ct : Nat) (ss : List Sg) (after : Bool) (mm : Int) (w : World) (hB : CAt w B m mn) (hv : Valid mn) (hme : 0 ≤ merr ∧ merr ≤ 4000) (hY : SAt encY 3 w Y ny ys) (hG : SAt encG 5 w G ng gs) (hny : ny ≤ 1000000) (hng : ng ≤ 1000000) (hS : SAt encI 1 w E ne es) (hne : ne ≤ 9223372036854775807) (hes : ∀ e ∈ es, -1000000 ≤ e ∧ e ≤ 1000000) (hm0 : 0 ≤ mm ∧ mm ≤ 65536) (hT : SAt encSg 26 w T nt ss) (hnt : nt ≤ 8) (hid : ∀ s ∈ ss, -9223372036854775808 ≤ s.sv.id ∧ s.sv.id ≤ 9223372036854775807) :
    Calls Tryz.prog 7 #[.agg (cSp id light lever height A n c B m d merr C q r terr turn least), .agg #[.slice Y ny cy, .slice G ng cg], .slice E ne ce, .slice T nt ct, .bool after, .int .i64 mm] w fun e w' => (∃ L k c l, e = .returned (.slice L k c) ∧ SAt encV 18 w' L k l ∧ k ≤ 8 ∧ KnoP mn merr ys gs es mm l) ∧ Below w.heap.size w w' := by
  have HCk := Lib.hid (fun (u : World) (hu : Below w.heap.size w u) (x : Sv) => SCheck_any Y ny cy G ng cg ys gs x u (hY.below hu) (hG.below hu) (by omega) (by omega))
  have HWi := Lib.hid (fun (u : World) (hu : Below w.heap.size w u) (x : Sv) (hx : chkA ys gs x = 0) (p0 p1 p2 p3 p4 p5 dd : Int) => witnessed_any id light lever height A n c B m d merr C q r terr turn least mn Y ny cy ys E ne ce es x p0 p1 p2 p3 p4 p5 dd mm u (hB.below hu) hv hme (hY.below hu) hny (hS.below hu) hne hes (pB_ok (chkE_zero (chkA_zero hx).2).1).1 hm0)
  have HTs := Lib.hid (fun (u : World) (hu : Below w.heap.size w u) => hT.below hu)
  have HTl := Lib.hid hT.len
  have HId := Lib.hid hid
  have HTr := Lib.hid (fun (x : Sv) (h : chkA ys gs x = 0) (p0 p1 p2 p3 p4 p5 dd : Int) (h2 : WitP mn merr ys es x p0 p1 p2 p3 p4 p5 dd mm) => show TruP mn merr ys gs es mm x from ⟨h, p0, p1, p2, p3, p4, p5, dd, h2⟩)
  clear hB hv hY hG hS hT hid hes
  obtain ⟨ii, hi0, hi1, hi2, hi3⟩ := info_parts info_svp
  have hb0 := ((Below.refl w.heap.size w).alloc (Nat.le_refl _) (.cells (cSp id light lever height A n c B m d merr C q r terr turn least) 27)).alloc (by simp) (.cells #[.slice Y ny cy, .slice G ng cg] 31)
  have t0 := (Blk.new w 27 (cSp id light lever height A n c B m d merr C q r terr turn least)).alloc (.cells #[.slice Y ny cy, .slice G ng cg] 31)
  have g0 := Blk.at_new (W := w.alloc (.cells (cSp id light lever height A n c B m d merr C q r terr turn least) 27)) (g := w.heap.size + 1) 31 #[.slice Y ny cy, .slice G ng cg] (by simp)
  go_enter Tryz.func7, Tryz.ntmps7
  go_upto_region 1 with fail
  generalize hW : (w.alloc (.cells (cSp id light lever height A n c B m d merr C q r terr turn least) 27)).alloc (.cells #[.slice Y ny cy, .slice G ng cg] 31) = W at *
  have hgM : w.heap.size + 2 ≤ W.heap.size := by rw [← hW]; simp
  clear hW
  have HM0 := Lib.hid (MapB.made W)
  have bm := below_new W (.map #[] 0)
  have HT1 := Lib.hid (t0.below bm)
  have HG1 := Lib.hid (g0.below bm)
  have HB1 := Lib.hid (hb0.trans (bm.mono hb0.size))
  clear t0 g0 hb0
  have hmm := @run_makeMap Tryz.prog
  go_upto_region 3 with fail
  clear hmm
  generalize hV1 : W.alloc (.map #[] 0) = V1 at *
  have hVs : W.heap.size + 1 ≤ V1.heap.size := by rw [← hV1]; simp
  generalize hgm : W.heap.size = gM at *
  clear hV1 hgm bm
  go_upto_region 4 with fail
  go_loopw [13, 16, 20] (fun v _ i wx => ∃ j : Nat, j ≤ nt ∧ i = .int .i64 (j : Int) ∧ ∃ l : List Sv, l.length ≤ j ∧ wx.ownsRow (gM + 1) 62 18 v l.length (l.flatMap encV) ∧ MapB wx gM l.length (fun y => l.any (fun z => z.id == y)) ∧ KnoP mn merr ys gs es mm l ∧ Below gM V1 wx) (fun _ _ i _ => nt - (intOf i).toNat)
  case atStart => exact ⟨0, Nat.zero_le _, rfl, [], Nat.zero_le _, by simpa using World.ownsRow_nil _ _ _ _, HM0.out, KnoP.nil, Below.refl _ _⟩
  case round =>
    obtain ⟨j, hj, rfl, l, hlj, how, hmp, hkp, hb⟩ := hrel
    have HOw := Lib.hid how
    have HMp := Lib.hid hmp
    have HKp := Lib.hid hkp
    have HB := Lib.hid hb
    obtain ⟨Ao, co, rfl⟩ := owns_slice how
    have hws := hb.size
    have hbw : Below w.heap.size w wr := HB1.out.trans (hb.mono (by omega))
    by_cases hjn : j < nt
    case neg =>
      have hjn2 : j = nt := by omega
      subst j
      obtain ⟨L, k, eL, hsL, _, _⟩ := SAt_of_row encV_len rfl how
      obtain ⟨e1, e2⟩ : Ao = L ∧ co = k := by simpa using eL
      subst e1 e2
      have HSl := Lib.hid hsL
      have HBw := Lib.hid hbw
      clear how hmp hkp hb eL hsL hbw
      go_wp2
      exact bodyPost_ret (v := .slice Ao l.length co) (by simp [results, Tryz.results7, go_sem]) rfl ⟨⟨_, _, _, _, rfl, HSl.out, by omega, HKp.out⟩, HBw.out⟩
    case pos =>
      have hjl : j < ss.length := by rw [HTl.out]; exact hjn
      obtain ⟨b, off, rfl, hls⟩ := (HTs.out wr hbw).at_ (by omega)
      have hra : wr.rangeAt b (off + j * 26) (encSg ss[j]) := fun i v hv => hls.c j _ (List.getElem?_eq_getElem hjl) i v hv
      have cl := hls.lt
      have hidb := HId.out _ (List.getElem_mem hjl)
      have hal := all26 ss[j]
      clear hls how hmp hkp
      generalize ss[j] = s at *
      obtain ⟨⟨x0, x1, x2, x3, x4, x5, x6, x7, x8, x9, x10, x11, x12, x13, x14, x15, x16, x17⟩, p0, p1, p2, p3, p4, p5, dd, af⟩ := s
      dsimp only [encSg, encV, List.cons_append, List.nil_append] at hra hidb hal
      have HRa := Lib.hid hra
      have HAl := Lib.hid hal
      clear hra hal
      have bx := below_new wr (.cells #[.int .i64 x0, .int .i64 x1, .int .i64 x2, .int .i64 x3, .int .i64 x4, .int .i64 x5, .int .i64 x6, .int .i64 x7, .int .i64 x8, .int .i64 x9, .int .i64 x10, .int .i64 x11, .int .i64 x12, .int .i64 x13, .int .i64 x14, .int .i64 x15, .int .i64 x16, .int .i64 x17, .int .i64 p0, .int .i64 p1, .int .i64 p2, .int .i64 p3, .int .i64 p4, .int .i64 p5, .int .i64 dd, .bool af] 74)
      have hbx := Blk.new wr 74 #[.int .i64 x0, .int .i64 x1, .int .i64 x2, .int .i64 x3, .int .i64 x4, .int .i64 x5, .int .i64 x6, .int .i64 x7, .int .i64 x8, .int .i64 x9, .int .i64 x10, .int .i64 x11, .int .i64 x12, .int .i64 x13, .int .i64 x14, .int .i64 x15, .int .i64 x16, .int .i64 x17, .int .i64 p0, .int .i64 p1, .int .i64 p2, .int .i64 p3, .int .i64 p4, .int .i64 p5, .int .i64 dd, .bool af]
      go_upto_region 6 with (first | (refine wpList_load_mid rfl 74 (.tmp 22) rfl b (off + j * 26) rfl [.int .i64 x0, .int .i64 x1, .int .i64 x2, .int .i64 x3, .int .i64 x4, .int .i64 x5, .int .i64 x6, .int .i64 x7, .int .i64 x8, .int .i64 x9, .int .i64 x10, .int .i64 x11, .int .i64 x12, .int .i64 x13, .int .i64 x14, .int .i64 x15, .int .i64 x16, .int .i64 x17, .int .i64 p0, .int .i64 p1, .int .i64 p2, .int .i64 p3, .int .i64 p4, .int .i64 p5, .int .i64 dd, .bool af] _ HRa.out Tryz.underlying74 rfl info_sg ?_) | (refine wpList_store_new rfl 74 (.tmp 16) (.tmp 23) rfl _ #[.int .i64 x0, .int .i64 x1, .int .i64 x2, .int .i64 x3, .int .i64 x4, .int .i64 x5, .int .i64 x6, .int .i64 x7, .int .i64 x8, .int .i64 x9, .int .i64 x10, .int .i64 x11, .int .i64 x12, .int .i64 x13, .int .i64 x14, .int .i64 x15, .int .i64 x16, .int .i64 x17, .int .i64 p0, .int .i64 p1, .int .i64 p2, .int .i64 p3, .int .i64 p4, .int .i64 p5, .int .i64 dd, .bool af] rfl rfl info_sg rfl HAl.out ?_))
      have HOw5 := Lib.hid (owns_below HOw.out bx)
      have HMp5 := Lib.hid (HMp.out.below bx)
      have HB5 := Lib.hid (hb.trans (bx.mono (by omega)))
      have hg16 : gM < wr.heap.size := by omega
      generalize hV : wr.alloc (.cells #[.int .i64 x0, .int .i64 x1, .int .i64 x2, .int .i64 x3, .int .i64 x4, .int .i64 x5, .int .i64 x6, .int .i64 x7, .int .i64 x8, .int .i64 x9, .int .i64 x10, .int .i64 x11, .int .i64 x12, .int .i64 x13, .int .i64 x14, .int .i64 x15, .int .i64 x16, .int .i64 x17, .int .i64 p0, .int .i64 p1, .int .i64 p2, .int .i64 p3, .int .i64 p4, .int .i64 p5, .int .i64 dd, .bool af] 74) = V at *
      have hgV : wr.heap.size < V.heap.size := by rw [← hV]; simp
      generalize hg : wr.heap.size = g16 at *
      clear hV hg hb hbw bx cl HRa HAl HOw HMp hws
      have hmV := HMp5.out.look hidb
      have hbV : Below w.heap.size w V := HB1.out.trans (HB5.out.mono (by omega))
      have q0 := cell6 hbx 0
      have q24 := cell6 hbx 24
      have q25 := cell6 hbx 25
      simp only [List.getElem?_cons_zero, List.getElem?_cons_succ] at q0 q24 q25
      have HBx := Lib.hid hbx
      have HBV := Lib.hid hbV
      have ql := hbx.lt
      clear hbx hbV
      cases ha : (af == after) with
      | false =>
        clear hmV
        go_wp2
        go_roundw
        case rel => exact ⟨j + 1, by omega, by go_num, l, by omega, HOw5.out, HMp5.out, HKp.out, HB5.out⟩
        case measure => simp [intOf]; omega
      | true =>
      cases hp : l.any (fun z => z.id == x0) with
      | true =>
        rw [hp] at hmV
        go_wp2
        go_roundw
        case rel => exact ⟨j + 1, by omega, by go_num, l, by omega, HOw5.out, HMp5.out, HKp.out, HB5.out⟩
        case measure => simp [intOf]; omega
      | false =>
      rw [hp] at hmV
      have HPf := Lib.hid hp
      clear hp
      have HC := Lib.hid (HCk.out V HBV.out ⟨x0, x1, x2, x3, x4, x5, x6, x7, x8, x9, x10, x11, x12, x13, x14, x15, x16, x17⟩)
      have HWx := Lib.hid (fun (u : World) (hu : Below w.heap.size w u) (h : chkA ys gs ⟨x0, x1, x2, x3, x4, x5, x6, x7, x8, x9, x10, x11, x12, x13, x14, x15, x16, x17⟩ = 0) => HWi.out u hu ⟨x0, x1, x2, x3, x4, x5, x6, x7, x8, x9, x10, x11, x12, x13, x14, x15, x16, x17⟩ h p0 p1 p2 p3 p4 p5 dd)
      have HTx := Lib.hid (fun (h : chkA ys gs ⟨x0, x1, x2, x3, x4, x5, x6, x7, x8, x9, x10, x11, x12, x13, x14, x15, x16, x17⟩ = 0) => HTr.out ⟨x0, x1, x2, x3, x4, x5, x6, x7, x8, x9, x10, x11, x12, x13, x14, x15, x16, x17⟩ h p0 p1 p2 p3 p4 p5 dd)
      dsimp only [vSv] at HC HWx
      have HRx := Lib.hid (show V.rangeAt g16 0 [.int .i64 x0, .int .i64 x1, .int .i64 x2, .int .i64 x3, .int .i64 x4, .int .i64 x5, .int .i64 x6, .int .i64 x7, .int .i64 x8, .int .i64 x9, .int .i64 x10, .int .i64 x11, .int .i64 x12, .int .i64 x13, .int .i64 x14, .int .i64 x15, .int .i64 x16, .int .i64 x17] from fun i v hv => by
        rw [Nat.zero_add, cell6 HBx.out i]
        match i, hv with
        | 0, h => exact h
        | 1, h => exact h
        | 2, h => exact h
        | 3, h => exact h
        | 4, h => exact h
        | 5, h => exact h
        | 6, h => exact h
        | 7, h => exact h
        | 8, h => exact h
        | 9, h => exact h
        | 10, h => exact h
        | 11, h => exact h
        | 12, h => exact h
        | 13, h => exact h
        | 14, h => exact h
        | 15, h => exact h
        | 16, h => exact h
        | 17, h => exact h)
      obtain ⟨y0, y1, yl⟩ := cells2 (HG1.out.under HB5.out (by omega))
      by_cases hck : chkA ys gs ⟨x0, x1, x2, x3, x4, x5, x6, x7, x8, x9, x10, x11, x12, x13, x14, x15, x16, x17⟩ = 0
      case neg =>
        have hckb : (chkA ys gs ⟨x0, x1, x2, x3, x4, x5, x6, x7, x8, x9, x10, x11, x12, x13, x14, x15, x16, x17⟩ == 0) = false := by simpa using hck
        generalize chkA ys gs ⟨x0, x1, x2, x3, x4, x5, x6, x7, x8, x9, x10, x11, x12, x13, x14, x15, x16, x17⟩ = ck at *
        go_wp2_with (refine wpList_load_want rfl 62 (.tmp 38) rfl g16 0 rfl [.int .i64 x0, .int .i64 x1, .int .i64 x2, .int .i64 x3, .int .i64 x4, .int .i64 x5, .int .i64 x6, .int .i64 x7, .int .i64 x8, .int .i64 x9, .int .i64 x10, .int .i64 x11, .int .i64 x12, .int .i64 x13, .int .i64 x14, .int .i64 x15, .int .i64 x16, .int .i64 x17] _ HRx.out Tryz.underlying62 rfl info_sv ?_)
        (with_reducible refine HC.out.mono ?_)
        rintro e u1 ⟨rfl, hb1⟩
        clear HRx hmV q0 q24 q25 HTx HWx HBx y0 y1 yl
        go_wp2
        go_roundw
        case rel => exact ⟨j + 1, by omega, by go_num, l, by omega, owns_below HOw5.out hb1, HMp5.out.below hb1, HKp.out, HB5.out.trans (hb1.mono (by omega))⟩
        case measure => simp [intOf]; omega
      case pos =>
      have HTx2 := Lib.hid (HTx.out hck)
      have HWy := Lib.hid (fun (u : World) (hu : Below w.heap.size w u) => HWx.out u hu hck)
      rw [hck] at HC
      clear hck HTx HWx
      have HS5 := Lib.hid (fun (u : World) (hu : Below V.heap.size V u) => range_blk (cs := [.int .i64 id, .int .i64 light, .int .i64 lever, .int .i64 height, .slice A n c, .slice B m d, .int .i64 merr, .slice C q r, .int .i64 terr, .int .i64 turn, .int .i64 least]) (HT1.out.under (HB5.out.trans (hu.mono (by omega))) (by omega)))
      have HG5 := Lib.hid (fun (u : World) (hu : Below V.heap.size V u) => cells2 (HG1.out.under (HB5.out.trans (hu.mono (by omega))) (by omega)))
      go_wp2_with (refine wpList_load_want rfl 62 (.tmp 38) rfl g16 0 rfl [.int .i64 x0, .int .i64 x1, .int .i64 x2, .int .i64 x3, .int .i64 x4, .int .i64 x5, .int .i64 x6, .int .i64 x7, .int .i64 x8, .int .i64 x9, .int .i64 x10, .int .i64 x11, .int .i64 x12, .int .i64 x13, .int .i64 x14, .int .i64 x15, .int .i64 x16, .int .i64 x17] _ HRx.out Tryz.underlying62 rfl info_sv ?_)
      (with_reducible refine HC.out.mono ?_)
      rintro e u1 ⟨rfl, hb1⟩
      have HRs := Lib.hid (HS5.out _ hb1)
      obtain ⟨y0, y1, yl⟩ := HG5.out _ hb1
      have HRy := Lib.hid (show u1.rangeAt g16 0 [.int .i64 x0, .int .i64 x1, .int .i64 x2, .int .i64 x3, .int .i64 x4, .int .i64 x5, .int .i64 x6, .int .i64 x7, .int .i64 x8, .int .i64 x9, .int .i64 x10, .int .i64 x11, .int .i64 x12, .int .i64 x13, .int .i64 x14, .int .i64 x15, .int .i64 x16, .int .i64 x17] from fun i v hv => (hb1.cell (p := ⟨g16, 0 + i, none⟩) ql).trans (HRx.out i v hv))
      obtain ⟨HRm, q24, ql2⟩ := hbx6 HBx.out hb1
      go_wp2_with (first | (refine wpList_load_want rfl 27 (.tmp 6) rfl w.heap.size 0 rfl [.int .i64 id, .int .i64 light, .int .i64 lever, .int .i64 height, .slice A n c, .slice B m d, .int .i64 merr, .slice C q r, .int .i64 terr, .int .i64 turn, .int .i64 least] _ HRs.out Tryz.underlying27 rfl info_ship ?_) | (refine wpList_load_want rfl 72 (.tmp 50) rfl g16 18 rfl [.int .i64 p0, .int .i64 p1, .int .i64 p2, .int .i64 p3, .int .i64 p4, .int .i64 p5] _ HRm.out Tryz.underlying72 rfl info_m6 ?_) | (refine wpList_load_want rfl 62 (.tmp 48) rfl g16 0 rfl [.int .i64 x0, .int .i64 x1, .int .i64 x2, .int .i64 x3, .int .i64 x4, .int .i64 x5, .int .i64 x6, .int .i64 x7, .int .i64 x8, .int .i64 x9, .int .i64 x10, .int .i64 x11, .int .i64 x12, .int .i64 x13, .int .i64 x14, .int .i64 x15, .int .i64 x16, .int .i64 x17] _ HRy.out Tryz.underlying62 rfl info_sv ?_))
      (with_reducible refine (HWy.out u1 (HBV.out.trans (hb1.mono HBV.out.size)) ).mono ?_)
      rintro e u2 ⟨⟨bw, rfl, hwb⟩, hb2⟩
      have hb12 := hb1.trans (hb2.mono hb1.size)
      have HOw6 := Lib.hid (owns_below HOw5.out hb12)
      have hmp6 := HMp5.out.below hb12
      have HB6 := Lib.hid (HB5.out.trans (hb12.mono (by omega)))
      have HBx6 := Lib.hid (HBx.out.below hb12)
      have hl6 : V.heap.size ≤ u2.heap.size := hb12.size
      clear q0 q24 q25 ql ql2 y0 y1 yl hb1 hb2 hb12 hmV HRs HRy HRm HRx HS5 HG5 HC HWy HMp5 HOw5 HB5
      cases bw with
      | false =>
        have HM6 := Lib.hid hmp6
        clear hmp6
        go_wp2
        go_roundw
        case rel => exact ⟨j + 1, by omega, by go_num, l, by omega, HOw6.out, HM6.out, HKp.out, HB6.out⟩
        case measure => simp [intOf]; omega
      | true =>
        have HKq := Lib.hid (HKp.out.snoc (HTx2.out (hwb (by trivial))) HPf.out)
        obtain ⟨w7, hst, hmp7, hg7⟩ := hmp6.store (by omega) hidb
        have HM7 := Lib.hid hmp7
        have HBx7 := Lib.hid (HBx6.out.grown hg7 (by intro e; have := Option.some.inj e; omega))
        have HOw7 := Lib.hid (owns_grown HOw6.out hg7 (fun g hg e => by have := (own_lt HOw6.out hg).1; have := Option.some.inj e; omega))
        have HB7 := Lib.hid (HB6.out.trans (below_of_grown hg7 (by omega) (fun g e => by have := Option.some.inj e; omega)))
        have hl7 : u2.heap.size ≤ w7.heap.size := hg7.size
        have q0 := cell6 HBx6.out 0
        simp only [List.getElem?_cons_zero] at q0
        have ql := HBx6.out.lt
        have HR7 := Lib.hid (show w7.rangeAt g16 0 [.int .i64 x0, .int .i64 x1, .int .i64 x2, .int .i64 x3, .int .i64 x4, .int .i64 x5, .int .i64 x6, .int .i64 x7, .int .i64 x8, .int .i64 x9, .int .i64 x10, .int .i64 x11, .int .i64 x12, .int .i64 x13, .int .i64 x14, .int .i64 x15, .int .i64 x16, .int .i64 x17] from fun i v hv => by
          rw [Nat.zero_add, cell6 HBx7.out i]
          match i, hv with
          | 0, h => exact h
          | 1, h => exact h
          | 2, h => exact h
          | 3, h => exact h
          | 4, h => exact h
          | 5, h => exact h
          | 6, h => exact h
          | 7, h => exact h
          | 8, h => exact h
          | 9, h => exact h
          | 10, h => exact h
          | 11, h => exact h
          | 12, h => exact h
          | 13, h => exact h
          | 14, h => exact h
          | 15, h => exact h
          | 16, h => exact h
          | 17, h => exact h)
        clear hmp6 hmp7 hg7 hwb HOw6 HTx2
        have bn := below_new w7 (.cells #[.int .i64 x0, .int .i64 x1, .int .i64 x2, .int .i64 x3, .int .i64 x4, .int .i64 x5, .int .i64 x6, .int .i64 x7, .int .i64 x8, .int .i64 x9, .int .i64 x10, .int .i64 x11, .int .i64 x12, .int .i64 x13, .int .i64 x14, .int .i64 x15, .int .i64 x16, .int .i64 x17] 62)
        have HOw8 := Lib.hid (owns_below HOw7.out bn)
        have HM8 := Lib.hid (HM7.out.below bn)
        have HB8 := Lib.hid (HB7.out.trans (bn.mono (by omega)))
        have HN8 := Lib.hid (range_blk (cs := [.int .i64 x0, .int .i64 x1, .int .i64 x2, .int .i64 x3, .int .i64 x4, .int .i64 x5, .int .i64 x6, .int .i64 x7, .int .i64 x8, .int .i64 x9, .int .i64 x10, .int .i64 x11, .int .i64 x12, .int .i64 x13, .int .i64 x14, .int .i64 x15, .int .i64 x16, .int .i64 x17]) (Blk.new w7 62 #[.int .i64 x0, .int .i64 x1, .int .i64 x2, .int .i64 x3, .int .i64 x4, .int .i64 x5, .int .i64 x6, .int .i64 x7, .int .i64 x8, .int .i64 x9, .int .i64 x10, .int .i64 x11, .int .i64 x12, .int .i64 x13, .int .i64 x14, .int .i64 x15, .int .i64 x16, .int .i64 x17]))
        clear bn
        go_wp2_with (first | (refine wpList_load_mid rfl 62 (.tmp 62) rfl g16 0 rfl [.int .i64 x0, .int .i64 x1, .int .i64 x2, .int .i64 x3, .int .i64 x4, .int .i64 x5, .int .i64 x6, .int .i64 x7, .int .i64 x8, .int .i64 x9, .int .i64 x10, .int .i64 x11, .int .i64 x12, .int .i64 x13, .int .i64 x14, .int .i64 x15, .int .i64 x16, .int .i64 x17] _ HR7.out Tryz.underlying62 rfl info_sv ?_) | (at_builtin; go_loud (refine wpList_append_own_at _ rfl (.tmp 61) (.tmp 64) 39 rfl (gM + 1) 62 ii (.agg #[.int .i64 0, .int .i64 0, .int .i64 0, .int .i64 0, .int .i64 0, .int .i64 0, .int .i64 0, .int .i64 0, .int .i64 0, .int .i64 0, .int .i64 0, .int .i64 0, .int .i64 0, .int .i64 0, .int .i64 0, .int .i64 0, .int .i64 0, .int .i64 0]) 18 144 Tryz.underlying39 hi0 hi1 hi2 hi3 rfl (by decide) _ l.length (l.flatMap encV) rfl HOw8.out ⟨w7.heap.size, 0, none⟩ 1 1 [.int .i64 x0, .int .i64 x1, .int .i64 x2, .int .i64 x3, .int .i64 x4, .int .i64 x5, .int .i64 x6, .int .i64 x7, .int .i64 x8, .int .i64 x9, .int .i64 x10, .int .i64 x11, .int .i64 x12, .int .i64 x13, .int .i64 x14, .int .i64 x15, .int .i64 x16, .int .i64 x17] rfl rfl (fun i u h => by rw [Addr.add_mid]; exact HN8.out i u h) (one_intsL [x0, x1, x2, x3, x4, x5, x6, x7, x8, x9, x10, x11, x12, x13, x14, x15, x16, x17]) (by unfold maxLen; omega) (by omega) (by simp; omega) ?_)))
        intro v' w9 ho hgr _ hbl
        obtain ⟨g5, c5, rfl⟩ := ownsRow_succ ho
        have HO := Lib.hid ho
        have HM9 := Lib.hid (HM8.out.kept hgr (fun e => by have := (own_lt HOw8.out e.symm).1; omega))
        have HB9 := Lib.hid (HB8.out.trans (below_of_grown hgr (by simp; omega) (fun g hg => by have := (own_lt HOw8.out hg).1; omega)))
        clear ho hgr hbl
        go_wp2
        go_roundw
        case rel => exact ⟨j + 1, by omega, by go_num, l ++ [⟨x0, x1, x2, x3, x4, x5, x6, x7, x8, x9, x10, x11, x12, x13, x14, x15, x16, x17⟩], by simp; omega, by rw [List.flatMap_append, List.length_append]; exact HO.out, by
          have h := HM9.out
          rw [List.length_append]
          exact MapB.same h fun y => by
            rw [List.any_append]
            simp only [List.any_cons, List.any_nil, Bool.or_false]
            rw [Bool.or_comm]
            congr 1
            by_cases e : y = x0
            · subst e; simp
            · have : ¬ x0 = y := fun c => e c.symm
              simp [e, this], HKq.out, HB9.out⟩
        case measure => simp [intOf]; omega
end Go.Proofs.YtgojpgggbflgoaaGreat

namespace Go.Proofs.YtgojpgggbflgoaaGreat
open Go.RowKit

theorem inB_meet (a b c d k : Int) : inB k (max a c) (min b d) = (inB k a b && inB k c d) := by
  unfold inB
  rw [← Bool.decide_and]
  exact decide_eq_decide.2 (by omega)
theorem togF_all {light R : Int} {mn : List (Int × Int)} {merr : Int} {ys : List Hy} {gs : List Gs} (k : Int) : ∀ (l : List Sv) (s : Int × Int), inB k (l.foldl (togF light R mn merr ys gs) s).1 (l.foldl (togF light R mn merr ys gs) s).2 = (inB k s.1 s.2 && l.all fun x => inB k (maS light R mn merr ys gs x).1 (maS light R mn merr ys gs x).2)
  | [], s => by simp
  | x :: t, s => by
    rw [List.foldl_cons, togF_all k t]
    show (inB k (max s.1 (maS light R mn merr ys gs x).1) (min s.2 (maS light R mn merr ys gs x).2) && _) = _
    rw [inB_meet, Bool.and_assoc]
    rfl
theorem tog_all {light R : Int} {mn : List (Int × Int)} {merr : Int} {ys : List Hy} {gs : List Gs} (k : Int) (l : List Sv) (hl : 0 < l.length) : (l.all fun x => inB k (maS light R mn merr ys gs x).1 (maS light R mn merr ys gs x).2) = inB k (togS light R mn merr ys gs l).1 (togS light R mn merr ys gs l).2 := by
  unfold togS
  rw [togF_all]
  cases h : (l.all fun x => inB k (maS light R mn merr ys gs x).1 (maS light R mn merr ys gs x).2) with
  | false => simp
  | true =>
    match l, hl with
    | x :: t, _ =>
      rw [List.all_cons, Bool.and_eq_true] at h
      have h1 : (maS light R mn merr ys gs x).1 ≤ k ∧ k ≤ (maS light R mn merr ys gs x).2 := by simpa [inB] using h.1
      unfold maS at h1
      dsimp only at h1
      simp [inB]
      omega
set_option maxRecDepth 100000 in
set_option maxHeartbeats 12800000 in
theorem contained_any (id light lever height : Int) (A : Option Addr) (n c : Nat) (B : Option Addr) (m d : Nat) (merr : Int) (C : Option Addr) (q r : Nat) (terr turn least : Int) (hs : List Hl) (mn mt : List (Int × Int)) (Y : Option Addr) (ny cy : Nat) (G : Option Addr) (ng cg : Nat) (ys : List Hy) (gs : List Gs) (Lv : Option Addr) (nv cv : Nat) (l : List Sv) (mm : Int) (w : World) (hA : SAt encL 4 w A n hs) (hB : CAt w B m mn) (hC : CAt w C q mt) (hn : n ≤ 9223372036854775807) (hm : m ≤ 9223372036854775807) (hq : q ≤ 9223372036854775807) (hc : n ≤ c) (hE : shipE id light lever height turn least hs mn merr mt terr = 0) (hY : SAt encY 3 w Y ny ys) (hG : SAt encG 5 w G ng gs) (hny : ny ≤ 1000000) (hng : ng ≤ 1000000) (hbu : bulbE ys gs = 0) (hV : SAt encV 18 w Lv nv l) (hvo : LvOk ys gs l) (hl : ∀ x ∈ l, MaOk mn merr ys gs x) (hle : (togS light (roomS light hs) mn merr ys gs l).1 ≤ (togS light (roomS light hs) mn merr ys gs l).2) (hmm : (togS light (roomS light hs) mn merr ys gs l).1 ≤ mm ∧ mm ≤ (togS light (roomS light hs) mn merr ys gs l).2) :
    Calls Tryz.prog 8 #[.agg (cSp id light lever height A n c B m d merr C q r terr turn least), .agg #[.slice Y ny cy, .slice G ng cg], .slice Lv nv cv, .int .i64 mm] w fun e w' => e = .returned (.bool true) ∧ Below w.heap.size w w' := by
  have hok := shipE_zero hE
  have hnv := hvo.len hV
  have htb := togS_bd l hle
  have hlb := hok.lightB
  have hrb := hok.rooms
  have HTg := Lib.hid (fun (u : World) (hu : Below w.heap.size w u) => Together_any id light lever height A n c B m d merr C q r terr turn least hs mn mt Y ny cy G ng cg ys gs Lv nv cv l u (hA.below hu) (hB.below hu) (hC.below hu) hn hm hq hc hE (hY.below hu) (hG.below hu) hny hng hbu (hV.below hu) hvo hl hle)
  have HPo := Lib.hid (fun (u : World) (hu : Below w.heap.size w u) (x : Sv) (hx : x ∈ l) (k : Int) => Possible_any id light lever height A n c B m d merr C q r terr turn least hs mn mt Y ny cy G ng cg ys gs x k u (hA.below hu) (hB.below hu) (hC.below hu) hn hm hq hc hE (hY.below hu) (hG.below hu) hny hng (by unfold chkA; rw [hbu]; simpa using hvo.chk x hx) hbu (hl x hx))
  have HAl := Lib.hid (fun k => tog_all (light := light) (R := roomS light hs) (mn := mn) (merr := merr) (ys := ys) (gs := gs) k l hvo.pos)
  have HVs := Lib.hid (fun (u : World) (hu : Below w.heap.size w u) => hV.below hu)
  have HLn := Lib.hid hV.len
  clear hA hB hC hE hY hG hbu hV hvo hl hok
  generalize togS light (roomS light hs) mn merr ys gs l = S at *
  obtain ⟨S1, S2⟩ := S
  dsimp only at hle hmm htb HTg HAl ⊢
  have him : inB mm S1 S2 = true := by simpa [inB] using hmm
  have hb0 := ((Below.refl w.heap.size w).alloc (Nat.le_refl _) (.cells (cSp id light lever height A n c B m d merr C q r terr turn least) 27)).alloc (by simp) (.cells #[.slice Y ny cy, .slice G ng cg] 31)
  have t0 := (Blk.new w 27 (cSp id light lever height A n c B m d merr C q r terr turn least)).alloc (.cells #[.slice Y ny cy, .slice G ng cg] 31)
  have g0 := Blk.at_new (W := w.alloc (.cells (cSp id light lever height A n c B m d merr C q r terr turn least) 27)) (g := w.heap.size + 1) 31 #[.slice Y ny cy, .slice G ng cg] (by simp)
  go_enter Tryz.func8, Tryz.ntmps8
  go_upto_region 1 with fail
  generalize hW : (w.alloc (.cells (cSp id light lever height A n c B m d merr C q r terr turn least) 27)).alloc (.cells #[.slice Y ny cy, .slice G ng cg] 31) = W at *
  clear hW
  have HT0 := Lib.hid t0
  have HG0 := Lib.hid g0
  have HB0 := Lib.hid hb0
  obtain ⟨tl, s0, s1, s2, s3, s4, s5, s6, s7, s8, s9, s10⟩ := blk11 t0
  obtain ⟨y0, y1, yl⟩ := cells2 g0
  clear t0 g0 hb0
  go_upto_region 2 with (go_at_call 15; (with_reducible refine (HTg.out _ HB0.out).mono ?_); rintro e u1 ⟨rfl, hb1⟩)
  have bq := below_new u1 (.cells #[.int .i64 S1, .int .i64 S2] 43)
  have bn := hb1.trans (bq.mono hb1.size)
  have HT1 := Lib.hid (HT0.out.below bn)
  have HG1 := Lib.hid (HG0.out.below bn)
  have HB1 := Lib.hid (HB0.out.trans (bn.mono HB0.out.size))
  have HN1 := Lib.hid (Blk.new u1 43 #[.int .i64 S1, .int .i64 S2])
  generalize hVv : u1.alloc (.cells #[.int .i64 S1, .int .i64 S2] 43) = V at *
  generalize hg : u1.heap.size = g9 at *
  clear hVv hg bq bn hb1 tl s0 s1 s2 s3 s4 s5 s6 s7 s8 s9 s10 y0 y1 yl HT0 HG0 HB0 HTg
  obtain ⟨z0, z1, zl⟩ := cells2 HN1.out
  have HSh := Lib.hid (shows_all S1 S2 mm V)
  rw [him] at HSh
  go_upto_region 4 with (go_at_call 10; (with_reducible refine HSh.out.mono ?_); rintro e u2 ⟨rfl, hb2⟩)
  have HT2 := Lib.hid (HT1.out.below hb2)
  have HG2 := Lib.hid (HG1.out.below hb2)
  have HB2 := Lib.hid (HB1.out.trans (hb2.mono HB1.out.size))
  have HN2 := Lib.hid (HN1.out.below hb2)
  clear hb2 z0 z1 zl HT1 HG1 HB1 HN1 HSh
  obtain ⟨z0, z1, zl⟩ := cells2 HN2.out
  have b4 := below_new u2 (.cells #[.int .i64 (S1 - 1), .int .i64 S1, .int .i64 S2, .int .i64 (S2 + 1)] 3)
  have HT3 := Lib.hid (HT2.out.below b4)
  have HG3 := Lib.hid (HG2.out.below b4)
  have HB3 := Lib.hid (HB2.out.trans (b4.mono HB2.out.size))
  have HN3 := Lib.hid (HN2.out.below b4)
  have HQ3 := Lib.hid (Blk.new u2 3 #[.int .i64 (S1 - 1), .int .i64 S1, .int .i64 S2, .int .i64 (S2 + 1)])
  clear b4
  go_upto_region 5 with fail
  generalize hV3 : u2.alloc (.cells #[.int .i64 (S1 - 1), .int .i64 S1, .int .i64 S2, .int .i64 (S2 + 1)] 3) = V3 at *
  generalize hg3 : u2.heap.size = gq at *
  clear hV3 hg3 z0 z1 zl HT2 HG2 HB2 HN2
  go_loopw [8, 12, 13, 15, 16, 17, 45, 51] (fun _ _ _ _ _ _ i _ wx => ∃ k : Nat, k ≤ 4 ∧ i = .int .i64 (k : Int) ∧ Below V3.heap.size V3 wx) (fun _ _ _ _ _ _ i _ _ => 4 - (intOf i).toNat)
  case atStart => exact ⟨0, by omega, rfl, Below.refl _ _⟩
  case round =>
    obtain ⟨k, hk, rfl, hb⟩ := hrel
    have HB := Lib.hid hb
    by_cases hk4 : k < 4
    case neg =>
      have hk5 : k = 4 := by omega
      subst k
      clear hb
      go_wp2
      exact bodyPost_ret (v := .bool true) (by simp [results, Tryz.results8, go_sem]) rfl ⟨rfl, HB3.out.trans (HB.out.mono HB3.out.size)⟩
    case pos =>
      obtain ⟨nn, hc, hnb⟩ : ∃ nn : Int, wr.cell? ⟨gq, k, none⟩ = some (.int .i64 nn) ∧ -10 ≤ nn ∧ nn ≤ 100000 := by
        have hq4 := HQ3.out.below hb
        match k, hk4 with
        | 0, _ => exact ⟨S1 - 1, hq4.cell 0, by omega, by omega⟩
        | 1, _ => exact ⟨S1, hq4.cell 1, by omega, by omega⟩
        | 2, _ => exact ⟨S2, hq4.cell 2, by omega, by omega⟩
        | 3, _ => exact ⟨S2 + 1, hq4.cell 3, by omega, by omega⟩
      have hql := (HQ3.out.below hb).lt
      have hkd : decide ((k : Int) < 4) = true := decide_eq_true (by omega)
      go_upto_region 8 with fail
      go_upto_region 9 with fail
      clear hc hql
      go_loopw [13, 15, 16, 17, 51] (fun a _ _ _ i wx => ∃ j : Nat, j ≤ nv ∧ i = .int .i64 (j : Int) ∧ a = .bool ((l.take j).all fun x => inB nn (maS light (roomS light hs) mn merr ys gs x).1 (maS light (roomS light hs) mn merr ys gs x).2) ∧ Below wr.heap.size wr wx) (fun _ _ _ _ i _ => nv - (intOf i).toNat)
      case atStart => exact ⟨0, Nat.zero_le _, rfl, by simp, Below.refl _ _⟩
      case round =>
        rename World => wq
        obtain ⟨j, hj, rfl, rfl, hb2⟩ := hrel
        have HBq := Lib.hid hb2
        by_cases hjn : j < nv
        case neg =>
          have hjn2 : j = nv := by omega
          subst j
          have hE : (l.take nv).all (fun x => inB nn (maS light (roomS light hs) mn merr ys gs x).1 (maS light (roomS light hs) mn merr ys gs x).2) = inB nn S1 S2 := by rw [List.take_of_length_le (by rw [HLn.out]; exact Nat.le_refl _)]; exact HAl.out nn
          obtain ⟨bv, hbv⟩ : ∃ bv, inB nn S1 S2 = bv := ⟨_, rfl⟩
          have HSh := Lib.hid (shows_all S1 S2 nn wq)
          rw [hbv] at HSh hE
          rw [hE]
          obtain ⟨z0, z1, zl⟩ := cells2 (HN3.out.below (hb.trans (hb2.mono hb.size)))
          clear hb hb2 hE hbv
          cases bv with
          | true =>
            go_wp2_with (go_at_call 10; (with_reducible refine HSh.out.mono ?_); rintro e u5 ⟨rfl, hb5⟩)
            go_roundw
            case rel => exact ⟨k + 1, by omega, by go_num, HB.out.trans ((HBq.out.trans (hb5.mono HBq.out.size)).mono HB.out.size)⟩
            case measure => simp [intOf]; omega
          | false =>
            go_wp2_with (go_at_call 10; (with_reducible refine HSh.out.mono ?_); rintro e u5 ⟨rfl, hb5⟩)
            go_roundw
            case rel => exact ⟨k + 1, by omega, by go_num, HB.out.trans ((HBq.out.trans (hb5.mono HBq.out.size)).mono HB.out.size)⟩
            case measure => simp [intOf]; omega
        case pos =>
          have hjl : j < l.length := by rw [HLn.out]; exact hjn
          have hbz := hb.trans (hb2.mono hb.size)
          have hbw := HB3.out.trans (hbz.mono HB3.out.size)
          obtain ⟨b, off, rfl, hls⟩ := (HVs.out wq hbw).at_ (by omega)
          have HRa := Lib.hid (show wq.rangeAt b (off + j * 18) (encV l[j]) from fun v u hv => hls.c j _ (List.getElem?_eq_getElem hjl) v u hv)
          have cl := hls.lt
          have HTk := Lib.hid (show (l.take (j + 1)).all (fun x => inB nn (maS light (roomS light hs) mn merr ys gs x).1 (maS light (roomS light hs) mn merr ys gs x).2) = ((l.take j).all (fun x => inB nn (maS light (roomS light hs) mn merr ys gs x).1 (maS light (roomS light hs) mn merr ys gs x).2) && inB nn (maS light (roomS light hs) mn merr ys gs l[j]).1 (maS light (roomS light hs) mn merr ys gs l[j]).2) by rw [List.take_succ_eq_append_getElem hjl, List.all_append]; simp)
          have HMx := Lib.hid (fun (u : World) (hu : Below w.heap.size w u) => HPo.out u hu l[j] (List.getElem_mem hjl) nn)
          clear hls
          generalize l[j] = x at *
          generalize maS light (roomS light hs) mn merr ys gs x = mx at *
          obtain ⟨mx1, mx2⟩ := mx
          obtain ⟨x0, x1, x2, x3, x4, x5, x6, x7, x8, x9, x10, x11, x12, x13, x14, x15, x16, x17⟩ := x
          dsimp only [encV, vSv] at HRa HMx HTk
          have bx := below_new wq (.cells #[.int .i64 x0, .int .i64 x1, .int .i64 x2, .int .i64 x3, .int .i64 x4, .int .i64 x5, .int .i64 x6, .int .i64 x7, .int .i64 x8, .int .i64 x9, .int .i64 x10, .int .i64 x11, .int .i64 x12, .int .i64 x13, .int .i64 x14, .int .i64 x15, .int .i64 x16, .int .i64 x17] 62)
          have hbx := Blk.new wq 62 #[.int .i64 x0, .int .i64 x1, .int .i64 x2, .int .i64 x3, .int .i64 x4, .int .i64 x5, .int .i64 x6, .int .i64 x7, .int .i64 x8, .int .i64 x9, .int .i64 x10, .int .i64 x11, .int .i64 x12, .int .i64 x13, .int .i64 x14, .int .i64 x15, .int .i64 x16, .int .i64 x17]
          have hbx5 := hbz.trans (bx.mono hbz.size)
          have HS5 := Lib.hid (HT3.out.below hbx5)
          have HG5 := Lib.hid (HG3.out.below hbx5)
          have HB5 := Lib.hid (hb2.trans (bx.mono hb2.size))
          have HW5 := Lib.hid (HB3.out.trans (hbx5.mono HB3.out.size))
          have HRx := Lib.hid (range_blk (cs := [.int .i64 x0, .int .i64 x1, .int .i64 x2, .int .i64 x3, .int .i64 x4, .int .i64 x5, .int .i64 x6, .int .i64 x7, .int .i64 x8, .int .i64 x9, .int .i64 x10, .int .i64 x11, .int .i64 x12, .int .i64 x13, .int .i64 x14, .int .i64 x15, .int .i64 x16, .int .i64 x17]) hbx)
          have HC5 := Lib.hid (HMx.out _ HW5.out)
          obtain ⟨pv, hpv⟩ : ∃ pv, inB nn mx1 mx2 = pv := ⟨_, rfl⟩
          rw [hpv] at HC5 HTk
          generalize (l.take j).all (fun x => inB nn (maS light (roomS light hs) mn merr ys gs x).1 (maS light (roomS light hs) mn merr ys gs x).2) = tb at *
          clear hb hb2 hbz hbw hbx bx hbx5 hpv HMx
          go_upto_region 11 with (first | (refine wpList_load_mid rfl 62 (.tmp 53) rfl b (off + j * 18) rfl [.int .i64 x0, .int .i64 x1, .int .i64 x2, .int .i64 x3, .int .i64 x4, .int .i64 x5, .int .i64 x6, .int .i64 x7, .int .i64 x8, .int .i64 x9, .int .i64 x10, .int .i64 x11, .int .i64 x12, .int .i64 x13, .int .i64 x14, .int .i64 x15, .int .i64 x16, .int .i64 x17] _ HRa.out Tryz.underlying62 rfl info_sv ?_) | (refine wpList_store_new rfl 62 (.tmp 15) (.tmp 54) rfl _ #[.int .i64 x0, .int .i64 x1, .int .i64 x2, .int .i64 x3, .int .i64 x4, .int .i64 x5, .int .i64 x6, .int .i64 x7, .int .i64 x8, .int .i64 x9, .int .i64 x10, .int .i64 x11, .int .i64 x12, .int .i64 x13, .int .i64 x14, .int .i64 x15, .int .i64 x16, .int .i64 x17] rfl rfl info_sv rfl (all18 x0 x1 x2 x3 x4 x5 x6 x7 x8 x9 x10 x11 x12 x13 x14 x15 x16 x17) ?_))
          generalize hV5 : wq.alloc (.cells #[.int .i64 x0, .int .i64 x1, .int .i64 x2, .int .i64 x3, .int .i64 x4, .int .i64 x5, .int .i64 x6, .int .i64 x7, .int .i64 x8, .int .i64 x9, .int .i64 x10, .int .i64 x11, .int .i64 x12, .int .i64 x13, .int .i64 x14, .int .i64 x15, .int .i64 x16, .int .i64 x17] 62) = V5 at *
          generalize hg5 : wq.heap.size = g15 at *
          clear hV5 hg5 HRa cl
          obtain ⟨tl, s0, s1, s2, s3, s4, s5, s6, s7, s8, s9, s10⟩ := blk11 HS5.out
          obtain ⟨y0, y1, yl⟩ := cells2 HG5.out
          go_upto_region 12 with (first | (refine wpList_load_mid rfl 62 (.tmp 15) rfl g15 0 rfl [.int .i64 x0, .int .i64 x1, .int .i64 x2, .int .i64 x3, .int .i64 x4, .int .i64 x5, .int .i64 x6, .int .i64 x7, .int .i64 x8, .int .i64 x9, .int .i64 x10, .int .i64 x11, .int .i64 x12, .int .i64 x13, .int .i64 x14, .int .i64 x15, .int .i64 x16, .int .i64 x17] _ HRx.out Tryz.underlying62 rfl info_sv ?_) | (go_at_call 24; (with_reducible refine HC5.out.mono ?_); rintro e u6 ⟨rfl, hb6⟩))
          have HB6 := Lib.hid (HB5.out.trans (hb6.mono HB5.out.size))
          clear hb6 tl s0 s1 s2 s3 s4 s5 s6 s7 s8 s9 s10 y0 y1 yl HRx HS5 HG5 HB5 HC5
          cases tb with
          | false =>
            have HTf := Lib.hid (HTk.out.trans (Bool.false_and _))
            go_wp2
            go_roundw
            case rel => exact ⟨j + 1, by omega, by go_num, by rw [HTf.out], HB6.out⟩
            case measure => simp [intOf]; omega
          | true =>
            have HTf := Lib.hid (HTk.out.trans (Bool.true_and _))
            cases pv with
            | false =>
              go_wp2
              go_roundw
              case rel => exact ⟨j + 1, by omega, by go_num, by rw [HTf.out], HB6.out⟩
              case measure => simp [intOf]; omega
            | true =>
              go_wp2
              go_roundw
              case rel => exact ⟨j + 1, by omega, by go_num, by rw [HTf.out], HB6.out⟩
              case measure => simp [intOf]; omega
end Go.Proofs.YtgojpgggbflgoaaGreat

namespace Go.Proofs.YtgojpgggbflgoaaGreat
open Go.RowKit

theorem erL_in {e : Int} : ∀ (l : List Gs) {lo hi : Int} (_ : lo ≤ e) (_ : e ≤ hi) (_ : ∀ g ∈ l, g.lo - g.dense ≤ e ∧ e ≤ g.hi - g.dense), (erL lo hi l).1 ≤ e ∧ e ≤ (erL lo hi l).2
  | [], _, _, h1, h2, _ => ⟨h1, h2⟩
  | g :: t, lo, hi, h1, h2, h3 => by
    have hg := h3 g List.mem_cons_self
    show (erL (erF (lo, hi) g).1 (erF (lo, hi) g).2 t).1 ≤ e ∧ e ≤ (erL (erF (lo, hi) g).1 (erF (lo, hi) g).2 t).2
    refine erL_in t ?_ ?_ (fun x hx => h3 x (List.mem_cons_of_mem _ hx))
    · unfold erF
      split
      · dsimp only; omega
      · exact h1
    · unfold erF
      split
      · dsimp only; omega
      · exact h2
/-- A hydrometer is found by its ID. -/
theorem idx_hy {ys : List Hy} {gs : List Gs} (h : bulbE ys gs = 0) {i : Nat} (hi : i < ys.length) : idx (fun x => x.id == (ys[i]).id) ys = (i : Int) := by
  have h1 := (bulbE_zero h).2.2.1 i hi
  rw [hyF_of hi] at h1
  split at h1
  · exact absurd h1 (by decide)
  · split at h1
    · exact absurd h1 (by decide)
    · rename_i h2
      refine idx_at hi (by simp) fun j hj hji => ?_
      by_cases hn : idx (fun x : Hy => x.id == (ys[i]).id) ys < 0
      · exact idx_neg.1 hn _ (List.getElem_mem hj)
      · obtain ⟨k, hk, e, _, hb⟩ := idx_lt hn
        exact hb j hj (by omega)
/-- The true error lies among those that the hydrometer can have. -/
theorem err_in {ys : List Hy} {gs : List Gs} {es : List Int} (he : ErrP ys gs es) {i : Nat} {y : Hy} {e : Int} (h1 : ys[i]? = some y) (h2 : es[i]? = some e) : offY ys y.id = y ∧ ¬ idx (fun x => x.id == y.id) ys < 0 ∧ (offS gs y).1 ≤ e ∧ e ≤ (offS gs y).2 := by
  obtain ⟨hi, rfl⟩ := List.getElem?_eq_some_iff.1 h1
  obtain ⟨hj, rfl⟩ := List.getElem?_eq_some_iff.1 h2
  have hx := idx_hy he.ok hi
  obtain ⟨a, b⟩ := he.er i hi hj
  refine ⟨?_, by rw [hx]; omega, ?_⟩
  · unfold offY
    rw [hx]
    simp [List.getD_eq_getElem?_getD, List.getElem?_eq_getElem hi]
  · refine erL_in _ a.1 a.2 fun g hg => ?_
    rw [List.mem_filter] at hg
    obtain ⟨j, q, rfl⟩ := List.mem_iff_getElem.1 hg.1
    have := b j q (by simpa using hg.2)
    omega
/-- The true density lies among those of the water. -/
theorem den_in {ys : List Hy} {gs : List Gs} {es : List Int} {hy lo hi dd : Int} (he : ErrP ys gs es) (hs : ShwP ys es hy lo hi dd) (hd : 900 ≤ dd ∧ dd ≤ 1100) (h0 : (denR ys gs hy lo hi).2 = 0) : (denR ys gs hy lo hi).1.1 ≤ dd ∧ dd ≤ (denR ys gs hy lo hi).1.2 := by
  obtain ⟨i, y, e, h1, h2, rfl, h4, h5⟩ := hs
  obtain ⟨k1, k2, k3, k4⟩ := err_in he h1 h2
  have ho : (offR ys gs y.id).1 = offS gs y := by
    unfold offR
    rw [if_neg k2, k1, if_neg (by omega)]
  unfold denR at h0 ⊢
  split at h0
  · exact absurd h0 ‹_›
  · rw [if_neg ‹_›]
    split at h0
    · exact absurd h0 (by decide)
    · rw [if_neg ‹_›, ho]
      dsimp only
      omega
/-- The true mean draught lies among those of the survey. -/
theorem six_in {x : Sv} {p0 p1 p2 p3 p4 p5 : Int} (hb : bendB x p0 p1 p2 p3 p4 p5 = true) (h : (exR x).2 = true) : (exR x).1.1 + 6 * (exR x).1.2.1 ≤ p0 + p1 + 6 * p2 + 6 * p3 + p4 + p5 ∧ p0 + p1 + 6 * p2 + 6 * p3 + p4 + p5 ≤ (exR x).1.2.2.1 + 6 * (exR x).1.2.2.2 := by
  unfold bendB at hb
  simp only [Bool.and_eq_true, List.all_eq_true, List.mem_range] at hb
  have h0 := hb.1 0 (by omega)
  have h1 := hb.1 1 (by omega)
  have h2 := hb.1 2 (by omega)
  have h3 := hb.1 3 (by omega)
  have h4 := hb.1 4 (by omega)
  have h5 := hb.1 5 (by omega)
  have h6 := hb.2
  simp only [bdB, inB, decide_eq_true_eq] at h0 h1 h2 h3 h4 h5 h6
  unfold exR at h ⊢
  split at h
  · cases h
  · rw [if_neg ‹_›]
    simp only [exL, exH, exE, exM]
    omega
end Go.Proofs.YtgojpgggbflgoaaGreat

namespace Go.Proofs.YtgojpgggbflgoaaGreat
open Go.RowKit

theorem ky_mono {ks : List (Int × Int)} (hr : risingI ks = 1) {i : Nat} : ∀ {j : Nat} (_ : i ≤ j) (_ : j < ks.length), ky ks i ≤ ky ks j ∧ (i < j → ky ks i < ky ks j)
  | 0, h, _ => by
    have : i = 0 := by omega
    subst this
    exact ⟨Int.le_refl _, fun h => by omega⟩
  | j + 1, h, hj => by
    by_cases e : i = j + 1
    · subst e
      exact ⟨Int.le_refl _, fun h => by omega⟩
    · have a := (ky_mono hr (i := i) (j := j) (by omega) (by omega)).1
      have b := rising_up hr (i := j) hj
      exact ⟨by omega, fun _ => by omega⟩
theorem kx_mono {ks : List (Int × Int)} (hv : Valid ks) {i : Nat} : ∀ {j : Nat} (_ : i ≤ j) (_ : j < ks.length), kx ks i ≤ kx ks j
  | 0, h, _ => by
    have : i = 0 := by omega
    subst this
    exact Int.le_refl _
  | j + 1, h, hj => by
    by_cases e : i = j + 1
    · subst e
      exact Int.le_refl _
    · have a := kx_mono hv (i := i) (j := j) (by omega) (by omega)
      have b := hv.up j hj
      omega
theorem seg_ex {ks : List (Int × Int)} {y : Int} (h0 : 16 * ky ks 0 ≤ y) : ∀ (n : Nat) (_ : 0 < n) (_ : y ≤ 16 * ky ks n), ∃ j, j < n ∧ whP ks y j = true
  | 0, h, _ => absurd h (by omega)
  | n + 1, _, h1 => by
    by_cases h2 : n = 0
    · subst h2
      have h1' : y ≤ 16 * ky ks 1 := h1
      exact ⟨0, by omega, by unfold whP inB; simp; omega⟩
    · by_cases h3 : y ≤ 16 * ky ks n
      · obtain ⟨j, hj, hp⟩ := seg_ex h0 n (by omega) h3
        exact ⟨j, by omega, hp⟩
      · exact ⟨n, by omega, by unfold whP inB; simp; omega⟩
/-- Where a curve has a value: in a piece that has it. -/
theorem whR_seg {ks : List (Int × Int)} {y : Int} (hl : 2 ≤ ks.length) (h0 : 16 * ky ks 0 ≤ y) (h1 : y ≤ 16 * ky ks (ks.length - 1)) : ∃ j, j + 1 < ks.length ∧ (16 * ky ks j ≤ y ∧ y ≤ 16 * ky ks (j + 1)) ∧ whR ks y = whV ks y j := by
  obtain ⟨j0, hj0, hp0⟩ := seg_ex h0 (ks.length - 1) (by omega) h1
  unfold whR
  split
  · rename_i i hf
    have hi := List.mem_range.1 (List.mem_of_find?_eq_some hf)
    have hp := List.find?_some hf
    unfold whP inB at hp
    simp only [decide_eq_true_eq] at hp
    exact ⟨i, by omega, hp, rfl⟩
  · rename_i hf
    rw [List.find?_eq_none] at hf
    exact absurd hp0 (hf j0 (List.mem_range.2 hj0))
/-- A smaller value lies further to the left. -/
theorem seg_le {ks : List (Int × Int)} {y mm dd V : Int} {i j : Nat} (hv : Valid ks) (hr : risingI ks = 1) (hd : 1 ≤ dd) (hi : i + 1 < ks.length) (hj : j + 1 < ks.length) (a1 : kx ks i * dd ≤ 25 * mm) (hp : 16 * ky ks j ≤ y ∧ y ≤ 16 * ky ks (j + 1))
    (hV : V = ky ks i * ((kx ks (i + 1) - kx ks i) * dd) + (ky ks (i + 1) - ky ks i) * (25 * mm - kx ks i * dd)) (a2 : 25 * mm ≤ kx ks (i + 1) * dd) (hy : y * ((kx ks (i + 1) - kx ks i) * dd) ≤ 16 * V) : (whV ks y j).1 * dd ≤ 25 * mm * (whV ks y j).2 := by
  unfold whV
  dsimp only
  have hri := rising_up hr hi
  have hrj := rising_up hr hj
  have hui := hv.up i hi
  have huj := hv.up j hj
  rcases Nat.lt_trichotomy j i with h | h | h
  · have hx := kx_mono hv (i := j + 1) (j := i) (by omega) (by omega)
    have q1 : 0 ≤ (16 * (ky ks (j + 1) - ky ks j) - (y - 16 * ky ks j)) * ((kx ks (j + 1) - kx ks j) * dd) := Int.mul_nonneg (by omega) (Int.mul_nonneg (by omega) (by omega))
    have q2 : 0 ≤ (kx ks i - kx ks (j + 1)) * (16 * (ky ks (j + 1) - ky ks j) * dd) := Int.mul_nonneg (by omega) (Int.mul_nonneg (by omega) (by omega))
    have q3 : 0 ≤ (25 * mm - kx ks i * dd) * (16 * (ky ks (j + 1) - ky ks j)) := Int.mul_nonneg (by omega) (by omega)
    generalize kx ks (j + 1) = xq at *
    generalize kx ks j = xp at *
    generalize ky ks (j + 1) = yq at *
    generalize ky ks j = yp at *
    generalize kx ks i = xi at *
    clear hV hy a1 a2 hri hui hrj huj hp hx hv hr
    grind
  · subst h
    generalize kx ks (j + 1) = xq at *
    generalize kx ks j = xp at *
    generalize ky ks (j + 1) = yq at *
    generalize ky ks j = yp at *
    subst hV
    clear hv hr
    grind
  · have hyy := ky_mono hr (i := i + 1) (j := j) (by omega) (by omega)
    have hden : 0 < (kx ks (i + 1) - kx ks i) * dd := Int.mul_pos (by omega) (by omega)
    have q1 : 0 ≤ (ky ks (i + 1) - ky ks i) * (kx ks (i + 1) * dd - 25 * mm) := Int.mul_nonneg (by omega) (by omega)
    have q2 : (y - 16 * ky ks (i + 1)) * ((kx ks (i + 1) - kx ks i) * dd) ≤ 0 := by
      generalize kx ks (i + 1) = xq at *
      generalize kx ks i = xp at *
      generalize ky ks (i + 1) = yq at *
      generalize ky ks i = yp at *
      subst hV
      clear hv hr hrj huj hp hyy
      grind
    have q3 : y ≤ 16 * ky ks (i + 1) := by
      refine Classical.byContradiction fun c => ?_
      have := Int.mul_pos (show 0 < y - 16 * ky ks (i + 1) by omega) hden
      omega
    have hji : j = i + 1 := by
      refine Classical.byContradiction fun c => ?_
      have := hyy.2 (by omega)
      omega
    subst hji
    have hye : y = 16 * ky ks (i + 1) := by omega
    subst hye
    have q4 : (ky ks (i + 1) - ky ks i) * (kx ks (i + 1) * dd - 25 * mm) ≤ 0 := by
      generalize kx ks (i + 1) = xq at *
      generalize kx ks i = xp at *
      generalize ky ks (i + 1) = yq at *
      generalize ky ks i = yp at *
      subst hV
      clear hv hr hrj huj hp hyy q3
      grind
    have q5 : kx ks (i + 1) * dd = 25 * mm := by
      refine Classical.byContradiction fun c => ?_
      have := Int.mul_pos (show 0 < ky ks (i + 1) - ky ks i by omega) (show 0 < kx ks (i + 1) * dd - 25 * mm by omega)
      omega
    rw [Int.sub_self, Int.zero_mul, Int.add_zero, ← q5]
    generalize 16 * (ky ks (i + 1 + 1) - ky ks (i + 1)) = r
    generalize kx ks (i + 1) = x
    clear q1 q2 q3 q4 q5 hV hy a1 a2 hden hyy hri hui hrj huj hp hv hr
    grind
/-- A greater value lies further to the right. -/
theorem seg_ge {ks : List (Int × Int)} {y mm dd V : Int} {i j : Nat} (hv : Valid ks) (hr : risingI ks = 1) (hd : 1 ≤ dd) (hi : i + 1 < ks.length) (hj : j + 1 < ks.length) (a1 : kx ks i * dd ≤ 25 * mm) (hp : 16 * ky ks j ≤ y ∧ y ≤ 16 * ky ks (j + 1))
    (hV : V = ky ks i * ((kx ks (i + 1) - kx ks i) * dd) + (ky ks (i + 1) - ky ks i) * (25 * mm - kx ks i * dd)) (a2 : 25 * mm ≤ kx ks (i + 1) * dd) (hy : 16 * V ≤ y * ((kx ks (i + 1) - kx ks i) * dd)) : 25 * mm * (whV ks y j).2 ≤ (whV ks y j).1 * dd := by
  unfold whV
  dsimp only
  have hri := rising_up hr hi
  have hrj := rising_up hr hj
  have hui := hv.up i hi
  have huj := hv.up j hj
  rcases Nat.lt_trichotomy i j with h | h | h
  · have hx := kx_mono hv (i := i + 1) (j := j) (by omega) (by omega)
    have q1 : 0 ≤ (y - 16 * ky ks j) * ((kx ks (j + 1) - kx ks j) * dd) := Int.mul_nonneg (by omega) (Int.mul_nonneg (by omega) (by omega))
    have q2 : 0 ≤ (kx ks j - kx ks (i + 1)) * (16 * (ky ks (j + 1) - ky ks j) * dd) := Int.mul_nonneg (by omega) (Int.mul_nonneg (by omega) (by omega))
    have q3 : 0 ≤ (kx ks (i + 1) * dd - 25 * mm) * (16 * (ky ks (j + 1) - ky ks j)) := Int.mul_nonneg (by omega) (by omega)
    generalize kx ks (j + 1) = xq at *
    generalize kx ks j = xp at *
    generalize ky ks (j + 1) = yq at *
    generalize ky ks j = yp at *
    generalize kx ks (i + 1) = xi at *
    clear hV hy a1 a2 hri hui hrj huj hp hx hv hr
    grind
  · subst h
    generalize kx ks (i + 1) = xq at *
    generalize kx ks i = xp at *
    generalize ky ks (i + 1) = yq at *
    generalize ky ks i = yp at *
    subst hV
    clear hv hr
    grind
  · have hyy := ky_mono hr (i := j + 1) (j := i) (by omega) (by omega)
    have hden : 0 < (kx ks (i + 1) - kx ks i) * dd := Int.mul_pos (by omega) (by omega)
    have q1 : 0 ≤ (ky ks (i + 1) - ky ks i) * (25 * mm - kx ks i * dd) := Int.mul_nonneg (by omega) (by omega)
    have q2 : (16 * ky ks i - y) * ((kx ks (i + 1) - kx ks i) * dd) ≤ 0 := by
      generalize kx ks (i + 1) = xq at *
      generalize kx ks i = xp at *
      generalize ky ks (i + 1) = yq at *
      generalize ky ks i = yp at *
      subst hV
      clear hv hr hrj huj hp hyy
      grind
    have q3 : 16 * ky ks i ≤ y := by
      refine Classical.byContradiction fun c => ?_
      have := Int.mul_pos (show 0 < 16 * ky ks i - y by omega) hden
      omega
    have hji : i = j + 1 := by
      refine Classical.byContradiction fun c => ?_
      have := hyy.2 (by omega)
      omega
    subst hji
    have hye : y = 16 * ky ks (j + 1) := by omega
    subst hye
    have q4 : (ky ks (j + 1 + 1) - ky ks (j + 1)) * (25 * mm - kx ks (j + 1) * dd) ≤ 0 := by
      generalize kx ks (j + 1 + 1) = xq at *
      generalize kx ks (j + 1) = xp at *
      generalize ky ks (j + 1 + 1) = yq at *
      generalize ky ks (j + 1) = yp at *
      subst hV
      clear hv hr hrj huj hp hyy q3
      grind
    have q5 : kx ks (j + 1) * dd = 25 * mm := by
      refine Classical.byContradiction fun c => ?_
      have := Int.mul_pos (show 0 < ky ks (j + 1 + 1) - ky ks (j + 1) by omega) (show 0 < 25 * mm - kx ks (j + 1) * dd by omega)
      omega
    rw [← q5]
    generalize kx ks (j + 1) = xq
    generalize kx ks j = xp
    generalize ky ks (j + 1) = yq
    generalize ky ks j = yp
    clear q1 q2 q3 q4 q5 hV hy a1 a2 hden hyy hri hui hrj huj hp hv hr
    grind
end Go.Proofs.YtgojpgggbflgoaaGreat

namespace Go.Proofs.YtgojpgggbflgoaaGreat
open Go.RowKit

theorem mass_lo {num r d1 dd mm : Int} (h : num * dd ≤ 25 * mm * r) (hn : 0 ≤ num) (hd : d1 ≤ dd) (hr : 1 ≤ r) : (num * d1 + 25 * r - 1) / (25 * r) ≤ mm := by
  have h1 := Int.mul_le_mul_of_nonneg_left hd hn
  have h2 : (mm + 1) * (25 * r) = 25 * mm * r + 25 * r := by grind
  have := Int.ediv_lt_of_lt_mul (a := num * d1 + 25 * r - 1) (b := mm + 1) (c := 25 * r) (by omega) (by omega)
  omega
theorem mass_hi {num r d2 dd mm : Int} (h : 25 * mm * r ≤ num * dd) (hn : 0 ≤ num) (hd : dd ≤ d2) (hr : 1 ≤ r) : mm ≤ num * d2 / (25 * r) := by
  have h1 := Int.mul_le_mul_of_nonneg_left hd hn
  have h2 : mm * (25 * r) = 25 * mm * r := by grind
  exact Int.le_ediv_of_mul_le (by omega) (by omega)
theorem tru_mass {id light lever height turn least : Int} {hs : List Hl} {mn mt : List (Int × Int)} {merr terr : Int} {ys : List Hy} {gs : List Gs} {es : List Int} {mm : Int} {x : Sv} (k : ShipOk id light lever height turn least hs mn merr mt terr) (he : ErrP ys gs es) (hx : TruP mn merr ys gs es mm x) (h1 : light ≤ mm) (h2 : mm ≤ roomS light hs) :
    MaOk mn merr ys gs x ∧ (maS light (roomS light hs) mn merr ys gs x).1 ≤ mm ∧ mm ≤ (maS light (roomS light hs) mn merr ys gs x).2 := by
  obtain ⟨hc, p0, p1, p2, p3, p4, p5, dd, hsw, hd, hb, hf⟩ := hx
  obtain ⟨z1, z2, z3⟩ := chkE_zero (chkA_zero hc).2
  obtain ⟨mk, ml⟩ := pB_ok z1
  have hdi := den_in he hsw hd z2
  have hsi := six_in hb z3
  have hme := k.merrB
  have hlp := k.mnv.pos
  generalize hN : p0 + p1 + 6 * p2 + 6 * p3 + p4 + p5 = N at *
  -- where the curve has the ends
  have key : (voY mn merr x).1 ≤ (voY mn merr x).2 ∧ ((whR mn (voY mn merr x).1).1 * dd ≤ 25 * mm * (whR mn (voY mn merr x).1).2 ∧ 25 * mm * (whR mn (voY mn merr x).2).2 ≤ (whR mn (voY mn merr x).2).1 * dd) := by
    rcases hf with ⟨c1, c2, c3, c4⟩ | ⟨i, c1, c2, c3, c4, c5⟩
    · have hw : ∀ y, whR mn y = (kx mn 0, 1) := fun y => by
        unfold whR
        rw [c1]
        rfl
      rw [hw, hw]
      have hl0 : mn.length - 1 = 0 := by omega
      unfold voY
      rw [hl0]
      dsimp only
      omega
    · have hden : 0 < (kx mn (i + 1) - kx mn i) * dd := Int.mul_pos (by have := k.mnv.up i c1; omega) (by omega)
      have hri := rising_up k.ris c1
      have m0 := (ky_mono k.ris (i := 0) (j := i) (by omega) (by omega)).1
      have m1 := (ky_mono k.ris (i := i + 1) (j := mn.length - 1) (by omega) (by omega)).1
      obtain ⟨V, hV⟩ : ∃ V, V = ky mn i * ((kx mn (i + 1) - kx mn i) * dd) + (ky mn (i + 1) - ky mn i) * (25 * mm - kx mn i * dd) := ⟨_, rfl⟩
      rw [← hV] at c4 c5
      have q1 : 0 ≤ (ky mn (i + 1) - ky mn i) * (25 * mm - kx mn i * dd) := Int.mul_nonneg (by omega) (by omega)
      have q2 : 0 ≤ (ky mn (i + 1) - ky mn i) * (kx mn (i + 1) * dd - 25 * mm) := Int.mul_nonneg (by omega) (by omega)
      have v1 : ky mn i * ((kx mn (i + 1) - kx mn i) * dd) ≤ V := by omega
      have v2 : V ≤ ky mn (i + 1) * ((kx mn (i + 1) - kx mn i) * dd) := by
        have e : (ky mn (i + 1) - ky mn i) * (kx mn (i + 1) * dd - 25 * mm) = ky mn (i + 1) * ((kx mn (i + 1) - kx mn i) * dd) - V := by rw [hV]; grind
        omega
      have hl : ∀ a : Int, a ≤ N - 16 * merr ∨ a ≤ 16 * ky mn i → a * ((kx mn (i + 1) - kx mn i) * dd) ≤ 16 * V := fun a ha => by
        rcases ha with ha | ha
        · have t := Int.mul_le_mul_of_nonneg_right ha (Int.le_of_lt hden)
          grind
        · have t := Int.mul_le_mul_of_nonneg_right ha (Int.le_of_lt hden)
          grind
      have hu : ∀ a : Int, N + 16 * merr ≤ a ∨ 16 * ky mn (i + 1) ≤ a → 16 * V ≤ a * ((kx mn (i + 1) - kx mn i) * dd) := fun a ha => by
        rcases ha with ha | ha
        · have t := Int.mul_le_mul_of_nonneg_right ha (Int.le_of_lt hden)
          grind
        · have t := Int.mul_le_mul_of_nonneg_right ha (Int.le_of_lt hden)
          grind
      have y1 : (voY mn merr x).1 * ((kx mn (i + 1) - kx mn i) * dd) ≤ 16 * V := hl _ (by unfold voY; dsimp only; omega)
      have y2 : 16 * V ≤ (voY mn merr x).2 * ((kx mn (i + 1) - kx mn i) * dd) := hu _ (by unfold voY; dsimp only; omega)
      have hle : (voY mn merr x).1 ≤ (voY mn merr x).2 := Int.le_of_mul_le_mul_right (Int.le_trans y1 y2) hden
      have b1 : 16 * ky mn 0 ≤ (voY mn merr x).1 := by unfold voY; dsimp only; omega
      have b2 : (voY mn merr x).2 ≤ 16 * ky mn (mn.length - 1) := by unfold voY; dsimp only; omega
      obtain ⟨j1, j2, j3, j4⟩ := whR_seg (y := (voY mn merr x).1) (by omega) b1 (by omega)
      obtain ⟨k1, k2, k3, k4⟩ := whR_seg (y := (voY mn merr x).2) (by omega) (by omega) b2
      rw [j4, k4]
      exact ⟨hle, seg_le k.mnv k.ris (by omega) c1 j2 c2 j3 hV c3 y1, seg_ge k.mnv k.ris (by omega) c1 k2 c2 k3 hV c3 y2⟩
  obtain ⟨hv, g1, g2⟩ := key
  have hYb := voY_bd k.mnv k.merrB mk hv
  have w1 := whR_bd k.mnv k.ris _ hYb.1
  have w2 := whR_bd k.mnv k.ris _ hYb.2
  refine ⟨⟨mk, by omega, by omega, z2, hv⟩, ?_⟩
  have l1 := mass_lo g1 w1.1.1 hdi.1 w1.2.1
  have l2 := mass_hi g2 w2.1.1 hdi.2 w2.2.1
  unfold maS
  dsimp only
  omega
/-- .. and so among those of all. -/
theorem tru_tog {id light lever height turn least : Int} {hs : List Hl} {mn mt : List (Int × Int)} {merr terr : Int} {ys : List Hy} {gs : List Gs} {es : List Int} {mm : Int} {l : List Sv} (k : ShipOk id light lever height turn least hs mn merr mt terr) (he : ErrP ys gs es) (hk : KnoP mn merr ys gs es mm l) (h1 : light ≤ mm) (h2 : mm ≤ roomS light hs) (hl : 0 < l.length) :
    (togS light (roomS light hs) mn merr ys gs l).1 ≤ mm ∧ mm ≤ (togS light (roomS light hs) mn merr ys gs l).2 := by
  have h := tog_all (light := light) (R := roomS light hs) (mn := mn) (merr := merr) (ys := ys) (gs := gs) mm l hl
  have ha : (l.all fun x => inB mm (maS light (roomS light hs) mn merr ys gs x).1 (maS light (roomS light hs) mn merr ys gs x).2) = true := by
    rw [List.all_eq_true]
    intro x hx
    have := (tru_mass k he (hk.tru x hx) h1 h2).2
    simpa [inB] using this
  rw [ha] at h
  simpa [inB] using h.symm
theorem kno_Lv {mn : List (Int × Int)} {merr : Int} {ys : List Hy} {gs : List Gs} {es : List Int} {mm : Int} {l : List Sv} (hk : KnoP mn merr ys gs es mm l) (hp : 0 < l.length) (hl : l.length ≤ 8) : LvOk ys gs l :=
  ⟨hp, by omega, fun x hx => (chkA_zero (hk.tru x hx).1).2, fun i hi => idx_at hi (by simp) fun j hj hji => by
    have := List.nodup_iff_pairwise_ne.1 hk.ids
    rw [List.pairwise_iff_getElem] at this
    have := this j i (by simpa using hj) (by simpa using hi) hji
    simpa using this⟩
end Go.Proofs.YtgojpgggbflgoaaGreat
