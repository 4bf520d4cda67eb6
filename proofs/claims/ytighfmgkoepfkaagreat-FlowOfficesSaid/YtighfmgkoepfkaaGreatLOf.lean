/- The law FlowOffices. -/
import Derived.Test.YtighfmgkoepfkaaGreatMOv
import Derived.Test.YtighfmgkoepfkaaGreatMOx
import Derived.Test.YtighfmgkoepfkaaGreatMGy
import Derived.Test.YtighfmgkoepfkaaGreatMAg
import Derived.Test.YtighfmgkoepfkaaGreatMI
import Derived.Test.YtighfmgkoepfkaaGreatMH
import Derived.Deep.DeepCutAuto
namespace Go.Proofs.YtighfmgkoepfkaaGreat
open Go.RowKit

set_option maxRecDepth 100000 in
set_option maxHeartbeats 12800000 in
theorem flowOffices_walk (A : Option Addr) (n c : Nat) (hs : List Hd) (D : Option Addr) (k ck : Nat) (ds : List Dd) (w : World) (h : SAt encH 6 w A n hs) (hd : SAt encD 6 w D k ds) (hn : n ≤ 9223372036854775807) (hk : k ≤ 9223372036854775807) (hc : n ≤ c) (hid : ∀ d ∈ ds, -9223372036854775808 ≤ d.mv.id ∧ d.mv.id ≤ 9223372036854775807) : Calls Tryz.prog 7 #[.slice A n c, .slice D k ck] w fun e w' => e = .returned (.bool true) ∧ Below w.heap.size w w' := by
  have HSan := Lib.hid (fun u => sanity_any u)
  have HH := Lib.hid h
  have HD := Lib.hid hd
  have HId := Lib.hid hid
  have HNw := Lib.hid (New_any A n c hs w h hn hc)
  have HRn := Lib.hid (fun (u : World) (hu : SAt encH 6 u A n hs) (hn : n ≤ 1000000) => RNew_any A n c hs u hu hn)
  have HTv := Lib.hid (fun q : tcheck hs [] = 0 => tcheck_zero.1 q)
  obtain ⟨tk, htk⟩ : ∃ tk, tcheck hs [] = tk := ⟨_, rfl⟩
  have HTk := Lib.hid htk
  obtain ⟨gb, hgb⟩ : ∃ gb : Bool, gb = decide ((5 < n ∧ (n ≤ 9 ∨ 20 < n)) ∨ 40 < k) := ⟨_, rfl⟩
  have HGb := Lib.hid hgb
  clear h hd hid htk hgb
  go_enter Tryz.func7, Tryz.ntmps7
  go_upto_region 1 with fail
  have hg1 := HGb.out
  go_cut [29] (fun q wx => q = .bool gb ∧ w = wx)
  case first =>
    by_cases h5 : 5 < n
    case neg =>
      by_cases h40 : 40 < k
      case neg =>
        have e : gb = false := by rw [hg1]; exact decide_eq_false (by omega)
        have b5 : decide ((5 : Int) < (n : Int)) = false := decide_eq_false (by omega)
        have b40 : decide ((40 : Int) < (k : Int)) = false := decide_eq_false (by omega)
        clear hg1 HGb
        subst e
        go_wp2
        go_meet
        exact ⟨rfl, rfl⟩
      case pos =>
        have e : gb = true := by rw [hg1]; exact decide_eq_true (by omega)
        have b5 : decide ((5 : Int) < (n : Int)) = false := decide_eq_false (by omega)
        have b40 : decide ((40 : Int) < (k : Int)) = true := decide_eq_true (by omega)
        clear hg1 HGb
        subst e
        go_wp2
        go_meet
        exact ⟨rfl, rfl⟩
    case pos =>
      by_cases h9 : n ≤ 9
      case pos =>
        have e : gb = true := by rw [hg1]; exact decide_eq_true (by omega)
        have b5 : decide ((5 : Int) < (n : Int)) = true := decide_eq_true (by omega)
        have b9 : decide ((n : Int) ≤ (9 : Int)) = true := decide_eq_true (by omega)
        clear hg1 HGb
        subst e
        go_wp2
        go_meet
        exact ⟨rfl, rfl⟩
      case neg =>
        by_cases h20 : 20 < n
        case pos =>
          have e : gb = true := by rw [hg1]; exact decide_eq_true (by omega)
          have b5 : decide ((5 : Int) < (n : Int)) = true := decide_eq_true (by omega)
          have b9 : decide ((n : Int) ≤ (9 : Int)) = false := decide_eq_false (by omega)
          have b20 : decide ((20 : Int) < (n : Int)) = true := decide_eq_true (by omega)
          clear hg1 HGb
          subst e
          go_wp2
          go_meet
          exact ⟨rfl, rfl⟩
        case neg =>
          by_cases h40 : 40 < k
          case neg =>
            have e : gb = false := by rw [hg1]; exact decide_eq_false (by omega)
            have b5 : decide ((5 : Int) < (n : Int)) = true := decide_eq_true (by omega)
            have b9 : decide ((n : Int) ≤ (9 : Int)) = false := decide_eq_false (by omega)
            have b20 : decide ((20 : Int) < (n : Int)) = false := decide_eq_false (by omega)
            have b40 : decide ((40 : Int) < (k : Int)) = false := decide_eq_false (by omega)
            clear hg1 HGb
            subst e
            go_wp2
            go_meet
            exact ⟨rfl, rfl⟩
          case pos =>
            have e : gb = true := by rw [hg1]; exact decide_eq_true (by omega)
            have b5 : decide ((5 : Int) < (n : Int)) = true := decide_eq_true (by omega)
            have b9 : decide ((n : Int) ≤ (9 : Int)) = false := decide_eq_false (by omega)
            have b20 : decide ((20 : Int) < (n : Int)) = false := decide_eq_false (by omega)
            have b40 : decide ((40 : Int) < (k : Int)) = true := decide_eq_true (by omega)
            clear hg1 HGb
            subst e
            go_wp2
            go_meet
            exact ⟨rfl, rfl⟩
  case rest =>
    obtain ⟨rfl, rfl⟩ := hcut
    cases gb with
    | true =>
      clear HGb hg1
      go_wp2_with (go_at_call 13; (with_reducible refine (HSan.out _).mono ?_); rintro e u9 ⟨rfl, hb9⟩)
      exact bodyPost_ret (v := .bool true) (by simp [results, Tryz.results7, go_sem]) rfl ⟨rfl, hb9⟩
    | false =>
      have HN := Lib.hid (show (n ≤ 5 ∨ (9 < n ∧ n ≤ 20)) ∧ k ≤ 40 by have := of_decide_eq_false hg1.symm; omega)
      clear HGb hg1
      have hk40 := HN.out.2
      have hn20 : n ≤ 1000000 := by have := HN.out.1; omega
      go_upto_region 4 with (go_at_call 31; (with_reducible refine HNw.out.mono ?_); rintro e u1 ⟨v1, he, hb1, hv1, hv2⟩; rw [HTk.out] at he hv1 hv2; subst he)
      have HB1 := Lib.hid hb1
      have HC := Lib.hid (HRn.out u1 (HH.out.below hb1) hn20)
      have HV1 := Lib.hid hv1
      have HV2 := Lib.hid hv2
      clear hb1 hv1 hv2 HRn HNw HH
      go_upto_region 5 with (go_at_call 37; (with_reducible refine HC.out.mono ?_); rintro e u2 ⟨Ax, nx, cx, Bx, mx, dx, he, hb2, hx⟩; rw [HTk.out] at he hx; subst he)
      have bq := below_new u2 (.cells #[.slice Ax nx cx, .slice Bx mx dx] 74)
      have bn := hb2.trans (bq.mono hb2.size)
      have HB2 := Lib.hid (HB1.out.trans (bn.mono HB1.out.size))
      have HX2 := Lib.hid (Blk.new u2 74 #[.slice Ax nx cx, .slice Bx mx dx])
      have HT2 := Lib.hid (fun q : tk = 0 => (hx q).below bq)
      have HV3 := Lib.hid (show tk = 0 → ∃ p, v1 = .pointer (some ⟨p, 0, none⟩) ∧ OfE (u2.alloc (.cells #[.slice Ax nx cx, .slice Bx mx dx] 74)) w.heap.size p 0 hs [] from fun q => let ⟨p, a, b⟩ := HV2.out q; ⟨p, a, b.below bn⟩)
      have HLu := Lib.hid (show w.heap.size ≤ u1.heap.size from HB1.out.size)
      have HLg := Lib.hid (show w.heap.size ≤ u2.heap.size from Nat.le_trans HB1.out.size hb2.size)
      generalize hV : u2.alloc (.cells #[.slice Ax nx cx, .slice Bx mx dx] 74) = V2 at *
      generalize hg : u2.heap.size = gx at *
      clear hV hg bq bn hb2 hx HV2 HC HB1
      by_cases hq : tk = 0
      case neg =>
        obtain rfl := HV1.out hq
        have hqn : (tk != 0) = true := by simpa using hq
        clear hq
        go_wp2_with (go_at_call 13; (with_reducible refine (HSan.out _).mono ?_); rintro e u9 ⟨rfl, hb9⟩)
        exact bodyPost_ret (v := .bool true) (by simp [results, Tryz.results7, go_sem]) rfl ⟨rfl, HB2.out.trans (hb9.mono HB2.out.size)⟩
      case pos =>
        subst hq
        obtain ⟨p, rfl, hof⟩ := HV3.out rfl
        have HOf := Lib.hid hof
        have HTr := Lib.hid ((HT2.out rfl).weak HLu.out)
        have HTv := Lib.hid (HTv.out HTk.out)
        clear hof HV1 HV3 HT2 HTk
        go_upto_region 10 with fail
        go_loopw [9, 10, 11] (fun i _ _ wx => ∃ (j : Nat) (ms : List Mv) (A1 : Option Addr) (n1 c1 : Nat) (B1 : Option Addr) (m1 d1 : Nat), j ≤ k ∧ i = .int .i64 (j : Int) ∧ TV hs ms ∧ OfE wx w.heap.size p j hs ms ∧ OwnT wx w.heap.size (.slice A1 n1 c1) (.slice B1 m1 d1) hs ms ∧ Blk wx gx 74 #[.slice A1 n1 c1, .slice B1 m1 d1] ∧ Below w.heap.size w wx) (fun i _ _ _ => k - (intOf i).toNat)
        case atStart => exact ⟨0, [], _, _, _, _, _, _, Nat.zero_le _, rfl, HTv.out, HOf.out, HTr.out, HX2.out, HB2.out⟩
        case round =>
          clear HOf HTr HX2 HB2
          obtain ⟨j, ms, A1, n1, c1, B1, m1, d1, hj, rfl, htv, hof, htr, hxb, hbb⟩ := hrel
          have HTV := Lib.hid htv
          have HOF := Lib.hid hof
          have HTR := Lib.hid htr
          have HXB := Lib.hid hxb
          have HBB := Lib.hid hbb
          clear htv hof htr hxb hbb
          by_cases hjk : j < k
          case neg =>
            go_wp2_with (go_at_call 13; (with_reducible refine (HSan.out _).mono ?_); rintro e u9 ⟨rfl, hb9⟩)
            exact bodyPost_ret (v := .bool true) (by simp [results, Tryz.results7, go_sem]) rfl ⟨rfl, HBB.out.trans (hb9.mono HBB.out.size)⟩
          case pos =>
            have hjl : j < ds.length := by rw [HD.out.len]; exact hjk
            obtain ⟨bD, oD, eD, hl⟩ := (HD.out.below HBB.out).at_ (by omega)
            subst eD
            obtain ⟨u0, u1', u2', u3, u4, u5⟩ := Dds.at_ hl (List.getElem?_eq_getElem hjl)
            have ul := hl.lt
            have HIj := Lib.hid (HId.out ds[j] (List.getElem_mem hjl))
            clear hl
            have HDj := Lib.hid (List.getElem?_eq_getElem hjl)
            have HLs := Lib.hid HOF.out.len
            generalize ds[j] = dd at *
            obtain ⟨bt, ⟨xi, xf, xt, xl, xh⟩⟩ := dd
            dsimp only at u0 u1' u2' u3 u4 u5 HIj
            go_upto_if 64 with fail
            go_cut [10, 11] (fun q r wx => ∃ (er : Int) (ms : List Mv) (A1 : Option Addr) (n1 c1 : Nat) (B1 : Option Addr) (m1 d1 : Nat), q = .int .i64 er ∧ r = .int .i64 er ∧ TV hs ms ∧ OfE wx w.heap.size p (j + 1) hs ms ∧ OwnT wx w.heap.size (.slice A1 n1 c1) (.slice B1 m1 d1) hs ms ∧ Blk wx gx 74 #[.slice A1 n1 c1, .slice B1 m1 d1] ∧ Below w.heap.size w wx)
            case first =>
              cases bt with
              | true =>
                have HC := Lib.hid (Take_any w.heap.size p j hs ms xi wr HOF.out HIj.out)
                go_upto_region 15 with (go_at_call 33; (with_reducible refine HC.out.mono ?_); rintro e u6 ⟨rfl, ho6, hb6, hk6⟩)
                have HX6 := Lib.hid (hk6.blk HXB.out (by decide) (by decide))
                have HTR6 := Lib.hid (hk6.trade HTR.out)
                have HB6 := Lib.hid (HBB.out.trans hb6)
                have HO6 := Lib.hid ho6
                clear HXB HTR HBB HOF hb6 hk6 ho6 u0 u1' u2' u3 u4 u5 ul HC
                refine wp_region_preC 13 [(0, 74), (7, 81), (8, 73), (9, 82), (10, 83), (11, 1000), (12, 11)] (fun v => Below w.heap.size w v ∧ OfE v w.heap.size p (j + 1) hs (dropL ms [xi]) ∧ OwnT v w.heap.size (.slice A1 n1 c1) (.slice B1 m1 d1) hs ms) (XtP w.heap.size gx (.slice A1 n1 c1) (.slice B1 m1 d1) hs (dropL ms [xi]) (toE ms xi)) (by kernel_rfl) (by kernel_rfl) ⟨HB6.out, HO6.out, HTR6.out⟩ (fun v1 v2 h kk => ⟨h.1.trans (kk.mono h.1.size), h.2.1.below kk, h.2.2.below kk⟩) (fun v' hv' => XtP.init (HX6.out.below hv')) (fun ls vs v v' _ h kk => h.below kk) ?ex
                case ex =>
                apply Exists.intro
                refine ⟨?walk, ?loud, ?last⟩
                case walk =>
                  intro V hV
                  obtain ⟨bE, oE, eE, hl⟩ := (HD.out.below hV.1).at_ (by omega)
                  cases eE
                  obtain ⟨y0, y1, y2, y3, y4, y5⟩ := Dds.at_ hl (HDj.out)
                  have yl := hl.lt
                  dsimp only at y0 y1 y2 y3 y4 y5
                  clear hl
                  obtain ⟨xc, xf'⟩ := xcell (W := V)
                  simp only [List.take_succ_cons, List.take_nil, qOf, isLoud, List.any_cons, List.any_nil, Nat.reduceBEq, Bool.or_false, Bool.or_true, Nat.reduceAdd, Bool.false_eq_true, if_true, if_false, beq_self_eq_true, Nat.zero_add]
                  repeat (first | go_big_quiet_step (fail) | quiet_step (fail))
                  exact wpQuiet_nil rfl
                case loud =>
                  rintro pp hpp vs v hC ls hI hls hw o ho
                  simp only [List.mem_cons, List.not_mem_nil, or_false] at hpp
                  rcases hpp with rfl | rfl | rfl | rfl | rfl | rfl | rfl
                  · simp only [List.getElem?_cons_zero, Option.some.injEq] at ho
                    subst ho
                    have hbk := hI.bk (hI.unsaid (.inl hls))
                    have z0 := hbk.cell 0
                    have z1 := hbk.cell 1
                    simp only [List.getElem?_toArray, List.getElem?_cons_zero, List.getElem?_cons_succ] at z0 z1
                    simp [loudAt, loudUpon, go_sem, execOp, putsL, Act.put, z0, z1]
                    exact ⟨hC, hI.s0 hls⟩
                  · have h0 := hw (0, 74) (by simp) (by kernel_rfl)
                    have e0 := hI.p0 h0
                    have HR := Lib.hid (RTake_any w.heap.size _ _ hs ms xi v hC.2.2 HLs.out hC.1.size)
                    simp only [List.getElem?_cons_succ, List.getElem?_cons_zero, Option.some.injEq] at ho
                    subst ho
                    simp [loudAt, loudUpon, go_sem, putsL, Act.put, e0]
                    refine HR.out.mono ?_
                    rintro e v' ⟨w1, w2, rfl, ho7, hb7⟩
                    obtain ⟨A7, c7, rfl⟩ := owns_slice ho7.h
                    obtain ⟨B7, d7, rfl⟩ := owns_slice ho7.m
                    exact ⟨_, rfl, ⟨hC.1.trans (hb7.mono hC.1.size), hC.2.1.below hb7, hC.2.2.below hb7⟩, hI.sc h0 hls hb7 ho7⟩
                  · have h7 := hw (7, 81) (by simp) (by kernel_rfl)
                    simp only [List.getElem?_cons_succ, List.getElem?_cons_zero, Option.some.injEq] at ho
                    subst ho
                    simp [loudAt, loudUpon, go_sem, execOp, putsL, Act.put]
                    exact ⟨hC, hI.sm h7⟩
                  · have h8 := hw (8, 73) (by simp) (by kernel_rfl)
                    obtain ⟨h7, e7⟩ := hI.pm h8
                    obtain ⟨_, A5, n5, k5, B5, m5, d5, e6, _⟩ := hI.pc h7
                    have e8 := e7.trans e6
                    simp only [List.getElem?_cons_succ, List.getElem?_cons_zero, Option.some.injEq] at ho
                    subst ho
                    simp [loudAt, loudUpon, go_sem, execOp, putsL, Act.put, e8]
                    exact ⟨hC, hI.se h7 hls e6⟩
                  · have h8 := hw (8, 73) (by simp) (by kernel_rfl)
                    obtain ⟨h7, e7⟩ := hI.pm h8
                    obtain ⟨_, A5, n5, k5, B5, m5, d5, e6, _⟩ := hI.pc h7
                    have e8 := e7.trans e6
                    simp only [List.getElem?_cons_succ, List.getElem?_cons_zero, Option.some.injEq] at ho
                    subst ho
                    simp [loudAt, loudUpon, go_sem, execOp, putsL, Act.put, e8]
                    exact ⟨hC, hI.sf h7 hls e6⟩
                  · have h9 := hw (9, 82) (by simp) (by kernel_rfl)
                    obtain ⟨h7, a5, b5, e6, e9⟩ := hI.pe h9
                    obtain ⟨_, A5, n5, k5, B5, m5, d5, e6', _⟩ := hI.pc h7
                    rw [e6'] at e6
                    cases e6
                    have hbk := hI.bk hls
                    have f0 := hbk.frozen 0
                    have f1 := hbk.frozen 1
                    have b0 := hbk.cell 0
                    have b1 := hbk.cell 1
                    simp only [List.getElem?_toArray, List.getElem?_cons_zero, List.getElem?_cons_succ] at b0 b1
                    have bl := hbk.lt
                    simp only [List.getElem?_cons_succ, List.getElem?_cons_zero, Option.some.injEq] at ho
                    subst ho
                    simp [loudAt, loudUpon, go_sem, execOp, putsL, Act.put, e9, f0, f1, b0, b1]
                    exact ⟨⟨below_set2 hC.1 HLg.out _ _, hC.2.1.set2 hbk, hC.2.2.set2 hbk⟩, hI.ss h9 hls e9 _⟩
                  · have h10 := hw (10, 83) (by simp) (by kernel_rfl)
                    simp only [List.getElem?_cons_succ, List.getElem?_cons_zero, Option.some.injEq] at ho
                    subst ho
                    simp [loudAt, loudUpon, go_sem, execOp, putsL, Act.put]
                    exact ⟨hC, hI.sl h10⟩
                case last =>
                  rintro ls vs V hV hI hls
                  have h11 := hls (11, 1000) (by simp)
                  have h12 := hls (12, 11) (by simp)
                  obtain ⟨A5, n5, k5, B5, m5, d5, e12, ho5, hb5⟩ := hI.done h11 h12
                  simp only [putsL, List.foldl_cons, List.foldl_nil, List.drop_succ_cons, List.drop_nil, Act.put, e12, List.setIfInBounds_toArray, List.set_cons_succ, List.set_cons_zero, List.set_nil]
                  have HE := Lib.hid (show ∃ (er : Int) (mz : List Mv) (A1 : Option Addr) (n1 c1 : Nat) (B1 : Option Addr) (m1 d1 : Nat), (Value.int .i64 (toE ms xi)) = .int .i64 er ∧ (Value.int .i64 (toE ms xi)) = .int .i64 er ∧ TV hs mz ∧ OfE V w.heap.size p (j + 1) hs mz ∧ OwnT V w.heap.size (.slice A1 n1 c1) (.slice B1 m1 d1) hs mz ∧ Blk V gx 74 #[.slice A1 n1 c1, .slice B1 m1 d1] ∧ Below w.heap.size w V from ⟨_, _, _, _, _, _, _, _, rfl, rfl, HTV.out.drop _, hV.2.1, ho5, hb5, hV.1⟩)
                  clear hI hls h11 h12 e12 ho5 hb5 hV
                  generalize vs 0 = g0 at *
                  generalize vs 7 = g1 at *
                  generalize vs 8 = g2 at *
                  generalize vs 9 = g3 at *
                  generalize vs 10 = g4 at *
                  go_wp2
                  go_meet
                  exact HE.out
              | false =>
                have HC := Lib.hid (Put_any w.heap.size p j hs ms ⟨xi, xf, xt, xl, xh⟩ wr HOF.out (by omega))
                go_upto_region 17 with (go_at_call 32; (with_reducible refine HC.out.mono ?_); rintro e u6 ⟨rfl, ho6, hb6, hk6⟩)
                have HX6 := Lib.hid (hk6.blk HXB.out (by decide) (by decide))
                have HTR6 := Lib.hid (hk6.trade HTR.out)
                have HB6 := Lib.hid (HBB.out.trans hb6)
                have HO6 := Lib.hid ho6
                clear HXB HTR HBB HOF hb6 hk6 ho6 u0 u1' u2' u3 u4 u5 ul HC
                refine wp_region_preC 12 [(0, 92), (6, 98), (7, 91), (8, 99), (9, 100), (10, 1000), (11, 11)] (fun v => Below w.heap.size w v ∧ OfE v w.heap.size p (j + 1) hs (poM hs ms ⟨xi, xf, xt, xl, xh⟩) ∧ OwnT v w.heap.size (.slice A1 n1 c1) (.slice B1 m1 d1) hs ms) (XuP w.heap.size gx (.slice A1 n1 c1) (.slice B1 m1 d1) hs (poM hs ms ⟨xi, xf, xt, xl, xh⟩) (poE hs ms ⟨xi, xf, xt, xl, xh⟩)) (by kernel_rfl) (by kernel_rfl) ⟨HB6.out, HO6.out, HTR6.out⟩ (fun v1 v2 h kk => ⟨h.1.trans (kk.mono h.1.size), h.2.1.below kk, h.2.2.below kk⟩) (fun v' hv' => XuP.init (HX6.out.below hv')) (fun ls vs v v' _ h kk => h.below kk) ?ex
                case ex =>
                apply Exists.intro
                refine ⟨?walk, ?loud, ?last⟩
                case walk =>
                  intro V hV
                  obtain ⟨bE, oE, eE, hl⟩ := (HD.out.below hV.1).at_ (by omega)
                  cases eE
                  obtain ⟨y0, y1, y2, y3, y4, y5⟩ := Dds.at_ hl (HDj.out)
                  have yl := hl.lt
                  dsimp only at y0 y1 y2 y3 y4 y5
                  clear hl
                  obtain ⟨xc, xf'⟩ := xcell (W := V)
                  simp only [List.take_succ_cons, List.take_nil, qOf, isLoud, List.any_cons, List.any_nil, Nat.reduceBEq, Bool.or_false, Bool.or_true, Nat.reduceAdd, Bool.false_eq_true, if_true, if_false, beq_self_eq_true, Nat.zero_add]
                  repeat (first | go_big_quiet_step (fail) | quiet_step (fail))
                  exact wpQuiet_nil rfl
                case loud =>
                  rintro pp hpp vs v hC ls hI hls hw o ho
                  simp only [List.mem_cons, List.not_mem_nil, or_false] at hpp
                  rcases hpp with rfl | rfl | rfl | rfl | rfl | rfl | rfl
                  · simp only [List.getElem?_cons_zero, Option.some.injEq] at ho
                    subst ho
                    have hbk := hI.bk (hI.unsaid (.inl hls))
                    have z0 := hbk.cell 0
                    have z1 := hbk.cell 1
                    simp only [List.getElem?_toArray, List.getElem?_cons_zero, List.getElem?_cons_succ] at z0 z1
                    simp [loudAt, loudUpon, go_sem, execOp, putsL, Act.put, z0, z1]
                    exact ⟨hC, hI.s0 hls⟩
                  · have h0 := hw (0, 92) (by simp) (by kernel_rfl)
                    have e0 := hI.p0 h0
                    have HR := Lib.hid (RPut_any w.heap.size _ _ hs ms ⟨xi, xf, xt, xl, xh⟩ v hC.2.2 HLs.out hC.1.size)
                    simp only [List.getElem?_cons_succ, List.getElem?_cons_zero, Option.some.injEq] at ho
                    subst ho
                    simp [loudAt, loudUpon, go_sem, putsL, Act.put, e0]
                    refine HR.out.mono ?_
                    rintro e v' ⟨w1, w2, rfl, ho7, hb7⟩
                    obtain ⟨A7, c7, rfl⟩ := owns_slice ho7.h
                    obtain ⟨B7, d7, rfl⟩ := owns_slice ho7.m
                    exact ⟨_, rfl, ⟨hC.1.trans (hb7.mono hC.1.size), hC.2.1.below hb7, hC.2.2.below hb7⟩, hI.sc h0 hls hb7 ho7⟩
                  · have h7 := hw (6, 98) (by simp) (by kernel_rfl)
                    simp only [List.getElem?_cons_succ, List.getElem?_cons_zero, Option.some.injEq] at ho
                    subst ho
                    simp [loudAt, loudUpon, go_sem, execOp, putsL, Act.put]
                    exact ⟨hC, hI.sm h7⟩
                  · have h8 := hw (7, 91) (by simp) (by kernel_rfl)
                    obtain ⟨h7, e7⟩ := hI.pm h8
                    obtain ⟨_, A5, n5, k5, B5, m5, d5, e6, _⟩ := hI.pc h7
                    have e8 := e7.trans e6
                    simp only [List.getElem?_cons_succ, List.getElem?_cons_zero, Option.some.injEq] at ho
                    subst ho
                    simp [loudAt, loudUpon, go_sem, execOp, putsL, Act.put, e8]
                    exact ⟨hC, hI.se h7 hls e6⟩
                  · have h8 := hw (7, 91) (by simp) (by kernel_rfl)
                    obtain ⟨h7, e7⟩ := hI.pm h8
                    obtain ⟨_, A5, n5, k5, B5, m5, d5, e6, _⟩ := hI.pc h7
                    have e8 := e7.trans e6
                    simp only [List.getElem?_cons_succ, List.getElem?_cons_zero, Option.some.injEq] at ho
                    subst ho
                    simp [loudAt, loudUpon, go_sem, execOp, putsL, Act.put, e8]
                    exact ⟨hC, hI.sf h7 hls e6⟩
                  · have h9 := hw (8, 99) (by simp) (by kernel_rfl)
                    obtain ⟨h7, a5, b5, e6, e9⟩ := hI.pe h9
                    obtain ⟨_, A5, n5, k5, B5, m5, d5, e6', _⟩ := hI.pc h7
                    rw [e6'] at e6
                    cases e6
                    have hbk := hI.bk hls
                    have f0 := hbk.frozen 0
                    have f1 := hbk.frozen 1
                    have b0 := hbk.cell 0
                    have b1 := hbk.cell 1
                    simp only [List.getElem?_toArray, List.getElem?_cons_zero, List.getElem?_cons_succ] at b0 b1
                    have bl := hbk.lt
                    simp only [List.getElem?_cons_succ, List.getElem?_cons_zero, Option.some.injEq] at ho
                    subst ho
                    simp [loudAt, loudUpon, go_sem, execOp, putsL, Act.put, e9, f0, f1, b0, b1]
                    exact ⟨⟨below_set2 hC.1 HLg.out _ _, hC.2.1.set2 hbk, hC.2.2.set2 hbk⟩, hI.ss h9 hls e9 _⟩
                  · have h10 := hw (9, 100) (by simp) (by kernel_rfl)
                    simp only [List.getElem?_cons_succ, List.getElem?_cons_zero, Option.some.injEq] at ho
                    subst ho
                    simp [loudAt, loudUpon, go_sem, execOp, putsL, Act.put]
                    exact ⟨hC, hI.sl h10⟩
                case last =>
                  rintro ls vs V hV hI hls
                  have h11 := hls (10, 1000) (by simp)
                  have h12 := hls (11, 11) (by simp)
                  obtain ⟨A5, n5, k5, B5, m5, d5, e12, ho5, hb5⟩ := hI.done h11 h12
                  simp only [putsL, List.foldl_cons, List.foldl_nil, List.drop_succ_cons, List.drop_nil, Act.put, e12, List.setIfInBounds_toArray, List.set_cons_succ, List.set_cons_zero, List.set_nil]
                  have HE := Lib.hid (show ∃ (er : Int) (mz : List Mv) (A1 : Option Addr) (n1 c1 : Nat) (B1 : Option Addr) (m1 d1 : Nat), (Value.int .i64 (poE hs ms ⟨xi, xf, xt, xl, xh⟩)) = .int .i64 er ∧ (Value.int .i64 (poE hs ms ⟨xi, xf, xt, xl, xh⟩)) = .int .i64 er ∧ TV hs mz ∧ OfE V w.heap.size p (j + 1) hs mz ∧ OwnT V w.heap.size (.slice A1 n1 c1) (.slice B1 m1 d1) hs mz ∧ Blk V gx 74 #[.slice A1 n1 c1, .slice B1 m1 d1] ∧ Below w.heap.size w V from ⟨_, _, _, _, _, _, _, _, rfl, rfl, HTV.out.poM _, hV.2.1, ho5, hb5, hV.1⟩)
                  clear hI hls h11 h12 e12 ho5 hb5 hV
                  generalize vs 0 = g0 at *
                  generalize vs 6 = g1 at *
                  generalize vs 7 = g2 at *
                  generalize vs 8 = g3 at *
                  generalize vs 9 = g4 at *
                  go_wp2
                  go_meet
                  exact HE.out
            case rest =>
              obtain ⟨W1, hW1⟩ : ∃ W, W = wc := ⟨_, rfl⟩
              subst hW1
              clear HTV HOF HTR HXB HBB u0 u1' u2' u3 u4 u5 ul HIj HDj HLs
              obtain ⟨er, ms2, A2, n2, c2, B2, m2, d2, rfl, rfl, htv, hof, htr, hxb, hbb⟩ := hcut
              have HLs := Lib.hid hof.len
              have HTV := Lib.hid htv
              have HOF := Lib.hid hof
              have HTR := Lib.hid htr
              have HXB := Lib.hid hxb
              have HBB := Lib.hid hbb
              clear htv hof htr hxb hbb
              have HTd := Lib.hid (fun (v : World) (hv : Below W1.heap.size W1 v) => (HOF.out.below hv).trade)
              have HAg := Lib.hid (fun (v : World) (hv : Below W1.heap.size W1 v) => OAgrees_any w.heap.size p (j + 1) hs ms2 v (HOF.out.below hv) HTV.out)
              have HRa := Lib.hid (fun (v : World) (hv : Below W1.heap.size W1 v) => RAgrees_any ⟨A2, n2, c2, B2, m2, d2, hs, ms2⟩ v ((HTR.out.below hv).tr HLs.out).1 HTV.out)
              have HSm := Lib.hid (fun (v : World) (hv : Below W1.heap.size W1 v) (A6 : Option Addr) (n6 c6 : Nat) (B6 : Option Addr) (m6 d6 : Nat) (h6 : TR.Ok v ⟨A6, n6, c6, B6, m6, d6, hs, ms2⟩ ∧ n6 ≤ 1000000 ∧ m6 ≤ 1000000) => SameTrade_same A6 n6 c6 B6 m6 d6 A2 n2 c2 B2 m2 d2 hs ms2 v h6.1.h h6.1.m ((HTR.out.below hv).tr HLs.out).1.h ((HTR.out.below hv).tr HLs.out).1.m h6.2.1 h6.2.2)
              dsimp only [TR.v] at HRa
              generalize agrL hs ms2 = ab at *
              have q1 : (er != er) = false := by simp
              have q2 : (ab != ab) = false := by simp
              go_upto_region 18 with fail
              go_cut [119] (fun q wx => q = .bool false ∧ Below W1.heap.size W1 wx)
              case first =>
                have x0 := HXB.out.cell 0
                have x1 := HXB.out.cell 1
                simp only [List.getElem?_toArray, List.getElem?_cons_zero, List.getElem?_cons_succ] at x0 x1
                have xl' := HXB.out.lt
                go_region_with (first
                  | (go_at_call 34; (with_reducible refine (HTd.out _ ?hb).mono ?_); (case hb => first | exact Below.refl _ _ | exact (Below.refl _ _).drew); rintro e u6 ⟨v1, v2, rfl, ho6, hb6⟩; obtain ⟨A6, c6, rfl⟩ := owns_slice ho6.h; obtain ⟨B6, d6, rfl⟩ := owns_slice ho6.m; have HT6 := Lib.hid (ho6.tr HLs.out); have HB6 := Lib.hid (show Below W1.heap.size W1 u6 from (Below.drew (Below.refl W1.heap.size W1)).trans (hb6.mono (Below.drew (Below.refl W1.heap.size W1)).size)); have y0 := (HXB.out.below HB6.out).cell 0; have y1 := (HXB.out.below HB6.out).cell 1; simp only [List.getElem?_toArray, List.getElem?_cons_zero, List.getElem?_cons_succ] at y0 y1; have yl := (HXB.out.below HB6.out).lt; clear ho6 hb6)
                  | (go_at_call 19; (with_reducible refine (HSm.out _ HB6.out _ _ _ _ _ _ HT6.out).mono ?_); rintro e u7 ⟨rfl, hb7⟩; have HB7 := Lib.hid (HB6.out.trans (hb7.mono HB6.out.size)); have z0 := (HXB.out.below HB7.out).cell 0; have z1 := (HXB.out.below HB7.out).cell 1; simp only [List.getElem?_toArray, List.getElem?_cons_zero, List.getElem?_cons_succ] at z0 z1; have zl := (HXB.out.below HB7.out).lt; clear hb7)
                  | (go_at_call 36; (with_reducible refine (HAg.out _ HB7.out).mono ?_); rintro e u8 ⟨rfl, hb8⟩; have HB8 := Lib.hid (HB7.out.trans (hb8.mono HB7.out.size)); have t0 := (HXB.out.below HB8.out).cell 0; have t1 := (HXB.out.below HB8.out).cell 1; simp only [List.getElem?_toArray, List.getElem?_cons_zero, List.getElem?_cons_succ] at t0 t1; have tl := (HXB.out.below HB8.out).lt; clear hb8)
                  | (go_at_call 40; (with_reducible refine (HRa.out _ HB8.out).mono ?_); rintro e u9 ⟨rfl, hb9⟩; have HB9 := Lib.hid (HB8.out.trans (hb9.mono HB8.out.size)); clear hb9))
                all_goals (go_wp2_with fail; go_meet; exact ⟨rfl, HB9.out⟩)
              case rest =>
                obtain ⟨rfl, hb⟩ := hcut
                have HOz := Lib.hid (HOF.out.below hb)
                have HRz := Lib.hid (HTR.out.below hb)
                have HXz := Lib.hid (HXB.out.below hb)
                have HBz := Lib.hid (HBB.out.trans (hb.mono HBB.out.size))
                clear hb HOF HTR HXB HBB
                go_wp2
                go_roundw
                case rel => exact ⟨j + 1, ms2, A2, n2, c2, B2, m2, d2, by omega, by go_num, HTV.out, HOz.out, HRz.out, HXz.out, HBz.out⟩
                case measure => simp [intOf]; omega
open Go.WideShapes Go.ChangeShapes Go.Joins Go.Deep
set_option maxRecDepth 100000 in
theorem flowOffices_lifted (os : Os) (started : os.Started) (H : Type) (enc : TypeId × Value → H) :
    ReturnsInHanded Rows.flowOfficesRow.assume Tryz.checked os 7 .any (Rows.flowOfficesSpec.pre6 enc Tryz.prog Tryz.f7 Rows.flowOfficesRow.domain false) (Rows.flowOfficesSpec.post enc Tryz.prog Tryz.f7 false Rows.flowOfficesRow.fresh Rows.flowOfficesRow.handsOn Rows.flowOfficesRow.again) := by
  refine returnsInHanded_of_change (C := Tryz.checked) (by kernel_rfl) started (by kernel_rfl) Tryz.func7
    (ChangeSpec.witness6 (enc := enc) (C := Tryz.checked) false ⟨#[], #[.slice none 0 0, .slice none 0 0], []⟩ 8 (by kernel_rfl) (by kernel_rfl) (by kernel_rfl) (by kernel_rfl)) ?_
  intro W base args ds gs before hval0 hW hcnd _
  have hval : ∀ (j : Nat) t v, Tryz.f7.params[j]? = some t → args[j]? = some v → Value.okWide Tryz.prog W .any base t v := hval0
  have hW' := hW
  obtain ⟨p, q, hA0, hV, rfl, hfz, hnd⟩ := hW
  obtain ⟨rfl, rfl⟩ := trodVars_none hV
  have hA : DataW.TrodAll enc Tryz.prog W 0 (fun _ => true) true [22, 72] args.toList ds p := hA0
  obtain ⟨v0, v1, d0, d1, p0, p1, rfl, rfl, rfl, h0, h1⟩ := trodAll_two hA
  obtain ⟨A, n, c, hs, rfl, k1, l1, e1⟩ := open_hs (hval 0 22 v0 rfl rfl) h0
  obtain ⟨D, k, ck, dl, rfl, k2, l2, hid⟩ := open_ds (hval 1 72 v1 rfl rfl) h1
  refine (flowOffices_walk A n c hs D k ck dl W k1 k2 l1 l2 e1 hid).mono fun e W' ⟨he, hb⟩ => ⟨_, he, law_post laid_out (by kernel_rfl) rfl Tryz.underlying4 rfl hW' rfl rfl rfl hb⟩

theorem flowOffices : Rows.FlowOfficesSaid :=
  OpenClaim.holds_of_wide 7 Tryz.f7 rfl rfl rfl rfl rfl rfl rfl ⟨rfl, rfl, rfl, rfl, rfl⟩ rfl rfl rfl rfl rfl (by kernel_rfl) Tryz.func7 (by kernel_rfl)
    (of_decide_eq_true (by kernel_rfl)) (by unfold Func.isWrapper; first | (rw [if_pos (by decide +kernel)]; kernel_rfl) | (rw [if_neg (by decide +kernel)]; exact ⟨rfl, rfl⟩))
    (fun os started H enc _ => flowOffices_lifted os started H enc)
#print axioms flowOffices
end Go.Proofs.YtighfmgkoepfkaaGreat
