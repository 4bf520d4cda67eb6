/- CheckLimit of the specification. -/
import Derived.Test.YtighfmgkoepfkaaGreatMD
import Derived.Test.YtighfmgkoepfkaaGreatME
import Derived.Test.YtighfmgkoepfkaaGreatMG
import Derived.Test.YtighfmgkoepfkaaGreatML
import Derived.Test.YtighfmgkoepfkaaGreatMR
import Derived.Test.YtighfmgkoepfkaaGreatMH
namespace Go.Proofs.YtighfmgkoepfkaaGreat
open Go.RowKit

theorem told_pos {hs : List Hd} {ms : List Mv} {kind id : Int} {st en ma : List Int} (hp : placeE hs ms kind id = 0) (l1 : st.length = hs.length) (l2 : en.length = hs.length) (h1 : kind ≠ 1) : (kind = 2 ∨ kind = 3) ∧ posN hs id < hs.length ∧ pos hs id = (posN hs id : Int) ∧ (toldL hs ms kind id st en ma).1 = iget (if kind = 2 then st else en) (posN hs id) := by
  unfold placeE at hp
  rw [if_neg h1] at hp
  by_cases c : kind = 2 ∨ kind = 3
  · rw [if_pos c] at hp
    by_cases d : posN hs id < hs.length
    · refine ⟨c, d, by unfold pos; rw [if_pos d], ?_⟩
      unfold toldL
      rw [if_neg h1, if_pos c, if_pos ⟨d, by omega, by omega⟩]
    · rw [if_neg d] at hp; cases hp
  · rw [if_neg c] at hp; cases hp
set_option maxRecDepth 100000 in
set_option maxHeartbeats 12800000 in
theorem rtold_any (t : TR) (kind id : Int) (A1 : Option Addr) (n1 c1 : Nat) (A2 : Option Addr) (n2 c2 : Nat) (A3 : Option Addr) (n3 c3 : Nat) (st en ma : List Int) (w : World) (h : t.Ok w) (h1 : SAt encI 1 w A1 n1 st) (h2 : SAt encI 1 w A2 n2 en) (h3 : SAt encI 1 w A3 n3 ma) (hn : t.n ≤ 1000000) (hm : t.m ≤ 1000000) (hp : placeE t.hs t.ms kind id = 0) (l1 : st.length = t.hs.length) (l2 : en.length = t.hs.length) (l3 : ma.length = t.ms.length) :
    Calls Tryz.prog 98 #[t.v, vAt kind id, vCo A1 n1 c1 A2 n2 c2 A3 n3 c3] w fun e w' => e = .returned (.int .i64 (toldL t.hs t.ms kind id st en ma).1) ∧ Below w.heap.size w w' := by
  have HPl := Lib.hid (fun (u : World) (hu : t.Ok u) => Place_any t id u hu (by omega))
  obtain ⟨A, n, c, B, m, d, hs, ms⟩ := t
  dsimp only [TR.v] at *
  have HLn := Lib.hid (show n1 = n ∧ n2 = n ∧ n3 = m from ⟨by rw [← h1.len, l1, h.h.len], by rw [← h2.len, l2, h.h.len], by rw [← h3.len, l3, h.m.len]⟩)
  have HPs := Lib.hid (told_pos (ma := ma) hp l1 l2)
  have HNm := Lib.hid (fun q : toldL hs ms kind id st en ma = (0, false) => (show False by rw [told_val hp l1 l2 l3] at q; have := congrArg Prod.snd q; cases this))
  clear hp l1 l2 l3
  have hb0 := (((Below.refl w.heap.size w).alloc (Nat.le_refl _) (.cells #[.slice A n c, .slice B m d] 25)).alloc (by simp) (.cells #[.int .i64 kind, .int .i64 id] 83)).alloc (by simp; omega) (.cells #[.slice A1 n1 c1, .slice A2 n2 c2, .slice A3 n3 c3] 68)
  have t0 := (((Blk.new w 25 #[.slice A n c, .slice B m d]).alloc (.cells #[.int .i64 kind, .int .i64 id] 83)).alloc (.cells #[.slice A1 n1 c1, .slice A2 n2 c2, .slice A3 n3 c3] 68))
  have x0 := (Blk.at_new (W := w.alloc (.cells #[.slice A n c, .slice B m d] 25)) (g := w.heap.size + 1) 83 #[.int .i64 kind, .int .i64 id] (by simp)).alloc (.cells #[.slice A1 n1 c1, .slice A2 n2 c2, .slice A3 n3 c3] 68)
  have r0 := Blk.at_new (W := (w.alloc (.cells #[.slice A n c, .slice B m d] 25)).alloc (.cells #[.int .i64 kind, .int .i64 id] 83)) (g := w.heap.size + 2) 68 #[.slice A1 n1 c1, .slice A2 n2 c2, .slice A3 n3 c3] (by simp)
  have HOk := Lib.hid h
  have HLh := Lib.hid (show hs.length = n from h.h.len)
  have HLm := Lib.hid (show ms.length = m from h.m.len)
  have HS1 := Lib.hid h1
  have HS2 := Lib.hid h2
  have HS3 := Lib.hid h3
  have HL1 := Lib.hid h1.len
  have HL2 := Lib.hid h2.len
  have HL3 := Lib.hid h3.len
  clear h h1 h2 h3
  go_enter Tryz.func98, Tryz.ntmps98
  go_upto_region 1 with fail
  generalize hW : ((w.alloc (.cells #[.slice A n c, .slice B m d] 25)).alloc (.cells #[.int .i64 kind, .int .i64 id] 83)).alloc (.cells #[.slice A1 n1 c1, .slice A2 n2 c2, .slice A3 n3 c3] 68) = W at *
  clear hW
  have HT := Lib.hid t0
  have HA := Lib.hid x0
  have HR := Lib.hid r0
  have HB0 := Lib.hid hb0
  clear t0 x0 r0 hb0
  go_upto_region 2 with fail
  go_loopw [7] (fun i wx => ∃ k : Nat, k ≤ m ∧ i = .int .i64 (k : Int) ∧ (kind = 1 → ∀ i, i < k → (mat ms i).id ≠ id) ∧ Below W.heap.size W wx) (fun i _ => m - (intOf i).toNat)
  case atStart => exact ⟨0, Nat.zero_le _, rfl, fun _ i h => absurd h (Nat.not_lt_zero _), Below.refl _ _⟩
  case round =>
    obtain ⟨k, hk, rfl, hq, hb⟩ := hrel
    have HQ := Lib.hid hq
    have HB := Lib.hid (HB0.out.trans (hb.mono HB0.out.size))
    have HBW := Lib.hid hb
    have HT1 := Lib.hid (HT.out.below hb)
    have HA1 := Lib.hid (HA.out.below hb)
    have HR1 := Lib.hid (HR.out.below hb)
    clear hq hb
    have y0 := HT1.out.cell 0
    have y1 := HT1.out.cell 1
    have a0 := HA1.out.cell 0
    have a1 := HA1.out.cell 1
    have z0 := HR1.out.cell 0
    have z1 := HR1.out.cell 1
    have z2 := HR1.out.cell 2
    simp only [List.getElem?_toArray, List.getElem?_cons_zero, List.getElem?_cons_succ] at y0 y1 a0 a1 z0 z1 z2
    have yl := HT1.out.lt
    have al := HA1.out.lt
    have zl := HR1.out.lt
    by_cases hkm : k < m
    case neg =>
      by_cases p1 : kind = 1
      case pos => exact absurd (told_none (fun h i hi _ => HQ.out h i (by have := HLm.out; omega)) (fun h => by omega)) (fun q => HNm.out q)
      obtain ⟨kk, hf, hpp, hv⟩ := HPs.out p1
      have HPu := Lib.hid (HPl.out _ (HOk.out.below HB.out))
      rw [hpp] at HPu
      have HV := Lib.hid hv
      have HKk := Lib.hid kk
      have hfn : posN hs id < n := by rw [← HLh.out]; exact hf
      obtain ⟨f, hfe⟩ : ∃ f, posN hs id = f := ⟨_, rfl⟩
      rw [hfe] at HPu HV hfn
      clear hfe hpp hv hf kk p1
      have hi1 : f < st.length := by have := HL1.out; have := HLn.out; omega
      have hi2 : f < en.length := by have := HL2.out; have := HLn.out; omega
      obtain ⟨b1, of1, e1, hl1⟩ := HS1.out.at_ (by have := HLn.out; omega)
      obtain ⟨b2, of2, e2, hl2⟩ := HS2.out.at_ (by have := HLn.out; omega)
      subst e1 e2
      have HLs1 := Lib.hid (hl1.below HB.out)
      have HLs2 := Lib.hid (hl2.below HB.out)
      clear hl1 hl2
      have mx : max (0 : Int) (f : Int) = (f : Int) := by omega
      have mx2 : ¬ ((f : Int) < 0) := by omega
      have mx3 : (0 : Int) ≤ (f : Int) := by omega
      go_upto_region 7 with (go_at_call 94; with_reducible refine HPu.out.mono ?_; rintro e w2 ⟨rfl, hb2⟩)
      have HB2 := Lib.hid (HB.out.trans (hb2.mono HB.out.size))
      have HA2 := Lib.hid (HA1.out.below hb2)
      have HR2 := Lib.hid (HR1.out.below hb2)
      have HM1 := Lib.hid (HLs1.out.below hb2)
      have HM2 := Lib.hid (HLs2.out.below hb2)
      clear hb2 y0 y1 a0 a1 z0 z1 z2 yl al zl HLs1 HLs2
      have a0 := HA2.out.cell 0
      have a1 := HA2.out.cell 1
      have z0 := HR2.out.cell 0
      have z1 := HR2.out.cell 1
      have z2 := HR2.out.cell 2
      simp only [List.getElem?_toArray, List.getElem?_cons_zero, List.getElem?_cons_succ] at a0 a1 z0 z1 z2
      have al := HA2.out.lt
      have zl := HR2.out.lt
      have s0 := HM1.out.c f _ (List.getElem?_eq_getElem hi1) 0 _ rfl
      rw [Nat.mul_one, Nat.add_zero, ← iget_eq hi1] at s0
      have sl := HM1.out.lt
      have t0 := HM2.out.c f _ (List.getElem?_eq_getElem hi2) 0 _ rfl
      rw [Nat.mul_one, Nat.add_zero, ← iget_eq hi2] at t0
      have tl := HM2.out.lt
      have g1 : f < n1 := by have := HLn.out; omega
      have g2 : f < n2 := by have := HLn.out; omega
      by_cases p2 : kind = 2
      case pos =>
        have HE := Lib.hid (show (toldL hs ms kind id st en ma).1 = iget st f by rw [HV.out, if_pos p2])
        have q2 : (kind == 2) = true := by simpa using p2
        clear p2
        go_wp2
        exact bodyPost_ret (v := .int .i64 (iget st f)) (by simp [results, Tryz.results98, go_sem]) rfl ⟨by rw [HE.out], HB2.out⟩
      case neg =>
        have HE := Lib.hid (show (toldL hs ms kind id st en ma).1 = iget en f by rw [HV.out, if_neg p2])
        have q2 : (kind == 2) = false := by simpa using p2
        clear p2
        go_wp2
        exact bodyPost_ret (v := .int .i64 (iget en f)) (by simp [results, Tryz.results98, go_sem]) rfl ⟨by rw [HE.out], HB2.out⟩
    case pos =>
      have hk3 : k < n3 := by have := HLn.out; omega
      have hil : k < ms.length := by have := HLm.out; omega
      have hi3 : k < ma.length := by have := HL3.out; omega
      obtain ⟨b, off, eB, hl⟩ := HOk.out.m.at_ (by dsimp only; omega)
      obtain ⟨b3, of3, e3, hl3⟩ := HS3.out.at_ (by omega)
      dsimp only at eB
      subst eB e3
      have HLs3 := Lib.hid (hl3.below HB.out)
      have hlb := hl.below HB.out
      obtain ⟨u0, u1, u2, u3, u4⟩ := Mvs.at_ hlb (List.getElem?_eq_getElem hil)
      have ul := hlb.lt
      have HMm := Lib.hid (mat_eq hil)
      rw [← HMm.out] at u0
      obtain ⟨jd, hjd⟩ : ∃ x, (mat ms k).id = x := ⟨_, rfl⟩
      rw [hjd] at u0
      have HJ := Lib.hid hjd
      clear hl hl3 hlb hjd u1 u2 u3 u4
      go_upto_region 4 with fail
      by_cases p1 : kind = 1
      case neg =>
        have q1 : (kind == 1) = false := by simpa using p1
        have HP := Lib.hid p1
        clear p1
        obtain ⟨xc, xf'⟩ := xcell (W := wr)
        refine wp_region_quiet_tail 14 (by kernel_rfl) (by kernel_rfl) ?_
        simp only [List.take_succ_cons, List.take_zero, List.drop_succ_cons, List.drop_zero]
        repeat (first | go_big_quiet_step (fail) | quiet_step (fail))
        refine wpQuiet_nil ?_
        intro w2 hb2
        have HBX := Lib.hid (HBW.out.trans (hb2.mono HBW.out.size))
        clear xc xf' hb2
        go_wp2
        go_roundw
        case rel => exact ⟨k + 1, by omega, by go_num, fun h => absurd h HP.out, HBX.out⟩
        case measure => simp [intOf]; omega
      case pos =>
        have q1 : (kind == 1) = true := by simpa using p1
        have HP := Lib.hid p1
        clear p1
        by_cases ci : jd = id
        case pos =>
          have qi : (jd == id) = true := by simpa using ci
          have HIe := Lib.hid (show (mat ms k).id = id by rw [HJ.out]; exact ci)
          clear ci
          have HF := Lib.hid (show toldL hs ms kind id st en ma = (iget ma k, true) from told_mass HP.out hil hi3 HIe.out (HQ.out HP.out))
          obtain ⟨xc, xf'⟩ := xcell (W := wr)
          refine wp_region_quiet_tail 14 (by kernel_rfl) (by kernel_rfl) ?_
          simp only [List.take_succ_cons, List.take_zero, List.drop_succ_cons, List.drop_zero]
          repeat (first | go_big_quiet_step (fail) | quiet_step (fail))
          refine wpQuiet_nil ?_
          intro w2 hb2
          have HR2 := Lib.hid (HR1.out.below hb2)
          have z2 := HR2.out.cell 2
          simp only [List.getElem?_toArray, List.getElem?_cons_zero, List.getElem?_cons_succ] at z2
          have zl := HR2.out.lt
          have hl4 := HLs3.out.below hb2
          have s0 := hl4.c k _ (List.getElem?_eq_getElem hi3) 0 _ rfl
          rw [Nat.mul_one, Nat.add_zero, ← iget_eq hi3] at s0
          have sl := hl4.lt
          have HB2 := Lib.hid (HB.out.trans (hb2.mono HB.out.size))
          clear hl4 hb2 xc xf'
          go_wp2
          exact bodyPost_ret (v := .int .i64 (iget ma k)) (by simp [results, Tryz.results98, go_sem]) rfl ⟨by rw [HF.out], HB2.out⟩
        case neg =>
          have qi : (jd == id) = false := by simpa using ci
          have HIe := Lib.hid (show (mat ms k).id ≠ id by rw [HJ.out]; exact ci)
          clear ci
          obtain ⟨xc, xf'⟩ := xcell (W := wr)
          refine wp_region_quiet_tail 14 (by kernel_rfl) (by kernel_rfl) ?_
          simp only [List.take_succ_cons, List.take_zero, List.drop_succ_cons, List.drop_zero]
          repeat (first | go_big_quiet_step (fail) | quiet_step (fail))
          refine wpQuiet_nil ?_
          intro w2 hb2
          have HBX := Lib.hid (HBW.out.trans (hb2.mono HBW.out.size))
          clear xc xf' hb2
          go_wp2
          go_roundw
          case rel => exact ⟨k + 1, by omega, by go_num, fun hh i h => by
            rcases Nat.lt_succ_iff_lt_or_eq.1 h with h | h
            · exact HQ.out hh i h
            · subst h; exact HIe.out, HBX.out⟩
          case measure => simp [intOf]; omega
end Go.Proofs.YtighfmgkoepfkaaGreat

namespace Go.Proofs.YtighfmgkoepfkaaGreat
open Go.RowKit

/-- The calls of Put and of shows, in whatever order the loads lie. -/
structure PsP (hs : List Hd) (ms : List Mv) (way : Int) (s : List Int) (ls : Nat → Bool) (vs : Nat → Value) (v : World) : Prop where
  p3 : ls 3 = true → ∃ (A : Option Addr) (n c : Nat) (B : Option Addr) (m d : Nat), vs 3 = .agg #[.slice A n c, .slice B m d] ∧ TR.Ok v ⟨A, n, c, B, m, d, hs, ms⟩
  p6 : ls 6 = true → vs 6 = .bool (showsL hs ms way s)
theorem PsP.below {hs : List Hd} {ms : List Mv} {way : Int} {s : List Int} {ls : Nat → Bool} {vs : Nat → Value} {v v' : World} (h : PsP hs ms way s ls vs v) (hb : Below v.heap.size v v') : PsP hs ms way s ls vs v' :=
  ⟨fun a => let ⟨A, n, c, B, m, d, e, k⟩ := h.p3 a; ⟨A, n, c, B, m, d, e, k.below hb⟩, h.p6⟩
theorem put_both {hs : List Hd} {ms : List Mv} {kind id lo hi : Int} (hv : TV hs ms) (hp : placeE hs ms kind id = 0) (q : okSp lo hi = true) : TV (putIH hs kind id lo hi) (putIM ms kind id lo hi) := by
  rw [← putH_id hv.ids hp, ← putM_id hv.mids hp]
  exact hv.put q _
set_option maxRecDepth 100000 in
set_option maxHeartbeats 12800000 in
theorem RCheckLimit_any (t : TR) (kind id val : Int) (A1 : Option Addr) (n1 c1 : Nat) (A2 : Option Addr) (n2 c2 : Nat) (A3 : Option Addr) (n3 c3 : Nat) (way : Int) (A4 : Option Addr) (n4 c4 : Nat) (st en ma s : List Int) (gr : Bool) (w : World) (h : t.Ok w) (h1 : SAt encI 1 w A1 n1 st) (h2 : SAt encI 1 w A2 n2 en) (h3 : SAt encI 1 w A3 n3 ma) (h4 : SAt encI 1 w A4 n4 s) (l4 : n4 ≤ 1000000) :
    Calls Tryz.prog 48 #[t.v, vAt kind id, vLim val A1 n1 c1 A2 n2 c2 A3 n3 c3 way A4 n4 c4, .bool gr] w fun e w' => e = .returned (.int .i64 (ckLi t.hs t.ms kind id val st en ma way s gr)) ∧ Below w.heap.size w w' := by
  obtain ⟨A, n, c, B, m, d, hs, ms⟩ := t
  have HCk := Lib.hid (fun (u : World) (hu : TR.Ok u ⟨A, n, c, B, m, d, hs, ms⟩) => RCheck_any ⟨A, n, c, B, m, d, hs, ms⟩ u hu)
  have HLs := Lib.hid (show s.length = n4 from h4.len)
  have HLh := Lib.hid (show hs.length = n from h.h.len)
  have HLm := Lib.hid (show ms.length = m from h.m.len)
  dsimp only [TR.v, vAt, vLim, vCo] at *
  obtain ⟨res, hres⟩ : ∃ x, ckLi hs ms kind id val st en ma way s gr = x := ⟨_, rfl⟩
  rw [hres]
  unfold ckLi at hres
  have HE := Lib.hid hres
  clear hres
  have HTv := Lib.hid (show tcheck hs ms = 0 → TV hs ms from tcheck_zero.1)
  have HP1 := Lib.hid (fun q : tcheck hs ms ≠ 0 => (show plE hs ms kind id = tcheck hs ms by unfold plE; rw [if_pos q]))
  have HP2 := Lib.hid (fun q : tcheck hs ms = 0 => (show plE hs ms kind id = placeE hs ms kind id by unfold plE; rw [if_neg (by simpa using q)]))
  obtain ⟨tc, htc⟩ : ∃ x, tcheck hs ms = x := ⟨_, rfl⟩
  rw [htc] at HP1 HP2 HTv HCk
  clear htc
  have HB0 : Hid (Below w.heap.size w (((w.alloc (.cells #[.slice A n c, .slice B m d] 25)).alloc (.cells #[.int .i64 kind, .int .i64 id] 83)).alloc (.cells #[.int .i64 val, .slice A1 n1 c1, .slice A2 n2 c2, .slice A3 n3 c3, .int .i64 way, .slice A4 n4 c4] 95))) := Lib.hid ((((Below.refl w.heap.size w).alloc (Nat.le_refl _) _).alloc (by simp) _).alloc (by simp; omega) _)
  have T0 : Hid (Blk (((w.alloc (.cells #[.slice A n c, .slice B m d] 25)).alloc (.cells #[.int .i64 kind, .int .i64 id] 83)).alloc (.cells #[.int .i64 val, .slice A1 n1 c1, .slice A2 n2 c2, .slice A3 n3 c3, .int .i64 way, .slice A4 n4 c4] 95)) w.heap.size 25 #[.slice A n c, .slice B m d]) := Lib.hid (((Blk.at_new 25 #[.slice A n c, .slice B m d] rfl).alloc _).alloc _)
  have X0 : Hid (Blk (((w.alloc (.cells #[.slice A n c, .slice B m d] 25)).alloc (.cells #[.int .i64 kind, .int .i64 id] 83)).alloc (.cells #[.int .i64 val, .slice A1 n1 c1, .slice A2 n2 c2, .slice A3 n3 c3, .int .i64 way, .slice A4 n4 c4] 95)) (w.heap.size + 1) 83 #[.int .i64 kind, .int .i64 id]) := Lib.hid ((Blk.at_new 83 #[.int .i64 kind, .int .i64 id] (by simp)).alloc _)
  have L0 : Hid (Blk (((w.alloc (.cells #[.slice A n c, .slice B m d] 25)).alloc (.cells #[.int .i64 kind, .int .i64 id] 83)).alloc (.cells #[.int .i64 val, .slice A1 n1 c1, .slice A2 n2 c2, .slice A3 n3 c3, .int .i64 way, .slice A4 n4 c4] 95)) (w.heap.size + 2) 95 #[.int .i64 val, .slice A1 n1 c1, .slice A2 n2 c2, .slice A3 n3 c3, .int .i64 way, .slice A4 n4 c4]) := Lib.hid (Blk.at_new 95 #[.int .i64 val, .slice A1 n1 c1, .slice A2 n2 c2, .slice A3 n3 c3, .int .i64 way, .slice A4 n4 c4] (by simp))
  have O0 := Lib.hid ((h).below HB0.out)
  have P0 := Lib.hid ((h1).below HB0.out)
  have Q0 := Lib.hid ((h2).below HB0.out)
  have R0 := Lib.hid ((h3).below HB0.out)
  have S0 := Lib.hid ((h4).below HB0.out)
  go_enter Tryz.func48, Tryz.ntmps48
  go_upto_region 1 with fail
  generalize hV : ((w.alloc (.cells #[.slice A n c, .slice B m d] 25)).alloc (.cells #[.int .i64 kind, .int .i64 id] 83)).alloc (.cells #[.int .i64 val, .slice A1 n1 c1, .slice A2 n2 c2, .slice A3 n3 c3, .int .i64 way, .slice A4 n4 c4] 95) = V0 at *
  clear hV
  clear h h1 h2 h3 h4
  have yT0 := T0.out.cell 0
  have yT1 := T0.out.cell 1
  have yX0 := X0.out.cell 0
  have yX1 := X0.out.cell 1
  have yL0 := L0.out.cell 0
  have yL1 := L0.out.cell 1
  have yL2 := L0.out.cell 2
  have yL3 := L0.out.cell 3
  have yL4 := L0.out.cell 4
  have yL5 := L0.out.cell 5
  simp only [List.getElem?_toArray, List.getElem?_cons_zero, List.getElem?_cons_succ] at yT0 yT1 yX0 yX1 yL0 yL1 yL2 yL3 yL4 yL5
  have yTl := T0.out.lt
  have yXl := X0.out.lt
  have yLl := L0.out.lt
  have HC := Lib.hid (HCk.out _ O0.out)
  try dsimp only [TR.v, vCt] at HC
  go_upto_region 2 with (go_at_call 61; with_reducible refine HC.out.mono ?_; rintro e u1 ⟨rfl, hb⟩)
  clear yT0 yT1 yX0 yX1 yL0 yL1 yL2 yL3 yL4 yL5 yTl yXl yLl
  clear HC
  have bn := hb
  have T1 := Lib.hid (T0.out.below bn)
  have X1 := Lib.hid (X0.out.below bn)
  have L1 := Lib.hid (L0.out.below bn)
  have O1 := Lib.hid (O0.out.below bn)
  have P1 := Lib.hid (P0.out.below bn)
  have Q1 := Lib.hid (Q0.out.below bn)
  have R1 := Lib.hid (R0.out.below bn)
  have S1 := Lib.hid (S0.out.below bn)
  have HB1 := Lib.hid (HB0.out.trans (bn.mono HB0.out.size))
  clear hb bn T0 X0 L0 O0 P0 Q0 R0 S0 HB0
  by_cases hc : tc = 0
  case neg =>
    have hz : (tc != 0) = true := by simpa using hc
    have HE2 := Lib.hid (show res = tc by have k := HE.out; rw [HP1.out hc, if_pos hc] at k; exact k.symm)
    clear hc
    go_wp2
    exact bodyPost_ret (v := .int .i64 tc) (by simp [results, Tryz.results48, go_sem]) rfl ⟨by rw [HE2.out], HB1.out⟩
  case pos =>
  subst hc
  have hv := HTv.out rfl
  have HTV := Lib.hid hv
  have hn9 : n ≤ 9 := by rw [← HLh.out]; exact hv.lenH
  have hm24 : m ≤ 24 := by rw [← HLm.out]; exact hv.lenM
  clear HTv hv HCk
  have hz : ((0 : Int) != 0) = false := by decide
  have HE1 := Lib.hid (by have k := HE.out; rw [HP2.out rfl] at k; exact k)
  clear HE HP1 HP2
  have HOf := Lib.hid (fun (u : World) (hu : TR.Ok u ⟨A, n, c, B, m, d, hs, ms⟩) => Of_any ⟨A, n, c, B, m, d, hs, ms⟩ kind id u hu (show n ≤ 1000000 by omega) (show m ≤ 1000000 by omega))
  dsimp only [TR.v, vAt, vSp] at HOf
  have HPl := Lib.hid (fun q : placeE hs ms kind id = 0 => And.intro (show ofV hs ms kind id = (spanLo hs ms (placeN hs ms kind id), spanHi hs ms (placeN hs ms kind id)) by unfold ofV; rw [if_pos q]) (placeN_lt q))
  have HIf := Lib.hid (fun q : placeE hs ms kind id ≠ 0 => (show res = placeE hs ms kind id by
    have := HE1.out
    rw [if_pos q] at this
    exact this.symm))
  have HPe := Lib.hid (fun (hp : placeE hs ms kind id = 0) (lo hi : Int) (q : okSp lo hi = true) => put_both HTV.out hp q)
  have HPi := Lib.hid (fun (hp : placeE hs ms kind id = 0) (lo hi : Int) => And.intro (putH_id (lo := lo) (hi := hi) HTV.out.ids hp) (putM_id (lo := lo) (hi := hi) HTV.out.mids hp))
  have HTd := Lib.hid (fun (hp : placeE hs ms kind id = 0) (l1 : st.length = hs.length) (l2 : en.length = hs.length) (l3 : ma.length = ms.length) (u : World) (hu : TR.Ok u ⟨A, n, c, B, m, d, hs, ms⟩) (q1 : SAt encI 1 u A1 n1 st) (q2 : SAt encI 1 u A2 n2 en) (q3 : SAt encI 1 u A3 n3 ma) => rtold_any ⟨A, n, c, B, m, d, hs, ms⟩ kind id A1 n1 c1 A2 n2 c2 A3 n3 c3 st en ma u hu q1 q2 q3 (show n ≤ 1000000 by omega) (show m ≤ 1000000 by omega) hp l1 l2 l3)
  have HTe := Lib.hid (fun (hp : placeE hs ms kind id = 0) (l1 : st.length = hs.length) (l2 : en.length = hs.length) (l3 : ma.length = ms.length) => told_val (st := st) (en := en) (ma := ma) hp l1 l2 l3)
  have HE2 := Lib.hid (fun q : placeE hs ms kind id = 0 => by
    have k := HE1.out
    rw [if_neg (show ¬ (placeE hs ms kind id ≠ 0) by simpa using q)] at k
    exact k)
  clear HE1
  obtain ⟨⟨sl, sh⟩, hof⟩ : ∃ x, ofV hs ms kind id = x := ⟨_, rfl⟩
  obtain ⟨pe, hpe⟩ : ∃ x, placeE hs ms kind id = x := ⟨_, rfl⟩
  rw [hof, hpe] at HPl
  rw [hof, hpe] at HOf
  rw [hpe] at HIf HPe HPi HTd HTe HE2
  dsimp only [TR.v, vAt, vCo] at HOf HTd
  clear hof hpe
  have yT0 := T1.out.cell 0
  have yT1 := T1.out.cell 1
  have yX0 := X1.out.cell 0
  have yX1 := X1.out.cell 1
  have yL0 := L1.out.cell 0
  have yL1 := L1.out.cell 1
  have yL2 := L1.out.cell 2
  have yL3 := L1.out.cell 3
  have yL4 := L1.out.cell 4
  have yL5 := L1.out.cell 5
  simp only [List.getElem?_toArray, List.getElem?_cons_zero, List.getElem?_cons_succ] at yT0 yT1 yX0 yX1 yL0 yL1 yL2 yL3 yL4 yL5
  have yTl := T1.out.lt
  have yXl := X1.out.lt
  have yLl := L1.out.lt
  have HC := Lib.hid (HOf.out _ O1.out)
  try dsimp only [TR.v, vCt] at HC
  go_upto_region 5 with (go_at_call 96; with_reducible refine HC.out.mono ?_; rintro e u2 ⟨rfl, hb⟩)
  clear yT0 yT1 yX0 yX1 yL0 yL1 yL2 yL3 yL4 yL5 yTl yXl yLl
  clear HC
  have bn := hb
  have bq : Below u2.heap.size u2 (u2.alloc (.cells #[.int .i64 sl, .int .i64 sh] 57)) := ((Below.refl u2.heap.size u2).alloc (Nat.le_refl _) _)
  have bn := hb.trans (bq.mono hb.size)
  have T2 := Lib.hid (T1.out.below bn)
  have X2 := Lib.hid (X1.out.below bn)
  have L2 := Lib.hid (L1.out.below bn)
  have O2 := Lib.hid (O1.out.below bn)
  have P2 := Lib.hid (P1.out.below bn)
  have Q2 := Lib.hid (Q1.out.below bn)
  have R2 := Lib.hid (R1.out.below bn)
  have S2 := Lib.hid (S1.out.below bn)
  have HB2 := Lib.hid (HB1.out.trans (bn.mono HB1.out.size))
  have N2 : Hid (Blk (u2.alloc (.cells #[.int .i64 sl, .int .i64 sh] 57)) u2.heap.size 57 #[.int .i64 sl, .int .i64 sh]) := Lib.hid (Blk.at_new 57 #[.int .i64 sl, .int .i64 sh] rfl)
  generalize hV : u2.alloc (.cells #[.int .i64 sl, .int .i64 sh] 57) = V2 at *
  generalize hp : u2.heap.size = p2 at *
  clear hV hp bq
  clear hb bn T1 X1 L1 O1 P1 Q1 R1 S1 HB1
  by_cases hc : pe = 0
  case neg =>
    have hz2 : (pe != 0) = true := by simpa using hc
    have HE3 := Lib.hid (HIf.out hc)
    clear hc
    go_wp2
    exact bodyPost_ret (v := .int .i64 pe) (by simp [results, Tryz.results48, go_sem]) rfl ⟨by rw [HE3.out], HB2.out⟩
  case pos =>
  subst hc
  obtain ⟨hsp, hlt⟩ := HPl.out rfl
  have HE3 := Lib.hid (HE2.out rfl)
  have HPv := Lib.hid (HPe.out rfl)
  have HPw := Lib.hid (HPi.out rfl)
  have HSp := Lib.hid (span_ok HTV.out hlt)
  have HFl := Lib.hid (fun (q : fitsL hs ms st en ma = true) => And.intro (fits_len q) (fits_val q hlt))
  have HTd2 := Lib.hid (HTd.out rfl)
  have HTe2 := Lib.hid (HTe.out rfl)
  obtain ⟨e1, e2⟩ := Prod.mk.inj hsp
  generalize placeN hs ms kind id = at_ at *
  subst e1 e2
  obtain ⟨sl, hsl⟩ : ∃ x, spanLo hs ms at_ = x := ⟨_, rfl⟩
  obtain ⟨sh, hsh⟩ : ∃ x, spanHi hs ms at_ = x := ⟨_, rfl⟩
  rw [hsl, hsh] at HE3 HSp HFl
  simp only [hsl, hsh] at *
  clear hsl hsh hlt hsp HPl HE2 HPe HPi HTd HTe HIf HOf
  have HFt := Lib.hid (fun (u : World) (hu : TR.Ok u ⟨A, n, c, B, m, d, hs, ms⟩) (q1 : SAt encI 1 u A1 n1 st) (q2 : SAt encI 1 u A2 n2 en) (q3 : SAt encI 1 u A3 n3 ma) => RFits_any ⟨A, n, c, B, m, d, hs, ms⟩ A1 n1 c1 A2 n2 c2 A3 n3 c3 st en ma u hu q1 q2 q3 HTV.out)
  dsimp only [TR.v, vCo] at HFt
  obtain ⟨fb, hfb⟩ : ∃ x, fitsL hs ms st en ma = x := ⟨_, rfl⟩
  rw [hfb] at HE3 HFl HFt
  clear hfb
  have yT0 := T2.out.cell 0
  have yT1 := T2.out.cell 1
  have yX0 := X2.out.cell 0
  have yX1 := X2.out.cell 1
  have yL0 := L2.out.cell 0
  have yL1 := L2.out.cell 1
  have yL2 := L2.out.cell 2
  have yL3 := L2.out.cell 3
  have yL4 := L2.out.cell 4
  have yL5 := L2.out.cell 5
  have yN0 := N2.out.cell 0
  have yN1 := N2.out.cell 1
  simp only [List.getElem?_toArray, List.getElem?_cons_zero, List.getElem?_cons_succ] at yT0 yT1 yX0 yX1 yL0 yL1 yL2 yL3 yL4 yL5 yN0 yN1
  have yTl := T2.out.lt
  have yXl := X2.out.lt
  have yLl := L2.out.lt
  have yNl := N2.out.lt
  have HC := Lib.hid (HFt.out _ O2.out P2.out Q2.out R2.out)
  try dsimp only [TR.v, vCt] at HC
  go_upto_region 8 with (go_at_call 58; with_reducible refine HC.out.mono ?_; rintro e u3 ⟨rfl, hb⟩)
  clear yT0 yT1 yX0 yX1 yL0 yL1 yL2 yL3 yL4 yL5 yN0 yN1 yTl yXl yLl yNl
  clear HC
  have bn := hb
  have T3 := Lib.hid (T2.out.below bn)
  have X3 := Lib.hid (X2.out.below bn)
  have L3 := Lib.hid (L2.out.below bn)
  have O3 := Lib.hid (O2.out.below bn)
  have P3 := Lib.hid (P2.out.below bn)
  have Q3 := Lib.hid (Q2.out.below bn)
  have R3 := Lib.hid (R2.out.below bn)
  have S3 := Lib.hid (S2.out.below bn)
  have N3 := Lib.hid (N2.out.below bn)
  have HB3 := Lib.hid (HB2.out.trans (bn.mono HB2.out.size))
  clear hb bn T2 X2 L2 O2 P2 Q2 R2 S2 N2 HB2
  have yT0 := T3.out.cell 0
  have yT1 := T3.out.cell 1
  have yX0 := X3.out.cell 0
  have yX1 := X3.out.cell 1
  have yL0 := L3.out.cell 0
  have yL1 := L3.out.cell 1
  have yL2 := L3.out.cell 2
  have yL3 := L3.out.cell 3
  have yL4 := L3.out.cell 4
  have yL5 := L3.out.cell 5
  have yN0 := N3.out.cell 0
  have yN1 := N3.out.cell 1
  simp only [List.getElem?_toArray, List.getElem?_cons_zero, List.getElem?_cons_succ] at yT0 yT1 yX0 yX1 yL0 yL1 yL2 yL3 yL4 yL5 yN0 yN1
  have yTl := T3.out.lt
  have yXl := X3.out.lt
  have yLl := L3.out.lt
  have yNl := N3.out.lt
  cases fb with
  | false =>
    have HE4 := Lib.hid ((if_pos (.inl rfl)).symm.trans HE3.out)
    obtain ⟨xc, xf'⟩ := xcell (W := u3)
    refine wp_region_quiet_tail 12 (by kernel_rfl) (by kernel_rfl) ?_
    simp only [List.take_succ_cons, List.take_zero, List.drop_succ_cons, List.drop_zero]
    repeat (first | go_big_quiet_step (fail) | quiet_step (fail))
    refine wpQuiet_nil ?_
    intro wq hbq
    clear yT0 yT1 yX0 yX1 yL0 yL1 yL2 yL3 yL4 yL5 yN0 yN1 yTl yXl yLl yNl xc xf'
    go_wp2
    exact bodyPost_ret (v := .int .i64 8) (by simp [results, Tryz.results48, go_sem]) rfl ⟨by rw [HE4.out], HB3.out.trans (hbq.mono HB3.out.size)⟩
  | true =>
  obtain ⟨⟨q1, q2, q3⟩, q4, q5⟩ := HFl.out rfl
  have HTl := Lib.hid (fun (u : World) (hu : Below u3.heap.size u3 u) => HTd2.out q1 q2 q3 u (O3.out.below hu) (P3.out.below hu) (Q3.out.below hu) (R3.out.below hu))
  rw [HTe2.out q1 q2 q3] at HTl
  dsimp only at HTl
  obtain ⟨vv, hvv⟩ : ∃ x, valAt st en ma at_ = x := ⟨_, rfl⟩
  rw [hvv] at HE3 q4 q5 HTl
  clear hvv q1 q2 q3 HTd2 HTe2 HFl
  obtain ⟨xc, xf'⟩ := xcell (W := u3)
  refine wp_region_quiet_tail 12 (by kernel_rfl) (by kernel_rfl) ?_
  simp only [List.take_succ_cons, List.take_zero, List.drop_succ_cons, List.drop_zero]
  repeat (first | go_big_quiet_step ((go_at_call 98; with_reducible refine calls_ext (HTl.out _ ?_); exact Ext.below _)) | quiet_step ((go_at_call 98; with_reducible refine calls_ext (HTl.out _ ?_); exact Ext.below _)))
  refine wpQuiet_nil ?_
  intro wq hbq
  have bn := hbq
  clear yT0 yT1 yX0 yX1 yL0 yL1 yL2 yL3 yL4 yL5 yN0 yN1 yTl yXl yLl yNl xc xf' hbq HTl
  have T4 := Lib.hid (T3.out.below bn)
  have X4 := Lib.hid (X3.out.below bn)
  have L4 := Lib.hid (L3.out.below bn)
  have O4 := Lib.hid (O3.out.below bn)
  have P4 := Lib.hid (P3.out.below bn)
  have Q4 := Lib.hid (Q3.out.below bn)
  have R4 := Lib.hid (R3.out.below bn)
  have S4 := Lib.hid (S3.out.below bn)
  have N4 := Lib.hid (N3.out.below bn)
  have HB4 := Lib.hid (HB3.out.trans (bn.mono HB3.out.size))
  clear bn T3 X3 L3 O3 P3 Q3 R3 S3 N3 HB3
  by_cases hvl : vv = val
  case neg =>
    rw [show (vv != val) = true by simpa using hvl]
    have HE4 := Lib.hid ((if_pos (.inr hvl)).symm.trans HE3.out)
    go_wp2
    exact bodyPost_ret (v := .int .i64 8) (by simp [results, Tryz.results48, go_sem]) rfl ⟨by rw [HE4.out], HB4.out⟩
  case pos =>
  rw [show (vv != val) = false by simpa using hvl]
  subst hvl
  have HE4 := Lib.hid ((if_neg (by simp)).symm.trans HE3.out)
  clear HE3
  have hk4 : (s = [] ↔ n4 = 0) := by rw [← HLs.out]; exact ⟨fun e => by rw [e]; rfl, List.eq_nil_of_length_eq_zero⟩
  have HK4 := Lib.hid hk4
  obtain ⟨b1, b2, b3⟩ := HSp.out
  have hn4c : (0 : Int) ≤ (n4 : Int) := by omega
  clear hk4
  cases gr with
  | false =>
    simp only [Bool.false_eq_true, if_false] at HE4
    have yT0 := T4.out.cell 0
    have yT1 := T4.out.cell 1
    have yX0 := X4.out.cell 0
    have yX1 := X4.out.cell 1
    have yL0 := L4.out.cell 0
    have yL1 := L4.out.cell 1
    have yL2 := L4.out.cell 2
    have yL3 := L4.out.cell 3
    have yL4 := L4.out.cell 4
    have yL5 := L4.out.cell 5
    have yN0 := N4.out.cell 0
    have yN1 := N4.out.cell 1
    simp only [List.getElem?_toArray, List.getElem?_cons_zero, List.getElem?_cons_succ] at yT0 yT1 yX0 yX1 yL0 yL1 yL2 yL3 yL4 yL5 yN0 yN1
    have yTl := T4.out.lt
    have yXl := X4.out.lt
    have yLl := L4.out.lt
    have yNl := N4.out.lt
    have b14 := below_new wq (.cells #[.int .i64 sl, .int .i64 (vv - 1)] 57)
    have HN14 := Lib.hid (Blk.new wq 57 #[.int .i64 sl, .int .i64 (vv - 1)])
    by_cases hve : vv = sl
    case pos =>
      have HBz := Lib.hid (HB4.out.trans (b14.mono HB4.out.size))
      have hveb : (vv == sl) = true := by simpa using hve
      have HE5 := Lib.hid ((if_pos hve).symm.trans HE4.out)
      by_cases hw0 : way = 0
      case neg =>
        have hwb : (way != 0) = true := by simpa using hw0
        have HE6 := Lib.hid ((if_pos (.inl hw0)).symm.trans HE5.out)
        clear hw0 hve
        go_wp2
        exact bodyPost_ret (v := .int .i64 8) (by simp [results, Tryz.results48, go_sem]) rfl ⟨by rw [HE6.out], HBz.out⟩
      case pos =>
        have hwb : (way != 0) = false := by simpa using hw0
        by_cases hs0 : n4 = 0
        case neg =>
          have hsb : ((n4 : Int) != 0) = true := by simp; omega
          have HE6 := Lib.hid ((if_pos (.inr (fun e => hs0 (HK4.out.1 e)))).symm.trans HE5.out)
          clear hw0 hve hs0
          go_wp2
          exact bodyPost_ret (v := .int .i64 8) (by simp [results, Tryz.results48, go_sem]) rfl ⟨by rw [HE6.out], HBz.out⟩
        case pos =>
          have hsb : ((n4 : Int) != 0) = false := by simp; omega
          have HE6 := Lib.hid ((if_neg (c := way ≠ 0 ∨ s ≠ []) (fun q => q.elim (fun q => q hw0) (fun q => q (HK4.out.2 hs0)))).symm.trans HE5.out)
          clear hw0 hve hs0
          go_wp2
          exact bodyPost_ret (v := .int .i64 0) (by simp [results, Tryz.results48, go_sem]) rfl ⟨by rw [HE6.out], HBz.out⟩
    case neg =>
      have hveb : (vv == sl) = false := by simpa using hve
      have HE5 := Lib.hid ((if_neg hve).symm.trans HE4.out)
      rw [(HPw.out (sl) (vv - 1)).1, (HPw.out (sl) (vv - 1)).2] at HE5
      have HTv6 := Lib.hid (HPv.out (sl) (vv - 1) (by simp [okSp]; omega))
      have bn := b14
      have HNn := HN14
      go_upto_region 19 with fail
      clear hve yT0 yT1 yX0 yX1 yL0 yL1 yL2 yL3 yL4 yL5 yN0 yN1 yTl yXl yLl yNl
      have T5 := Lib.hid (T4.out.below bn)
      have X5 := Lib.hid (X4.out.below bn)
      have L5 := Lib.hid (L4.out.below bn)
      have O5 := Lib.hid (O4.out.below bn)
      have P5 := Lib.hid (P4.out.below bn)
      have Q5 := Lib.hid (Q4.out.below bn)
      have R5 := Lib.hid (R4.out.below bn)
      have S5 := Lib.hid (S4.out.below bn)
      have N5 := Lib.hid (N4.out.below bn)
      have HB5 := Lib.hid (HB4.out.trans (bn.mono HB4.out.size))
      clear bn HN14 b14 HB4 T4 X4 L4 O4 P4 Q4 R4 S4 N4
      generalize hV14 : wq.alloc (.cells #[.int .i64 sl, .int .i64 (vv - 1)] 57) = V14 at *
      generalize wq.heap.size = g14 at *
      clear hV14
      obtain ⟨nlo, hnlo⟩ : ∃ x, sl = x := ⟨_, rfl⟩
      obtain ⟨nhi, hnhi⟩ : ∃ x, vv - 1 = x := ⟨_, rfl⟩
      rw [hnlo, hnhi] at HNn HTv6 HE5
      clear hnlo hnhi
      have HPu := Lib.hid (fun (u : World) (hu : TR.Ok u ⟨A, n, c, B, m, d, hs, ms⟩) => put_tr (kind := kind) (id := id) (lo := nlo) (hi := nhi) hu HTV.out)
      dsimp only [TR.v, vAt, vSp] at HPu
      obtain ⟨sb, hsb⟩ : ∃ x, showsL (putIH hs kind id nlo nhi) (putIM ms kind id nlo nhi) way s = x := ⟨_, rfl⟩
      rw [hsb] at HE5
      have HSb := Lib.hid hsb
      clear hsb
      refine wp_region_preC 7 [(3, 81), (6, 84)] (fun v => Below V14.heap.size V14 v) (PsP (putIH hs kind id nlo nhi) (putIM ms kind id nlo nhi) way s) (by kernel_rfl) (by kernel_rfl) (Below.refl _ _) (fun v v' h kk => h.trans (kk.mono h.size)) (fun v _ => ⟨fun h => (by cases h), fun h => (by cases h)⟩) (fun ls vs v v' _ h kk => h.below kk) ?_
      apply Exists.intro
      refine ⟨?walk, ?loud, ?last⟩
      case walk =>
        intro V hV
        have k1 := T5.out.below hV
        have k2 := X5.out.below hV
        have k3 := L5.out.below hV
        have k4 := HNn.out.below hV
        have y0 := k1.cell 0
        have y1 := k1.cell 1
        have x0 := k2.cell 0
        have x1 := k2.cell 1
        have z4 := k3.cell 4
        have z5 := k3.cell 5
        have s0 := k4.cell 0
        have s1 := k4.cell 1
        simp only [List.getElem?_toArray, List.getElem?_cons_zero, List.getElem?_cons_succ] at y0 y1 x0 x1 z4 z5 s0 s1
        have yl := k1.lt
        have xl := k2.lt
        have zl := k3.lt
        have sl' := k4.lt
        clear k1 k2 k3 k4
        obtain ⟨xc, xf'⟩ := xcell (W := V)
        simp only [List.take_succ_cons, List.take_zero, qOf, isLoud, List.any_cons, List.any_nil, Nat.reduceBEq, Bool.or_false, Bool.or_true, Nat.reduceAdd, Bool.false_eq_true, if_true, if_false, beq_self_eq_true, Nat.zero_add]
        repeat (first | go_big_quiet_step (fail) | quiet_step (fail))
        exact wpQuiet_nil rfl
      case loud =>
        rintro pp hpp vs v hC ls hI hls hw o ho
        simp only [List.mem_cons, List.not_mem_nil, or_false] at hpp
        rcases hpp with rfl | rfl
        · simp only [List.getElem?_cons_succ, List.getElem?_cons_zero, Option.some.injEq] at ho
          subst ho
          simp [loudAt, loudUpon, go_sem, putsL, Act.put]
          refine (HPu.out v (O5.out.below hC)).mono ?_
          rintro e v' ⟨Q1, w1, x1, Q2, w2, x2, rfl, hok, hb⟩
          exact ⟨_, rfl, hC.trans (hb.mono hC.size), ⟨fun _ => ⟨Q1, w1, x1, Q2, w2, x2, by simp [upd], hok⟩, fun a => by simpa [updB, upd] using hI.p6 (by simpa [updB] using a)⟩⟩
        · have h3 := hw (3, 81) (by simp) (by kernel_rfl)
          obtain ⟨Q1, w1, x1, Q2, w2, x2, e3, hok⟩ := hI.p3 h3
          simp only [List.getElem?_cons_succ, List.getElem?_cons_zero, Option.some.injEq] at ho
          subst ho
          simp [loudAt, loudUpon, go_sem, putsL, Act.put, e3]
          refine (shows_any _ way A4 n4 c4 s v hok (S5.out.below hC) l4 HTv6.out).mono ?_
          rintro e v' ⟨rfl, hb⟩
          have hI2 := hI.below hb
          exact ⟨_, rfl, hC.trans (hb.mono hC.size), ⟨fun a => by simpa [updB, upd] using hI2.p3 (by simpa [updB] using a), fun _ => by simp [upd]⟩⟩
      case last =>
        rintro ls vs V hV hI hls
        have e6 := hI.p6 (hls (6, 84) (by simp))
        rw [HSb.out] at e6
        simp only [putsL, List.foldl_cons, List.foldl_nil, List.drop_succ_cons, List.drop_zero, Act.put, e6, List.setIfInBounds_toArray, List.set_cons_succ, List.set_cons_zero]
        generalize vs 3 = v3 at *
        have HBV := Lib.hid (HB5.out.trans (hV.mono HB5.out.size))
        clear hI hls hV
        cases sb with
        | true =>
          have HE6 := Lib.hid ((if_pos rfl).symm.trans HE5.out)
          go_wp2
          exact bodyPost_ret (v := .int .i64 0) (by simp [results, Tryz.results48, go_sem]) rfl ⟨by rw [HE6.out], HBV.out⟩
        | false =>
          have HE6 := Lib.hid ((if_neg (by decide)).symm.trans HE5.out)
          go_wp2
          exact bodyPost_ret (v := .int .i64 8) (by simp [results, Tryz.results48, go_sem]) rfl ⟨by rw [HE6.out], HBV.out⟩
  | true =>
    simp only [if_true] at HE4
    have yT0 := T4.out.cell 0
    have yT1 := T4.out.cell 1
    have yX0 := X4.out.cell 0
    have yX1 := X4.out.cell 1
    have yL0 := L4.out.cell 0
    have yL1 := L4.out.cell 1
    have yL2 := L4.out.cell 2
    have yL3 := L4.out.cell 3
    have yL4 := L4.out.cell 4
    have yL5 := L4.out.cell 5
    have yN0 := N4.out.cell 0
    have yN1 := N4.out.cell 1
    simp only [List.getElem?_toArray, List.getElem?_cons_zero, List.getElem?_cons_succ] at yT0 yT1 yX0 yX1 yL0 yL1 yL2 yL3 yL4 yL5 yN0 yN1
    have yTl := T4.out.lt
    have yXl := X4.out.lt
    have yLl := L4.out.lt
    have yNl := N4.out.lt
    have b14 := below_new wq (.cells #[.int .i64 (vv + 1), .int .i64 sh] 57)
    have HN14 := Lib.hid (Blk.new wq 57 #[.int .i64 (vv + 1), .int .i64 sh])
    by_cases hve : vv = sh
    case pos =>
      have HBz := Lib.hid (HB4.out.trans (b14.mono HB4.out.size))
      have hveb : (vv == sh) = true := by simpa using hve
      have HE5 := Lib.hid ((if_pos hve).symm.trans HE4.out)
      by_cases hw0 : way = 0
      case neg =>
        have hwb : (way != 0) = true := by simpa using hw0
        have HE6 := Lib.hid ((if_pos (.inl hw0)).symm.trans HE5.out)
        clear hw0 hve
        go_wp2
        exact bodyPost_ret (v := .int .i64 8) (by simp [results, Tryz.results48, go_sem]) rfl ⟨by rw [HE6.out], HBz.out⟩
      case pos =>
        have hwb : (way != 0) = false := by simpa using hw0
        by_cases hs0 : n4 = 0
        case neg =>
          have hsb : ((n4 : Int) != 0) = true := by simp; omega
          have HE6 := Lib.hid ((if_pos (.inr (fun e => hs0 (HK4.out.1 e)))).symm.trans HE5.out)
          clear hw0 hve hs0
          go_wp2
          exact bodyPost_ret (v := .int .i64 8) (by simp [results, Tryz.results48, go_sem]) rfl ⟨by rw [HE6.out], HBz.out⟩
        case pos =>
          have hsb : ((n4 : Int) != 0) = false := by simp; omega
          have HE6 := Lib.hid ((if_neg (c := way ≠ 0 ∨ s ≠ []) (fun q => q.elim (fun q => q hw0) (fun q => q (HK4.out.2 hs0)))).symm.trans HE5.out)
          clear hw0 hve hs0
          go_wp2
          exact bodyPost_ret (v := .int .i64 0) (by simp [results, Tryz.results48, go_sem]) rfl ⟨by rw [HE6.out], HBz.out⟩
    case neg =>
      have hveb : (vv == sh) = false := by simpa using hve
      have HE5 := Lib.hid ((if_neg hve).symm.trans HE4.out)
      rw [(HPw.out (vv + 1) (sh)).1, (HPw.out (vv + 1) (sh)).2] at HE5
      have HTv6 := Lib.hid (HPv.out (vv + 1) (sh) (by simp [okSp]; omega))
      have bn := b14
      have HNn := HN14
      go_upto_region 19 with fail
      clear hve yT0 yT1 yX0 yX1 yL0 yL1 yL2 yL3 yL4 yL5 yN0 yN1 yTl yXl yLl yNl
      have T5 := Lib.hid (T4.out.below bn)
      have X5 := Lib.hid (X4.out.below bn)
      have L5 := Lib.hid (L4.out.below bn)
      have O5 := Lib.hid (O4.out.below bn)
      have P5 := Lib.hid (P4.out.below bn)
      have Q5 := Lib.hid (Q4.out.below bn)
      have R5 := Lib.hid (R4.out.below bn)
      have S5 := Lib.hid (S4.out.below bn)
      have N5 := Lib.hid (N4.out.below bn)
      have HB5 := Lib.hid (HB4.out.trans (bn.mono HB4.out.size))
      clear bn HN14 b14 HB4 T4 X4 L4 O4 P4 Q4 R4 S4 N4
      generalize hV14 : wq.alloc (.cells #[.int .i64 (vv + 1), .int .i64 sh] 57) = V14 at *
      generalize wq.heap.size = g14 at *
      clear hV14
      obtain ⟨nlo, hnlo⟩ : ∃ x, vv + 1 = x := ⟨_, rfl⟩
      obtain ⟨nhi, hnhi⟩ : ∃ x, sh = x := ⟨_, rfl⟩
      rw [hnlo, hnhi] at HNn HTv6 HE5
      clear hnlo hnhi
      have HPu := Lib.hid (fun (u : World) (hu : TR.Ok u ⟨A, n, c, B, m, d, hs, ms⟩) => put_tr (kind := kind) (id := id) (lo := nlo) (hi := nhi) hu HTV.out)
      dsimp only [TR.v, vAt, vSp] at HPu
      obtain ⟨sb, hsb⟩ : ∃ x, showsL (putIH hs kind id nlo nhi) (putIM ms kind id nlo nhi) way s = x := ⟨_, rfl⟩
      rw [hsb] at HE5
      have HSb := Lib.hid hsb
      clear hsb
      refine wp_region_preC 7 [(3, 81), (6, 84)] (fun v => Below V14.heap.size V14 v) (PsP (putIH hs kind id nlo nhi) (putIM ms kind id nlo nhi) way s) (by kernel_rfl) (by kernel_rfl) (Below.refl _ _) (fun v v' h kk => h.trans (kk.mono h.size)) (fun v _ => ⟨fun h => (by cases h), fun h => (by cases h)⟩) (fun ls vs v v' _ h kk => h.below kk) ?_
      apply Exists.intro
      refine ⟨?walk, ?loud, ?last⟩
      case walk =>
        intro V hV
        have k1 := T5.out.below hV
        have k2 := X5.out.below hV
        have k3 := L5.out.below hV
        have k4 := HNn.out.below hV
        have y0 := k1.cell 0
        have y1 := k1.cell 1
        have x0 := k2.cell 0
        have x1 := k2.cell 1
        have z4 := k3.cell 4
        have z5 := k3.cell 5
        have s0 := k4.cell 0
        have s1 := k4.cell 1
        simp only [List.getElem?_toArray, List.getElem?_cons_zero, List.getElem?_cons_succ] at y0 y1 x0 x1 z4 z5 s0 s1
        have yl := k1.lt
        have xl := k2.lt
        have zl := k3.lt
        have sl' := k4.lt
        clear k1 k2 k3 k4
        obtain ⟨xc, xf'⟩ := xcell (W := V)
        simp only [List.take_succ_cons, List.take_zero, qOf, isLoud, List.any_cons, List.any_nil, Nat.reduceBEq, Bool.or_false, Bool.or_true, Nat.reduceAdd, Bool.false_eq_true, if_true, if_false, beq_self_eq_true, Nat.zero_add]
        repeat (first | go_big_quiet_step (fail) | quiet_step (fail))
        exact wpQuiet_nil rfl
      case loud =>
        rintro pp hpp vs v hC ls hI hls hw o ho
        simp only [List.mem_cons, List.not_mem_nil, or_false] at hpp
        rcases hpp with rfl | rfl
        · simp only [List.getElem?_cons_succ, List.getElem?_cons_zero, Option.some.injEq] at ho
          subst ho
          simp [loudAt, loudUpon, go_sem, putsL, Act.put]
          refine (HPu.out v (O5.out.below hC)).mono ?_
          rintro e v' ⟨Q1, w1, x1, Q2, w2, x2, rfl, hok, hb⟩
          exact ⟨_, rfl, hC.trans (hb.mono hC.size), ⟨fun _ => ⟨Q1, w1, x1, Q2, w2, x2, by simp [upd], hok⟩, fun a => by simpa [updB, upd] using hI.p6 (by simpa [updB] using a)⟩⟩
        · have h3 := hw (3, 81) (by simp) (by kernel_rfl)
          obtain ⟨Q1, w1, x1, Q2, w2, x2, e3, hok⟩ := hI.p3 h3
          simp only [List.getElem?_cons_succ, List.getElem?_cons_zero, Option.some.injEq] at ho
          subst ho
          simp [loudAt, loudUpon, go_sem, putsL, Act.put, e3]
          refine (shows_any _ way A4 n4 c4 s v hok (S5.out.below hC) l4 HTv6.out).mono ?_
          rintro e v' ⟨rfl, hb⟩
          have hI2 := hI.below hb
          exact ⟨_, rfl, hC.trans (hb.mono hC.size), ⟨fun a => by simpa [updB, upd] using hI2.p3 (by simpa [updB] using a), fun _ => by simp [upd]⟩⟩
      case last =>
        rintro ls vs V hV hI hls
        have e6 := hI.p6 (hls (6, 84) (by simp))
        rw [HSb.out] at e6
        simp only [putsL, List.foldl_cons, List.foldl_nil, List.drop_succ_cons, List.drop_zero, Act.put, e6, List.setIfInBounds_toArray, List.set_cons_succ, List.set_cons_zero]
        generalize vs 3 = v3 at *
        have HBV := Lib.hid (HB5.out.trans (hV.mono HB5.out.size))
        clear hI hls hV
        cases sb with
        | true =>
          have HE6 := Lib.hid ((if_pos rfl).symm.trans HE5.out)
          go_wp2
          exact bodyPost_ret (v := .int .i64 0) (by simp [results, Tryz.results48, go_sem]) rfl ⟨by rw [HE6.out], HBV.out⟩
        | false =>
          have HE6 := Lib.hid ((if_neg (by decide)).symm.trans HE5.out)
          go_wp2
          exact bodyPost_ret (v := .int .i64 8) (by simp [results, Tryz.results48, go_sem]) rfl ⟨by rw [HE6.out], HBV.out⟩
end Go.Proofs.YtighfmgkoepfkaaGreat
