/- The law TopMassesAreTrue. -/
import Derived.Test.YtgojpgggbflgoaaGreatTop14
import Derived.Test.YtgojpgggbflgoaaGreatTop13
namespace Go.Proofs.YtgojpgggbflgoaaGreat
open Go.RowKit

/-- A list of surveys that are true, as known hands it back. -/
def KnR (mn : List (Int × Int)) (merr : Int) (ys : List Hy) (gs : List Gs) (es : List Int) (mm : Int) (v : Value) (u : World) : Prop := ∃ L k c l, v = .slice L k c ∧ SAt encV 18 u L k l ∧ k ≤ 8 ∧ KnoP mn merr ys gs es mm l
theorem KnR.below {mn : List (Int × Int)} {merr : Int} {ys : List Hy} {gs : List Gs} {es : List Int} {mm : Int} {v : Value} {u u' : World} (h : KnR mn merr ys gs es mm v u) (hb : Below u.heap.size u u') : KnR mn merr ys gs es mm v u' := let ⟨L, k, c, l, a, b, d, e⟩ := h; ⟨L, k, c, l, a, b.below hb, d, e⟩
def KnJ (mn : List (Int × Int)) (merr : Int) (ys : List Hy) (gs : List Gs) (es : List Int) (m1 m2 : Int) (ls : Nat → Bool) (vs : Nat → Value) (u : World) : Prop :=
  (ls 5 = true → KnR mn merr ys gs es m1 (vs 5) u) ∧ (ls 11 = true → KnR mn merr ys gs es m2 (vs 11) u) ∧ (ls 12 = true → KnR mn merr ys gs es m1 (vs 12) u) ∧ (ls 13 = true → KnR mn merr ys gs es m2 (vs 13) u)
/-- What holds of a list that known hands back. -/
theorem kno_all {id light lever height turn least : Int} {hs : List Hl} {mn mt : List (Int × Int)} {merr terr : Int} {ys : List Hy} {gs : List Gs} {es : List Int} {mm : Int} {l : List Sv} (k : ShipOk id light lever height turn least hs mn merr mt terr) (he : ErrP ys gs es) (hk : KnoP mn merr ys gs es mm l) (h1 : light ≤ mm) (h2 : mm ≤ roomS light hs) (hp : 0 < l.length) (h8 : l.length ≤ 8) :
    LvOk ys gs l ∧ (∀ x ∈ l, MaOk mn merr ys gs x) ∧ (togS light (roomS light hs) mn merr ys gs l).1 ≤ mm ∧ mm ≤ (togS light (roomS light hs) mn merr ys gs l).2 :=
  ⟨kno_Lv hk hp h8, fun x hx => (tru_mass k he (hk.tru x hx) h1 h2).1, tru_tog k he hk h1 h2 hp⟩
/-- Fits, of a loading of another length's name. -/
theorem HFits_p (id light lever height : Int) (A : Option Addr) (n c : Nat) (B : Option Addr) (m d : Nat) (merr : Int) (C : Option Addr) (q r : Nat) (terr turn least : Int) (hs : List Hl) (mn mt : List (Int × Int)) (Lh : Option Addr) (ch : Nat) (a z : Int) (X : Option Addr) (p pc : Nat) (xs : List Int) (w : World) (hA : SAt encL 4 w A n hs) (hB : CAt w B m mn) (hC : CAt w C q mt) (hn : n ≤ 9223372036854775807) (hm : m ≤ 9223372036854775807) (hq : q ≤ 9223372036854775807) (hc : n ≤ c) (hE : shipE id light lever height turn least hs mn merr mt terr = 0) (hL : SAt encS 2 w Lh n (rsL hs)) (k : LdOk hs a z) (hX : SAt encI 1 w X p xs) (hp : p = n) (hl : ldE hs xs = 0) (h1 : a ≤ isum xs) (h2 : isum xs ≤ z) (h3 : z - a < 4000) :
    Calls Tryz.prog 12 #[.agg (cSp id light lever height A n c B m d merr C q r terr turn least), vLd Lh n ch a z, .slice X p pc] w fun e w' => e = .returned (.bool true) ∧ Below w.heap.size w w' := by
  subst hp
  exact HFits_any id light lever height A p c B m d merr C q r terr turn least hs mn mt Lh ch a z X pc xs w hA hB hC hn hm hq hc hE hL k hX hl h1 h2 h3
theorem wei2 (u : World) : Calls Tryz.prog 4 #[] u fun e w' => e = .returned (.bool true) ∧ Below u.heap.size u w' := weighed_any u
set_option maxRecDepth 100000 in
set_option maxHeartbeats 25600000 in
theorem top_walk (id light lever height : Int) (A : Option Addr) (n c : Nat) (B : Option Addr) (m d : Nat) (merr : Int) (C : Option Addr) (q r : Nat) (terr turn least : Int) (hs : List Hl) (mn mt : List (Int × Int)) (Y : Option Addr) (ny cy : Nat) (G : Option Addr) (ng cg : Nat) (ys : List Hy) (gs : List Gs) (E : Option Addr) (ne ce : Nat) (es : List Int) (X : Option Addr) (p pc : Nat) (xs : List Int) (Z : Option Addr) (k kc : Nat) (zs : List Int) (T : Option Addr) (nt ct : Nat) (ss : List Sg) (depth keel : Int) (w : World) (hA : SAt encL 4 w A n hs) (hB : CAt w B m mn) (hC : CAt w C q mt) (hn : n ≤ 9223372036854775807) (hm : m ≤ 9223372036854775807) (hq : q ≤ 9223372036854775807) (hc : n ≤ c) (hY : SAt encY 3 w Y ny ys) (hG : SAt encG 5 w G ng gs) (hny : ny ≤ 9223372036854775807) (hng : ng ≤ 9223372036854775807) (hS : SAt encI 1 w E ne es) (hne : ne ≤ 9223372036854775807) (hX : SAt encI 1 w X p xs) (hp : p ≤ 9223372036854775807) (hZ : SAt encI 1 w Z k zs) (hk : k ≤ 9223372036854775807) (hT : SAt encSg 26 w T nt ss) (hnt : nt ≤ 9223372036854775807) (hid : ∀ s ∈ ss, -9223372036854775808 ≤ s.sv.id ∧ s.sv.id ≤ 9223372036854775807) :
    Calls Tryz.prog 3 #[.agg (cSp id light lever height A n c B m d merr C q r terr turn least), .agg #[.slice Y ny cy, .slice G ng cg], .slice E ne ce, .slice X p pc, .slice Z k kc, .slice T nt ct, .int .i64 depth, .int .i64 keel] w fun e w' => e = .returned (.bool true) ∧ Below w.heap.size w w' := by
  obtain ⟨gb, hgb⟩ : ∃ gb : Bool, gb = decide (12 < n ∨ 60 < m ∨ 60 < q ∨ 12 < ny ∨ 60 < ng ∨ 8 < nt) := ⟨_, rfl⟩
  have HGb := Lib.hid hgb
  have hb0 := ((Below.refl w.heap.size w).alloc (Nat.le_refl _) (.cells (cSp id light lever height A n c B m d merr C q r terr turn least) 27)).alloc (by simp) (.cells #[.slice Y ny cy, .slice G ng cg] 31)
  have t0 := (Blk.new w 27 (cSp id light lever height A n c B m d merr C q r terr turn least)).alloc (.cells #[.slice Y ny cy, .slice G ng cg] 31)
  have g0 := Blk.at_new (W := w.alloc (.cells (cSp id light lever height A n c B m d merr C q r terr turn least) 27)) (g := w.heap.size + 1) 31 #[.slice Y ny cy, .slice G ng cg] (by simp)
  clear hgb
  go_enter Tryz.func3, Tryz.ntmps3
  go_upto_region 1 with fail
  generalize hW : (w.alloc (.cells (cSp id light lever height A n c B m d merr C q r terr turn least) 27)).alloc (.cells #[.slice Y ny cy, .slice G ng cg] 31) = W at *
  clear hW
  have HT0 := Lib.hid t0
  have HG0 := Lib.hid g0
  have HB0 := Lib.hid hb0
  clear t0 g0 hb0
  go_cut [63] (fun v wx => v = .bool gb ∧ W = wx)
  case first =>
    obtain ⟨tl, s0, s1, s2, s3, s4, s5, s6, s7, s8, s9, s10⟩ := blk11 HT0.out
    obtain ⟨y0, y1, yl⟩ := cells2 HG0.out
    have hg1 := HGb.out
    clear HGb hA hB hC hY hG hS hX hZ hT hid
    by_cases c0 : 12 < n
    case pos =>
      have e : gb = true := by rw [hg1]; exact decide_eq_true (by omega)
      have d0 : decide ((12 : Int) < (n : Int)) = true := decide_eq_true (by omega)
      clear hg1
      subst e
      go_wp2
      go_meet
      exact ⟨rfl, rfl⟩
    have d0 : decide ((12 : Int) < (n : Int)) = false := decide_eq_false (by omega)
    by_cases c1 : 60 < m
    case pos =>
      have e : gb = true := by rw [hg1]; exact decide_eq_true (by omega)
      have d1 : decide ((60 : Int) < (m : Int)) = true := decide_eq_true (by omega)
      clear hg1
      subst e
      go_wp2
      go_meet
      exact ⟨rfl, rfl⟩
    have d1 : decide ((60 : Int) < (m : Int)) = false := decide_eq_false (by omega)
    by_cases c2 : 60 < q
    case pos =>
      have e : gb = true := by rw [hg1]; exact decide_eq_true (by omega)
      have d2 : decide ((60 : Int) < (q : Int)) = true := decide_eq_true (by omega)
      clear hg1
      subst e
      go_wp2
      go_meet
      exact ⟨rfl, rfl⟩
    have d2 : decide ((60 : Int) < (q : Int)) = false := decide_eq_false (by omega)
    by_cases c3 : 12 < ny
    case pos =>
      have e : gb = true := by rw [hg1]; exact decide_eq_true (by omega)
      have d3 : decide ((12 : Int) < (ny : Int)) = true := decide_eq_true (by omega)
      clear hg1
      subst e
      go_wp2
      go_meet
      exact ⟨rfl, rfl⟩
    have d3 : decide ((12 : Int) < (ny : Int)) = false := decide_eq_false (by omega)
    by_cases c4 : 60 < ng
    case pos =>
      have e : gb = true := by rw [hg1]; exact decide_eq_true (by omega)
      have d4 : decide ((60 : Int) < (ng : Int)) = true := decide_eq_true (by omega)
      clear hg1
      subst e
      go_wp2
      go_meet
      exact ⟨rfl, rfl⟩
    have d4 : decide ((60 : Int) < (ng : Int)) = false := decide_eq_false (by omega)
    by_cases c5 : 8 < nt
    case pos =>
      have e : gb = true := by rw [hg1]; exact decide_eq_true (by omega)
      have d5 : decide ((8 : Int) < (nt : Int)) = true := decide_eq_true (by omega)
      clear hg1
      subst e
      go_wp2
      go_meet
      exact ⟨rfl, rfl⟩
    have d5 : decide ((8 : Int) < (nt : Int)) = false := decide_eq_false (by omega)
    have e : gb = false := by rw [hg1]; exact decide_eq_false (by omega)
    clear hg1
    subst e
    go_wp2
    go_meet
    exact ⟨rfl, rfl⟩
  case rest =>
    obtain ⟨rfl, rfl⟩ := hcut
    cases gb with
    | true =>
      clear hA hB hC hY hG hS hX hZ hT hid
      go_wp2_with (go_at_call 4; (with_reducible refine (wei2 _).mono ?_); rintro e u9 ⟨rfl, hb9⟩)
      exact bodyPost_ret (v := .bool true) (by simp [results, Tryz.results3, go_sem]) rfl ⟨rfl, HB0.out.trans (hb9.mono HB0.out.size)⟩
    | false =>
      have hgd : ¬ (12 < n ∨ 60 < m ∨ 60 < q ∨ 12 < ny ∨ 60 < ng ∨ 8 < nt) := of_decide_eq_false HGb.out.symm
      have HGd := Lib.hid hgd
      have HD1 := Lib.hid (fun (u : World) (hu : Below w.heap.size w u) => Displacement_any id light lever height A n c B m d merr C q r terr turn least hs mn mt X p pc xs u (hA.below hu) (hB.below hu) (hC.below hu) hn hm hq hc (hX.below hu) hp)
      have HD2 := Lib.hid (fun (u : World) (hu : Below w.heap.size w u) => Displacement_any id light lever height A n c B m d merr C q r terr turn least hs mn mt Z k kc zs u (hA.below hu) (hB.below hu) (hC.below hu) hn hm hq hc (hZ.below hu) hk)
      have HEr := Lib.hid (fun (u : World) (hu : Below w.heap.size w u) => errors1_any Y ny cy G ng cg ys gs E ne ce es u (hY.below hu) (hG.below hu) (by omega) (by omega) (hS.below hu) hne)
      have HA := Lib.hid (fun (u : World) (hu : Below w.heap.size w u) => hA.below hu)
      have HBm := Lib.hid (fun (u : World) (hu : Below w.heap.size w u) => hB.below hu)
      have HCt := Lib.hid (fun (u : World) (hu : Below w.heap.size w u) => hC.below hu)
      have HYy := Lib.hid (fun (u : World) (hu : Below w.heap.size w u) => hY.below hu)
      have HGg := Lib.hid (fun (u : World) (hu : Below w.heap.size w u) => hG.below hu)
      have HSs := Lib.hid (fun (u : World) (hu : Below w.heap.size w u) => hS.below hu)
      have HXx := Lib.hid (fun (u : World) (hu : Below w.heap.size w u) => hX.below hu)
      have HTt := Lib.hid (fun (u : World) (hu : Below w.heap.size w u) => hT.below hu)
      have HIi := Lib.hid hid
      clear hA hB hC hY hG hS hX hZ hT hid HGb
      obtain ⟨e1, he1⟩ : ∃ e1, loadE (shipE id light lever height turn least hs mn merr mt terr) hs xs = e1 := ⟨_, rfl⟩
      obtain ⟨e2, he2⟩ : ∃ e2, loadE (shipE id light lever height turn least hs mn merr mt terr) hs zs = e2 := ⟨_, rfl⟩
      rw [he1] at HD1
      rw [he2] at HD2
      have HE1 := Lib.hid he1
      have HE2 := Lib.hid he2
      clear he1 he2
      obtain ⟨m1, hm1⟩ : ∃ m1, (if e1 = 0 then light + isum xs else 0) = m1 := ⟨_, rfl⟩
      obtain ⟨m2, hm2⟩ : ∃ m2, (if e2 = 0 then light + isum zs else 0) = m2 := ⟨_, rfl⟩
      rw [hm1] at HD1
      rw [hm2] at HD2
      have HM1 := Lib.hid hm1
      have HM2 := Lib.hid hm2
      clear hm1 hm2
      obtain ⟨tl, s0, s1, s2, s3, s4, s5, s6, s7, s8, s9, s10⟩ := blk11 HT0.out
      go_upto_region 4 with (go_at_call 5; (with_reducible refine (HD1.out _ HB0.out).mono ?_); rintro e u1 ⟨rfl, hb1⟩)
      have HT1 := Lib.hid (HT0.out.below hb1)
      have HG1 := Lib.hid (HG0.out.below hb1)
      have HB1 := Lib.hid (HB0.out.trans (hb1.mono HB0.out.size))
      clear hb1 tl s0 s1 s2 s3 s4 s5 s6 s7 s8 s9 s10 HT0 HG0 HB0 HD1
      obtain ⟨tl, s0, s1, s2, s3, s4, s5, s6, s7, s8, s9, s10⟩ := blk11 HT1.out
      go_upto_region 5 with (go_at_call 5; (with_reducible refine (HD2.out _ HB1.out).mono ?_); rintro e u2 ⟨rfl, hb2⟩)
      have HT2 := Lib.hid (HT1.out.below hb2)
      have HG2 := Lib.hid (HG1.out.below hb2)
      have HB2 := Lib.hid (HB1.out.trans (hb2.mono HB1.out.size))
      clear hb2 tl s0 s1 s2 s3 s4 s5 s6 s7 s8 s9 s10 HT1 HG1 HB1 HD2
      obtain ⟨y0, y1, yl⟩ := cells2 HG2.out
      by_cases c1 : e1 = 0
      case neg =>
        have d1 : (e1 != 0) = true := by simpa using c1
        go_wp2_with (go_at_call 4; (with_reducible refine (wei2 _).mono ?_); rintro e u9 ⟨rfl, hb9⟩)
        exact bodyPost_ret (v := .bool true) (by simp [results, Tryz.results3, go_sem]) rfl ⟨rfl, HB2.out.trans (hb9.mono HB2.out.size)⟩
      subst c1
      by_cases c2 : e2 = 0
      case neg =>
        have d2 : (e2 != 0) = true := by simpa using c2
        go_wp2_with (go_at_call 4; (with_reducible refine (wei2 _).mono ?_); rintro e u9 ⟨rfl, hb9⟩)
        exact bodyPost_ret (v := .bool true) (by simp [results, Tryz.results3, go_sem]) rfl ⟨rfl, HB2.out.trans (hb9.mono HB2.out.size)⟩
      subst c2
      go_wp2_with fail
      (with_reducible refine (HEr.out u2 HB2.out).mono ?_)
      rintro e u3 ⟨⟨be, rfl, hbe⟩, hb3⟩
      have HT3 := Lib.hid (HT2.out.below hb3)
      have HG3 := Lib.hid (HG2.out.below hb3)
      have HB3 := Lib.hid (HB2.out.trans (hb3.mono HB2.out.size))
      clear hb3 y0 y1 yl HT2 HG2 HB2 HEr
      cases be with
      | false =>
        go_wp2_with (go_at_call 4; (with_reducible refine (wei2 _).mono ?_); rintro e u9 ⟨rfl, hb9⟩)
        exact bodyPost_ret (v := .bool true) (by simp [results, Tryz.results3, go_sem]) rfl ⟨rfl, HB3.out.trans (hb9.mono HB3.out.size)⟩
      | true =>
      have HEp := Lib.hid (hbe (by trivial))
      clear hbe
      have hSE := (loadE_zero HE1.out).1
      have hld1 := (loadE_zero HE1.out).2
      have hld2 := (loadE_zero HE2.out).2
      have hok := shipE_zero hSE
      have hl1 := load_bd hok hld1
      have hl2 := load_bd hok hld2
      have hq1 : light + isum xs = m1 := by have := HM1.out; simpa using this
      have hq2 : light + isum zs = m2 := by have := HM2.out; simpa using this
      have hes : ∀ e ∈ es, -1000000 ≤ e ∧ e ≤ 1000000 := fun e he => by
        obtain ⟨i, hi, rfl⟩ := List.mem_iff_getElem.1 he
        have hiy : i < ys.length := by rw [← HEp.out.len]; exact hi
        have a := (HEp.out.er i hiy hi).1
        have b := bulb_ys HEp.out.ok _ (List.getElem_mem hiy)
        omega
      have hlb := hok.lightB
      have hgd' := HGd.out
      have HKn1 := Lib.hid (fun (u : World) (hu : Below w.heap.size w u) => known_any id light lever height A n c B m d merr C q r terr turn least hs mn mt Y ny cy G ng cg ys gs E ne ce es T nt ct ss false m1 u (HBm.out u hu) hok.mnv hok.merrB (HYy.out u hu) (HGg.out u hu) (by omega) (by omega) (HSs.out u hu) hne hes (by omega) (HTt.out u hu) (by omega) HIi.out)
      have HKn2 := Lib.hid (fun (u : World) (hu : Below w.heap.size w u) => known_any id light lever height A n c B m d merr C q r terr turn least hs mn mt Y ny cy G ng cg ys gs E ne ce es T nt ct ss true m2 u (HBm.out u hu) hok.mnv hok.merrB (HYy.out u hu) (HGg.out u hu) (by omega) (by omega) (HSs.out u hu) hne hes (by omega) (HTt.out u hu) (by omega) HIi.out)
      clear hSE hld1 hld2 hok hl1 hl2 hq1 hq2 hes hlb hgd' hgd
      go_upto_region 7 with fail
      refine wp_region_preC 14 [(5, 95), (11, 101), (12, 21), (13, 22)] (fun v => Below u3.heap.size u3 v) (KnJ mn merr ys gs es m1 m2) (by kernel_rfl) (by kernel_rfl) (Below.refl _ _) (fun v1 v2 h kk => h.trans (kk.mono h.size)) (fun v' hv' => ⟨fun a => (by cases a), fun a => (by cases a), fun a => (by cases a), fun a => (by cases a)⟩)
        (fun ls vs v v' _ h kk => ⟨fun a => (h.1 a).below kk, fun a => (h.2.1 a).below kk, fun a => (h.2.2.1 a).below kk, fun a => (h.2.2.2 a).below kk⟩) ?ex
      case ex =>
      apply Exists.intro
      refine ⟨?walk, ?loud, ?last⟩
      case walk =>
        intro U hU
        obtain ⟨tl, s0, s1, s2, s3, s4, s5, s6, s7, s8, s9, s10⟩ := blk11 (HT3.out.below hU)
        obtain ⟨y0, y1, yl⟩ := cells2 (HG3.out.below hU)
        obtain ⟨xc, xf'⟩ := xcell (W := U)
        simp only [List.take_succ_cons, List.take_nil, qOf, isLoud, List.any_cons, List.any_nil, Nat.reduceBEq, Bool.or_false, Bool.or_true, Nat.reduceAdd, Bool.false_eq_true, if_true, if_false, beq_self_eq_true, Nat.zero_add]
        repeat (first | go_big_quiet_step (fail) | quiet_step (fail))
        exact wpQuiet_nil rfl
      case loud =>
        rintro pp hpp vs v hC ls hI hls hw o ho
        simp only [List.mem_cons, List.not_mem_nil, or_false] at hpp
        obtain ⟨i5, i11, i12, i13⟩ := hI
        rcases hpp with rfl | rfl | rfl | rfl
        · simp only [List.getElem?_cons_succ, List.getElem?_cons_zero, Option.some.injEq] at ho
          subst ho
          have HC := Lib.hid (HKn1.out v (HB3.out.trans (hC.mono HB3.out.size)))
          simp [loudAt, loudUpon, go_sem, putsL, Act.put]
          refine HC.out.mono ?_
          rintro e v' ⟨⟨L, k', c', l, rfl, h1, h2, h3⟩, hb⟩
          exact ⟨_, rfl, hC.trans (hb.mono hC.size), fun _ => ⟨L, k', c', l, by simp [upd], h1, h2, h3⟩, fun a => by simpa [upd] using (i11 (by simpa [updB] using a)).below hb, fun a => by simpa [upd] using (i12 (by simpa [updB] using a)).below hb, fun a => by simpa [upd] using (i13 (by simpa [updB] using a)).below hb⟩
        · simp only [List.getElem?_cons_succ, List.getElem?_cons_zero, Option.some.injEq] at ho
          subst ho
          have HC := Lib.hid (HKn2.out v (HB3.out.trans (hC.mono HB3.out.size)))
          simp [loudAt, loudUpon, go_sem, putsL, Act.put]
          refine HC.out.mono ?_
          rintro e v' ⟨⟨L, k', c', l, rfl, h1, h2, h3⟩, hb⟩
          exact ⟨_, rfl, hC.trans (hb.mono hC.size), fun a => by simpa [upd] using (i5 (by simpa [updB] using a)).below hb, fun _ => ⟨L, k', c', l, by simp [upd], h1, h2, h3⟩, fun a => by simpa [upd] using (i12 (by simpa [updB] using a)).below hb, fun a => by simpa [upd] using (i13 (by simpa [updB] using a)).below hb⟩
        · have j5 := i5 (hw (5, 95) (by simp) (by kernel_rfl))
          obtain ⟨L, k', c', l, e5, h1, h2, h3⟩ := j5
          simp only [List.getElem?_cons_succ, List.getElem?_cons_zero, Option.some.injEq] at ho
          subst ho
          simp [loudAt, loudUpon, go_sem, execOp, putsL, Act.put, e5]
          exact ⟨hC, fun a => by simpa [upd] using i5 (by simpa [updB] using a), fun a => by simpa [upd] using i11 (by simpa [updB] using a), fun _ => ⟨L, k', c', l, by simp [upd], h1, h2, h3⟩, fun a => by simpa [upd] using i13 (by simpa [updB] using a)⟩
        · have j11 := i11 (hw (11, 101) (by simp) (by kernel_rfl))
          obtain ⟨L, k', c', l, e11, h1, h2, h3⟩ := j11
          simp only [List.getElem?_cons_succ, List.getElem?_cons_zero, Option.some.injEq] at ho
          subst ho
          simp [loudAt, loudUpon, go_sem, execOp, putsL, Act.put, e11]
          exact ⟨hC, fun a => by simpa [upd] using i5 (by simpa [updB] using a), fun a => by simpa [upd] using i11 (by simpa [updB] using a), fun a => by simpa [upd] using i12 (by simpa [updB] using a), fun _ => ⟨L, k', c', l, by simp [upd], h1, h2, h3⟩⟩
      case last =>
      rintro ls vs V' hV hI hls
      obtain ⟨L1, k1, c1', l1, e12, hs1, hk1, hp1⟩ := hI.2.2.1 (hls (12, 21) (by simp))
      obtain ⟨L2, k2, c2', l2, e13, hs2, hk2, hp2⟩ := hI.2.2.2 (hls (13, 22) (by simp))
      simp only [putsL, List.foldl_cons, List.foldl_nil, List.drop_succ_cons, List.drop_nil, Act.put, e12, e13, List.setIfInBounds_toArray, List.set_cons_succ, List.set_cons_zero]
      generalize vs 5 = x5 at *
      generalize vs 11 = x11 at *
      clear hI hls e12 e13 vs ls
      have HT4 := Lib.hid (HT3.out.below hV)
      have HG4 := Lib.hid (HG3.out.below hV)
      have HB4 := Lib.hid (HB3.out.trans (hV.mono HB3.out.size))
      have HS1 := Lib.hid hs1
      have HS2 := Lib.hid hs2
      have HP1 := Lib.hid hp1
      have HP2 := Lib.hid hp2
      have HL1 := Lib.hid hs1.len
      have HL2 := Lib.hid hs2.len
      clear hs1 hs2 hp1 hp2 hV HT3 HG3 HB3 HKn1 HKn2 HTt HIi HSs
      go_upto_region 8 with fail
      by_cases hk0 : k1 = 0
      case pos =>
        have d0 : ((k1 : Int) == 0) = true := by simp; omega
        go_wp2_with (go_at_call 4; (with_reducible refine (wei2 _).mono ?_); rintro e u9 ⟨rfl, hb9⟩)
        exact bodyPost_ret (v := .bool true) (by simp [results, Tryz.results3, go_sem]) rfl ⟨rfl, HB4.out.trans (hb9.mono HB4.out.size)⟩
      have d0 : ((k1 : Int) == 0) = false := by simp; omega
      go_upto_region 10 with fail
      have hSE := (loadE_zero HE1.out).1
      have hld1 := (loadE_zero HE1.out).2
      have hld2 := (loadE_zero HE2.out).2
      have hok := shipE_zero hSE
      have hr1 := isum_room hld1
      have hr2 := isum_room hld2
      have hq1 : light + isum xs = m1 := by have := HM1.out; simpa using this
      have hq2 : light + isum zs = m2 := by have := HM2.out; simpa using this
      have hRo : roomS light hs = light + isum (hs.map Hl.room) := rfl
      obtain ⟨hvA, hmA, htA⟩ := kno_all hok HEp.out HP1.out (by omega) (by omega) (by rw [HL1.out]; omega) (by rw [HL1.out]; exact hk1)
      have HQ2 := Lib.hid (fun h : k2 ≠ 0 => kno_all hok HEp.out HP2.out (by omega) (by omega) (by rw [HL2.out]; omega) (by rw [HL2.out]; exact hk2))
      have hpn : p = n := by
        have a := (load_bd hok hld1).1
        have b := (HXx.out w (Below.refl _ _)).len
        have e := (HA.out w (Below.refl _ _)).len
        omega
      have hgd := HGd.out
      have hleA := Int.le_trans htA.1 htA.2
      have HC1 := Lib.hid (fun (u : World) (hu : Below w.heap.size w u) (hV : SAt encV 18 u L1 k1 l1) => contained_any id light lever height A n c B m d merr C q r terr turn least hs mn mt Y ny cy G ng cg ys gs L1 k1 c1' l1 m1 u (HA.out u hu) (HBm.out u hu) (HCt.out u hu) hn hm hq hc hSE (HYy.out u hu) (HGg.out u hu) (by omega) (by omega) HEp.out.ok hV hvA hmA hleA htA)
      have HC2 := Lib.hid (fun (u : World) (hu : Below w.heap.size w u) (h : k2 ≠ 0) (hV : SAt encV 18 u L2 k2 l2) => contained_any id light lever height A n c B m d merr C q r terr turn least hs mn mt Y ny cy G ng cg ys gs L2 k2 c2' l2 m2 u (HA.out u hu) (HBm.out u hu) (HCt.out u hu) hn hm hq hc hSE (HYy.out u hu) (HGg.out u hu) (by omega) (by omega) HEp.out.ok hV (HQ2.out h).1 (HQ2.out h).2.1 (Int.le_trans (HQ2.out h).2.2.1 (HQ2.out h).2.2.2) (HQ2.out h).2.2)
      have HTk := Lib.hid (fun (u : World) (hu : Below w.heap.size w u) (h : k2 ≠ 0) (hV : SAt encV 18 u L1 k1 l1) (hV2 : SAt encV 18 u L2 k2 l2) => Taken_any id light lever height A n c B m d merr C q r terr turn least hs mn mt Y ny cy G ng cg ys gs L1 k1 c1' l1 L2 k2 c2' l2 u (HA.out u hu) (HBm.out u hu) (HCt.out u hu) hn hm hq hc hSE (HYy.out u hu) (HGg.out u hu) (by omega) (by omega) HEp.out.ok hV hvA hmA hleA hV2 (HQ2.out h).1 (HQ2.out h).2.1 (Int.le_trans (HQ2.out h).2.2.1 (HQ2.out h).2.2.2))
      have HLd := Lib.hid (fun (u : World) (hu : Below w.heap.size w u) (hV : SAt encV 18 u L1 k1 l1) => Load_any id light lever height A n c B m d merr C q r terr turn least hs mn mt Y ny cy G ng cg ys gs L1 k1 c1' l1 u (HA.out u hu) (HBm.out u hu) (HCt.out u hu) hn hm hq hc hSE (HYy.out u hu) (HGg.out u hu) (by omega) (by omega) HEp.out.ok hV hvA hmA hleA)
      have HRe := Lib.hid (fun (u : World) (hu : Below w.heap.size w u) (hV : SAt encV 18 u L1 k1 l1) (h4 : (togS light (roomS light hs) mn merr ys gs l1).2 - (togS light (roomS light hs) mn merr ys gs l1).1 < 4000) => Release_any id light lever height A n c B m d merr C q r terr turn least hs mn mt Y ny cy G ng cg ys gs L1 k1 c1' l1 depth keel u (HA.out u hu) (HBm.out u hu) (HCt.out u hu) hn hm hq hc hSE (HYy.out u hu) (HGg.out u hu) (by omega) (by omega) HEp.out.ok hV hvA hmA hleA h4)
      have HFt := Lib.hid (fun (u : World) (hu : Below w.heap.size w u) (Lh : Option Addr) (ch : Nat) (hL : SAt encS 2 u Lh n (rsL hs)) (h4 : (togS light (roomS light hs) mn merr ys gs l1).2 - (togS light (roomS light hs) mn merr ys gs l1).1 < 4000) => HFits_p id light lever height A n c B m d merr C q r terr turn least hs mn mt Lh ch ((togS light (roomS light hs) mn merr ys gs l1).1 - light) ((togS light (roomS light hs) mn merr ys gs l1).2 - light) X p pc xs u (HA.out u hu) (HBm.out u hu) (HCt.out u hu) hn hm hq hc hSE hL (LdOk.of hok hleA) (HXx.out u hu) hpn hld1 (by omega) (by omega) (by omega))
      have HSf := Lib.hid (fun (u : World) (hu : Below w.heap.size w u) (hst : ShkP light height hs mt terr least (isum xs)) (hcl : ∃ a z, a ≤ isum xs ∧ isum xs ≤ z ∧ ClrP light lever hs mn merr turn a z depth keel) => safe_any id light lever height A n c B m d merr C q r terr turn least hs mn mt X p pc xs depth keel u (HA.out u hu) (HBm.out u hu) (HCt.out u hu) hn hm hq hc (HXx.out u hu) HE1.out hst hcl)
      have hbd := togS_bd l1 hleA
      have hlb := hok.lightB
      have hrb := hok.rooms
      have htB := Lib.hid (fun h : k2 ≠ 0 => (And.intro (HQ2.out h).2.2 (togS_bd l2 (Int.le_trans (HQ2.out h).2.2.1 (HQ2.out h).2.2.2))))
      clear HQ2 hSE hld1 hld2 hok hr1 hr2 hRo hvA hmA hleA hgd hpn HP1 HP2 HEp HA HBm HCt HYy HGg HXx HGd HE1 HE2 HM1 HM2 HL1 HL2
      generalize togS light (roomS light hs) mn merr ys gs l1 = S1 at *
      generalize togS light (roomS light hs) mn merr ys gs l2 = S2 at *
      obtain ⟨S1a, S1b⟩ := S1
      obtain ⟨S2a, S2b⟩ := S2
      dsimp only at htA htB HTk HLd HRe HFt hbd
      dsimp only [vLd] at HLd HFt
      obtain ⟨tl, s0, s1, s2, s3, s4, s5, s6, s7, s8, s9, s10⟩ := blk11 HT4.out
      obtain ⟨y0, y1, yl⟩ := cells2 HG4.out
      go_cut [124] (fun v wx => v = .bool false ∧ Below V'.heap.size V' wx)
      case first =>
        by_cases hk20 : k2 = 0
        case pos =>
          have d2 : decide ((0 : Int) < (k2 : Int)) = false := decide_eq_false (by omega)
          have d2n : decide (0 < k2) = false := decide_eq_false (by omega)
          clear hk20
          go_wp2_with (go_at_call 8; (with_reducible refine (HC1.out _ HB4.out HS1.out).mono ?_); rintro e u5 ⟨rfl, hb5⟩)
          go_meet
          exact ⟨rfl, hb5⟩
        case neg =>
          have d2 : decide ((0 : Int) < (k2 : Int)) = true := decide_eq_true (by omega)
          have d2n : decide (0 < k2) = true := decide_eq_true (by omega)
          go_wp2_with (first | (go_at_call 8; (with_reducible refine (HC1.out _ HB4.out HS1.out).mono ?_); rintro e u5 ⟨rfl, hb5⟩; have HT5 := Lib.hid (HT4.out.below hb5); have HG5 := Lib.hid (HG4.out.below hb5); obtain ⟨tl', s0', s1', s2', s3', s4', s5', s6', s7', s8', s9', s10'⟩ := blk11 HT5.out; obtain ⟨y0', y1', yl'⟩ := cells2 HG5.out; have HC := Lib.hid (HC2.out u5 (HB4.out.trans (hb5.mono HB4.out.size)) hk20 (HS2.out.below hb5))) | (go_at_call 8; (with_reducible refine HC.out.mono ?_); rintro e u6 ⟨rfl, hb6⟩))
          go_meet
          exact ⟨rfl, hb5.trans (hb6.mono hb5.size)⟩
      case rest =>
      obtain ⟨W5, hW5⟩ : ∃ W, W = wc := ⟨_, rfl⟩
      subst hW5
      obtain ⟨rfl, hb5⟩ := hcut
      have HT5 := Lib.hid (HT4.out.below hb5)
      have HG5 := Lib.hid (HG4.out.below hb5)
      have HB5 := Lib.hid (HB4.out.trans (hb5.mono HB4.out.size))
      have HS15 := Lib.hid (HS1.out.below hb5)
      have HS25 := Lib.hid (HS2.out.below hb5)
      clear hb5 tl s0 s1 s2 s3 s4 s5 s6 s7 s8 s9 s10 y0 y1 yl HT4 HG4 HB4 HS1 HS2 HC1 HC2
      go_upto_if 127 with fail
      go_cut [127] (fun _ wx => Below W5.heap.size W5 wx)
      case first =>
        by_cases hk20 : k2 = 0
        case pos =>
          have d2 : decide ((0 : Int) < (k2 : Int)) = false := decide_eq_false (by omega)
          have d2n : decide (0 < k2) = false := decide_eq_false (by omega)
          clear hk20
          first | rw [d2n] | rw [d2] | simp only [d2, d2n] | skip
          go_wp2_with fail
          go_meet
          exact Below.refl _ _
        case neg =>
          have d2 : decide ((0 : Int) < (k2 : Int)) = true := decide_eq_true (by omega)
          have d2n : decide (0 < k2) = true := decide_eq_true (by omega)
          first | rw [d2n] | rw [d2] | simp only [d2, d2n] | skip
          obtain ⟨⟨ta, tb⟩, tc, td⟩ := htB.out hk20
          obtain ⟨tl, s0, s1, s2, s3, s4, s5, s6, s7, s8, s9, s10⟩ := blk11 HT5.out
          obtain ⟨y0, y1, yl⟩ := cells2 HG5.out
          have HC := Lib.hid (HTk.out W5 HB5.out hk20 HS15.out HS25.out)
          go_upto_region 14 with (go_at_call 9; (with_reducible refine HC.out.mono ?_); rintro e u6 ⟨rfl, hb6⟩)
          have bq := below_new u6 (.cells #[.int .i64 (S1a - S2b), .int .i64 (S1b - S2a)] 43)
          have bn := hb6.trans (bq.mono hb6.size)
          have HN := Lib.hid (Blk.new u6 43 #[.int .i64 (S1a - S2b), .int .i64 (S1b - S2a)])
          generalize hV : u6.alloc (.cells #[.int .i64 (S1a - S2b), .int .i64 (S1b - S2a)] 43) = V at *
          generalize hg : u6.heap.size = g9 at *
          clear hV hg bq hb6 tl s0 s1 s2 s3 s4 s5 s6 s7 s8 s9 s10 y0 y1 yl HC
          obtain ⟨z0, z1, zl⟩ := cells2 HN.out
          have him : inB (m1 - m2) (S1a - S2b) (S1b - S2a) = true := by
            unfold inB
            exact decide_eq_true (by omega)
          have HSh := Lib.hid (shows_all (S1a - S2b) (S1b - S2a) (m1 - m2) V)
          rw [him] at HSh
          go_wp2_with (go_at_call 10; (with_reducible refine HSh.out.mono ?_); rintro e u7 ⟨rfl, hb7⟩)
          go_meet
          exact bn.trans (hb7.mono bn.size)
      case rest =>
      obtain ⟨W6, hW6⟩ : ∃ W, W = wc := ⟨_, rfl⟩
      subst hW6
      have hb6 := hcut
      clear hcut
      have HT6 := Lib.hid (HT5.out.below hb6)
      have HG6 := Lib.hid (HG5.out.below hb6)
      have HB6 := Lib.hid (HB5.out.trans (hb6.mono HB5.out.size))
      have HS16 := Lib.hid (HS15.out.below hb6)
      clear hb6 HT5 HG5 HB5 HS15 HS25 HTk htB
      obtain ⟨tl, s0, s1, s2, s3, s4, s5, s6, s7, s8, s9, s10⟩ := blk11 HT6.out
      obtain ⟨y0, y1, yl⟩ := cells2 HG6.out
      have HC := Lib.hid (HLd.out W6 HB6.out HS16.out)
      go_upto_region 17 with (go_at_call 11; (with_reducible refine HC.out.mono ?_); rintro e u7 ⟨⟨Lh, nh, ch, a, z, s, rfl, hld⟩, hb7⟩)
      rcases hld with ⟨_, es'⟩ | ⟨h4, es', en, ea, ez, hsL⟩
      case inl =>
        subst s
        have bq := below_new u7 (.cells #[.slice Lh nh ch, .int .i64 a, .int .i64 z] 49)
        have bn := hb7.trans (bq.mono hb7.size)
        have HB7 := Lib.hid (HB6.out.trans (bn.mono HB6.out.size))
        generalize hV : u7.alloc (.cells #[.slice Lh nh ch, .int .i64 a, .int .i64 z] 49) = V at *
        generalize hg : u7.heap.size = g9 at *
        clear hV hg bq bn hb7 tl s0 s1 s2 s3 s4 s5 s6 s7 s8 s9 s10 y0 y1 yl HC
        go_wp2_with (go_at_call 4; (with_reducible refine (wei2 _).mono ?_); rintro e u9 ⟨rfl, hb9⟩)
        exact bodyPost_ret (v := .bool true) (by simp [results, Tryz.results3, go_sem]) rfl ⟨rfl, HB7.out.trans (hb9.mono HB7.out.size)⟩
      case inr =>
      subst s
      subst nh
      subst a
      subst z
      have bq := below_new u7 (.cells #[.slice Lh n ch, .int .i64 (S1a - light), .int .i64 (S1b - light)] 49)
      have bn := hb7.trans (bq.mono hb7.size)
      have HT7 := Lib.hid (HT6.out.below bn)
      have HG7 := Lib.hid (HG6.out.below bn)
      have HB7 := Lib.hid (HB6.out.trans (bn.mono HB6.out.size))
      have HS17 := Lib.hid (HS16.out.below bn)
      have HL7 := Lib.hid (hsL.below bq)
      have HN7 := Lib.hid (Blk.new u7 49 #[.slice Lh n ch, .int .i64 (S1a - light), .int .i64 (S1b - light)])
      generalize hV : u7.alloc (.cells #[.slice Lh n ch, .int .i64 (S1a - light), .int .i64 (S1b - light)] 49) = V7 at *
      generalize hg : u7.heap.size = g9 at *
      clear hV hg bq bn hb7 hsL tl s0 s1 s2 s3 s4 s5 s6 s7 s8 s9 s10 y0 y1 yl HC HT6 HG6 HB6 HS16 HLd
      have HC := Lib.hid (HFt.out V7 HB7.out Lh ch HL7.out h4)
      have HD := Lib.hid (fun (u : World) (hu : Below w.heap.size w u) (hV : SAt encV 18 u L1 k1 l1) => HRe.out u hu hV h4)
      clear HFt HRe
      obtain ⟨tl, s0, s1, s2, s3, s4, s5, s6, s7, s8, s9, s10⟩ := blk11 HT7.out
      obtain ⟨e0, e1, e2, el⟩ := cells3 HN7.out
      go_upto_region 21 with (go_at_call 12; (with_reducible refine HC.out.mono ?_); rintro e u8 ⟨rfl, hb8⟩)
      have HT8 := Lib.hid (HT7.out.below hb8)
      have HG8 := Lib.hid (HG7.out.below hb8)
      have HB8 := Lib.hid (HB7.out.trans (hb8.mono HB7.out.size))
      have HS18 := Lib.hid (HS17.out.below hb8)
      clear hb8 HC tl s0 s1 s2 s3 s4 s5 s6 s7 s8 s9 s10 e0 e1 e2 el HT7 HG7 HB7 HS17 HL7 HN7
      obtain ⟨tl, s0, s1, s2, s3, s4, s5, s6, s7, s8, s9, s10⟩ := blk11 HT8.out
      obtain ⟨y0, y1, yl⟩ := cells2 HG8.out
      have HC := Lib.hid (HD.out u8 HB8.out HS18.out)
      go_upto_region 22 with (go_at_call 13; (with_reducible refine HC.out.mono ?_); rintro e u10 ⟨⟨b, s, rfl, hrl⟩, hb10⟩)
      have HRl := Lib.hid hrl
      have HT9 := Lib.hid (HT8.out.below hb10)
      have HB9 := Lib.hid (HB8.out.trans (hb10.mono HB8.out.size))
      clear hrl hb10 HC HD tl s0 s1 s2 s3 s4 s5 s6 s7 s8 s9 s10 y0 y1 yl HT8 HG8 HB8 HS18
      by_cases hs0 : s = 0
      case neg =>
        have hsb : (s != 0) = true := by simpa using hs0
        go_wp2_with (go_at_call 4; (with_reducible refine (wei2 _).mono ?_); rintro e u9 ⟨rfl, hb9⟩)
        exact bodyPost_ret (v := .bool true) (by simp [results, Tryz.results3, go_sem]) rfl ⟨rfl, HB9.out.trans (hb9.mono HB9.out.size)⟩
      subst hs0
      cases b with
      | false =>
        go_wp2_with (go_at_call 4; (with_reducible refine (wei2 _).mono ?_); rintro e u9 ⟨rfl, hb9⟩)
        exact bodyPost_ret (v := .bool true) (by simp [results, Tryz.results3, go_sem]) rfl ⟨rfl, HB9.out.trans (hb9.mono HB9.out.size)⟩
      | true =>
      obtain ⟨hst, hcl⟩ := HRl.out rfl
      have HSg := Lib.hid (fun (u : World) (hu : Below w.heap.size w u) => HSf.out u hu (hst (isum xs) (by omega) (by omega)) ⟨S1a - light, S1b - light, by omega, by omega, hcl⟩)
      clear hst hcl HRl HSf
      go_upto_region 24 with fail
      go_wp2_with (first | (go_at_call 4; (with_reducible refine (wei2 _).mono ?_); rintro e u9 ⟨rfl, hb9⟩; have HT10 := Lib.hid (HT9.out.below hb9); have HB10 := Lib.hid (HB9.out.trans (hb9.mono HB9.out.size)); obtain ⟨tl, s0, s1, s2, s3, s4, s5, s6, s7, s8, s9, s10⟩ := blk11 HT10.out; have HC := Lib.hid (HSg.out u9 HB10.out)) | (go_at_call 14; (with_reducible refine HC.out.mono ?_); rintro e u11 ⟨rfl, hb11⟩))
      exact bodyPost_ret (v := .bool true) (by simp [results, Tryz.results3, go_sem]) rfl ⟨rfl, HB10.out.trans (hb11.mono HB10.out.size)⟩
end Go.Proofs.YtgojpgggbflgoaaGreat
