/- The draughts of a loading. The draughts of a true loading. The order of the holds by a form. Insertion sort of the holds' order. The stable sort of the holds' order. Plain law: the greedy loading has the greatest value of a form. A hold is filled. The best loading with a total. The totals of a load, one by one. -/
import Derived.Test.YtgojpgggbflgoaaGreatTop09
import Derived.Test.YtgojpgggbflgoaaGreatTop06
namespace Go.Proofs.YtgojpgggbflgoaaGreat
open Go.RowKit

abbrev vDr (f a : Int × Int) : Value := .agg #[.int .i64 f.1, .int .i64 f.2, .int .i64 a.1, .int .i64 a.2]
theorem blk_set1 {W : World} {g : Nat} {t : TypeId} {p : Value} (h : Blk W g t #[p]) (a : Value) : Blk (W.setCell ⟨g, 0, none⟩ a) g t #[a] := by simpa using h.set_ 0 a
structure TwC (B : Nat) (t : TypeId) (a1 b1 : Value) (ls : Nat → Bool) (vs : Nat → Value) (v : World) : Prop where
  p1 : ls 12 = true → ∃ g, vs 12 = .pointer (some ⟨g, 0, none⟩) ∧ B ≤ g ∧ Blk v g t (cond (ls 14) #[a1] #[.int .i64 0])
  p2 : ls 13 = true → ∃ g, vs 13 = .pointer (some ⟨g, 0, none⟩) ∧ B ≤ g ∧ Blk v g t (cond (ls 15) #[b1] #[.int .i64 0])
  ne : ls 12 = true → ls 13 = true → vs 12 ≠ vs 13
  o1 : ls 14 = true → ls 12 = true
  o2 : ls 15 = true → ls 13 = true
section
variable {B : Nat} {t : TypeId} {a1 b1 : Value} {ls : Nat → Bool} {vs : Nat → Value} {v v' : World}
theorem TwC.init : TwC B t a1 b1 (fun _ => false) (fun _ => undef) v := ⟨fun a => (by cases a), fun a => (by cases a), fun a => (by cases a), fun a => (by cases a), fun a => (by cases a)⟩
theorem TwC.below (h : TwC B t a1 b1 ls vs v) (hb : Below v.heap.size v v') : TwC B t a1 b1 ls vs v' :=
  ⟨fun a => let ⟨g, e, q, k⟩ := h.p1 a; ⟨g, e, q, k.below hb⟩, fun a => let ⟨g, e, q, k⟩ := h.p2 a; ⟨g, e, q, k.below hb⟩, h.ne, h.o1, h.o2⟩
theorem TwC.n1 (h : TwC B t a1 b1 ls vs v) (hl : ls 12 = false) : ls 14 = false := by
  cases c : ls 14 with
  | false => rfl
  | true => rw [h.o1 c] at hl; cases hl
theorem TwC.n2 (h : TwC B t a1 b1 ls vs v) (hl : ls 13 = false) : ls 15 = false := by
  cases c : ls 15 with
  | false => rfl
  | true => rw [h.o2 c] at hl; cases hl
theorem TwC.s1 (h : TwC B t a1 b1 ls vs v) (hl : ls 12 = false) (hB : B ≤ v.heap.size) : TwC B t a1 b1 (updB ls 12) (upd vs 12 (.pointer (some ⟨v.heap.size, 0, none⟩))) (v.alloc (.cells #[.int .i64 0] t)) := by
  have hj := h.n1 hl
  have h2 := h.below (below_new v (.cells #[.int .i64 0] t))
  refine ⟨fun _ => ⟨v.heap.size, by simp [upd], hB, by simpa [updB, hj] using Blk.new v t #[.int .i64 0]⟩, fun a => by simpa [updB, upd] using h2.p2 (by simpa [updB] using a), fun _ b => ?_, fun a => by simp [updB, hj] at a, fun a => by simpa [updB] using h.o2 (by simpa [updB] using a)⟩
  obtain ⟨g, e, _, k⟩ := h.p2 (by simpa [updB] using b)
  have := k.lt
  simp only [upd]
  rw [if_pos trivial, if_neg (by decide), e]
  intro q
  simp only [Value.pointer.injEq, Option.some.injEq, Addr.mk.injEq] at q
  omega
theorem TwC.s2 (h : TwC B t a1 b1 ls vs v) (hl : ls 13 = false) (hB : B ≤ v.heap.size) : TwC B t a1 b1 (updB ls 13) (upd vs 13 (.pointer (some ⟨v.heap.size, 0, none⟩))) (v.alloc (.cells #[.int .i64 0] t)) := by
  have hj := h.n2 hl
  have h2 := h.below (below_new v (.cells #[.int .i64 0] t))
  refine ⟨fun a => by simpa [updB, upd] using h2.p1 (by simpa [updB] using a), fun _ => ⟨v.heap.size, by simp [upd], hB, by simpa [updB, hj] using Blk.new v t #[.int .i64 0]⟩, fun a _ => ?_, fun a => by simpa [updB] using h.o1 (by simpa [updB] using a), fun a => by simp [updB, hj] at a⟩
  obtain ⟨g, e, _, k⟩ := h.p1 (by simpa [updB] using a)
  have := k.lt
  simp only [upd]
  rw [if_neg (by decide), if_pos trivial, e]
  intro q
  simp only [Value.pointer.injEq, Option.some.injEq, Addr.mk.injEq] at q
  omega
theorem TwC.w1 (h : TwC B t a1 b1 ls vs v) (h1 : ls 12 = true) (_ : ls 14 = false) {g : Nat} (e : vs 12 = .pointer (some ⟨g, 0, none⟩)) (hk : Blk v g t #[.int .i64 0]) (u : Value) : TwC B t a1 b1 (updB ls 14) (upd vs 14 u) (v.setCell ⟨g, 0, none⟩ a1) := by
  obtain ⟨g1, e1, q1, _⟩ := h.p1 h1
  refine ⟨fun _ => ⟨g, by simpa [upd] using e, by rw [e] at e1; cases e1; exact q1, by simpa [updB] using blk_set1 hk a1⟩, fun a => ?_, fun a b => by simpa [upd] using h.ne (by simpa [updB] using a) (by simpa [updB] using b), fun _ => by simpa [updB] using h1, fun a => by simpa [updB] using h.o2 (by simpa [updB] using a)⟩
  have a := (by simpa [updB] using a : ls 13 = true)
  obtain ⟨g2, e2, q2, k2⟩ := h.p2 a
  refine ⟨g2, by simpa [upd] using e2, q2, ?_⟩
  have hne : (some g : Option Nat) ≠ some g2 := fun q => h.ne h1 a (by rw [e, e2]; cases q; rfl)
  have := k2.grown (grownBy_set v g 0 a1) (fun q => hne q)
  simpa [updB] using this
theorem TwC.w2 (h : TwC B t a1 b1 ls vs v) (h1 : ls 13 = true) (_ : ls 15 = false) {g : Nat} (e : vs 13 = .pointer (some ⟨g, 0, none⟩)) (hk : Blk v g t #[.int .i64 0]) (u : Value) : TwC B t a1 b1 (updB ls 15) (upd vs 15 u) (v.setCell ⟨g, 0, none⟩ b1) := by
  obtain ⟨g1, e1, q1, _⟩ := h.p2 h1
  refine ⟨fun a => ?_, fun _ => ⟨g, by simpa [upd] using e, by rw [e] at e1; cases e1; exact q1, by simpa [updB] using blk_set1 hk b1⟩, fun a b => by simpa [upd] using h.ne (by simpa [updB] using a) (by simpa [updB] using b), fun a => by simpa [updB] using h.o1 (by simpa [updB] using a), fun _ => by simpa [updB] using h1⟩
  have a := (by simpa [updB] using a : ls 12 = true)
  obtain ⟨g2, e2, q2, k2⟩ := h.p1 a
  refine ⟨g2, by simpa [upd] using e2, q2, ?_⟩
  have hne : (some g : Option Nat) ≠ some g2 := fun q => h.ne a h1 (by rw [e, e2]; cases q; rfl)
  have := k2.grown (grownBy_set v g 0 b1) (fun q => hne q)
  simpa [updB] using this
theorem TwC.done (h : TwC B t a1 b1 ls vs v) (h1 : ls 14 = true) (h2 : ls 15 = true) : ∃ g g', vs 12 = .pointer (some ⟨g, 0, none⟩) ∧ vs 13 = .pointer (some ⟨g', 0, none⟩) ∧ B ≤ g ∧ B ≤ g' ∧ g ≠ g' ∧ Blk v g t #[a1] ∧ Blk v g' t #[b1] := by
  obtain ⟨g, e, q, k⟩ := h.p1 (h.o1 h1)
  obtain ⟨g', e', q', k'⟩ := h.p2 (h.o2 h2)
  rw [h1] at k
  rw [h2] at k'
  exact ⟨g, g', e, e', q, q', fun c => h.ne (h.o1 h1) (h.o2 h2) (by rw [e, e', c]), k, k'⟩
end

set_option maxRecDepth 100000 in
set_option maxHeartbeats 6400000 in
theorem hafloat_any (id light lever height : Int) (A : Option Addr) (n c : Nat) (B : Option Addr) (m d : Nat) (merr : Int) (C : Option Addr) (q r : Nat) (terr turn least : Int) (hs : List Hl) (mn mt : List (Int × Int)) (X : Option Addr) (pc : Nat) (xs : List Int) (w : World) (hA : SAt encL 4 w A n hs) (hB : CAt w B m mn) (hX : SAt encI 1 w X n xs) (hok : ShipOk id light lever height turn least hs mn merr mt terr) (hld : ldE hs xs = 0) :
    Calls Tryz.prog 60 #[.agg (cSp id light lever height A n c B m d merr C q r terr turn least), .slice X n pc] w fun e w' => e = .returned (vDr (fltS light lever hs mn merr turn xs 1) (fltS light lever hs mn merr turn xs (-1))) ∧ Below w.heap.size w w' := by
  have hlb := load_bd hok hld
  have hn8 : n ≤ 8 := by have := hA.len; have := hok.len; omega
  obtain ⟨bb, off, eB, hk⟩ := hB.at_ (by have := hB.len; have := hok.mnv.pos; omega)
  have hlq := hB.len
  subst eB
  subst hlq
  have hb0 := (((Below.refl w.heap.size w).alloc (Nat.le_refl _) (.cells (cSp id light lever height A n c (some ⟨bb, off, none⟩) mn.length d merr C q r terr turn least) 27)).alloc (by simp) (.cells #[.slice X n pc] 32)).alloc (by simp; omega) (.cells #[.int .i64 0, .int .i64 0, .int .i64 0, .int .i64 0] 93)
  have t0 := ((Blk.new w 27 (cSp id light lever height A n c (some ⟨bb, off, none⟩) mn.length d merr C q r terr turn least)).alloc (.cells #[.slice X n pc] 32)).alloc (.cells #[.int .i64 0, .int .i64 0, .int .i64 0, .int .i64 0] 93)
  have x0 := (Blk.at_new (W := w.alloc (.cells (cSp id light lever height A n c (some ⟨bb, off, none⟩) mn.length d merr C q r terr turn least) 27)) (g := w.heap.size + 1) 32 #[.slice X n pc] (by simp)).alloc (.cells #[.int .i64 0, .int .i64 0, .int .i64 0, .int .i64 0] 93)
  have r0 := Blk.at_new (W := (w.alloc (.cells (cSp id light lever height A n c (some ⟨bb, off, none⟩) mn.length d merr C q r terr turn least) 27)).alloc (.cells #[.slice X n pc] 32)) (g := w.heap.size + 2) 93 #[.int .i64 0, .int .i64 0, .int .i64 0, .int .i64 0] (by simp)
  have HSm := Lib.hid (fun (u : World) (hu : Below w.heap.size w u) => sum_any X n pc xs u (hX.below hu) (fun x h => by have := hlb.2.1 x h; omega) (by omega))
  have HC := Lib.hid (fun (u : World) (hu : Below w.heap.size w u) => at_any bb off d merr mn (light + isum xs) u (hk.below hu) hok.mnv hlb.2.2.2.2.2.1 hlb.2.2.2.2.2.2)
  have HMo := Lib.hid (fun (u : World) (hu : Below w.heap.size w u) => moment_any id light lever height A n c (some ⟨bb, off, none⟩) mn.length d merr C q r terr turn least hs X n pc xs u (hA.below hu) hn8 (fun x h => by have := hok.hl x h; omega) (hX.below hu) (Nat.le_refl _) (fun x hx => hlb.2.1 x hx) hok.lightB hok.leverB)
  have hbd := atR_bd hok.mnv hlb.2.2.2.2.2.1 hlb.2.2.2.2.2.2
  have hmb := (mom_bd hok.lightB.1 ⟨hok.leverB, hok.heightB⟩ hok.hl hlb.2.1 rfl hlb.2.2.2.1).1
  have htu := hok.turnB
  have hme := hok.merrB
  have hl1 := hok.lightB
  have hs0 := hlb.2.2.1
  have hs6 := hlb.2.2.2.1
  obtain ⟨F, hF⟩ : ∃ F, fltS light lever hs mn merr turn xs 1 = F := ⟨_, rfl⟩
  obtain ⟨G, hG⟩ : ∃ G, fltS light lever hs mn merr turn xs (-1) = G := ⟨_, rfl⟩
  have HF := Lib.hid (show F = endS (atR mn (light + isum xs)).1 (atR mn (light + isum xs)).2 turn merr (1 * momS light lever hs xs) from hF.symm)
  have HG := Lib.hid (show G = endS (atR mn (light + isum xs)).1 (atR mn (light + isum xs)).2 turn merr ((-1) * momS light lever hs xs) from hG.symm)
  rw [hF, hG]
  have HEnd := Lib.hid (fun (s : Int) (hs1 : s = 1 ∨ s = -1) (gs g1 g2 gx : Nat) (w1 : World) => afloat1_any id light lever height A n c (some ⟨bb, off, none⟩) mn.length d merr C q r terr turn least hs X pc xs s (atR mn (light + isum xs)).1 (atR mn (light + isum xs)).2 (momS light lever hs xs) gs g1 g2 gx w1 hs1)
  clear hA hB hX hld hok hlb hk hF hG
  generalize momS light lever hs xs = mo at *
  generalize atR mn (light + isum xs) = at_ at *
  generalize isum xs = sx at *
  generalize mn.length = ml at *
  obtain ⟨an, ad⟩ := at_
  dsimp only at HC hbd HF HG HEnd
  go_enter Tryz.func60, Tryz.ntmps60
  go_upto_region 1 with fail
  generalize hW : ((w.alloc (.cells (cSp id light lever height A n c (some ⟨bb, off, none⟩) ml d merr C q r terr turn least) 27)).alloc (.cells #[.slice X n pc] 32)).alloc (.cells #[.int .i64 0, .int .i64 0, .int .i64 0, .int .i64 0] 93) = W at *
  have HWs := Lib.hid (show W.heap.size = w.heap.size + 3 by rw [← hW]; simp)
  clear hW
  have HT := Lib.hid t0
  have HX := Lib.hid x0
  have HR := Lib.hid r0
  have HB := Lib.hid hb0
  clear t0 x0 r0 hb0
  refine wp_region_preC 16 [(12, 5), (13, 6), (14, 1000), (15, 1001)] (fun v => Below W.heap.size W v) (TwC W.heap.size 3 (.int .i64 an) (.int .i64 ad)) (by kernel_rfl) (by kernel_rfl) (Below.refl _ _) (fun v1 v2 h kk => h.trans (kk.mono h.size)) (fun v' hv' => TwC.init) (fun ls vs v v' _ h kk => h.below kk) ?ex
  case ex =>
  apply Exists.intro
  refine ⟨?walk, ?loud, ?last⟩
  case walk =>
    intro U hV
    obtain ⟨tl, s0, s1, s2, s3, s4, s5, s6, s7, s8, s9, s10⟩ := blk11 (HT.out.below hV)
    have y3 := (HX.out.below hV).cell 0
    simp only [List.getElem?_toArray, List.getElem?_cons_zero] at y3
    have l3 := (HX.out.below hV).lt
    have HS1 := Lib.hid (fun (u : World) (hu : Below U.heap.size U u) => HSm.out u (HB.out.trans ((hV.trans (hu.mono hV.size)).mono HB.out.size)))
    have HC1 := Lib.hid (fun (u : World) (hu : Below U.heap.size U u) => HC.out u (HB.out.trans ((hV.trans (hu.mono hV.size)).mono HB.out.size)))
    obtain ⟨xc, xf'⟩ := xcell (W := U)
    simp only [List.take_succ_cons, List.take_nil, qOf, isLoud, List.any_cons, List.any_nil, Nat.reduceBEq, Bool.or_false, Bool.or_true, Nat.reduceAdd, Bool.false_eq_true, if_true, if_false, beq_self_eq_true, Nat.zero_add]
    repeat (first | go_big_quiet_step (first | (go_at_call 20; with_reducible refine calls_ext (HS1.out _ ?_); exact Ext.below _) | (go_at_call 57; with_reducible refine calls_ext (HC1.out _ ?_); exact Ext.below _)) | quiet_step (first | (go_at_call 20; with_reducible refine calls_ext (HS1.out _ ?_); exact Ext.below _) | (go_at_call 57; with_reducible refine calls_ext (HC1.out _ ?_); exact Ext.below _)))
    exact wpQuiet_nil rfl
  case loud =>
    rintro pp hpp vs v hC2 ls hI hls hw o ho
    simp only [List.mem_cons, List.not_mem_nil, or_false] at hpp
    rcases hpp with rfl | rfl | rfl | rfl
    · simp only [List.getElem?_cons_succ, List.getElem?_cons_zero, Option.some.injEq] at ho
      subst ho
      simp [loudAt, loudUpon, go_sem, execOp]
      exact ⟨hC2.alloc hC2.size _, hI.s1 hls hC2.size⟩
    · simp only [List.getElem?_cons_succ, List.getElem?_cons_zero, Option.some.injEq] at ho
      subst ho
      simp [loudAt, loudUpon, go_sem, execOp]
      exact ⟨hC2.alloc hC2.size _, hI.s2 hls hC2.size⟩
    · have h1 := hw (12, 5) (by simp) (by kernel_rfl)
      obtain ⟨g, e1, hg, hbk⟩ := hI.p1 h1
      have hl1 : ls 14 = false := hls
      rw [hl1, cond_false] at hbk
      have b0 := hbk.cell 0
      simp only [List.getElem?_toArray, List.getElem?_cons_zero] at b0
      have bl := hbk.lt
      have f0 := hbk.frozen 0
      simp only [List.getElem?_cons_succ, List.getElem?_cons_zero, Option.some.injEq] at ho
      subst ho
      simp [loudAt, loudUpon, go_sem, execOp, putsL, Act.put, e1, f0, b0]
      exact ⟨hC2.setCell (p := ⟨g, 0, none⟩) hg _, hI.w1 h1 hls e1 hbk _⟩
    · have h1 := hw (13, 6) (by simp) (by kernel_rfl)
      obtain ⟨g, e1, hg, hbk⟩ := hI.p2 h1
      have hl1 : ls 15 = false := hls
      rw [hl1, cond_false] at hbk
      have b0 := hbk.cell 0
      simp only [List.getElem?_toArray, List.getElem?_cons_zero] at b0
      have bl := hbk.lt
      have f0 := hbk.frozen 0
      simp only [List.getElem?_cons_succ, List.getElem?_cons_zero, Option.some.injEq] at ho
      subst ho
      simp [loudAt, loudUpon, go_sem, execOp, putsL, Act.put, e1, f0, b0]
      exact ⟨hC2.setCell (p := ⟨g, 0, none⟩) hg _, hI.w2 h1 hls e1 hbk _⟩
  case last =>
  rintro ls vs V hV hI hls
  obtain ⟨g5, g6, e5, e6, h5, h6, hne, hb5, hb6⟩ := hI.done (hls (14, 1000) (by simp)) (hls (15, 1001) (by simp))
  simp only [putsL, List.foldl_cons, List.foldl_nil, List.drop_succ_cons, List.drop_nil, Act.put, e5, e6, List.setIfInBounds_toArray, List.set_cons_succ, List.set_cons_zero, List.set_nil]
  have hws := HWs.out
  have H5b := Lib.hid hb5
  have H6b := Lib.hid hb6
  have HT3 := Lib.hid (HT.out.below hV)
  have HX3 := Lib.hid (HX.out.below hV)
  have HR3 := Lib.hid (HR.out.below hV)
  have HB3 := Lib.hid (HB.out.trans (hV.mono HB.out.size))
  clear hI hls e5 e6 hV hb5 hb6 HT HX HR HB HSm HC
  generalize vs 14 = x14 at *
  generalize vs 15 = x15 at *
  clear vs ls
  have HE2 := Lib.hid (fun (s : Int) (hs1 : s = 1 ∨ s = -1) (u : World) (hu : Below V.heap.size V u) => HEnd.out s hs1 w.heap.size g5 g6 (w.heap.size + 1) u (HT3.out.below hu) (H5b.out.below hu) (H6b.out.below hu) (HX3.out.below hu) (Lib.hid fun u2 hu2 => HMo.out u2 (HB3.out.trans ((hu.trans (hu2.mono hu.size)).mono HB3.out.size))) hbd.2 hbd.1 hmb htu hme)
  have HEa := Lib.hid (HE2.out 1 (.inl rfl) V (Below.refl _ _))
  have HEb := Lib.hid (HE2.out (-1) (.inr rfl))
  rw [← HF.out] at HEa
  rw [← HG.out] at HEb
  clear HEnd HE2 HMo HF HG
  obtain ⟨f1, f2⟩ := F
  obtain ⟨a1, a2⟩ := G
  dsimp only at HEa HEb ⊢
  have HFz := Lib.hid (fun (u : World) (hu : Below V.heap.size V u) => And.intro (cells4 (HR3.out.below hu)) (frz4 (HR3.out.below hu)))
  go_wp2_with (first | (go_at_call 86; (with_reducible refine HEa.out.mono ?_); rintro e u1 ⟨rfl, hb1⟩) | (go_at_call 86; (with_reducible refine (HEb.out _ (by assumption)).mono ?_); rintro e u2 ⟨rfl, hb2⟩; obtain ⟨⟨r0, r1, r2, r3, rl⟩, ⟨z0, z1, z2, z3⟩⟩ := HFz.out _ (Below.trans hb1 (hb2.mono hb1.size))))
  have hb3 := hb1.trans (hb2.mono hb1.size)
  obtain ⟨x0, x1, x2, x3, _⟩ := cells4 (blk_set4 (HR3.out.below hb3) (.int .i64 f1) (.int .i64 f2) (.int .i64 a1) (.int .i64 a2))
  exact bodyPost_ret (v := .agg #[.int .i64 f1, .int .i64 f2, .int .i64 a1, .int .i64 a2]) (by simp [results, Tryz.results60, go_sem, x0, x1, x2, x3]) rfl ⟨rfl, below_set4 (HB3.out.trans (hb3.mono HB3.out.size)) (by omega) _ _ _ _⟩
end Go.Proofs.YtgojpgggbflgoaaGreat

namespace Go.Proofs.YtgojpgggbflgoaaGreat
open Go.RowKit

set_option maxRecDepth 100000 in
set_option maxHeartbeats 6400000 in
theorem HAfloat_any (id light lever height : Int) (A : Option Addr) (n c : Nat) (B : Option Addr) (m d : Nat) (merr : Int) (C : Option Addr) (q r : Nat) (terr turn least : Int) (hs : List Hl) (mn mt : List (Int × Int)) (X : Option Addr) (p pc : Nat) (xs : List Int) (w : World) (hA : SAt encL 4 w A n hs) (hB : CAt w B m mn) (hC : CAt w C q mt) (hn : n ≤ 9223372036854775807) (hm : m ≤ 9223372036854775807) (hq : q ≤ 9223372036854775807) (hc : n ≤ c) (hX : SAt encI 1 w X p xs) (hE : loadE (shipE id light lever height turn least hs mn merr mt terr) hs xs = 0) :
    Calls Tryz.prog 33 #[.agg (cSp id light lever height A n c B m d merr C q r terr turn least), .slice X p pc] w fun e w' => e = .returned (.tuple #[vDr (fltS light lever hs mn merr turn xs 1) (fltS light lever hs mn merr turn xs (-1)), .int .i64 0]) ∧ Below w.heap.size w w' := by
  have hSE := (loadE_zero hE).1
  have hld := (loadE_zero hE).2
  have hok := shipE_zero hSE
  have hlb := load_bd hok hld
  have hp : p = n := by have := hX.len; have := hA.len; have := hlb.1; omega
  subst hp
  have hb0 := ((Below.refl w.heap.size w).alloc (Nat.le_refl _) (.cells (cSp id light lever height A p c B m d merr C q r terr turn least) 27)).alloc (by simp) (.cells #[.int .i64 0, .int .i64 0, .int .i64 0, .int .i64 0] 93)
  have t0 := (Blk.new w 27 (cSp id light lever height A p c B m d merr C q r terr turn least)).alloc (.cells #[.int .i64 0, .int .i64 0, .int .i64 0, .int .i64 0] 93)
  have r0 := Blk.at_new (W := w.alloc (.cells (cSp id light lever height A p c B m d merr C q r terr turn least) 27)) (g := w.heap.size + 1) 93 #[.int .i64 0, .int .i64 0, .int .i64 0, .int .i64 0] (by simp)
  have hbn := below_new ((w.alloc (.cells (cSp id light lever height A p c B m d merr C q r terr turn least) 27)).alloc (.cells #[.int .i64 0, .int .i64 0, .int .i64 0, .int .i64 0] 93)) (.cells #[.slice X p pc] 32)
  have hbx := hb0.trans (hbn.mono hb0.size)
  have HLd := Lib.hid (loaded_any id light lever height A p c B m d merr C q r terr turn least hs mn mt (w.heap.size + 2) X p pc xs (((w.alloc (.cells (cSp id light lever height A p c B m d merr C q r terr turn least) 27)).alloc (.cells #[.int .i64 0, .int .i64 0, .int .i64 0, .int .i64 0] 93)).alloc (.cells #[.slice X p pc] 32)) (hA.below hbx) (hB.below hbx) (hC.below hbx) hn hm hq hc (Blk.at_new _ _ (by simp)) (hX.below hbx) hn)
  rw [hE] at HLd
  have HAf := Lib.hid (fun (u : World) (hu : Below w.heap.size w u) => hafloat_any id light lever height A p c B m d merr C q r terr turn least hs mn mt X pc xs u (hA.below hu) (hB.below hu) (hX.below hu) hok hld)
  clear hA hB hC hX hSE hld hok hlb hE
  generalize fltS light lever hs mn merr turn xs 1 = F at *
  generalize fltS light lever hs mn merr turn xs (-1) = G at *
  obtain ⟨f1, f2⟩ := F
  obtain ⟨a1, a2⟩ := G
  try dsimp only at HAf
  try dsimp only
  go_enter Tryz.func33, Tryz.ntmps33
  go_upto_region 1 with fail
  generalize hW : (w.alloc (.cells (cSp id light lever height A p c B m d merr C q r terr turn least) 27)).alloc (.cells #[.int .i64 0, .int .i64 0, .int .i64 0, .int .i64 0] 93) = W at *
  have HWs := Lib.hid (show W.heap.size = w.heap.size + 2 by rw [← hW]; simp)
  have HT := Lib.hid t0
  have HRr := Lib.hid r0
  have HB := Lib.hid hb0
  have HBn := Lib.hid hbn
  have HBx := Lib.hid hbx
  obtain ⟨tl, s0, s1, s2, s3, s4, s5, s6, s7, s8, s9, s10⟩ := blk11 t0
  clear t0 hb0 r0 hbn hbx hW
  rw [← HWs.out] at HLd
  go_upto_region 4 with (go_at_call 19; (with_reducible refine HLd.out.mono ?_); rintro e u1 ⟨rfl, hb1⟩)
  have hbu := HBn.out.trans (hb1.mono HBn.out.size)
  have HB1 := Lib.hid (HB.out.trans (hbu.mono HB.out.size))
  have HT1 := Lib.hid (HT.out.below hbu)
  have HR1 := Lib.hid (HRr.out.below hbu)
  clear hb1 hbu tl s0 s1 s2 s3 s4 s5 s6 s7 s8 s9 s10 HT HB HRr HLd HBn HBx
  obtain ⟨tl, s0, s1, s2, s3, s4, s5, s6, s7, s8, s9, s10⟩ := blk11 HT1.out
  have HC2 := Lib.hid (HAf.out u1 HB1.out)
  have HFz := Lib.hid (fun (u : World) (hu : Below u1.heap.size u1 u) => And.intro (cells4 (HR1.out.below hu)) (frz4 (HR1.out.below hu)))
  go_wp2_with (go_at_call 60; (with_reducible refine HC2.out.mono ?_); rintro e u2 ⟨rfl, hb2⟩; obtain ⟨⟨r0, r1, r2, r3, rl⟩, ⟨z0, z1, z2, z3⟩⟩ := HFz.out _ hb2)
  obtain ⟨x0, x1, x2, x3, _⟩ := cells4 (blk_set4 (HR1.out.below hb2) (.int .i64 f1) (.int .i64 f2) (.int .i64 a1) (.int .i64 a2))
  exact bodyPost_ret (v := .tuple #[.agg #[.int .i64 f1, .int .i64 f2, .int .i64 a1, .int .i64 a2], .int .i64 0]) (by simp [results, Tryz.results33, go_sem, x0, x1, x2, x3]) rfl ⟨rfl, below_set4 (HB1.out.trans (hb2.mono HB1.out.size)) (by omega) _ _ _ _⟩
end Go.Proofs.YtgojpgggbflgoaaGreat

namespace Go.Proofs.YtgojpgggbflgoaaGreat
open Go.RowKit

def cmpI (x y : Int) : Int := if x < y then -1 else if y < x then 1 else 0
set_option maxRecDepth 100000 in
set_option maxHeartbeats 6400000 in
theorem isNaN_any (x : Int) (w : World) : Calls Tryz.prog 111 #[.int .i64 x] w fun e w' => e = .returned (.bool false) ∧ w = w' := by
  have hd : (x != x) = false := by simp
  go_enter Tryz.func111, Tryz.ntmps111
  go_wp2
  exact bodyPost_ret (v := .bool false) (by simp [results, Tryz.results111, go_sem]) rfl ⟨rfl, rfl⟩
set_option maxRecDepth 100000 in
set_option maxHeartbeats 6400000 in
theorem Compare_any (x y : Int) (w : World) : Calls Tryz.prog 103 #[.int .i64 x, .int .i64 y] w fun e w' => e = .returned (.int .i64 (cmpI x y)) ∧ w = w' := by
  obtain ⟨R, hR⟩ : ∃ R, cmpI x y = R := ⟨_, rfl⟩
  have HE := Lib.hid (show R = if x < y then -1 else if y < x then 1 else 0 from hR.symm)
  rw [hR]
  clear hR
  have H1 := Lib.hid (fun u => isNaN_any x u)
  have H2 := Lib.hid (fun u => isNaN_any y u)
  go_enter Tryz.func103, Tryz.ntmps103
  by_cases h1 : x < y
  · have hE : R = -1 := by rw [HE.out, if_pos h1]
    clear HE
    subst hE
    have hd : decide (x < y) = true := decide_eq_true h1
    go_wp2_with (first | (go_at_call 111; (with_reducible refine (H1.out _).mono ?_); rintro e u1 ⟨rfl, rfl⟩) | (go_at_call 111; (with_reducible refine (H2.out _).mono ?_); rintro e u1 ⟨rfl, rfl⟩))
    exact bodyPost_ret (v := .int .i64 (-1)) (by simp [results, Tryz.results103, go_sem]) rfl ⟨rfl, rfl⟩
  · by_cases h2 : y < x
    · have hE : R = 1 := by rw [HE.out, if_neg h1, if_pos h2]
      clear HE
      subst hE
      have hd : decide (x < y) = false := decide_eq_false h1
      have hd2 : decide (y < x) = true := decide_eq_true h2
      go_wp2_with (first | (go_at_call 111; (with_reducible refine (H1.out _).mono ?_); rintro e u1 ⟨rfl, rfl⟩) | (go_at_call 111; (with_reducible refine (H2.out _).mono ?_); rintro e u1 ⟨rfl, rfl⟩))
      exact bodyPost_ret (v := .int .i64 1) (by simp [results, Tryz.results103, go_sem]) rfl ⟨rfl, rfl⟩
    · have hE : R = 0 := by rw [HE.out, if_neg h1, if_neg h2]
      clear HE
      subst hE
      have hd : decide (x < y) = false := decide_eq_false h1
      have hd2 : decide (y < x) = false := decide_eq_false h2
      go_wp2_with (first | (go_at_call 111; (with_reducible refine (H1.out _).mono ?_); rintro e u1 ⟨rfl, rfl⟩) | (go_at_call 111; (with_reducible refine (H2.out _).mono ?_); rintro e u1 ⟨rfl, rfl⟩))
      exact bodyPost_ret (v := .int .i64 0) (by simp [results, Tryz.results103, go_sem]) rfl ⟨rfl, rfl⟩
/-- A number of a form at an index. -/
def keyF (fs : List Int) (i : Int) : Int := fs.getD i.toNat 0
theorem keyF_at {fs : List Int} {i : Nat} (h : i < fs.length) : keyF fs (i : Int) = fs[i] := by
  unfold keyF
  rw [Int.toNat_natCast, List.getD_eq_getElem?_getD, List.getElem?_eq_getElem h]
  rfl
set_option maxRecDepth 100000 in
set_option maxHeartbeats 6400000 in
theorem best1_any (gf : Nat) (F : Option Addr) (nf cf : Nat) (fs : List Int) (a b : Nat) (w : World) (hg : Blk w gf 32 #[.slice F nf cf]) (hF : SAt encI 1 w F nf fs) (ha : a < nf) (hb : b < nf) (h8 : nf ≤ 100) :
    Calls Tryz.prog 102 #[.int .i64 (a : Int), .int .i64 (b : Int), .pointer (some ⟨gf, 0, none⟩)] w fun e w' => e = .returned (.int .i64 (cmpI (keyF fs b) (keyF fs a))) ∧ Below w.heap.size w w' := by
  have hfl := hF.len
  obtain ⟨bF, oF, rfl, hk⟩ := hF.at_ (by omega)
  have c1 := hk.c a _ (List.getElem?_eq_getElem (by omega)) 0 _ rfl
  have c2 := hk.c b _ (List.getElem?_eq_getElem (by omega)) 0 _ rfl
  rw [Nat.mul_one, Nat.add_zero, ← keyF_at] at c1 c2
  have cl := hk.lt
  have g0 := hg.cell 0
  simp only [List.getElem?_toArray, List.getElem?_cons_zero] at g0
  have gl := hg.lt
  clear hg hF hk hfl
  generalize keyF fs a = ka at *
  generalize keyF fs b = kb at *
  have HC := Lib.hid (fun u => Compare_any kb ka u)
  generalize cmpI kb ka = R at *
  go_enter Tryz.func102, Tryz.ntmps102
  go_upto_region 1 with fail
  obtain ⟨xc, xf'⟩ := xcell (W := w)
  refine wp_region_quiet_tail 10 (by kernel_rfl) (by kernel_rfl) ?_
  simp only [List.take_succ_cons, List.take_zero, List.drop_succ_cons, List.drop_zero]
  repeat (first | go_big_quiet_step ((go_at_call 103; with_reducible refine calls_ext_same (HC.out _))) | quiet_step ((go_at_call 103; with_reducible refine calls_ext_same (HC.out _))))
  refine wpQuiet_nil ?_
  intro w2 hb2
  go_wp2
  exact bodyPost_ret (v := .int .i64 R) (by simp [results, Tryz.results102, go_sem]) rfl ⟨rfl, hb2⟩
/-! ### rows of numbers that are written -/
structure RowI (w : World) (g n : Nat) (xs : List Int) : Prop where
  len : xs.length = n
  blk : ∃ cur, Blk w g 3 cur ∧ ∀ i (h : i < xs.length), cur[i]? = some (.int .i64 xs[i])
theorem RowI.cell {w : World} {g n : Nat} {xs : List Int} (h : RowI w g n xs) {i : Nat} (hi : i < xs.length) : w.cell? ⟨g, i, none⟩ = some (.int .i64 xs[i]) := by
  obtain ⟨cur, hb, hc⟩ := h.blk
  rw [hb.cell i]
  exact hc i hi
theorem RowI.frozen {w : World} {g n : Nat} {xs : List Int} (h : RowI w g n xs) (i : Nat) : w.frozen? ⟨g, i, none⟩ = false := by
  obtain ⟨cur, hb, hc⟩ := h.blk
  exact hb.frozen i
theorem RowI.lt {w : World} {g n : Nat} {xs : List Int} (h : RowI w g n xs) : g < w.heap.size := by
  obtain ⟨cur, hb, hc⟩ := h.blk
  exact hb.lt
theorem RowI.below {w w' : World} {g n : Nat} {xs : List Int} (h : RowI w g n xs) (hb : Below w.heap.size w w') : RowI w' g n xs := by
  obtain ⟨cur, hk, hc⟩ := h.blk
  exact ⟨h.len, cur, hk.below hb, hc⟩
theorem RowI.grown {w w' : World} {g n : Nat} {xs : List Int} {r : Option Nat} (h : RowI w g n xs) (hb : w.grownBy w' r) (hr : r ≠ some g) : RowI w' g n xs := by
  obtain ⟨cur, hk, hc⟩ := h.blk
  exact ⟨h.len, cur, hk.grown hb hr, hc⟩
theorem RowI.set {w : World} {g n : Nat} {xs : List Int} (h : RowI w g n xs) {i : Nat} (hi : i < xs.length) (u : Int) : RowI (w.setCell ⟨g, i, none⟩ (.int .i64 u)) g n (xs.set i u) := by
  obtain ⟨cur, hk, hc⟩ := h.blk
  refine ⟨by rw [List.length_set]; exact h.len, cur.setIfInBounds i (.int .i64 u), hk.set_ i _, fun j hj => ?_⟩
  rw [List.length_set] at hj
  have hcs : i < cur.size := by
    have := hc i hi
    rw [Array.getElem?_eq_some_iff] at this
    exact this.1
  by_cases e : i = j
  · subst e
    simp [hcs]
  · rw [Array.getElem?_setIfInBounds_ne e, hc j hj]
    simp [e]
theorem RowI.sat {w : World} {g n : Nat} {xs : List Int} (h : RowI w g n xs) : SAt encI 1 w (some ⟨g, 0, none⟩) n xs :=
  ⟨h.len, fun _ => ⟨g, 0, rfl, h.lt, fun j x hx p v hp => by
    obtain ⟨hj, rfl⟩ := List.getElem?_eq_some_iff.1 hx
    match p, hp with
    | 0, hp =>
      simp only [encI, List.getElem?_cons_zero, Option.some.injEq] at hp
      subst hp
      simpa using h.cell hj⟩⟩
theorem RowI.own {w : World} {B g c n : Nat} {xs : List Int} (h : w.ownsRow B 3 1 (.slice (some ⟨g, 0, none⟩) n c) n (xs.flatMap encI)) (hl : xs.length = n) : RowI w g n xs ∧ B ≤ g := by
  rcases h.2 with ⟨e, _⟩ | ⟨g', cap, cur, e, hb, hg, h1, h2, h3, h4⟩
  · cases e
  · cases e
    refine ⟨⟨hl, cur, hg, fun i hi => ?_⟩, hb⟩
    have hx : (xs.flatMap encI)[i]? = some (.int .i64 xs[i]) := by
      have : xs.flatMap encI = xs.map (Value.int .i64) := by
        clear h4 hi hl h
        induction xs with
        | nil => rfl
        | cons x t ih => simp [List.flatMap_cons, encI, ih]
      rw [this, List.getElem?_map, List.getElem?_eq_getElem hi]
      rfl
    rw [← h4, List.getElem?_take] at hx
    split at hx
    · simpa using hx
    · cases hx
end Go.Proofs.YtgojpgggbflgoaaGreat

namespace Go.Proofs.YtgojpgggbflgoaaGreat
open Go.RowKit

def kAt (fs os : List Int) (p : Nat) : Int := keyF fs (os.getD p 0)
def swp (os : List Int) (j : Nat) : List Int := (os.set j (os.getD (j - 1) 0)).set (j - 1) (os.getD j 0)
theorem swp_len (os : List Int) (j : Nat) : (swp os j).length = os.length := by simp [swp]
theorem getD_at {os : List Int} {p : Nat} (h : p < os.length) : os.getD p 0 = os[p] := by
  rw [List.getD_eq_getElem?_getD, List.getElem?_eq_getElem h]; rfl
theorem swp_perm {os : List Int} {j : Nat} (h0 : 0 < j) (h : j < os.length) : (swp os j).Perm os := by
  unfold swp
  rw [getD_at (show j - 1 < os.length by omega), getD_at h]
  exact List.set_set_perm h (by omega)
theorem kAt_swp {fs os : List Int} {j : Nat} (h0 : 0 < j) (h : j < os.length) (p : Nat) : kAt fs (swp os j) p = if p = j - 1 then kAt fs os j else if p = j then kAt fs os (j - 1) else kAt fs os p := by
  unfold kAt
  have e : (swp os j).getD p 0 = if p = j - 1 then os.getD j 0 else if p = j then os.getD (j - 1) 0 else os.getD p 0 := by
    unfold swp
    simp only [List.getD_eq_getElem?_getD]
    by_cases e1 : p = j - 1
    · rw [if_pos e1, e1, List.getElem?_set_self (by rw [List.length_set]; omega)]
      rfl
    · rw [if_neg e1, List.getElem?_set_ne (fun q => e1 q.symm)]
      by_cases e2 : p = j
      · rw [if_pos e2, e2, List.getElem?_set_self h]
        rfl
      · rw [if_neg e2, List.getElem?_set_ne (fun q => e2 q.symm)]
  rw [e]
  split
  · rfl
  · split <;> rfl
structure OutS (fs os0 os : List Int) (i : Nat) : Prop where
  perm : os.Perm os0
  srt : ∀ p q, p < q → q < i → kAt fs os q ≤ kAt fs os p
structure InS (fs os0 os : List Int) (i j : Nat) : Prop where
  perm : os.Perm os0
  srt : ∀ p q, p < q → q ≤ i → p ≠ j → q ≠ j → kAt fs os q ≤ kAt fs os p
  aft : ∀ q, j < q → q ≤ i → kAt fs os q ≤ kAt fs os j
theorem OutS.begin {fs os0 os : List Int} {i : Nat} (h : OutS fs os0 os i) : InS fs os0 os i i :=
  ⟨h.perm, fun p q h1 h2 _ h4 => h.srt p q h1 (by omega), fun q h1 h2 => absurd h1 (by omega)⟩
theorem InS.stop {fs os0 os : List Int} {i j : Nat} (h : InS fs os0 os i j) (hs : j = 0 ∨ kAt fs os j ≤ kAt fs os (j - 1)) : OutS fs os0 os (i + 1) := by
  refine ⟨h.perm, fun p q h1 h2 => ?_⟩
  by_cases e1 : p = j
  · subst e1; exact h.aft q h1 (by omega)
  · by_cases e2 : q = j
    · subst e2
      have k := hs.resolve_left (by omega)
      by_cases e3 : p = q - 1
      · subst e3; exact k
      · exact Int.le_trans k (h.srt p (q - 1) (by omega) (by omega) e1 (by omega))
    · exact h.srt p q h1 (by omega) e1 e2
theorem InS.swap {fs os0 os : List Int} {i j : Nat} (h : InS fs os0 os i j) (h0 : 0 < j) (hj : j < os.length) (hji : j ≤ i) (hk : kAt fs os (j - 1) ≤ kAt fs os j) : InS fs os0 (swp os j) i (j - 1) := by
  refine ⟨(swp_perm h0 hj).trans h.perm, fun p q h1 h2 h3 h4 => ?_, fun q h1 h2 => ?_⟩
  · rw [kAt_swp h0 hj, kAt_swp h0 hj, if_neg h4, if_neg h3]
    by_cases e1 : p = j
    · rw [if_pos e1, if_neg (by omega)]
      exact h.srt (j - 1) q (by omega) h2 (by omega) (by omega)
    · rw [if_neg e1]
      by_cases e2 : q = j
      · rw [if_pos e2]
        exact h.srt p (j - 1) (by omega) (by omega) e1 (by omega)
      · rw [if_neg e2]
        exact h.srt p q h1 h2 e1 e2
  · rw [kAt_swp h0 hj, kAt_swp h0 hj, if_neg (by omega), if_pos rfl]
    by_cases e2 : q = j
    · rw [if_pos e2]; exact hk
    · rw [if_neg e2]; exact h.aft q (by omega) h2
theorem grownBy_of_below_of {w w' : World} (h : Below w.heap.size w w') (r : Option Nat) : w.grownBy w' r := ⟨h.os, h.tape, h.output, h.size, fun i hi _ => h.block i hi⟩
set_option maxRecDepth 100000 in
set_option maxHeartbeats 6400000 in
theorem isort_any (g gf : Nat) (c n : Nat) (F : Option Addr) (cf : Nat) (fs os : List Int) (w : World) (hr : RowI w g n os) (hg : Blk w gf 32 #[.slice F n cf]) (hF : SAt encI 1 w F n fs) (h1 : gf ≠ g) (h2 : ∀ a, F = some a → a.block ≠ g) (hb : ∀ o ∈ os, 0 ≤ o ∧ o < n) (h8 : n ≤ 8) :
    Calls Tryz.prog 115 #[.slice (some ⟨g, 0, none⟩) n c, .int .i64 0, .int .i64 (n : Int), .func (.func 102) #[] #[.pointer (some ⟨gf, 0, none⟩)]] w fun e w' => e = .returned (.tuple #[]) ∧ ∃ os', OutS fs os os' n ∧ RowI w' g n os' ∧ w.grownBy w' (some g) := by
  have HG := Lib.hid hg
  have HF := Lib.hid hF
  have HB := Lib.hid hb
  have H1 := Lib.hid h1
  have H2 := Lib.hid h2
  have hgl := hr.lt
  have HR := Lib.hid hr
  clear hg hF hb h1 h2 hr
  go_enter Tryz.func115, Tryz.ntmps115
  go_upto_region 1 with fail
  go_loopw [8, 9] (fun a _ wx => ∃ i : Nat, 1 ≤ i ∧ (i ≤ n ∨ i = 1) ∧ a = .int .i64 (i : Int) ∧ ∃ os', OutS fs os os' i ∧ RowI wx g n os' ∧ w.grownBy wx (some g)) (fun a _ _ => n + 1 - (intOf a).toNat)
  case atStart => exact ⟨1, Nat.le_refl _, .inr rfl, rfl, os, ⟨List.Perm.refl _, fun p q a b => absurd a (by omega)⟩, HR.out, grown_refl _ _⟩
  case round =>
    obtain ⟨i, hi1, hi2, rfl, os', hO, hR, hgr⟩ := hrel
    have HO := Lib.hid hO
    have HR1 := Lib.hid hR
    have HGr := Lib.hid hgr
    clear hO hR hgr HR
    by_cases hin : i < n
    case neg =>
      have hd : decide ((i : Int) < (n : Int)) = false := decide_eq_false (by omega)
      go_wp2
      exact bodyPost_end (v := .tuple #[]) (by simp [results, Tryz.results115, go_sem]) rfl ⟨rfl, os', ⟨HO.out.perm, fun p q a b => HO.out.srt p q a (by omega)⟩, HR1.out, HGr.out⟩
    case pos =>
      have hd : decide ((i : Int) < (n : Int)) = true := decide_eq_true (by omega)
      go_upto_region 4 with fail
      go_loopw [9] (fun b wx => ∃ j : Nat, j ≤ i ∧ b = .int .i64 (j : Int) ∧ ∃ os'', InS fs os os'' i j ∧ RowI wx g n os'' ∧ w.grownBy wx (some g)) (fun b _ => (intOf b).toNat)
      case atStart => exact ⟨i, Nat.le_refl _, rfl, os', HO.out.begin, HR1.out, HGr.out⟩
      case round =>
        clear HO HR1 HGr hd
        obtain ⟨j, hji, rfl, os'', hI, hR, hgr⟩ := hrel
        have HI := Lib.hid hI
        have HR1 := Lib.hid hR
        have HGr := Lib.hid hgr
        have hol : os''.length = n := hR.len
        clear hI hR hgr
        have hmem : ∀ p (hp : p < os''.length), ∃ x : Nat, os''[p] = (x : Int) ∧ x < n := fun p hp => by
          have := HB.out _ (HI.out.perm.mem_iff.1 (List.getElem_mem hp))
          exact ⟨(os''[p]).toNat, by omega, by omega⟩
        by_cases hj0 : j = 0
        case pos =>
          subst hj0
          go_upto_region 4 with fail
          obtain ⟨xc, xf'⟩ := xcell (W := wr)
          refine wp_region_quiet_tail 17 (by kernel_rfl) (by kernel_rfl) ?_
          simp only [List.take_succ_cons, List.take_zero, List.drop_succ_cons, List.drop_zero]
          repeat (first | go_big_quiet_step (fail) | quiet_step (fail))
          refine wpQuiet_nil ?_
          intro w2 hb2
          have HR2 := Lib.hid (HR1.out.below hb2)
          have HG2 := Lib.hid (grown_trans HGr.out (grownBy_of_below_of hb2 (some g)))
          go_wp2
          go_roundw
          case rel => exact ⟨i + 1, by omega, .inl (by omega), by go_num, os'', HI.out.stop (.inl rfl), HR2.out, HG2.out⟩
          case measure => simp [intOf]; omega
        case neg =>
          obtain ⟨k, rfl⟩ : ∃ k, j = k + 1 := ⟨j - 1, by omega⟩
          obtain ⟨x, hx, hxn⟩ := hmem (k + 1) (by omega)
          obtain ⟨y, hy, hyn⟩ := hmem k (by omega)
          have c1 := HR1.out.cell (i := k + 1) (by omega)
          have c0 := HR1.out.cell (i := k) (by omega)
          rw [hx] at c1
          rw [hy] at c0
          have cl := HR1.out.lt
          have hkx : kAt fs os'' (k + 1) = keyF fs x := by unfold kAt; rw [getD_at (show k + 1 < os''.length by omega), hx]
          have hky : kAt fs os'' k = keyF fs y := by unfold kAt; rw [getD_at (show k < os''.length by omega), hy]
          have hg2 := HGr.out
          have HBs := Lib.hid (fun (u : World) (hu : Below wr.heap.size wr u) => best1_any gf F n cf fs x y u ((HG.out.grown hg2 (by intro e; exact H1.out (Option.some.inj e).symm)).below hu) ((HF.out.grown hg2 (fun a ha e => H2.out a ha (Option.some.inj e).symm)).below hu) hxn hyn (by omega))
          have hk1 : ((k + 1 : Nat) : Int) - 1 = (k : Int) := by omega
          clear hg2 hmem
          by_cases hc : keyF fs y < keyF fs x
          case neg =>
            have HSt := Lib.hid (HI.out.stop (.inr (by rw [hkx, Nat.add_sub_cancel, hky]; omega)))
            have hcm : ¬ (cmpI (keyF fs y) (keyF fs x) < 0) := by unfold cmpI; rw [if_neg hc]; split <;> decide
            generalize cmpI (keyF fs y) (keyF fs x) = R at *
            have hd1 : decide ((0 : Int) < ((k + 1 : Nat) : Int)) = true := decide_eq_true (by omega)
            have hd2 : decide (R < 0) = false := decide_eq_false hcm
            clear hkx hky hc hcm
            go_upto_region 4 with fail
            obtain ⟨xc, xf'⟩ := xcell (W := wr)
            refine wp_region_quiet_tail 17 (by kernel_rfl) (by kernel_rfl) ?_
            simp only [List.take_succ_cons, List.take_zero, List.drop_succ_cons, List.drop_zero]
            repeat (first | go_big_quiet_step ((go_at_call 102; with_reducible refine calls_ext (HBs.out _ ?_); exact Ext.below _)) | quiet_step ((go_at_call 102; with_reducible refine calls_ext (HBs.out _ ?_); exact Ext.below _)))
            refine wpQuiet_nil ?_
            intro w2 hb2
            have HR2 := Lib.hid (HR1.out.below hb2)
            have HG2 := Lib.hid (grown_trans HGr.out (grownBy_of_below_of hb2 (some g)))
            go_wp2
            go_roundw
            case rel => exact ⟨i + 1, by omega, .inl (by omega), by go_num, os'', HSt.out, HR2.out, HG2.out⟩
            case measure => simp [intOf]; omega
          case pos =>
            have HSw := Lib.hid (HI.out.swap (by omega) (by omega) hji (by rw [hkx, Nat.add_sub_cancel, hky]; omega))
            have hcm : cmpI (keyF fs y) (keyF fs x) < 0 := by unfold cmpI; rw [if_pos hc]; decide
            generalize cmpI (keyF fs y) (keyF fs x) = R at *
            have hd1 : decide ((0 : Int) < ((k + 1 : Nat) : Int)) = true := decide_eq_true (by omega)
            have hd2 : decide (R < 0) = true := decide_eq_true hcm
            clear hkx hky hc hcm
            go_upto_region 4 with fail
            obtain ⟨xc, xf'⟩ := xcell (W := wr)
            refine wp_region_quiet_tail 17 (by kernel_rfl) (by kernel_rfl) ?_
            simp only [List.take_succ_cons, List.take_zero, List.drop_succ_cons, List.drop_zero]
            repeat (first | go_big_quiet_step ((go_at_call 102; with_reducible refine calls_ext (HBs.out _ ?_); exact Ext.below _)) | quiet_step ((go_at_call 102; with_reducible refine calls_ext (HBs.out _ ?_); exact Ext.below _)))
            refine wpQuiet_nil ?_
            intro w2 hb2
            have HR2 := Lib.hid (HR1.out.below hb2)
            have HG2 := Lib.hid (grown_trans HGr.out (grownBy_of_below_of hb2 (some g)))
            have c1 := HR2.out.cell (i := k + 1) (by omega)
            have c0 := HR2.out.cell (i := k) (by omega)
            rw [hx] at c1
            rw [hy] at c0
            have cl := HR2.out.lt
            have f0 := HR2.out.frozen k
            have f1 := HR2.out.frozen (k + 1)
            go_upto_region 6 with fail
            go_region
            have hsw : swp os'' (k + 1) = (os''.set (k + 1) (y : Int)).set k (x : Int) := by
              unfold swp
              rw [Nat.add_sub_cancel, getD_at (show k < os''.length by omega), getD_at (show k + 1 < os''.length by omega), hx, hy]
            have HR3 := Lib.hid (((HR2.out.set (i := k + 1) (by omega) (y : Int)).set (i := k) (by rw [List.length_set]; omega) (x : Int)).below (Below.refl _ _).drew)
            rw [← hsw] at HR3
            have HG3 := Lib.hid (grown_trans HG2.out (grown_trans (grown_trans (grownBy_set w2 g (k + 1) (.int .i64 (y : Int))) (grownBy_set _ g k (.int .i64 (x : Int)))) (grownBy_of_below_of (Below.refl _ _).drew (some g))))
            clear hsw c1 c0 cl f0 f1 hx hy
            go_wp2
            go_roundw
            case rel => exact ⟨k, by omega, by go_num, swp os'' (k + 1), HSw.out, HR3.out, HG3.out⟩
            case measure => simp [intOf]
end Go.Proofs.YtgojpgggbflgoaaGreat

namespace Go.Proofs.YtgojpgggbflgoaaGreat
open Go.RowKit

set_option maxRecDepth 100000 in
set_option maxHeartbeats 6400000 in
theorem stable_any (g gf : Nat) (c n : Nat) (F : Option Addr) (cf : Nat) (fs os : List Int) (w : World) (hr : RowI w g n os) (hg : Blk w gf 32 #[.slice F n cf]) (hF : SAt encI 1 w F n fs) (h1 : gf ≠ g) (h2 : ∀ a, F = some a → a.block ≠ g) (hb : ∀ o ∈ os, 0 ≤ o ∧ o < n) (h8 : n ≤ 8) :
    Calls Tryz.prog 110 #[.slice (some ⟨g, 0, none⟩) n c, .int .i64 (n : Int), .func (.func 102) #[] #[.pointer (some ⟨gf, 0, none⟩)]] w fun e w' => e = .returned (.tuple #[]) ∧ ∃ os', OutS fs os os' n ∧ RowI w' g n os' ∧ w.grownBy w' (some g) := by
  have HI := Lib.hid (isort_any g gf c n F cf fs os w hr hg hF h1 h2 hb h8)
  clear hr hg hF hb
  go_enter Tryz.func110, Tryz.ntmps110
  go_upto_region 2 with fail
  go_loopw [7, 8] (fun a b wx => a = .int .i64 0 ∧ b = .int .i64 20 ∧ wx = w) (fun _ _ _ => 0)
  case atStart => exact ⟨rfl, rfl, rfl⟩
  case round =>
    obtain ⟨rfl, rfl, rfl⟩ := hrel
    have hd1 : decide ((20 : Int) ≤ (n : Int)) = false := decide_eq_false (by omega)
    have hd2 : decide ((20 : Int) < (n : Int)) = false := decide_eq_false (by omega)
    go_upto_region 7 with (go_at_call 115; (with_reducible refine HI.out.mono ?_); rintro e u1 ⟨rfl, hq⟩)
    go_loopw [6, 7, 8, 9] (fun z _ _ _ wx => z = .int .i64 20 ∧ wx = u1) (fun _ _ _ _ _ => 0)
    case atStart => exact ⟨rfl, rfl⟩
    case round =>
      obtain ⟨rfl, rfl⟩ := hrel
      go_wp2
      exact bodyPost_end (v := .tuple #[]) (by simp [results, Tryz.results110, go_sem]) rfl ⟨rfl, hq⟩
set_option maxRecDepth 100000 in
set_option maxHeartbeats 6400000 in
theorem sortst_any (g gf : Nat) (c n : Nat) (F : Option Addr) (cf : Nat) (fs os : List Int) (w : World) (hr : RowI w g n os) (hg : Blk w gf 32 #[.slice F n cf]) (hF : SAt encI 1 w F n fs) (h1 : gf ≠ g) (h2 : ∀ a, F = some a → a.block ≠ g) (hb : ∀ o ∈ os, 0 ≤ o ∧ o < n) (h8 : n ≤ 8) :
    Calls Tryz.prog 101 #[.slice (some ⟨g, 0, none⟩) n c, .func (.func 102) #[] #[.pointer (some ⟨gf, 0, none⟩)]] w fun e w' => e = .returned (.tuple #[]) ∧ ∃ os', OutS fs os os' n ∧ RowI w' g n os' ∧ w.grownBy w' (some g) := by
  have HI := Lib.hid (stable_any g gf c n F cf fs os w hr hg hF h1 h2 hb h8)
  clear hr hg hF hb
  go_enter Tryz.func101, Tryz.ntmps101
  go_wp2_with (go_at_call 110; (with_reducible refine HI.out.mono ?_); rintro e u1 ⟨rfl, hq⟩)
  exact bodyPost_end (v := .tuple #[]) (by simp [results, Tryz.results101, go_sem]) rfl ⟨rfl, hq⟩
set_option maxRecDepth 100000 in
set_option maxHeartbeats 6400000 in
theorem isort_nil (gf : Nat) (w : World) :
    Calls Tryz.prog 115 #[.slice none 0 0, .int .i64 0, .int .i64 0, .func (.func 102) #[] #[.pointer (some ⟨gf, 0, none⟩)]] w fun e w' => e = .returned (.tuple #[]) ∧ w = w' := by
  go_enter Tryz.func115, Tryz.ntmps115
  go_upto_region 1 with fail
  go_loopw [8, 9] (fun a _ wx => a = .int .i64 1 ∧ wx = w) (fun _ _ _ => 0)
  case atStart => exact ⟨rfl, rfl⟩
  case round =>
    obtain ⟨rfl, rfl⟩ := hrel
    go_wp2
    exact bodyPost_end (v := .tuple #[]) (by simp [results, Tryz.results115, go_sem]) rfl ⟨rfl, rfl⟩
set_option maxRecDepth 100000 in
set_option maxHeartbeats 6400000 in
theorem stable_nil (gf : Nat) (w : World) :
    Calls Tryz.prog 110 #[.slice none 0 0, .int .i64 0, .func (.func 102) #[] #[.pointer (some ⟨gf, 0, none⟩)]] w fun e w' => e = .returned (.tuple #[]) ∧ w = w' := by
  have HI := Lib.hid (isort_nil gf w)
  go_enter Tryz.func110, Tryz.ntmps110
  go_upto_region 2 with fail
  go_loopw [7, 8] (fun a b wx => a = .int .i64 0 ∧ b = .int .i64 20 ∧ wx = w) (fun _ _ _ => 0)
  case atStart => exact ⟨rfl, rfl, rfl⟩
  case round =>
    obtain ⟨rfl, rfl, rfl⟩ := hrel
    go_upto_region 7 with (go_at_call 115; (with_reducible refine HI.out.mono ?_); rintro e u1 ⟨rfl, hq⟩)
    go_loopw [6, 7, 8, 9] (fun z _ _ _ wx => z = .int .i64 20 ∧ wx = u1) (fun _ _ _ _ _ => 0)
    case atStart => exact ⟨rfl, rfl⟩
    case round =>
      obtain ⟨rfl, rfl⟩ := hrel
      go_wp2
      exact bodyPost_end (v := .tuple #[]) (by simp [results, Tryz.results110, go_sem]) rfl ⟨rfl, hq⟩
set_option maxRecDepth 100000 in
set_option maxHeartbeats 6400000 in
theorem sortst_nil (gf : Nat) (w : World) :
    Calls Tryz.prog 101 #[.slice none 0 0, .func (.func 102) #[] #[.pointer (some ⟨gf, 0, none⟩)]] w fun e w' => e = .returned (.tuple #[]) ∧ w = w' := by
  have HI := Lib.hid (stable_nil gf w)
  go_enter Tryz.func101, Tryz.ntmps101
  go_wp2_with (go_at_call 110; (with_reducible refine HI.out.mono ?_); rintro e u1 ⟨rfl, hq⟩)
  exact bodyPost_end (v := .tuple #[]) (by simp [results, Tryz.results101, go_sem]) rfl ⟨rfl, hq⟩
end Go.Proofs.YtgojpgggbflgoaaGreat

namespace Go.Proofs.YtgojpgggbflgoaaGreat

/-- One hold is filled. -/
def fillN (rs : List Int) (s : Int × List Int) (i : Nat) : Int × List Int := (s.1 - min s.1 (rs.getD i 0), s.2.set i (s.2.getD i 0 + min s.1 (rs.getD i 0)))
theorem getD_set {l : List Int} {i j : Nat} {v : Int} (h : i < l.length) : (l.set i v).getD j 0 = if j = i then v else l.getD j 0 := by
  simp only [List.getD_eq_getElem?_getD]
  by_cases e : j = i
  · rw [if_pos e, e, List.getElem?_set_self h]; rfl
  · rw [if_neg e, List.getElem?_set_ne (fun q => e q.symm)]
theorem isum_set : ∀ {l : List Int} {i : Nat} (v : Int) (_ : i < l.length), isum (l.set i v) = isum l - l.getD i 0 + v
  | x :: t, 0, v, _ => by simp only [List.set_cons_zero, isum, List.getD_cons_zero]; omega
  | x :: t, i + 1, v, h => by
    have := isum_set (l := t) (i := i) v (by simpa using h)
    simp only [List.set_cons_succ, isum, List.getD_cons_succ]
    omega
/-- What stays while holds are filled. -/
structure FilI (n : Nat) (total : Int) (s : Int × List Int) : Prop where
  len : s.2.length = n
  left : 0 ≤ s.1
  pos : ∀ i, 0 ≤ s.2.getD i 0
  sum : isum s.2 + s.1 = total
theorem isum_nn : ∀ {l : List Int} (_ : ∀ i, 0 ≤ l.getD i 0), 0 ≤ isum l
  | [], _ => Int.le_refl _
  | x :: t, h => by
    have a := h 0
    have b := isum_nn (l := t) (fun i => by have := h (i + 1); simpa using this)
    simp only [List.getD_cons_zero] at a
    simp only [isum]
    omega
theorem getD_isum : ∀ {l : List Int} (_ : ∀ i, 0 ≤ l.getD i 0) (i : Nat), l.getD i 0 ≤ isum l
  | [], _, i => by simp [isum]
  | x :: t, h, i => by
    have a := h 0
    have k : ∀ i, 0 ≤ t.getD i 0 := fun i => by have := h (i + 1); simpa using this
    have b := isum_nn k
    simp only [List.getD_cons_zero] at a
    match i with
    | 0 => simp only [List.getD_cons_zero, isum]; omega
    | i + 1 => have := getD_isum k i; simp only [List.getD_cons_succ, isum]; omega
theorem FilI.bd {n : Nat} {total : Int} {s : Int × List Int} (h : FilI n total s) : s.1 ≤ total ∧ ∀ i, s.2.getD i 0 ≤ total := by
  have a := isum_nn h.pos
  have b := h.sum
  have c := h.left
  exact ⟨by omega, fun i => by have := getD_isum h.pos i; omega⟩
theorem FilI.step {n : Nat} {total : Int} {rs : List Int} {s : Int × List Int} {i : Nat} (h : FilI n total s) (hi : i < n) (hr : 0 ≤ rs.getD i 0) : FilI n total (fillN rs s i) := by
  have hl : i < s.2.length := by rw [h.len]; exact hi
  have a := h.left
  have b := h.sum
  refine ⟨by simp [fillN, h.len], by simp only [fillN]; omega, fun j => ?_, ?_⟩
  · simp only [fillN]
    rw [getD_set hl]
    have := h.pos i
    have := h.pos j
    split <;> omega
  · simp only [fillN]
    rw [isum_set _ hl]
    omega
theorem FilI.zero {n : Nat} {total : Int} (h : 0 ≤ total) : FilI n total (total, List.replicate n 0) := by
  have e : ∀ n, isum (List.replicate n 0) = 0 := fun n => by
    induction n with
    | zero => rfl
    | succ n ih => simp only [List.replicate_succ, isum, ih]; rfl
  refine ⟨by simp, h, fun i => ?_, by rw [e]; omega⟩
  simp only [List.getD_eq_getElem?_getD, List.getElem?_replicate]
  split <;> exact Int.le_refl _
theorem fold_I {n : Nat} {total : Int} {rs : List Int} (hr : ∀ i, 0 ≤ rs.getD i 0) : ∀ (S : List Nat) {s : Int × List Int} (_ : FilI n total s) (_ : ∀ i ∈ S, i < n), FilI n total (S.foldl (fillN rs) s)
  | [], _, h, _ => h
  | i :: t, _, h, hs => fold_I hr t (h.step (hs i List.mem_cons_self) (hr i)) (fun j hj => hs j (List.mem_cons_of_mem _ hj))
theorem fold_off {rs : List Int} : ∀ (S : List Nat) {s : Int × List Int} (j : Nat) (_ : j ∉ S), (S.foldl (fillN rs) s).2.getD j 0 = s.2.getD j 0
  | [], _, _, _ => rfl
  | i :: t, s, j, hj => by
    have h1 : j ≠ i := fun e => hj (e ▸ List.mem_cons_self)
    have h2 : j ∉ t := fun e => hj (List.mem_cons_of_mem _ e)
    rw [List.foldl_cons, fold_off t j h2]
    simp only [fillN, List.getD_eq_getElem?_getD, List.getElem?_set_ne (fun q => h1 q.symm)]
theorem fold_none {rs : List Int} (hr : ∀ i, 0 ≤ rs.getD i 0) : ∀ (S : List Nat) {s : Int × List Int} (_ : s.1 = 0) (_ : ∀ i ∈ S, i < s.2.length) (j : Nat), (S.foldl (fillN rs) s).2.getD j 0 = s.2.getD j 0 ∧ (S.foldl (fillN rs) s).1 = 0
  | [], _, h, _, _ => ⟨rfl, h⟩
  | i :: t, s, h, hs, j => by
    have hm : min s.1 (rs.getD i 0) = 0 := by have := hr i; omega
    have := fold_none hr t (s := fillN rs s i) (by simp only [fillN]; omega) (fun k hk => by simpa [fillN] using hs k (List.mem_cons_of_mem _ hk)) j
    rw [List.foldl_cons]
    refine ⟨this.1.trans ?_, this.2⟩
    simp only [fillN]
    rw [getD_set (hs i List.mem_cons_self), hm]
    split
    · rename_i e; rw [e]; omega
    · rfl
/-- Filled holds, one behind the other: each is within its room; there is a price. -/
theorem fold_ok {rs : List Int} (hr : ∀ i, 0 ≤ rs.getD i 0) (key : Nat → Int) : ∀ (S : List Nat) {s : Int × List Int} (_ : 0 ≤ s.1) (_ : ∀ i ∈ S, i < s.2.length) (_ : S.Nodup) (_ : S.Pairwise fun a b => key b ≤ key a) (_ : ∀ i ∈ S, s.2.getD i 0 = 0),
    (∀ i ∈ S, 0 ≤ (S.foldl (fillN rs) s).2.getD i 0 ∧ (S.foldl (fillN rs) s).2.getD i 0 ≤ rs.getD i 0) ∧ ((S.foldl (fillN rs) s).1 = 0 ∨ ∀ i ∈ S, (S.foldl (fillN rs) s).2.getD i 0 = rs.getD i 0) ∧
    ∃ p, ∀ i ∈ S, (p < key i → (S.foldl (fillN rs) s).2.getD i 0 = rs.getD i 0) ∧ (key i < p → (S.foldl (fillN rs) s).2.getD i 0 = 0)
  | [], _, _, _, _, _, _ => ⟨fun i h => (by cases h), .inr fun i h => (by cases h), 0, fun i h => (by cases h)⟩
  | o :: t, s, hl, hs, hn, hp, hz => by
    have hol := hs o List.mem_cons_self
    have hno : o ∉ t := (List.nodup_cons.1 hn).1
    have hko := (List.pairwise_cons.1 hp).1
    have hro := hr o
    have hzo := hz o List.mem_cons_self
    obtain ⟨i1, i2, p, i3⟩ := fold_ok hr key t (s := fillN rs s o) (by simp only [fillN]; omega) (fun k hk => by simpa [fillN] using hs k (List.mem_cons_of_mem _ hk)) (List.nodup_cons.1 hn).2 (List.pairwise_cons.1 hp).2 (fun i hi => by
      simp only [fillN]
      rw [getD_set hol, if_neg (show ¬ i = o from fun e => hno (e ▸ hi))]
      exact hz i (List.mem_cons_of_mem _ hi))
    have ho : (t.foldl (fillN rs) (fillN rs s o)).2.getD o 0 = min s.1 (rs.getD o 0) := by
      rw [fold_off t o hno]
      simp only [fillN]
      rw [getD_set hol, if_pos rfl, hzo, Int.zero_add]
    rw [List.foldl_cons]
    refine ⟨fun i hi => ?_, ?_, ?_⟩
    · rcases List.mem_cons.1 hi with rfl | hi
      · rw [ho]; omega
      · exact i1 i hi
    · rcases i2 with e | e
      · exact .inl e
      · by_cases c : s.1 ≤ rs.getD o 0
        · refine .inl (fold_none hr t (by simp only [fillN]; omega) (fun k hk => by simpa [fillN] using hs k (List.mem_cons_of_mem _ hk)) 0).2
        · refine .inr fun i hi => ?_
          rcases List.mem_cons.1 hi with rfl | hi
          · rw [ho]; omega
          · exact e i hi
    · by_cases c : s.1 ≤ rs.getD o 0
      · refine ⟨key o, fun i hi => ?_⟩
        rcases List.mem_cons.1 hi with rfl | hi
        · exact ⟨fun h => absurd h (Int.lt_irrefl _), fun h => absurd h (Int.lt_irrefl _)⟩
        · refine ⟨fun h => absurd h (by have := hko i hi; omega), fun _ => ?_⟩
          rw [(fold_none hr t (by simp only [fillN]; omega) (fun k hk => by simpa [fillN] using hs k (List.mem_cons_of_mem _ hk)) i).1]
          simp only [fillN]
          rw [getD_set hol, if_neg (show ¬ i = o from fun e => hno (e ▸ hi))]
          exact hz i (List.mem_cons_of_mem _ hi)
      · by_cases c2 : p ≤ key o
        · refine ⟨p, fun i hi => ?_⟩
          rcases List.mem_cons.1 hi with rfl | hi
          · exact ⟨fun _ => by rw [ho]; omega, fun h => absurd h (by omega)⟩
          · exact i3 i hi
        · refine ⟨key o, fun i hi => ?_⟩
          rcases List.mem_cons.1 hi with rfl | hi
          · exact ⟨fun h => absurd h (Int.lt_irrefl _), fun h => absurd h (Int.lt_irrefl _)⟩
          · exact ⟨fun h => absurd h (by have := hko i hi; omega), fun h => (i3 i hi).2 (by omega)⟩
/-- A loading with a total, and a price for a form. -/
structure BestOk (rs fs : List Int) (total : Int) (xs : List Int) : Prop where
  len : xs.length = rs.length
  rng : ∀ i, i < rs.length → 0 ≤ xs.getD i 0 ∧ xs.getD i 0 ≤ rs.getD i 0
  sum : isum xs = total
  prc : ∃ p, ∀ i, i < rs.length → (p < fs.getD i 0 → xs.getD i 0 = rs.getD i 0) ∧ (fs.getD i 0 < p → xs.getD i 0 = 0)
/-- With the same total no loading has a greater value. -/
theorem best_most : ∀ {rs fs xs ys : List Int} {p : Int} (_ : xs.length = fs.length) (_ : ys.length = fs.length) (_ : ∀ i, i < fs.length → 0 ≤ ys.getD i 0 ∧ ys.getD i 0 ≤ rs.getD i 0) (_ : ∀ i, i < fs.length → (p < fs.getD i 0 → xs.getD i 0 = rs.getD i 0) ∧ (fs.getD i 0 < p → xs.getD i 0 = 0)),
    p * (isum xs - isum ys) ≤ valF fs xs - valF fs ys
  | rs, [], xs, ys, p, hx, hy, _, _ => by
    have e1 : xs = [] := List.length_eq_zero_iff.1 hx
    have e2 : ys = [] := List.length_eq_zero_iff.1 hy
    subst e1 e2
    simp [valF, isum]
  | rs, f :: fs, x :: xs, y :: ys, p, hx, hy, hr, hp => by
    have ih := best_most (rs := rs.drop 1) (fs := fs) (xs := xs) (ys := ys) (p := p) (by simpa using hx) (by simpa using hy)
      (fun i hi => by have := hr (i + 1) (by simpa using hi); simp only [List.getD_eq_getElem?_getD, List.getElem?_drop] at this ⊢; rw [Nat.add_comm 1 i]; exact this)
      (fun i hi => by have := hp (i + 1) (by simpa using hi); simp only [List.getD_eq_getElem?_getD, List.getElem?_drop] at this ⊢; rw [Nat.add_comm 1 i]; exact this)
    have h0 := hr 0 (by simp)
    have p0 := hp 0 (by simp)
    simp only [List.getD_cons_zero] at h0 p0
    have key : p * (x - y) ≤ f * x - f * y := by
      have e : f * x - f * y - p * (x - y) = (f - p) * (x - y) := by
        rw [Int.sub_mul, Int.mul_sub, Int.mul_sub]
      have : 0 ≤ (f - p) * (x - y) := by
        by_cases a : p < f
        · have := p0.1 a
          exact Int.mul_nonneg (by omega) (by omega)
        · by_cases b : f < p
          · have := p0.2 b
            exact Int.mul_nonneg_of_nonpos_of_nonpos (by omega) (by omega)
          · rw [show f - p = 0 by omega, Int.zero_mul]; exact Int.le_refl _
      omega
    simp only [valF, isum]
    rw [Int.mul_sub] at ih key ⊢
    rw [Int.mul_add, Int.mul_add]
    omega
theorem BestOk.most {rs fs xs ys : List Int} {total : Int} (h : BestOk rs fs total xs) (hf : fs.length = rs.length) (hy : ys.length = rs.length) (hr : ∀ i, i < rs.length → 0 ≤ ys.getD i 0 ∧ ys.getD i 0 ≤ rs.getD i 0) (hs : isum ys = total) : valF fs ys ≤ valF fs xs := by
  obtain ⟨p, hp⟩ := h.prc
  have := best_most (rs := rs) (fs := fs) (xs := xs) (ys := ys) (p := p) (by rw [h.len, hf]) (by rw [hy, hf]) (fun i hi => hr i (by omega)) (fun i hi => hp i (by omega))
  rw [h.sum, hs, Int.sub_self, Int.mul_zero] at this
  omega
end Go.Proofs.YtgojpgggbflgoaaGreat

namespace Go.Proofs.YtgojpgggbflgoaaGreat
open Go.RowKit

theorem best_of {rs fs os : List Int} {n : Nat} {total : Int} (hn : rs.length = n) (hf : fs.length = n) (hr : ∀ i, 0 ≤ rs.getD i 0) (h : OutS fs ((List.range n).map fun i : Nat => (i : Int)) os n) (h0 : 0 ≤ total) (h1 : total ≤ isum rs) :
    BestOk rs fs total ((os.map Int.toNat).foldl (fillN rs) (total, List.replicate n 0)).2 := by
  have hperm : (os.map Int.toNat).Perm (List.range n) := by
    have := h.perm.map Int.toNat
    rw [List.map_map] at this
    have e : (Int.toNat ∘ fun i : Nat => (i : Int)) = id := by funext i; simp
    rwa [e, List.map_id] at this
  have hmem : ∀ i, i ∈ os.map Int.toNat ↔ i < n := fun i => by rw [hperm.mem_iff, List.mem_range]
  have hnd : (os.map Int.toNat).Nodup := hperm.nodup_iff.2 List.nodup_range
  have hol : os.length = n := by have := h.perm.length_eq; simpa using this
  have hpw : (os.map Int.toNat).Pairwise fun a b => fs.getD b 0 ≤ fs.getD a 0 := by
    rw [List.pairwise_iff_getElem]
    intro i j hi hj hij
    simp only [List.length_map] at hi hj
    have := h.srt i j hij (by omega)
    unfold kAt keyF at this
    rw [getD_at hi, getD_at hj] at this
    simpa using this
  obtain ⟨a, b, p, c⟩ := fold_ok (rs := rs) hr (fun i => fs.getD i 0) (os.map Int.toNat) (s := (total, List.replicate n 0)) h0 (fun i hi => by simpa using (hmem i).1 hi) hnd hpw (fun i _ => by
    simp only [List.getD_eq_getElem?_getD, List.getElem?_replicate]
    split <;> rfl)
  have hI := fold_I hr (os.map Int.toNat) (FilI.zero (n := n) h0) (fun i hi => (hmem i).1 hi)
  generalize ((os.map Int.toNat).foldl (fillN rs) (total, List.replicate n 0)) = S at *
  have hleft : S.1 = 0 := by
    rcases b with e | e
    · exact e
    · have : S.2 = rs := List.ext_getElem (by rw [hI.len, hn]) fun i h1 h2 => by
        have := e i ((hmem i).2 (by omega))
        rw [getD_at h1, getD_at h2] at this
        exact this
      have k := hI.sum
      have k2 := hI.left
      rw [this] at k
      omega
  have hs := hI.sum
  exact ⟨by rw [hI.len, hn], fun i hi => a i ((hmem i).2 (by omega)), by omega, p, fun i hi => c i ((hmem i).2 (by omega))⟩
/-- Two blocks are written. -/
structure Gr2 (g h : Nat) (w w' : World) : Prop where
  os : w'.os = w.os
  tape : w'.tape = w.tape
  output : w'.output = w.output
  size : w.heap.size ≤ w'.heap.size
  block : ∀ k, k < w.heap.size → k ≠ g → k ≠ h → w'.heap[k]? = w.heap[k]?
theorem Gr2.refl (g h : Nat) (w : World) : Gr2 g h w w := ⟨rfl, rfl, rfl, Nat.le_refl _, fun _ _ _ _ => rfl⟩
theorem Gr2.trans {g h : Nat} {a b c : World} (x : Gr2 g h a b) (y : Gr2 g h b c) : Gr2 g h a c :=
  ⟨y.os.trans x.os, y.tape.trans x.tape, y.output.trans x.output, Nat.le_trans x.size y.size, fun k hk h1 h2 => (y.block k (Nat.lt_of_lt_of_le hk x.size) h1 h2).trans (x.block k hk h1 h2)⟩
theorem Gr2.of1 {g h : Nat} {a b : World} (x : a.grownBy b (some g)) : Gr2 g h a b := ⟨x.os, x.tape, x.output, x.size, fun k hk h1 _ => x.block k hk (fun e => h1 (Option.some.inj e))⟩
theorem Gr2.of2 {g h : Nat} {a b : World} (x : a.grownBy b (some h)) : Gr2 g h a b := ⟨x.os, x.tape, x.output, x.size, fun k hk _ h1 => x.block k hk (fun e => h1 (Option.some.inj e))⟩
theorem Gr2.below {g h B : Nat} {a b : World} (x : Gr2 g h a b) (hB : B ≤ a.heap.size) (h1 : B ≤ g) (h2 : B ≤ h) : Below B a b :=
  ⟨x.os, x.tape, x.output, x.size, fun i hi => x.block i (Nat.lt_of_lt_of_le hi hB) (by omega) (by omega)⟩
theorem Blk.gr2 {g h k : Nat} {a b : World} {t : TypeId} {cs : Array Value} (hb : Blk a k t cs) (x : Gr2 g h a b) (h1 : k ≠ g) (h2 : k ≠ h) : Blk b k t cs := (x.block k hb.lt h1 h2).trans hb
theorem RowI.gr2 {g h k n : Nat} {a b : World} {xs : List Int} (hb : RowI a k n xs) (x : Gr2 g h a b) (h1 : k ≠ g) (h2 : k ≠ h) : RowI b k n xs := by
  obtain ⟨cur, hk, hc⟩ := hb.blk
  exact ⟨hb.len, cur, hk.gr2 x h1 h2, hc⟩
theorem rs_at {hs : List Hl} {i : Nat} (h : i < hs.length) : (hs.map Hl.room).getD i 0 = (hs[i]).room := by
  rw [getD_at (by simpa using h)]; simp
set_option maxRecDepth 100000 in
set_option maxHeartbeats 6400000 in
theorem fill_any (gl gs gc g : Nat) (Lh : Option Addr) (n ch : Nat) (a z : Int) (c : Nat) (hs : List Hl) (l : Int) (xs : List Int) (i : Nat) (w : World) (h1 : Blk w gl 3 #[.int .i64 l]) (h2 : Blk w gs 49 #[.slice Lh n ch, .int .i64 a, .int .i64 z]) (h3 : Blk w gc 32 #[.slice (some ⟨g, 0, none⟩) n c]) (hr : RowI w g n xs) (hL : SAt encS 2 w Lh n (rsL hs)) (hi : i < n) (hne : gl ≠ g) (hl : 0 ≤ l ∧ l ≤ 1000000) (hx : 0 ≤ xs.getD i 0 ∧ xs.getD i 0 ≤ 1000000) (hm : ∀ x ∈ hs, 0 ≤ x.room ∧ x.room ≤ 65536) :
    Calls Tryz.prog 104 #[.int .i64 (i : Int), .pointer (some ⟨gl, 0, none⟩), .pointer (some ⟨gs, 0, none⟩), .pointer (some ⟨gc, 0, none⟩)] w fun e w' => e = .returned (.tuple #[]) ∧ Blk w' gl 3 #[.int .i64 (fillN (hs.map Hl.room) (l, xs) i).1] ∧ RowI w' g n (fillN (hs.map Hl.room) (l, xs) i).2 ∧ Gr2 g gl w w' := by
  have hhs : hs.length = n := by rw [← rs_len]; exact hL.len
  have hix : i < xs.length := by rw [hr.len]; exact hi
  obtain ⟨bL, oL, rfl, hll⟩ := hL.at_ (by omega)
  have hgs : (rsL hs)[i]? = some ((0 : Int), (hs[i]'(by omega)).room) := by
    rw [List.getElem?_eq_getElem (by rw [rs_len]; omega)]
    simp [rsL]
  obtain ⟨d0, d1⟩ := Sps.at_ hll hgs
  have dl := hll.lt
  have hrm := hm _ (List.getElem_mem (show i < hs.length by omega))
  have hrs := rs_at (show i < hs.length by omega)
  have c0 := hr.cell hix
  have hxe := getD_at hix
  have hf0 := hr.frozen i
  have hrl := hr.lt
  rw [hxe] at hx
  have HF := Lib.hid (show fillN (hs.map Hl.room) (l, xs) i = (l - min l (hs[i]'(by omega)).room, xs.set i (xs[i] + min l (hs[i]'(by omega)).room)) by unfold fillN; dsimp only; rw [hrs, hxe])
  generalize fillN (hs.map Hl.room) (l, xs) i = S at *
  have HR := Lib.hid hr
  have HCx := Lib.hid (fun (u : World) (hu : Below w.heap.size w u) => (hr.below hu).cell hix)
  clear hr hL hll hgs hxe hrs hm
  generalize (hs[i]'(by omega)).room = rm at *
  generalize xs[i] = x at *
  obtain ⟨S1, S2⟩ := S
  dsimp only
  have HFa := Lib.hid (show S1 = l - min l rm from (congrArg Prod.fst HF.out))
  have HFb := Lib.hid (show S2 = xs.set i (x + min l rm) from (congrArg Prod.snd HF.out))
  clear HF
  have l0 := h1.cell 0
  have s0 := h2.cell 0
  have x0 := h3.cell 0
  simp only [List.getElem?_toArray, List.getElem?_cons_zero] at l0 s0 x0
  have ll := h1.lt
  have sl := h2.lt
  have xl := h3.lt
  have H1 := Lib.hid h1
  have H3 := Lib.hid h3
  have lf := h1.frozen 0
  clear h1 h2 h3
  go_enter Tryz.func104, Tryz.ntmps104
  obtain ⟨xc, xf'⟩ := xcell (W := w)
  have fin : ∀ m w2, Below w.heap.size w w2 → Blk ((w2.setCell ⟨g, i, none⟩ (.int .i64 (x + m))).setCell ⟨gl, 0, none⟩ (.int .i64 (l - m))) gl 3 #[.int .i64 (l - m)] ∧ RowI ((w2.setCell ⟨g, i, none⟩ (.int .i64 (x + m))).setCell ⟨gl, 0, none⟩ (.int .i64 (l - m))) g n (xs.set i (x + m)) ∧ Gr2 g gl w ((w2.setCell ⟨g, i, none⟩ (.int .i64 (x + m))).setCell ⟨gl, 0, none⟩ (.int .i64 (l - m))) := by
    intro m w2 hb
    refine ⟨?_, ?_, ?_⟩
    · exact ((H1.out.below hb).far (p := ⟨g, i, none⟩) hne (.int .i64 (x + m))).set_ 0 (.int .i64 (l - m))
    · exact ((HR.out.below hb).set hix (x + m)).grown (grownBy_set _ gl 0 (.int .i64 (l - m))) (by intro e; exact hne (Option.some.inj e))
    · exact (Gr2.of1 (grownBy_of_below_of hb _)).trans ((Gr2.of1 (grownBy_set w2 g i (.int .i64 (x + m)))).trans (Gr2.of2 (grownBy_set _ gl 0 (.int .i64 (l - m)))))
  have HFin := Lib.hid fin
  clear fin
  by_cases hc : rm < l
  case pos =>
    have hmn : min l rm = rm := by omega
    rw [hmn] at HFa HFb
    have hSa := HFa.out
    have hSb := HFb.out
    subst hSa hSb
    clear HFa HFb hmn
    go_upto_region 0 with fail
    refine wp_region_quiet_tail 16 (by kernel_rfl) (by kernel_rfl) ?_
    simp only [List.take_succ_cons, List.take_zero, List.drop_succ_cons, List.drop_zero]
    repeat (first | go_big_quiet_step (fail) | quiet_step (fail))
    refine wpQuiet_nil ?_
    intro w2 hb2
    have k0 := HCx.out w2 hb2
    have k1 := (HR.out.below hb2).frozen i
    have k2 := (HR.out.below hb2).lt
    have m0 := (H1.out.below hb2).cell 0
    have m3 := (H3.out.below hb2).cell 0
    simp only [List.getElem?_toArray, List.getElem?_cons_zero] at m0 m3
    have m1 := (H1.out.below hb2).frozen 0
    have m2 := (H1.out.below hb2).lt
    have m4 := (H3.out.below hb2).lt
    have HF2 := Lib.hid (HFin.out rm w2 hb2)
    clear xc xf' hb2 HFin HCx HR H1 H3 d0 d1 dl c0 l0 s0 x0 ll sl xl lf hf0 hrl
    have hne2 := Ne.symm hne
    go_wp2
    exact bodyPost_end (v := .tuple #[]) (by simp [results, Tryz.results104, go_sem]) rfl ⟨rfl, HF2.out.1, HF2.out.2.1, HF2.out.2.2⟩
  case neg =>
    have hmn : min l rm = l := by omega
    rw [hmn] at HFa HFb
    have hSa := HFa.out
    have hSb := HFb.out
    subst hSa hSb
    clear HFa HFb hmn
    go_upto_region 0 with fail
    refine wp_region_quiet_tail 16 (by kernel_rfl) (by kernel_rfl) ?_
    simp only [List.take_succ_cons, List.take_zero, List.drop_succ_cons, List.drop_zero]
    repeat (first | go_big_quiet_step (fail) | quiet_step (fail))
    refine wpQuiet_nil ?_
    intro w2 hb2
    have k0 := HCx.out w2 hb2
    have k1 := (HR.out.below hb2).frozen i
    have k2 := (HR.out.below hb2).lt
    have m0 := (H1.out.below hb2).cell 0
    have m3 := (H3.out.below hb2).cell 0
    simp only [List.getElem?_toArray, List.getElem?_cons_zero] at m0 m3
    have m1 := (H1.out.below hb2).frozen 0
    have m2 := (H1.out.below hb2).lt
    have m4 := (H3.out.below hb2).lt
    have HF2 := Lib.hid (HFin.out l w2 hb2)
    rw [Int.sub_self] at HF2
    clear xc xf' hb2 HFin HCx HR H1 H3 d0 d1 dl c0 l0 s0 x0 ll sl xl lf hf0 hrl
    have hne2 := Ne.symm hne
    go_wp2
    exact bodyPost_end (v := .tuple #[]) (by simp [results, Tryz.results104, go_sem]) rfl ⟨rfl, HF2.out.1, HF2.out.2.1, HF2.out.2.2⟩
end Go.Proofs.YtgojpgggbflgoaaGreat

namespace Go.Proofs.YtgojpgggbflgoaaGreat
open Go.RowKit

def zsL (k : Nat) : List Int := List.replicate k 0
def isL (k : Nat) : List Int := (List.range k).map fun i : Nat => (i : Int)
theorem zsL_succ (k : Nat) : zsL (k + 1) = zsL k ++ [0] := List.replicate_succ'
theorem isL_succ (k : Nat) : isL (k + 1) = isL k ++ [(k : Int)] := by unfold isL; rw [List.range_succ, List.map_append]; rfl
theorem isum_zs (n : Nat) : isum (zsL n) = 0 := by
  unfold zsL
  induction n with
  | zero => rfl
  | succ n ih => simp only [List.replicate_succ, isum, ih]; rfl
/-- What stands while a loading and the holds' order are laid. -/
structure BeI (w : World) (Lh : Option Addr) (n ch : Nat) (a z : Int) (F : Option Addr) (cf : Nat) (k : Nat) (vx vo : Value) (v : World) : Prop where
  bel : Below w.heap.size w v
  sz : w.heap.size + 3 ≤ v.heap.size
  ld : Blk v w.heap.size 49 #[.slice Lh n ch, .int .i64 a, .int .i64 z]
  fm : Blk v (w.heap.size + 1) 32 #[.slice F n cf]
  xc : Blk v (w.heap.size + 1 + 1) 32 #[vx]
  xr : v.ownsRow (w.heap.size + 3) 3 1 vx k ((zsL k).flatMap encI)
  xo : v.ownsRow (w.heap.size + 3) 3 1 vo k ((isL k).flatMap encI)
  ap : ∀ g, vx.ownBlock = some g → vo.ownBlock ≠ some g
  nl : k = 0 → vx = .slice none 0 0 ∧ vo = .slice none 0 0
section
variable {w : World} {Lh : Option Addr} {n ch : Nat} {a z : Int} {F : Option Addr} {cf : Nat} {k : Nat} {vx vo : Value} {v : World}
theorem BeI.alloc (h : BeI w Lh n ch a z F cf k vx vo v) (o : Obj) : BeI w Lh n ch a z F cf k vx vo (v.alloc o) :=
  ⟨h.bel.alloc h.bel.size o, by have := h.sz; simp; omega, h.ld.alloc o, h.fm.alloc o, h.xc.alloc o, h.xr.alloc o, h.xo.alloc o, h.ap, h.nl⟩
/-- Both rows have grown; the loading's cell is not written yet. -/
structure BeJ (w : World) (Lh : Option Addr) (n ch : Nat) (a z : Int) (F : Option Addr) (cf : Nat) (k : Nat) (vx vo vx' vo' : Value) (v : World) : Prop where
  bel : Below w.heap.size w v
  sz : w.heap.size + 3 ≤ v.heap.size
  ld : Blk v w.heap.size 49 #[.slice Lh n ch, .int .i64 a, .int .i64 z]
  fm : Blk v (w.heap.size + 1) 32 #[.slice F n cf]
  xc : Blk v (w.heap.size + 1 + 1) 32 #[vx]
  xr : v.ownsRow (w.heap.size + 3) 3 1 vx' (k + 1) ((zsL (k + 1)).flatMap encI)
  xo : ∃ j, v.ownsRow (w.heap.size + 3) 3 1 vo' j ((isL j).flatMap encI) ∧ (j = k + 1 ∨ (j = k ∧ vo' = vo))
  ap : ∀ g, vx'.ownBlock = some g → vo'.ownBlock ≠ some g
theorem BeI.grow1 (h : BeI w Lh n ch a z F cf k vx vo v) {vx' : Value} {v' : World} (ho : v'.ownsRow (w.heap.size + 3) 3 1 vx' (k + 1) ((zsL k).flatMap encI ++ [.int .i64 0])) (hg : v.grownBy v' vx.ownBlock) (hb : vx'.ownBlock = vx.ownBlock ∨ vx'.ownBlock = some v.heap.size) : BeJ w Lh n ch a z F cf k vx vo vx' vo v' := by
  have hr : ∀ g, vx.ownBlock = some g → w.heap.size + 3 ≤ g := fun g e => (own_lt h.xr e).1
  have hs := h.sz
  refine ⟨h.bel.grown hg h.bel.size (fun r e => by have := hr r e; omega), by have := hg.size; omega, h.ld.grown hg (fun e => by have := hr _ e; omega), h.fm.grown hg (fun e => by have := hr _ e; omega), h.xc.grown hg (fun e => by have := hr _ e; omega), ?_, ⟨k, owns_grown h.xo hg (fun g e e2 => h.ap g e2 e), .inr ⟨rfl, rfl⟩⟩, ?_⟩
  · rw [zsL_succ, List.flatMap_append]; exact ho
  · intro g e
    rcases hb with e2 | e2
    · rw [e2] at e; exact h.ap g e
    · rw [e2] at e
      intro e3
      have := (own_lt h.xo e3).2
      have := Option.some.inj e
      omega
theorem BeJ.alloc {vx' vo' : Value} (h : BeJ w Lh n ch a z F cf k vx vo vx' vo' v) (o : Obj) : BeJ w Lh n ch a z F cf k vx vo vx' vo' (v.alloc o) :=
  ⟨h.bel.alloc h.bel.size o, by have := h.sz; simp; omega, h.ld.alloc o, h.fm.alloc o, h.xc.alloc o, h.xr.alloc o, let ⟨j, h1, h2⟩ := h.xo; ⟨j, h1.alloc o, h2⟩, h.ap⟩
theorem BeJ.own {vx' : Value} (h : BeJ w Lh n ch a z F cf k vx vo vx' vo v) (hk : ∃ A c, vo = .slice A k c) : v.ownsRow (w.heap.size + 3) 3 1 vo k ((isL k).flatMap encI) := by
  obtain ⟨j, h1, h2⟩ := h.xo
  rcases h2 with rfl | ⟨rfl, _⟩
  · obtain ⟨A, c, e⟩ := hk
    obtain ⟨A', c', e'⟩ := owns_slice h1
    rw [e] at e'
    cases e'
  · exact h1
theorem BeJ.grow2 {vx' : Value} (h : BeJ w Lh n ch a z F cf k vx vo vx' vo v) {vo' : Value} {v' : World} (hw : v.ownsRow (w.heap.size + 3) 3 1 vo k ((isL k).flatMap encI)) (ho : v'.ownsRow (w.heap.size + 3) 3 1 vo' (k + 1) ((isL k).flatMap encI ++ [.int .i64 (k : Int)])) (hg : v.grownBy v' vo.ownBlock) (hb : vo'.ownBlock = vo.ownBlock ∨ vo'.ownBlock = some v.heap.size) : BeJ w Lh n ch a z F cf k vx vo vx' vo' v' := by
  have hr : ∀ g, vo.ownBlock = some g → w.heap.size + 3 ≤ g := fun g e => (own_lt hw e).1
  have hs := h.sz
  refine ⟨h.bel.grown hg h.bel.size (fun r e => by have := hr r e; omega), by have := hg.size; omega, h.ld.grown hg (fun e => by have := hr _ e; omega), h.fm.grown hg (fun e => by have := hr _ e; omega), h.xc.grown hg (fun e => by have := hr _ e; omega), owns_grown h.xr hg (fun g e e2 => h.ap g e e2), ⟨k + 1, by rw [isL_succ, List.flatMap_append]; exact ho, .inl rfl⟩, ?_⟩
  intro g e
  rcases hb with e2 | e2
  · rw [e2]; exact h.ap g e
  · rw [e2]
    intro e3
    have := (own_lt h.xr e).2
    have := Option.some.inj e3
    omega
theorem BeJ.done {vx' vo' : Value} (h : BeJ w Lh n ch a z F cf k vx vo vx' vo' v) (hk : ∃ A c, vo' = .slice A (k + 1) c) : BeI w Lh n ch a z F cf (k + 1) vx' vo' (v.setCell ⟨w.heap.size + 1 + 1, 0, none⟩ vx') := by
  obtain ⟨j, h1, h2⟩ := h.xo
  have h1 : v.ownsRow (w.heap.size + 3) 3 1 vo' (k + 1) ((isL (k + 1)).flatMap encI) := by
    rcases h2 with rfl | ⟨rfl, rfl⟩
    · exact h1
    · obtain ⟨A, c, e⟩ := hk
      obtain ⟨A', c', e'⟩ := owns_slice h1
      rw [e] at e'
      cases e'
  exact ⟨h.bel.setCell (p := ⟨w.heap.size + 1 + 1, 0, none⟩) (show w.heap.size ≤ w.heap.size + 1 + 1 by omega) vx', by simpa using h.sz, h.ld.far (p := ⟨w.heap.size + 1 + 1, 0, none⟩) (show w.heap.size ≠ w.heap.size + 1 + 1 by omega) vx', h.fm.far (p := ⟨w.heap.size + 1 + 1, 0, none⟩) (show w.heap.size + 1 ≠ w.heap.size + 1 + 1 by omega) vx', blk_set1 h.xc vx', ownsRow_setCell_below h.xr (show w.heap.size + 1 + 1 < w.heap.size + 3 by omega) vx', ownsRow_setCell_below h1 (show w.heap.size + 1 + 1 < w.heap.size + 3 by omega) vx', h.ap, fun e => absurd e (by omega)⟩
end
theorem owns_pos {W : World} {B e size n c : Nat} {A : Option Addr} {xs : List Value} (h : W.ownsRow B e size (.slice A n c) n xs) (hn : n ≠ 0) : ∃ g, A = some ⟨g, 0, none⟩ := by
  rcases h.2 with ⟨e, h0⟩ | ⟨g, cp, cur, e, _⟩
  · exact absurd h0 hn
  · cases e; exact ⟨g, rfl⟩
set_option maxRecDepth 100000 in
set_option maxHeartbeats 6400000 in
theorem best_any (Lh : Option Addr) (n ch : Nat) (a z : Int) (hs : List Hl) (F : Option Addr) (cf : Nat) (fs : List Int) (total : Int) (w : World) (hL : SAt encS 2 w Lh n (rsL hs)) (k : LdOk hs a z) (hF : SAt encI 1 w F n fs) (h0 : 0 ≤ total) (h1 : total ≤ isum (hs.map Hl.room)) :
    Calls Tryz.prog 79 #[vLd Lh n ch a z, .slice F n cf, .int .i64 total] w fun e w' => (∃ A c xs, e = .returned (.slice A n c) ∧ SAt encI 1 w' A n xs ∧ BestOk (hs.map Hl.room) fs total xs) ∧ Below w.heap.size w w' := by
  have hbd := k.bd
  have hhs : hs.length = n := by rw [← rs_len]; exact hL.len
  have hn8 : n ≤ 8 := by have := k.len; omega
  have hrn : ∀ i, 0 ≤ (hs.map Hl.room).getD i 0 := fun i => by
    by_cases hi : i < hs.length
    · rw [rs_at hi]; exact (k.rm _ (List.getElem_mem hi)).1
    · rw [List.getD_eq_getElem?_getD, List.getElem?_eq_none (by simpa using hi)]; exact Int.le_refl _
  have HBo := Lib.hid (fun (os : List Int) (h : OutS fs (isL n) os n) => best_of (rs := hs.map Hl.room) (fs := fs) (os := os) (n := n) (total := total) (by simpa using hhs) hF.len hrn h h0 h1)
  have HFo := Lib.hid (fun (S : List Nat) (hS : ∀ i ∈ S, i < n) => fold_I (rs := hs.map Hl.room) (n := n) (total := total) hrn S (FilI.zero h0) hS)
  have HRm := Lib.hid k.rm
  have HLs := Lib.hid hL
  have HFs := Lib.hid hF
  have HLn := Lib.hid hhs
  have htb : total ≤ 524288 := by omega
  clear hL k hF hhs hrn h1 hbd
  obtain ⟨ii, hi0, hi1, hi2, hi3⟩ := info_parts info_int
  have hI0 : BeI w Lh n ch a z F cf 0 (.slice none 0 0) (.slice none 0 0) (((w.alloc (.cells #[.slice Lh n ch, .int .i64 a, .int .i64 z] 49)).alloc (.cells #[.slice F n cf] 32)).alloc (.cells #[.slice none 0 0] 32)) :=
    ⟨(((Below.refl w.heap.size w).alloc (Nat.le_refl _) _).alloc (by simp) _).alloc (by simp; omega) _, by simp, ((Blk.new w _ _).alloc _).alloc _, (Blk.at_new _ _ (by simp)).alloc _, Blk.at_new _ _ (by simp), World.ownsRow_nil _ _ _ _, World.ownsRow_nil _ _ _ _, fun g e => (by cases e), fun _ => ⟨rfl, rfl⟩⟩
  go_enter Tryz.func79, Tryz.ntmps79
  go_upto_region 3 with fail
  generalize hW : ((w.alloc (.cells #[.slice Lh n ch, .int .i64 a, .int .i64 z] 49)).alloc (.cells #[.slice F n cf] 32)).alloc (.cells #[.slice none 0 0] 32) = W at *
  clear hW
  go_loopw [8, 9, 10, 18] (fun vo _ _ i wx => ∃ k : Nat, k ≤ n ∧ i = .int .i64 (k : Int) ∧ ∃ vx, BeI w Lh n ch a z F cf k vx vo wx) (fun _ _ _ i _ => n - (intOf i).toNat)
  case atStart => exact ⟨0, Nat.zero_le _, rfl, _, hI0⟩
  case round =>
    clear hI0
    obtain ⟨k, hk, rfl, vx, hI⟩ := hrel
    have HI := Lib.hid hI
    clear hI
    have hsz := HI.out.sz
    have y0 := HI.out.ld.cell 0
    have x0 := HI.out.xc.cell 0
    have xf := HI.out.xc.frozen 0
    simp only [List.getElem?_toArray, List.getElem?_cons_zero] at y0 x0
    have xl := HI.out.xc.lt
    have x2 : wr.cell? ⟨w.heap.size + 2, 0, none⟩ = some vx := x0
    have xf2 : wr.frozen? ⟨w.heap.size + 2, 0, none⟩ = false := xf
    have xl2 : w.heap.size + 2 < wr.heap.size := xl
    have yl := HI.out.ld.lt
    obtain ⟨Ao, co, rfl⟩ := owns_slice HI.out.xo
    obtain ⟨Ax, cx, rfl⟩ := owns_slice HI.out.xr
    by_cases hkn : k < n
    case pos =>
      have hkl : k < hs.length := by rw [HLn.out]; exact hkn
      obtain ⟨bL, oL, rfl, hll⟩ := HLs.out.at_ (by omega)
      have hgs : (rsL hs)[k]? = some ((0 : Int), (hs[k]).room) := by
        rw [List.getElem?_eq_getElem (by rw [rs_len]; exact hkl)]
        simp [rsL]
      obtain ⟨d0, d1⟩ := Sps.at_ (hll.below HI.out.bel) hgs
      have dl := (hll.below HI.out.bel).lt
      clear hll hgs
      generalize (hs[k]).room = rm at *
      dsimp only at d0 d1
      have HI2 := Lib.hid ((HI.out.alloc (.cells #[.int .i64 0, .int .i64 rm] 43)).alloc (.cells #[.int .i64 0] 3))
      go_wp2_with (at_builtin; go_loud (refine wpList_append_own_at _ rfl (.tmp 23) (.tmp 26) 32 rfl (w.heap.size + 3) 3 ii (.int .i64 0) 1 8 Tryz.underlying32 hi0 hi1 hi2 hi3 rfl (by decide) _ k ((zsL k).flatMap encI) rfl HI2.out.xr ⟨wr.heap.size + 1, 0, none⟩ 1 1 [.int .i64 0] rfl rfl (fun j u h => by match j, h with | 0, h => (simp at h; subst h; exact (Blk.at_new (W := wr.alloc _) (g := wr.heap.size + 1) _ _ (by simp)).cell 0)) (one_intsL [0]) (by unfold maxLen; omega) (by omega) (by simp; omega) ?_))
      intro vx' w4 ho hgr _ hbl
      have HJ := Lib.hid (HI2.out.grow1 ho hgr (by simpa using hbl))
      obtain ⟨gx, cx2, rfl⟩ := ownsRow_succ ho
      clear ho hgr hbl y0 x0 xf x2 xf2 xl xl2 yl d0 d1 dl HI2
      have hj := HJ.out.sz
      have HJ2 := Lib.hid (HJ.out.alloc (.cells #[.int .i64 (k : Int)] 3))
      have HJo := Lib.hid (HJ2.out.own ⟨Ao, co, rfl⟩)
      go_wp2_with (at_builtin; go_loud (refine wpList_append_own_at _ rfl (.tmp 28) (.tmp 30) 32 rfl (w.heap.size + 3) 3 ii (.int .i64 0) 1 8 Tryz.underlying32 hi0 hi1 hi2 hi3 rfl (by decide) _ k ((isL k).flatMap encI) rfl HJo.out ⟨w4.heap.size, 0, none⟩ 1 1 [.int .i64 (k : Int)] rfl rfl (fun j u h => by match j, h with | 0, h => (simp at h; subst h; exact (Blk.at_new (W := w4) (g := w4.heap.size) _ _ rfl).cell 0)) (one_intsL [(k : Int)]) (by unfold maxLen; omega) (by omega) (by simp; omega) ?_))
      intro vo' w5 ho hgr _ hbl
      have HK := Lib.hid (HJ2.out.grow2 HJo.out ho hgr (by simpa using hbl))
      obtain ⟨go, co2, rfl⟩ := ownsRow_succ ho
      clear ho hgr hbl HJ2 HJo HJ
      have HD := Lib.hid (HK.out.done ⟨_, _, rfl⟩)
      have x0 := HK.out.xc.cell 0
      have xf := HK.out.xc.frozen 0
      simp only [List.getElem?_toArray, List.getElem?_cons_zero] at x0
      have xl := HK.out.xc.lt
      go_wp2
      go_roundw
      case rel => exact ⟨k + 1, by omega, by go_num, _, HD.out⟩
      case measure => simp [intOf]; omega
    case neg =>
      obtain rfl : k = n := by omega
      by_cases hz : k = 0
      case pos =>
        subst hz
        obtain ⟨e1, e2⟩ := HI.out.nl rfl
        cases e1
        cases e2
        have HS := Lib.hid (sortst_nil (w.heap.size + 1) wr)
        have HSm := Lib.hid (sum_any none 0 0 [] wr (SAt.nil _ _ _ _) (fun x h => by cases h) (by omega))
        rw [show isum [] = 0 from rfl] at HSm
        have hb0 := (HBo.out [] ⟨by simp [isL], fun p q a b => absurd b (by omega)⟩)
        have HBs := Lib.hid hb0
        rw [show (List.foldl (fillN (List.map Hl.room hs)) (total, List.replicate 0 0) (List.map Int.toNat [])).2 = [] from rfl] at HBs
        have HI3 := Lib.hid (fun (u : World) (hu : Below wr.heap.size wr u) (v : Value) => (HI.out.xc.below hu).alloc (.cells #[v] 3))
        have HB3 := Lib.hid HI.out.bel
        clear hb0 HBo HFo HI y0 xf xf2 yl
        go_upto_region 11 with (first | (go_at_call 101; (with_reducible refine HS.out.mono ?_); rintro e u1 ⟨rfl, rfl⟩) | (go_at_call 20; (with_reducible refine HSm.out.mono ?_); rintro e u2 ⟨rfl, hb2⟩))
        have hB2 := hb2.trans ((below_new u2 (.cells #[.int .i64 total] 3)).mono hb2.size)
        have k0 := (HI3.out u2 hb2 (.int .i64 total)).cell 0
        have kl := (HI3.out u2 hb2 (.int .i64 total)).lt
        simp only [List.getElem?_toArray, List.getElem?_cons_zero] at k0
        clear hb2
        generalize hV : u2.alloc (.cells #[.int .i64 total] 3) = V at *
        clear hV x0 xl x2 xl2
        go_loopw [14, 43] (fun _ i wx => i = .int .i64 0 ∧ wx = V) (fun _ _ _ => 0)
        case atStart => exact ⟨rfl, rfl⟩
        case round =>
          obtain ⟨rfl, rfl⟩ := hrel
          go_wp2
          exact bodyPost_ret (v := .slice none 0 0) (by simp [results, Tryz.results79, go_sem]) rfl ⟨⟨_, _, [], rfl, SAt.nil _ _ _ _, HBs.out⟩, HB3.out.trans (hB2.mono HB3.out.size)⟩
      case neg =>
        obtain ⟨gx, rfl⟩ := owns_pos HI.out.xr hz
        obtain ⟨go, rfl⟩ := owns_pos HI.out.xo hz
        obtain ⟨bF, oF, hFe, hFk⟩ := HFs.out.at_ (by omega)
        subst hFe
        have hFl := hFk.lt
        obtain ⟨hRx, hgx⟩ := RowI.own HI.out.xr (by simp [zsL])
        obtain ⟨hRo, hgo⟩ := RowI.own HI.out.xo (by simp [isL])
        have hne : gx ≠ go := fun e => HI.out.ap gx rfl (by rw [e]; rfl)
        have HS := Lib.hid (sortst_any go (w.heap.size + 1) co k (some ⟨bF, oF, none⟩) cf fs (isL k) wr hRo HI.out.fm (HFs.out.below HI.out.bel) (by omega) (fun a e => by cases e; dsimp only; omega) (fun o ho => by
          obtain ⟨i, hi, rfl⟩ := List.mem_map.1 ho
          have := List.mem_range.1 hi
          omega) hn8)
        have HRx := Lib.hid hRx
        have HIw := Lib.hid HI.out
        clear hRx hRo hFk HI HFs
        go_upto_region 8 with (go_at_call 101; (with_reducible refine HS.out.mono ?_); rintro e u1 ⟨rfl, os', hos, hro, hgr⟩)
        have HOs := Lib.hid hos
        have HRo1 := Lib.hid hro
        have HRx1 := Lib.hid (HRx.out.grown hgr (by intro e; exact hne (Option.some.inj e).symm))
        have HLd1 := Lib.hid (HIw.out.ld.grown hgr (by intro e; have := Option.some.inj e; omega))
        have HXc1 := Lib.hid (HIw.out.xc.grown hgr (by intro e; have := Option.some.inj e; omega))
        have HB1 := Lib.hid (HIw.out.bel.grown hgr HIw.out.bel.size (fun r e => by have := Option.some.inj e; omega))
        have HSm := Lib.hid (sum_any (some ⟨gx, 0, none⟩) k cx (zsL k) u1 HRx1.out.sat (fun x h => by have := (List.mem_replicate.1 h).2; omega) (by omega))
        rw [isum_zs] at HSm
        clear hos hro hgr HS HRx HIw y0 x0 xf xl x2 xf2 xl2 yl
        have x0 := HXc1.out.cell 0
        simp only [List.getElem?_toArray, List.getElem?_cons_zero] at x0
        have xl := HXc1.out.lt
        have x2 : u1.cell? ⟨w.heap.size + 2, 0, none⟩ = some (.slice (some ⟨gx, 0, none⟩) k cx) := x0
        have xl2 : w.heap.size + 2 < u1.heap.size := xl
        go_upto_region 11 with (go_at_call 20; (with_reducible refine HSm.out.mono ?_); rintro e u2 ⟨rfl, hb2⟩)
        have hB2 := hb2.trans ((below_new u2 (.cells #[.int .i64 total] 3)).mono hb2.size)
        have HLf := Lib.hid (Blk.new u2 3 #[.int .i64 total])
        have HRo2 := Lib.hid (HRo1.out.below hB2)
        have HRx2 := Lib.hid (HRx1.out.below hB2)
        have HLd2 := Lib.hid (HLd1.out.below hB2)
        have HXc2 := Lib.hid (HXc1.out.below hB2)
        have HBB := Lib.hid (HB1.out.trans (hB2.mono HB1.out.size))
        have hgl1 : gx < u2.heap.size := Nat.lt_of_lt_of_le HRx1.out.lt hb2.size
        have hgl2 : go < u2.heap.size := Nat.lt_of_lt_of_le HRo1.out.lt hb2.size
        have hgl3 : w.heap.size + 1 + 1 < u2.heap.size := Nat.lt_of_lt_of_le HXc1.out.lt hb2.size
        clear hb2 hB2 x0 xl x2 xl2 HSm HRo1 HRx1 HLd1 HXc1 HB1
        generalize hV : u2.alloc (.cells #[.int .i64 total] 3) = V at *
        generalize hgl : u2.heap.size = gl at *
        clear hV hgl u1 u2
        have HOl := Lib.hid (show os'.length = k from HRo2.out.len)
        have HOm := Lib.hid (fun (p : Nat) (hp : p < os'.length) => show ∃ x : Nat, os'[p] = (x : Int) ∧ x < k from by
          have h1 := HOs.out.perm.mem_iff.1 (List.getElem_mem hp)
          obtain ⟨i, hi, e⟩ := List.mem_map.1 h1
          exact ⟨i, e.symm, List.mem_range.1 hi⟩)
        have HSt := Lib.hid (fun (j : Nat) => HFo.out ((os'.take j).map Int.toNat) (fun i hi => by
          obtain ⟨o, ho, rfl⟩ := List.mem_map.1 hi
          obtain ⟨p, hp, rfl⟩ := List.getElem_of_mem (List.mem_of_mem_take ho)
          obtain ⟨x, hx, hxk⟩ := HOm.out p hp
          rw [hx]
          simpa using hxk))
        go_loopw [14, 43] (fun _ i wx => ∃ j : Nat, j ≤ k ∧ i = .int .i64 (j : Int) ∧ Blk wx gl 3 #[.int .i64 (((os'.take j).map Int.toNat).foldl (fillN (hs.map Hl.room)) (total, List.replicate k 0)).1] ∧ RowI wx gx k (((os'.take j).map Int.toNat).foldl (fillN (hs.map Hl.room)) (total, List.replicate k 0)).2 ∧ Gr2 gx gl V wx) (fun _ i _ => k - (intOf i).toNat)
        case atStart => exact ⟨0, Nat.zero_le _, rfl, HLf.out, HRx2.out, Gr2.refl _ _ _⟩
        case round =>
          obtain ⟨j, hj, rfl, h1, h2, h3⟩ := hrel
          have H1 := Lib.hid h1
          have H2 := Lib.hid h2
          have H3 := Lib.hid h3
          have HRo3 := Lib.hid (HRo2.out.gr2 h3 (Ne.symm hne) (by omega))
          have HXc3 := Lib.hid (HXc2.out.gr2 h3 (by omega) (by omega))
          have HLd3 := Lib.hid (HLd2.out.gr2 h3 (by omega) (by omega))
          have HB3 := Lib.hid (HBB.out.trans (h3.below HBB.out.size (by omega) (by omega)))
          have hol := HOl.out
          clear h1 h2 h3
          by_cases hjk : j < k
          case pos =>
            obtain ⟨x, hx, hxk⟩ := HOm.out j (by omega)
            have c0 := HRo3.out.cell (i := j) (by omega)
            rw [hx] at c0
            have cl := HRo3.out.lt
            have HT := Lib.hid (show ((os'.take (j + 1)).map Int.toNat).foldl (fillN (hs.map Hl.room)) (total, List.replicate k 0) = fillN (hs.map Hl.room) (((os'.take j).map Int.toNat).foldl (fillN (hs.map Hl.room)) (total, List.replicate k 0)) x by
              rw [List.take_succ_eq_append_getElem (by omega), List.map_append, List.foldl_append, hx]
              simp)
            have hst := HSt.out j
            generalize ((os'.take j).map Int.toNat).foldl (fillN (hs.map Hl.room)) (total, List.replicate k 0) = S at *
            have hbd := hst.bd
            have hl0 := hst.left
            have hp0 := hst.pos x
            have hp1 := hbd.2 x
            have hl1 := hbd.1
            obtain ⟨S1, S2⟩ := S
            dsimp only at *
            have HFi := Lib.hid (fill_any gl w.heap.size (w.heap.size + 1 + 1) gx Lh k ch a z cx hs S1 S2 x wr H1.out HLd3.out HXc3.out H2.out (HLs.out.below HB3.out) hxk (by omega) ⟨hl0, by omega⟩ ⟨hp0, by omega⟩ HRm.out)
            rw [← HT.out] at HFi
            clear hst hbd hl0 hp0 hp1 hl1 hx
            go_wp2_with (go_at_call 104; (with_reducible refine HFi.out.mono ?_); rintro e u3 ⟨rfl, b1, b2, b3⟩)
            go_roundw
            case rel => exact ⟨j + 1, by omega, by go_num, b1, b2, H3.out.trans b3⟩
            case measure => simp [intOf]; omega
          case neg =>
            obtain rfl : j = k := by omega
            have HBs := Lib.hid (HBo.out os' HOs.out)
            rw [show os'.take j = os' by rw [← HOl.out, List.take_length]] at H2
            generalize (os'.map Int.toNat).foldl (fillN (hs.map Hl.room)) (total, List.replicate j 0) = S at *
            have x0 := HXc3.out.cell 0
            simp only [List.getElem?_toArray, List.getElem?_cons_zero] at x0
            have xl := HXc3.out.lt
            go_wp2
            exact bodyPost_ret (v := .slice (some ⟨gx, 0, none⟩) j cx) (by simp [results, Tryz.results79, go_sem]) rfl ⟨⟨_, _, S.2, rfl, H2.out.sat, HBs.out⟩, HB3.out⟩
end Go.Proofs.YtgojpgggbflgoaaGreat

namespace Go.Proofs.YtgojpgggbflgoaaGreat
open Go.RowKit

/-- All cells stay but those of some blocks. -/
structure KeepC (L : List Nat) (W W' : World) : Prop where
  size : W.heap.size ≤ W'.heap.size
  kept : ∀ k, k ∉ L → ∀ o, W.heap[k]? = some o → o.isCells = true → W'.heap[k]? = some o
theorem keepC_t {L : List Nat} {X Y Z : World} (h : KeepC L X Y) (k : KeepC L Y Z) : KeepC L X Z := ⟨Nat.le_trans h.size k.size, fun i hi o ho hc => k.kept i hi o (h.kept i hi o ho hc) hc⟩
theorem keepC_refl (L : List Nat) (W : World) : KeepC L W W := ⟨Nat.le_refl _, fun _ _ _ h _ => h⟩
theorem keepC_b {L : List Nat} {w : World} (W : World) (l : Nat) (o o' : Obj) (_ : w.heap.size ≤ l) (h : W.heap[l]? = some o) (hc : o.isCells = false) (_ : o.isWalk = false) : KeepC L W (W.putObj l o') :=
  ⟨by simp [World.putObj], fun k _ p hp hpc => by
    by_cases e : k = l
    · subst e; rw [h] at hp; cases hp; rw [hc] at hpc; cases hpc
    · rw [World.putObj_heap_other e]; exact hp⟩
theorem keepC_below {L : List Nat} {W W' : World} (h : Below W.heap.size W W') : KeepC L W W' :=
  ⟨h.size, fun k _ _ ho _ => (h.block k (Array.getElem?_eq_some_iff.1 ho).1).trans ho⟩
theorem keepC_set {L : List Nat} {W : World} {p : Addr} {v : Value} (h : p.block ∈ L) : KeepC L W (W.setCell p v) :=
  ⟨by simp [World.setCell], fun k hk o ho _ => (Below.heap_setCell W p v k (fun e => hk (e ▸ h))).trans ho⟩
theorem Blk.keepC {L : List Nat} {W W' : World} {g : Nat} {t : TypeId} {cs : Array Value} (h : Blk W g t cs) (k : KeepC L W W') (hg : g ∉ L) : Blk W' g t cs := k.kept g hg _ h rfl
def tsL (a : Int) (j : Nat) : List Int := (List.range j).map fun i : Nat => a + (i : Int)
theorem tsL_succ (a : Int) (j : Nat) : tsL a (j + 1) = tsL a j ++ [a + (j : Int)] := by unfold tsL; rw [List.range_succ, List.map_append]; rfl
theorem tsL_len (a : Int) (j : Nat) : (tsL a j).length = j := by simp [tsL]
theorem tsL_mem {a t : Int} {j : Nat} : t ∈ tsL a j ↔ a ≤ t ∧ t < a + j := by
  unfold tsL
  simp only [List.mem_map, List.mem_range]
  constructor
  · rintro ⟨i, hi, rfl⟩; omega
  · intro h
    exact ⟨(t - a).toNat, by omega, by omega⟩
def encO (t : Int) : Array Value := #[.int .i64 t]
theorem each_any (Lh : Option Addr) (n ch : Nat) (a z : Int) (w : World) :
    Calls Tryz.prog 78 #[vLd Lh n ch a z] w fun e w' => e = .returned (.func (.func 100) #[] #[.pointer (some ⟨w.heap.size, 0, none⟩)]) ∧ w.alloc (.cells #[.slice Lh n ch, .int .i64 a, .int .i64 z] 49) = w' := by
  go_enter Tryz.func78, Tryz.ntmps78
  go_wp2
  go_ret
  exact ⟨rfl, rfl⟩
attribute [local go_sem] Oper.semAt_some
set_option maxHeartbeats 1600000 in
theorem each1_in (m l B : Nat) (L : List Nat) (Lh : Option Addr) (n ch : Nat) (a z : Int) (hs : List Hl) (k : LdOk hs a z) (J Jx : List Int → World → Prop)
    (hY : ∀ pre x W1, a ≤ x → x ≤ z → J pre W1 → pre.length < (z - a + 1).toNat → YieldAt Fence.wide (m - 1) Tryz.prog l (encO x) W1 fun e W' =>
      (e = .returned (.bool true) ∧ J (pre ++ [x]) W' ∧ KeepC L W1 W') ∨ (e = .returned (.bool false) ∧ Jx (pre ++ [x]) W'))
    (hJ : ∀ s W W', J s W → Below W.heap.size W W' → J s W') (W : World) (hL : ∀ g ∈ L, g < W.heap.size) (h1 : Blk W B 49 #[.slice Lh n ch, .int .i64 a, .int .i64 z]) (hS : SAt encS 2 W Lh n (rsL hs)) (h0 : J [] W) :
    CallsIn Fence.wide m Tryz.prog 100 #[.func (.yield l) #[] #[], .pointer (some ⟨B, 0, none⟩)] W fun e W' => (∃ v, e = .returned v) ∧
      ((∃ xs, xs = tsL a (z - a + 1).toNat ∧ J xs W') ∨ (∃ pre : List Int, (∃ j, j ≤ (z - a + 1).toNat ∧ pre = tsL a j) ∧ Jx pre W')) := by
  have HTo := Lib.hid (totals_any Lh n ch a z hs W hS k)
  obtain ⟨y0, y1, y2, yl⟩ := cells3 h1
  have hbd := k.bd
  have hlo := k.lo
  have hle := k.le
  clear h1 hS k
  refine callsIn_of_wp Tryz.func100 rfl trivial ?_ rfl
  simp only [Tryz.ntmps100, List.size_toArray, List.length_cons, List.length_nil, Nat.reduceAdd, Nat.reduceSub, Array.replicate_succ, Array.replicate_zero, List.push_toArray, List.append_toArray, List.nil_append, List.cons_append]
  gi_wp2_with (refine ⟨trivial, fun h => (by cases h), ?_⟩; gi_at_call 54; refine (callsIn_wide.2 HTo.out).mono ?_; rintro e w1 ⟨rfl, hb1⟩)
  have hb2 := hb1.trans ((below_new w1 (.cells #[.int .i64 a, .int .i64 z] 43)).mono hb1.size)
  have HS := Lib.hid (Blk.new w1 43 #[.int .i64 a, .int .i64 z])
  have HJ0 := Lib.hid (hJ _ _ _ h0 hb2)
  have hgL : w1.heap.size ∉ L := fun h => by have := hL _ h; have := hb1.size; omega
  generalize hV : w1.alloc (.cells #[.int .i64 a, .int .i64 z] 43) = V at *
  generalize hg : w1.heap.size = g at *
  clear hV hg hb1 hb2 h0 y0 y1 y2 yl HTo hL
  obtain ⟨s0, s1, sl⟩ := cells2 HS.out
  gi_wp2
  gi_loopw [4] (fun i wr => ∃ j : Nat, j ≤ (z - a + 1).toNat ∧ i = .int .i64 (a + (j : Int)) ∧ J (tsL a j) wr ∧ KeepC L V wr)
    (fun i _ => (z + 1 - intOf i).toNat)
  case atStart =>
    exact ⟨0, Nat.zero_le _, by simp, HJ0.out, keepC_refl _ _⟩
  case round =>
    obtain ⟨j, hj, rfl, hJs, hkp⟩ := hrel
    have HKp := Lib.hid hkp
    have HJs := Lib.hid hJs
    obtain ⟨z0, z1, zl⟩ := cells2 (HS.out.keepC hkp hgL)
    clear hkp hJs
    by_cases hlt : a + (j : Int) ≤ z
    · obtain ⟨fn, tmps, assign, body, hy, hR⟩ := hY (tsL a j) (a + (j : Int)) wr (by omega) hlt HJs.out (by rw [tsL_len]; omega)
      unfold encO at hy
      gi_wp2
      refine ⟨fun h => (by cases h), hR.mono ?_⟩
      rintro e W' (⟨rfl, hJ', hk⟩ | ⟨rfl, hJx'⟩)
      · have HKp2 := Lib.hid (keepC_t HKp.out hk)
        clear hk
        gi_wp2
        go_roundw
        case rel => exact ⟨j + 1, by omega, by go_num, by rw [tsL_succ]; exact hJ', HKp2.out⟩
        case measure => simp [intOf]; omega
      · gi_wp2
        refine bodyPost_ret (results_none rfl _ _ _) rfl ?_
        exact ⟨⟨_, rfl⟩, .inr ⟨_, ⟨j + 1, by omega, (tsL_succ _ _).symm⟩, hJx'⟩⟩
    · have hE : j = (z - a + 1).toNat := by omega
      have HE := Lib.hid hE
      clear hE
      gi_wp2
      go_end0
      exact ⟨⟨_, rfl⟩, .inl (by rw [← HE.out]; exact HJs.out)⟩
/-- A total between two ends. -/
abbrev TIn (a z : Int) : Type := {t : Int // a ≤ t ∧ t ≤ z}
theorem each_stops (m B : Nat) (L : List Nat) (Lh : Option Addr) (n ch : Nat) (a z : Int) (hs : List Hl) (k : LdOk hs a z) (w : World) (hL : ∀ g ∈ L, g < w.heap.size) (h1 : Blk w B 49 #[.slice Lh n ch, .int .i64 a, .int .i64 z]) (hS : SAt encS 2 w Lh n (rsL hs)) :
    SeqStopsK Fence.wide m Tryz.prog 100 #[.pointer (some ⟨B, 0, none⟩)] (fun t : TIn a z => encO t.1) (KeepC L) (fun xs => xs.map Subtype.val = tsL a (z - a + 1).toNat) (fun pre => ∃ j, j ≤ (z - a + 1).toNat ∧ pre.map Subtype.val = tsL a j) (z - a + 1).toNat w := by
  intro l J Jx W hW hJ _ hY h0
  refine (each1_in m l B L Lh n ch a z hs k (fun s W => ∃ s' : List (TIn a z), s'.map Subtype.val = s ∧ J s' W) (fun s W => ∃ s' : List (TIn a z), s'.map Subtype.val = s ∧ Jx s' W) ?_ (fun s A A' hs hb => let ⟨s', e, h⟩ := hs; ⟨s', e, hJ s' A A' none h (grownBy_of_below hb) (fun r e => by cases e)⟩) W (fun g hg => Nat.lt_of_lt_of_le (hL g hg) hW.size) (h1.below hW) (hS.below hW) ⟨[], rfl, h0⟩).mono ?_
  · rintro pre x W1 hx1 hx2 ⟨p, rfl, hj⟩ hlen
    obtain ⟨fn, tmps, assign, body, hy, hR⟩ := hY p ⟨x, hx1, hx2⟩ W1 hj (by simpa using hlen)
    refine ⟨fn, tmps, assign, body, hy, hR.mono ?_⟩
    rintro e W' (⟨rfl, hJ', hk⟩ | ⟨rfl, hJx'⟩)
    · exact .inl ⟨rfl, ⟨p ++ [⟨x, hx1, hx2⟩], by simp, hJ'⟩, hk⟩
    · exact .inr ⟨rfl, p ++ [⟨x, hx1, hx2⟩], by simp, hJx'⟩
  · rintro e W' ⟨hv, ⟨xs, rfl, s', e', hJ'⟩ | ⟨pre, ⟨j, hj, rfl⟩, s', e', hJx'⟩⟩
    · exact ⟨hv, .inl ⟨s', e', hJ'⟩⟩
    · exact ⟨hv, .inr ⟨s', ⟨j, hj, e'⟩, hJx'⟩⟩
end Go.Proofs.YtgojpgggbflgoaaGreat
