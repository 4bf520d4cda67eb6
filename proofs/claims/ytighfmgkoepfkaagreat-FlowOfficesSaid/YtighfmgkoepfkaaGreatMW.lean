/- Fewest. -/
import Derived.ArgAppend
import Derived.Test.YtighfmgkoepfkaaGreatMZ
namespace Go.Proofs.YtighfmgkoepfkaaGreat
open Go.RowKit

theorem owns_prefix {W : World} {B e size n g c : Nat} {xs : List Value} (h : W.ownsRow B e size (.slice (some ⟨g, 0, none⟩) n c) n xs) {i : Nat} (hi : i ≤ n) : W.ownsRow B e size (.slice (some ⟨g, 0, none⟩) i c) i (xs.take (i * size)) := by
  have hm : i * size ≤ n * size := Nat.mul_le_mul_right _ hi
  refine ⟨by rw [List.length_take, h.1]; omega, ?_⟩
  rcases h.2 with ⟨e, _⟩ | ⟨g', cap, cur, e, hb, hg, h1, h2, h3, h4⟩
  · cases e
  · cases e
    refine .inr ⟨g, c, cur, rfl, hb, hg, by omega, h2, h3, ?_⟩
    rw [← h4, List.take_take, Nat.min_eq_left hm]
theorem owns_setCells {B e size n g c : Nat} : ∀ (vs : List Value) {W : World} {xs : List Value} (o : Nat), W.ownsRow B e size (.slice (some ⟨g, 0, none⟩) n c) n xs → o + vs.length ≤ xs.length →
    ∃ ys, (W.setCells g o vs).ownsRow B e size (.slice (some ⟨g, 0, none⟩) n c) n ys ∧ ys.take o = xs.take o ∧ W.grownBy (W.setCells g o vs) (some g)
  | [], W, xs, o, h, _ => ⟨xs, h, rfl, grown_refl _ _⟩
  | v :: vs, W, xs, o, h, hl => by
    rw [List.length_cons] at hl
    have h1 := owns_set h o (by omega) v
    obtain ⟨ys, a, b, d⟩ := owns_setCells vs (o + 1) h1 (by rw [List.length_set]; omega)
    refine ⟨ys, a, ?_, grown_trans (grownBy_set _ _ _ _) d⟩
    have := congrArg (List.take o) b
    rw [List.take_take, List.take_take, Nat.min_eq_left (by omega)] at this
    rw [this, List.take_set_of_le (Nat.le_refl _)]
theorem flat_setX : ∀ (ms : List Mv) (i : Nat) (x : Mv), i < ms.length → (((((ms.flatMap encM).set (i * 5) (.int .i64 x.id)).set (i * 5 + 1) (.int .i64 x.fr)).set (i * 5 + 2) (.int .i64 x.to)).set (i * 5 + 3) (.int .i64 x.lo)).set (i * 5 + 4) (.int .i64 x.hi) = (ms.set i x).flatMap encM
  | [], i, _, h => by simp at h
  | y :: ms, 0, x, _ => rfl
  | y :: ms, i + 1, x, h => by
    have ih := flat_setX ms i x (by simpa using h)
    show (((((encM y ++ ms.flatMap encM).set ((i + 1) * 5) _).set ((i + 1) * 5 + 1) _).set ((i + 1) * 5 + 2) _).set ((i + 1) * 5 + 3) _).set ((i + 1) * 5 + 4) _ = encM y ++ (ms.set i x).flatMap encM
    rw [List.set_append, if_neg (by rw [encM_len]; omega), List.set_append, if_neg (by rw [encM_len]; omega), List.set_append, if_neg (by rw [encM_len]; omega), List.set_append, if_neg (by rw [encM_len]; omega), List.set_append, if_neg (by rw [encM_len]; omega), encM_len,
      show (i + 1) * 5 - 5 = i * 5 by omega, show (i + 1) * 5 + 1 - 5 = i * 5 + 1 by omega, show (i + 1) * 5 + 2 - 5 = i * 5 + 2 by omega, show (i + 1) * 5 + 3 - 5 = i * 5 + 3 by omega, show (i + 1) * 5 + 4 - 5 = i * 5 + 4 by omega, ih]
/-- 'clear' of movements: some cells are turned. -/
theorem run_clear_mv (W : World) (b o n c : Nat) (hn : 0 < n) (hc : ∀ j, j < n * 5 → (W.cell? ⟨b, o + j, none⟩).isSome = true) (hf : ∀ j, W.frozen? ⟨b, o + j, none⟩ = false) :
    ∃ vs, vs.length = n * 5 ∧ ∀ ty, (Builtin.clear_ #[23] ty #[.slice (some ⟨b, o, none⟩) n c]).run Tryz.prog W = .ok (.tuple #[]) (W.setCells b o vs) := by
  refine ⟨(Builtin.zeroCells #[.int .i64 0, .int .i64 0, .int .i64 0, .int .i64 0, .int .i64 0] n).toList, by simp [Builtin.zeroCells], fun ty => ?_⟩
  have hst := run_storeCells_cells (P := Tryz.prog) b o (Builtin.zeroCells #[.int .i64 0, .int .i64 0, .int .i64 0, .int .i64 0, .int .i64 0] n).toList 0 W (by simpa [Builtin.zeroCells] using hc) (by simp [Builtin.zeroCells, hf]) (by
    intro v hv
    simp [Builtin.zeroCells] at hv
    obtain ⟨i, _, rfl⟩ := hv
    have h5 : i % 5 < 5 := Nat.mod_lt _ (by decide)
    generalize i % 5 = k at *
    match k, h5 with
    | 0, _ => rfl
    | 1, _ => rfl
    | 2, _ => rfl
    | 3, _ => rfl
    | 4, _ => rfl)
  simp only [Nat.add_zero] at hst
  obtain ⟨m, rfl⟩ : ∃ m, n = m + 1 := ⟨n - 1, by omega⟩
  have hz : ∀ w, (zeroValue 59).run Tryz.prog w = .ok (.agg #[.int .i64 0, .int .i64 0, .int .i64 0, .int .i64 0, .int .i64 0]) w := Tryz.zeroValue59
  simp [Builtin.clear_, run_underlying Tryz.underlying23, hz, Value.cells, hst]
theorem owns_cap' {W : World} {B e size g c n : Nat} {xs : List Value} (h : W.ownsRow B e size (.slice (some ⟨g, 0, none⟩) n c) n xs) : n ≤ c := by
  rcases h.2 with ⟨e, _⟩ | ⟨g', cap, cur, e, hb, hg, h1, h2, h3, h4⟩
  · cases e
  · cases e
    exact h1
theorem filt_all {p : Mv → Bool} {ms : List Mv} (h : posP p ms = -1) : ms.filter (fun x => !p x) = ms := by
  have h1 := @posP_any p ms
  rw [h] at h1
  have h2 : ms.any p = false := by rw [← h1]; rfl
  rw [List.any_eq_false] at h2
  rw [List.filter_eq_self]
  intro x hx
  have := h2 x hx
  simpa using this
theorem filt_first {p : Mv → Bool} {ms : List Mv} {i : Nat} (h : posP p ms = (i : Int)) : i < ms.length ∧ (ms.take i).filter (fun x => !p x) = ms.take i ∧ ∃ x, ms[i]? = some x ∧ p x = true := by
  unfold posP at h
  split at h
  · rename_i c
    have e : ms.findIdx p = i := by omega
    subst e
    refine ⟨c, ?_, _, List.getElem?_eq_getElem c, List.findIdx_getElem⟩
    rw [List.filter_eq_self]
    intro x hx
    obtain ⟨j, hj, rfl⟩ := List.getElem_of_mem hx
    have hj' : j < ms.findIdx p := by simp at hj; omega
    have := List.not_of_lt_findIdx hj'
    simpa using this
  · omega
set_option maxRecDepth 100000 in
set_option maxHeartbeats 6400000 in
theorem delM_any (L g n c : Nat) (ms : List Mv) (p : Mv → Bool) (gf : Nat) (lb : Array Value) (eg : ∀ args w, (callFunc gf args).run Tryz.prog w = .ok (.enter gf args) w) (w : World)
    (hp : ∀ W x, w.grownBy W (some g) → Calls Tryz.prog gf (#[vMv x] ++ lb) W fun e w' => e = .returned (.bool (p x)) ∧ Below W.heap.size W w') (hn : n ≤ 1000000) (hl : ms.length = n)
    (h : w.ownsRow L 59 5 (.slice (some ⟨g, 0, none⟩) n c) n (ms.flatMap encM)) :
    Calls Tryz.prog 92 #[.slice (some ⟨g, 0, none⟩) n c, .func (.func gf) #[] lb] w fun e w' => ∃ n', e = .returned (.slice (some ⟨g, 0, none⟩) n' c) ∧ (ms.filter fun x => !p x).length = n' ∧ w'.ownsRow L 59 5 (.slice (some ⟨g, 0, none⟩) n' c) n' ((ms.filter fun x => !p x).flatMap encM) ∧ w.grownBy w' (some g) := by
  have hs : SAt encM 5 w (some ⟨g, 0, none⟩) n ms := by
    obtain ⟨A', c', e, hs, _, _⟩ := SAt_of_row encM_len hl h
    have e2 : some ⟨g, 0, none⟩ = A' ∧ c = c' := by simpa using e
    rw [e2.1]; exact hs
  have HI := Lib.hid (indexM_any (some ⟨g, 0, none⟩) n c ms p gf lb eg w (fun W x hW => hp W x (below_grown hW)) hs (by omega))
  have HP := Lib.hid hp
  have HO := Lib.hid h
  have HL := Lib.hid hl
  have hnc := owns_cap' h
  clear h hs hp hl
  generalize hq : posP p ms = q at *
  have HQ := Lib.hid hq
  clear hq
  go_enter Tryz.func92, Tryz.ntmps92
  go_wp2_with fail
  refine HI.out.mono ?_
  rintro e w1 ⟨rfl, hb1⟩
  have HO1 := Lib.hid (owns_below HO.out hb1)
  have HG1 := Lib.hid (below_grown (r := some g) hb1)
  clear hb1 HI HO
  by_cases hq1 : q = -1
  case pos =>
    subst hq1
    have HF := Lib.hid (filt_all HQ.out)
    go_wp2
    go_ret
    exact ⟨n, rfl, by rw [HF.out, HL.out], by rw [HF.out]; exact HO1.out, HG1.out⟩
  case neg =>
    have hq2 : (q == -1) = false := by simpa using hq1
    have hq3 : 0 ≤ q := by
      have := HQ.out
      unfold posP at this
      split at this <;> omega
    obtain ⟨i0, rfl⟩ : ∃ i : Nat, q = (i : Int) := ⟨q.toNat, by omega⟩
    obtain ⟨f1, f2, x0, f3, f4⟩ := filt_first HQ.out
    have hi0n : i0 < n := by rw [← HL.out]; exact f1
    have HF := Lib.hid (show (ms.take (i0 + 1)).filter (fun x => !p x) = ms.take i0 by
      rw [List.take_add_one, f3, List.filter_append, f2]
      simp [f4])
    clear f1 f2 f3 f4 hq1 hq3
    go_wp2
    go_loopw [5, 6] (fun iv jv wx => ∃ (i j : Nat) (cur : List Mv), iv = .int .i64 (i : Int) ∧ jv = .int .i64 (j : Int) ∧ i < j ∧ j ≤ n ∧ cur.length = n ∧ cur.take i = (ms.take j).filter (fun x => !p x) ∧ cur.drop j = ms.drop j ∧ wx.ownsRow L 59 5 (.slice (some ⟨g, 0, none⟩) n c) n (cur.flatMap encM) ∧ w.grownBy wx (some g)) (fun _ jv _ => n - (intOf jv).toNat)
    case atStart => exact ⟨i0, i0 + 1, ms, rfl, by go_num, by omega, by omega, HL.out, HF.out.symm, rfl, HO1.out, HG1.out⟩
    case round =>
      clear HF HO1 HG1
      obtain ⟨i, j, cur, rfl, rfl, hij, hj, hcl, hct, hcd, how, hgr⟩ := hrel
      have HC := Lib.hid (show cur.length = n ∧ cur.take i = (ms.take j).filter (fun x => !p x) ∧ cur.drop j = ms.drop j from ⟨hcl, hct, hcd⟩)
      have HOw := Lib.hid how
      have HGr := Lib.hid hgr
      obtain ⟨cur0, hb0⟩ := own_blk how (g := g) rfl
      have hfz : ∀ o, wr.frozen? ⟨g, o, none⟩ = false := fun o => Blk.frozen (show Blk wr g _ cur0 from hb0) o
      have hgl : g < wr.heap.size := (own_lt how (g := g) rfl).2
      have hls := Ls_of_row encM_len hcl how
      have HLs := Lib.hid hls
      by_cases hjn : j < n
      case neg =>
        have hjj : j = n := by omega
        subst hjj
        have hin : 0 < j - i := by omega
        have hlen5 : (cur.flatMap encM).length = cur.length * 5 := flat_len encM_len cur
        obtain ⟨vs, hvl, hvc⟩ := run_clear_mv wr g (i * 5) (j - i) (c - i) hin (fun k hk => by
          have hk2 : i * 5 + k < (cur.flatMap encM).length := by rw [hlen5, hcl]; omega
          have := hls.flat encM_len (by decide) (i * 5 + k) _ (List.getElem?_eq_getElem hk2)
          rw [Nat.zero_add] at this
          rw [this]; rfl) (fun k => hfz _)
        obtain ⟨ys, ho2, hy, hg2⟩ := owns_setCells vs (i * 5) how (by rw [hvl, hlen5, hcl]; omega)
        have HFin := Lib.hid (show (wr.setCells g (i * 5) vs).ownsRow L 59 5 (.slice (some ⟨g, 0, none⟩) i c) i ((ms.filter fun x => !p x).flatMap encM) by
          have := owns_prefix ho2 (show i ≤ j by omega)
          rw [hy] at this
          have e1 : (cur.flatMap encM).take (i * 5) = (cur.take i).flatMap encM := by
            have h1 : ((cur.take i).flatMap encM).length = i * 5 := by rw [flat_len encM_len, List.length_take]; congr 1; omega
            have h2 : cur.flatMap encM = (cur.take i).flatMap encM ++ (cur.drop i).flatMap encM := by rw [← List.flatMap_append, List.take_append_drop]
            rw [h2, List.take_append_of_le_length (by omega), List.take_of_length_le (by omega)]
          have e2 : ms.take j = ms := by rw [← HL.out, List.take_length]
          rw [e1, hct, e2] at this
          exact this)
        have HLn := Lib.hid (show (ms.filter fun x => !p x).length = i by
          have := congrArg List.length hct
          have e2 : ms.take j = ms := by rw [← HL.out, List.take_length]
          rw [List.length_take, e2] at this
          omega)
        have HGF := Lib.hid (grown_trans hgr hg2)
        clear hcl hct hcd how hgr hls hb0 hvl ho2 hy hg2 HLs hlen5
        go_wp2
        go_ret
        exact ⟨i, rfl, HLn.out, HFin.out, HGF.out⟩
      case pos =>
        have hjl : j < cur.length := by omega
        obtain ⟨y0, y1, y2, y3, y4⟩ := Mvs.at_ hls (List.getElem?_eq_getElem hjl)
        have hx : ms[j]? = some cur[j] := by
          have := congrArg (fun l => l[0]?) hcd
          simpa [hjl] using this.symm
        have HX := Lib.hid hx
        simp only [Nat.zero_add] at y0 y1 y2 y3 y4
        clear hcl hct hcd how hgr hls hx hb0
        generalize cur[j] = x at *
        obtain ⟨xi, xf, xt, xl, xh⟩ := x
        dsimp only at *
        have b2 := (Below.refl wr.heap.size wr).alloc (Nat.le_refl _) (.cells #[.int .i64 xi, .int .i64 xf, .int .i64 xt, .int .i64 xl, .int .i64 xh] 59)
        have q2 := Blk.new wr 59 #[.int .i64 xi, .int .i64 xf, .int .i64 xt, .int .i64 xl, .int .i64 xh]
        have HCl := Lib.hid (HP.out _ ⟨xi, xf, xt, xl, xh⟩ (grown_below HGr.out b2))
        generalize hpx : p ⟨xi, xf, xt, xl, xh⟩ = px at *
        have HPx := Lib.hid hpx
        clear hpx
        cases px with
        | true =>
          go_wp2_with (go_at_fn gf; refine HCl.out.mono ?_; rintro e w2 ⟨rfl, hb2⟩)
          go_roundw
          case rel =>
            obtain ⟨h1, h2, h3⟩ := HC.out
            refine ⟨i, j + 1, cur, rfl, by go_num, by omega, by omega, h1, ?_, ?_, owns_below (owns_below HOw.out b2) hb2, grown_below (grown_below HGr.out b2) hb2⟩
            · rw [List.take_add_one, HX.out, List.filter_append, ← h2]
              simp [HPx.out]
            · have := congrArg (List.drop 1) h3
              simpa [List.drop_drop] using this
          case measure => simp [intOf]; omega
        | false =>
          have hic : i < cur.length := by omega
          have HLs2 := Lib.hid (fun W (hW : Below wr.heap.size wr W) => Mvs.at_ (HLs.out.below hW) (List.getElem?_eq_getElem hic))
          go_wp2_with (go_at_fn gf; refine HCl.out.mono ?_; rintro e w2 ⟨rfl, hb2⟩; have q4 := q2.below hb2; have c0 := q4.cell 0; have c1 := q4.cell 1; have c2 := q4.cell 2; have c3 := q4.cell 3; have c4 := q4.cell 4; simp only [List.getElem?_toArray, List.getElem?_cons_zero, List.getElem?_cons_succ] at c0 c1 c2 c3 c4; have cl := q4.lt; obtain ⟨r0, r1, r2, r3, r4⟩ := HLs2.out w2 (b2.trans (hb2.mono b2.size)); simp only [Nat.zero_add] at r0 r1 r2 r3 r4; have gl2 := Nat.lt_of_lt_of_le hgl (Nat.le_trans b2.size hb2.size); have fz2 := fun o => ((b2.trans (hb2.mono b2.size)).frozen (p := ⟨g, o, none⟩) hgl).trans (hfz o); have fa := fz2 (i * 5); have fb := fz2 (i * 5 + 1); have fc := fz2 (i * 5 + 2); have fd := fz2 (i * 5 + 3); have fe := fz2 (i * 5 + 4); have HB2 := Lib.hid hb2; clear q4 fz2 hb2)
          go_roundw
          case rel =>
            obtain ⟨h1, h2, h3⟩ := HC.out
            have ho := owns_below (owns_below HOw.out b2) HB2.out
            have hl5 : (cur.flatMap encM).length = cur.length * 5 := flat_len encM_len cur
            have k1 := owns_set ho (i * 5) (by omega) (.int .i64 xi)
            have k2 := owns_set k1 (i * 5 + 1) (by rw [List.length_set]; omega) (.int .i64 xf)
            have k3 := owns_set k2 (i * 5 + 2) (by rw [List.length_set, List.length_set]; omega) (.int .i64 xt)
            have k4 := owns_set k3 (i * 5 + 3) (by rw [List.length_set, List.length_set, List.length_set]; omega) (.int .i64 xl)
            have k5 := owns_set k4 (i * 5 + 4) (by rw [List.length_set, List.length_set, List.length_set, List.length_set]; omega) (.int .i64 xh)
            rw [flat_setX cur i ⟨xi, xf, xt, xl, xh⟩ hic] at k5
            refine ⟨i + 1, j + 1, cur.set i ⟨xi, xf, xt, xl, xh⟩, by go_num, by go_num, by omega, by omega, by rw [List.length_set]; exact h1, ?_, ?_, k5, ?_⟩
            · rw [List.take_add_one, List.getElem?_set_self hic, List.take_set_of_le (Nat.le_refl _), h2, List.take_add_one, HX.out, List.filter_append]
              simp [HPx.out]
            · rw [List.drop_set_of_lt (by omega)]
              have := congrArg (List.drop 1) h3
              simpa [List.drop_drop] using this
            · exact grown_trans (grown_below (grown_below HGr.out b2) HB2.out) (grown_trans (grown_trans (grown_trans (grown_trans (grownBy_set _ _ _ _) (grownBy_set _ _ _ _)) (grownBy_set _ _ _ _)) (grownBy_set _ _ _ _)) (grownBy_set _ _ _ _))
          case measure => simp [intOf]; omega
end Go.Proofs.YtighfmgkoepfkaaGreat

namespace Go.Proofs.YtighfmgkoepfkaaGreat
open Go.RowKit Go.Shelf

theorem containsI_any (A : Option Addr) (n c : Nat) (l : List Int) (x : Int) (w : World) (h : SAt encI 1 w A n l) (hn : n ≤ 1000000) :
    Calls Tryz.prog 111 #[.slice A n c, .int .i64 x] w fun e w' => e = .returned (.bool (l.contains x)) ∧ Below w.heap.size w w' := by
  rcases Nat.eq_zero_or_pos n with h0 | h0
  · subst h0
    have hl : l = [] := List.eq_nil_of_length_eq_zero h.len
    subst hl
    refine (Tryz.slices_Contains_empty (α := Int) A c (.int .i64 x) w).mono ?_
    rintro e w' ⟨rfl, rfl⟩
    exact ⟨rfl, Below.refl _ _⟩
  · obtain ⟨b, off, rfl, hl⟩ := h.at_ h0
    refine (Tryz.slices_Contains (Value.int .i64) (fun a b => a == b) (EqlAt.int _ _ _) b off n c l x w (by rw [h.len]; exact Nat.le_refl _) (by omega) (fun j hj => ?_)).mono ?_
    · have := hl.c j l[j] (List.getElem?_eq_getElem hj) 0 _ rfl
      rw [Nat.mul_one, Nat.add_zero] at this
      rw [this, getElem!_pos l j hj]
    · rintro e w' ⟨rfl, rfl⟩
      refine ⟨ret_bool ?_, Below.refl _ _⟩
      rw [List.take_of_length_le (by rw [h.len]; exact Nat.le_refl _)]
      rw [Bool.eq_iff_iff, List.any_eq_true, List.contains_iff_mem]
      constructor
      · rintro ⟨y, hy, e⟩
        have : x = y := by simpa using e
        rw [this]; exact hy
      · intro hx; exact ⟨x, hx, by simp⟩
theorem without1_any (x : Mv) (A : Option Addr) (n c : Nat) (l : List Int) (B : Nat) (w : World) (h : SAt encI 1 w A n l) (hn : n ≤ 1000000) (hb : Blk w B 42 #[.slice A n c]) :
    Calls Tryz.prog 110 #[vMv x, .pointer (some ⟨B, 0, none⟩)] w fun e w' => e = .returned (.bool (l.contains x.id)) ∧ Below w.heap.size w w' := by
  obtain ⟨xi, xf, xt, xl, xh⟩ := x
  have b0 := (Below.refl w.heap.size w).alloc (Nat.le_refl _) (.cells #[.int .i64 xi, .int .i64 xf, .int .i64 xt, .int .i64 xl, .int .i64 xh] 59)
  have c0 := hb.cell 0
  simp only [List.getElem?_toArray, List.getElem?_cons_zero] at c0
  have hl := hb.lt
  have hl2 : B < w.heap.size + 1 := by omega
  have HC := Lib.hid (containsI_any A n c l xi _ (h.below b0) hn)
  clear h hb
  generalize hq : l.contains xi = q at *
  have HQ := Lib.hid hq
  clear hq
  go_enter Tryz.func110, Tryz.ntmps110
  go_wp2_with fail
  refine HC.out.mono ?_; rintro e w' ⟨rfl, hb'⟩
  go_wp2
  go_ret
  exact ⟨ret_bool rfl, b0.trans (hb'.mono b0.size)⟩
theorem enter_without1 : ∀ args w, (callFunc 110 args).run Tryz.prog w = .ok (.enter 110 args) w := enters_of Tryz.func110 (by kernel_rfl) rfl
theorem indexM_nil (gf : Nat) (lb : Array Value) (w : World) :
    Calls Tryz.prog 128 #[.slice none 0 0, .func (.func gf) #[] lb] w fun e w' => e = .returned (.int .i64 (-1)) ∧ Below w.heap.size w w' := by
  go_enter Tryz.func128, Tryz.ntmps128
  go_wp2
  go_loopw [5, 8] (fun _ i wr => i = .int .i64 0 ∧ Below w.heap.size w wr) (fun _ _ _ => 0)
  case atStart => exact ⟨rfl, Below.refl _ _⟩
  case round =>
    obtain ⟨rfl, hb⟩ := hrel
    go_wp2
    go_ret
    exact ⟨rfl, hb⟩
theorem delM_nil (gf : Nat) (lb : Array Value) (w : World) :
    Calls Tryz.prog 92 #[.slice none 0 0, .func (.func gf) #[] lb] w fun e w' => e = .returned (.slice none 0 0) ∧ Below w.heap.size w w' := by
  have HI := Lib.hid (indexM_nil gf lb w)
  go_enter Tryz.func92, Tryz.ntmps92
  go_wp2_with fail
  refine HI.out.mono ?_
  rintro e w1 ⟨rfl, hb1⟩
  go_wp2
  go_ret
  exact ⟨rfl, hb1⟩
/-- A trade's movements without some. -/
def dropL (ms : List Mv) (l : List Int) : List Mv := ms.filter fun m => !l.contains m.id
/-- The same for a row of one's own, nil let in. -/
theorem delM_row (L : Nat) (v : Value) (ms : List Mv) (p : Mv → Bool) (gf : Nat) (lb : Array Value) (eg : ∀ args w, (callFunc gf args).run Tryz.prog w = .ok (.enter gf args) w) (w : World)
    (hp : ∀ W x, w.grownBy W v.ownBlock → Calls Tryz.prog gf (#[vMv x] ++ lb) W fun e w' => e = .returned (.bool (p x)) ∧ Below W.heap.size W w') (hn : ms.length ≤ 1000000)
    (h : w.ownsRow L 59 5 v ms.length (ms.flatMap encM)) :
    Calls Tryz.prog 92 #[v, .func (.func gf) #[] lb] w fun e w' => ∃ v', e = .returned v' ∧ w'.ownsRow L 59 5 v' (ms.filter fun x => !p x).length ((ms.filter fun x => !p x).flatMap encM) ∧ w.grownBy w' v.ownBlock ∧ (∃ A c, v' = .slice A (ms.filter fun x => !p x).length c) := by
  rcases h.2 with ⟨e, h0⟩ | ⟨g, cap, cur, e, _⟩
  · subst e
    have hm : ms = [] := List.eq_nil_of_length_eq_zero h0
    subst hm
    refine (delM_nil gf lb w).mono ?_
    rintro e w' ⟨rfl, hb⟩
    exact ⟨_, rfl, World.ownsRow_nil _ _ _ _, below_grown hb, none, 0, rfl⟩
  · subst e
    refine (delM_any L g ms.length cap ms p gf lb eg w hp hn rfl h).mono ?_
    rintro e w' ⟨n', rfl, hl, ho, hg⟩
    subst hl
    exact ⟨_, rfl, ho, hg, _, _, rfl⟩
set_option maxRecDepth 100000 in
set_option maxHeartbeats 3200000 in
theorem without_any (t : TR) (A' : Option Addr) (n' c' : Nat) (l : List Int) (w : World) (h : t.Ok w) (hn : t.n ≤ 1000000) (hm : t.m ≤ 1000000) (hl : SAt encI 1 w A' n' l) (hn' : n' ≤ 1000000) :
    Calls Tryz.prog 68 #[t.v, .slice A' n' c'] w fun e w' => ∃ v1 v2, e = .returned (.agg #[v1, v2]) ∧ OwnT w' w.heap.size v1 v2 t.hs (dropL t.ms l) ∧ Below w.heap.size w w' := by
  have hb0 := (((Below.refl w.heap.size w).alloc (Nat.le_refl _) (.cells #[.slice t.A t.n t.c, .slice t.B t.m t.d] 25)).alloc (by simp) (.cells #[.slice A' n' c'] 42)).alloc (by simp; omega) (.cells #[.slice none 0 0, .slice none 0 0] 25)
  have HCp := Lib.hid (copied_any t _ (h.below hb0) hn hm)
  obtain ⟨A, n, c, B, m, d, hs, ms⟩ := t
  dsimp only [TR.v] at *
  have HLm := Lib.hid h.m.len
  have HSl := Lib.hid hl
  have i0 := (Blk.at_new (W := w.alloc (.cells #[.slice A n c, .slice B m d] 25)) (g := w.heap.size + 1) 42 #[.slice A' n' c'] (by simp)).alloc (.cells #[.slice none 0 0, .slice none 0 0] 25)
  have r0 := (Blk.at_new (W := (w.alloc (.cells #[.slice A n c, .slice B m d] 25)).alloc (.cells #[.slice A' n' c'] 42)) (g := w.heap.size + 1 + 1) 25 #[.slice none 0 0, .slice none 0 0] (by simp))
  clear h hl
  go_enter Tryz.func68, Tryz.ntmps68
  generalize hW : ((w.alloc (.cells #[.slice A n c, .slice B m d] 25)).alloc (.cells #[.slice A' n' c'] 42)).alloc (.cells #[.slice none 0 0, .slice none 0 0] 25) = W at *
  have HWE := Lib.hid hW
  clear hW
  have hWs := r0.lt
  go_wp2_with fail
  rw [HWE.out]
  refine HCp.out.mono ?_
  rintro e w1 ⟨v1, v2, rfl, ho1, hb1⟩
  obtain ⟨A1, c1, rfl⟩ := owns_slice ho1.h
  obtain ⟨A2, c2, rfl⟩ := owns_slice ho1.m
  have b2 := (Below.refl w1.heap.size w1).alloc (Nat.le_refl _) (.cells #[.slice A1 hs.length c1, .slice A2 ms.length c2] 25)
  have q2 := Blk.new w1 25 #[.slice A1 hs.length c1, .slice A2 ms.length c2]
  have HB2 := Lib.hid (hb0.trans ((hb1.trans (b2.mono hb1.size)).mono hb0.size))
  have HI2 := Lib.hid ((i0.below hb1).below b2)
  have HR2 := Lib.hid ((r0.below hb1).below b2)
  have HO2 := Lib.hid (ho1.below b2)
  have HQ2 := Lib.hid q2
  have hw1s := hb1.size
  clear HCp hb0 i0 r0 HWE ho1 hb1
  generalize hnh : hs.length = nh at *
  generalize hnm : ms.length = nm at *
  have HNl := Lib.hid (show hs.length = nh ∧ ms.length = nm from ⟨hnh, hnm⟩)
  clear hnh hnm
  go_wp2_with fail
  generalize hW2 : w1.alloc (.cells #[.slice A1 nh c1, .slice A2 nm c2] 25) = w2 at *
  clear hW2
  generalize hg4 : w1.heap.size = g4 at *
  clear hg4
  have HDel := Lib.hid (delM_row W.heap.size (.slice A2 nm c2) ms (fun x => l.contains x.id) 110 #[.pointer (some ⟨w.heap.size + 1, 0, none⟩)] enter_without1 w2 (fun V x hV => by
    have hne : (Value.slice A2 nm c2).ownBlock ≠ some (w.heap.size + 1) := own_ne HO2.out.m HI2.out (by decide)
    have hVb : Below w.heap.size w V := HB2.out.grown hV HB2.out.size (fun r hr => by have := (own_lt HO2.out.m hr).1; omega)
    exact without1_any x A' n' c' l (w.heap.size + 1) V (HSl.out.below hVb) hn' (HI2.out.grown hV hne)) (by have := HNl.out.2; have := HLm.out; omega) HO2.out.m)
  refine HDel.out.mono ?_
  rintro e w3 ⟨_, rfl, hov, hg3, A3, c3, rfl⟩
  have hne : ∀ k ty cs, Blk w2 k ty cs → ty ≠ 59 → (Value.slice A2 nm c2).ownBlock ≠ some k := fun k ty cs hb ht => own_ne HO2.out.m hb ht
  have HR3 := Lib.hid (HR2.out.grown hg3 (hne _ _ _ HR2.out (by decide)))
  have q3 := HQ2.out.grown hg3 (hne _ _ _ HQ2.out (by decide))
  have HQ3 := Lib.hid q3
  have HB3 := Lib.hid (HB2.out.grown hg3 HB2.out.size (fun r hr => by have := (own_lt HO2.out.m hr).1; omega))
  have HH3 := Lib.hid (owns_grown HO2.out.h hg3 (fun g hg e => own_ne2 HO2.out.m HO2.out.h (by decide) hg e))
  have HM3 := Lib.hid hov
  have hg4l := HQ2.out.lt
  generalize hfl : (ms.filter fun x => !(fun x : Mv => l.contains x.id) x).length = nf at *
  have HFl := Lib.hid hfl
  clear hfl HDel hov hg3 hne q2 b2
  have y0 := q3.cell 0
  have y1 := q3.cell 1
  have y2 := q3.frozen 1
  simp only [List.getElem?_toArray, List.getElem?_cons_zero, List.getElem?_cons_succ] at y0 y1
  have yl := q3.lt
  have r3 := HR3.out
  have z0 := r3.cell 0
  have z1 := r3.cell 1
  have f0 := r3.frozen 0
  have f1 := r3.frozen 1
  simp only [List.getElem?_toArray, List.getElem?_cons_zero, List.getElem?_cons_succ] at z0 z1
  have zl := r3.lt
  have hne4 : w.heap.size + 1 + 1 ≠ g4 := by omega
  clear q3 r3
  go_wp2
  have hf := blk_set2 (HR3.out.far (p := ⟨g4, 1, none⟩) hne4 (.slice A3 nf c3)) (.slice A1 nh c1) (.slice A3 nf c3)
  have x0 := hf.cell 0
  have x1 := hf.cell 1
  simp only [List.getElem?_toArray, List.getElem?_cons_zero, List.getElem?_cons_succ] at x0 x1
  have hg5 := grownBy_set w3 g4 1 (.slice A3 nf c3)
  have hg6 := grown_set2 (w3.setCell ⟨g4, 1, none⟩ (.slice A3 nf c3)) (w.heap.size + 1 + 1) (.slice A1 nh c1) (.slice A3 nf c3)
  have hb := HB3.out.setCell (p := ⟨g4, 1, none⟩) (by show w.heap.size ≤ g4; omega) (.slice A3 nf c3)
  have q5 := HQ3.out.set_ 1 (.slice A3 nf c3)
  have h1 := owns_grown HH3.out hg5 (fun g hg e => own_ne HH3.out HQ3.out (by decide) (by rw [hg]; exact e.symm))
  have h2 := owns_grown HM3.out hg5 (fun g hg e => own_ne HM3.out HQ3.out (by decide) (by rw [hg]; exact e.symm))
  have r4 := HR3.out.far (p := ⟨g4, 1, none⟩) hne4 (.slice A3 nf c3)
  refine bodyPost_ret (v := .agg #[.slice A1 nh c1, .slice A3 nf c3]) (by simp [results, Tryz.results68, go_sem, x0, x1]) rfl ⟨_, _, rfl, ⟨?_, ?_⟩, below_set2 hb (by omega) _ _⟩
  · exact owns_weak (owns_grown h1 hg6 (fun g hg e => own_ne h1 r4 (by decide) (by rw [hg]; exact e.symm))) (by omega)
  · have := owns_weak (owns_grown h2 hg6 (fun g hg e => own_ne h2 r4 (by decide) (by rw [hg]; exact e.symm))) (show w.heap.size ≤ W.heap.size by omega)
    unfold dropL
    rw [← HFl.out] at this
    rw [← HFl.out]
    exact this
end Go.Proofs.YtighfmgkoepfkaaGreat

namespace Go.Proofs.YtighfmgkoepfkaaGreat
open Go.RowKit

def idsL (ms : List Mv) : List Int := sortI (ms.map Mv.id)
theorem idsL_len (ms : List Mv) : (idsL ms).length = ms.length := by unfold idsL; rw [sortI_len, List.length_map]
set_option maxRecDepth 100000 in
set_option maxHeartbeats 3200000 in
theorem ids_any (A : Option Addr) (n c : Nat) (ms : List Mv) (w : World) (h : SAt encM 5 w A n ms) (hn : n ≤ 100000) :
    Calls Tryz.prog 66 #[.slice A n c] w fun e w' => ∃ v, e = .returned v ∧ w'.ownsRow w.heap.size 3 1 v n ((idsL ms).flatMap encI) ∧ Below w.heap.size w w' := by
  have HS := Lib.hid h
  have HL := Lib.hid h.len
  obtain ⟨ii, hi0, hi1, hi2, hi3⟩ := info_parts info_int
  clear h
  go_enter Tryz.func66, Tryz.ntmps66
  go_wp2
  go_loopw [3, 8] (fun v i wx => ∃ k : Nat, k ≤ n ∧ i = .int .i64 (k : Int) ∧ wx.ownsRow w.heap.size 3 1 v k (((ms.map Mv.id).take k).flatMap encI) ∧ Below w.heap.size w wx) (fun _ i _ => n - (intOf i).toNat)
  case atStart => exact ⟨0, Nat.zero_le _, rfl, by simpa using World.ownsRow_nil _ _ _ _, Below.refl _ _⟩
  case round =>
    obtain ⟨k, hk, rfl, ow, hb⟩ := hrel
    have OW := Lib.hid ow
    have HLT := Lib.hid (fun (r : Nat) hr => own_lt (g := r) ow hr)
    obtain ⟨Ao, co, rfl⟩ := owns_slice ow
    have hVs := hb.size
    by_cases hkn : k < n
    case neg =>
      have hkk : k = n := by omega
      subst hkk
      have e1 : (ms.map Mv.id).take k = ms.map Mv.id := by rw [List.take_of_length_le]; rw [List.length_map, HL.out]; exact Nat.le_refl _
      rw [e1] at ow
      have HSo := Lib.hid (sort_any (by rw [List.length_map]; exact HL.out) ow (by omega))
      clear ow e1
      go_wp2_with fail
      refine HSo.out.mono ?_
      rintro e w4 ⟨rfl, ho4, hg4⟩
      have HO4 := Lib.hid ho4
      have HB4 := Lib.hid (hb.grown hg4 hb.size (fun r hr => (HLT.out _ hr).1))
      clear ho4 hg4
      go_wp2
      go_ret
      exact ⟨_, rfl, HO4.out, HB4.out⟩
    case pos =>
      have hkl : k < ms.length := by rw [HL.out]; exact hkn
      obtain ⟨b, off, rfl, hl⟩ := HS.out.at_ (by omega)
      have hl2 := hl.below hb
      obtain ⟨x0, x1, x2, x3, x4⟩ := Mvs.at_ hl2 (List.getElem?_eq_getElem hkl)
      have hlt := hl2.lt
      have HT := Lib.hid (show (ms.map Mv.id).take (k + 1) = (ms.map Mv.id).take k ++ [(ms[k]).id] by
        rw [List.take_succ_eq_append_getElem (by rw [List.length_map]; exact hkl), List.getElem_map])
      clear hl hl2
      generalize ms[k] = x at *
      obtain ⟨xi, xf, xt, xl, xh⟩ := x
      dsimp only at *
      have b3 := ((Below.refl wr.heap.size wr).alloc (Nat.le_refl _) (.cells #[.int .i64 xi, .int .i64 xf, .int .i64 xt, .int .i64 xl, .int .i64 xh] 59)).alloc (by simp) (.cells #[.int .i64 xi] 3)
      have HB3 := Lib.hid (hb.trans (b3.mono hb.size))
      have OW2 := Lib.hid ((ow.alloc (.cells #[.int .i64 xi, .int .i64 xf, .int .i64 xt, .int .i64 xl, .int .i64 xh] 59)).alloc (.cells #[.int .i64 xi] 3))
      clear ow
      go_wp2_with (at_builtin; go_loud (refine wpList_append_own _ rfl (.tmp 12) (.tmp 15) 42 rfl w.heap.size 3 ii (.int .i64 0) 1 8 Tryz.underlying42 hi0 hi1 hi2 hi3 rfl (by decide) _ k (((ms.map Mv.id).take k).flatMap encI) rfl OW2.out ⟨wr.heap.size + 1, 0, none⟩ 1 1 [.int .i64 xi] rfl rfl (fun j u h => by match j, h with | 0, h => (simp at h; subst h; exact (Blk.at_new (W := wr.alloc _) (g := wr.heap.size + 1) _ _ (by simp)).cell 0)) (one_intsL [xi]) (by unfold maxLen; omega) (by omega) (by simp; omega) ?_))
      intro v' w4 ho hgr _
      obtain ⟨g5, c5, rfl⟩ := ownsRow_succ ho
      have HO := Lib.hid ho
      have HB4 := Lib.hid (HB3.out.grown hgr HB3.out.size (fun r hr => by have := HLT.out _ hr; omega))
      clear ho hgr
      go_wp2
      go_roundw
      case rel => exact ⟨k + 1, by omega, by go_num, by rw [HT.out, List.flatMap_append]; exact HO.out, HB4.out⟩
      case measure => simp [intOf]; omega
/-- The first list, in the order of the search, of so many numbers of a list of which ok says so. -/
def chL (ok : List Int → Bool) : Nat → List Int → List Int → Option (List Int)
  | 0, s, _ => if ok s = true then some s else none
  | _ + 1, _, [] => none
  | m + 1, s, x :: r => match chL ok m (s ++ [x]) r with
    | some z => some z
    | none => chL ok (m + 1) s r
theorem chL_step (ok : List Int → Bool) (m : Nat) (s : List Int) {all : List Int} {k : Nat} (hk : k < all.length) :
    chL ok (m + 1) s (all.drop k) = match chL ok m (s ++ [all[k]]) (all.drop (k + 1)) with | some z => some z | none => chL ok (m + 1) s (all.drop (k + 1)) := by
  rw [List.drop_eq_getElem_cons hk, chL]
theorem TV.drop {hs : List Hd} {ms : List Mv} (h : TV hs ms) (l : List Int) : TV hs (dropL ms l) :=
  ⟨h.lenH, Nat.le_trans (List.length_filter_le _ _) h.lenM, h.hd, h.ids, fun m hm => h.mv m (List.mem_filter.1 hm).1, by
    have : ((dropL ms l).map Mv.id).Sublist (ms.map Mv.id) := (List.filter_sublist (l := ms)).map _
    exact this.nodup h.mids⟩
def okL (hs : List Hd) (ms : List Mv) (l : List Int) : Bool := agrL hs (dropL ms l)
/-- append to a slice that is full. -/
theorem loudAt_grows {P : Program} {o : Oper} {a : Act} {w : World} {R : Value → World → Prop} (s x : Operand) (t : TypeId)
    (ho : o.op = .call { callee := .builtin .append, args := #[s, x], argTypes := #[t, t] })
    (e : TypeId) (i : TypeInfo) (z : Value) (size bytes : Nat) (h1 : P.underlying t = some (.slice e)) (h2 : P.info? e = some i) (h3 : i.zero = some z) (h4 : i.size = size) (h5 : i.bytes = bytes) (h6 : z.cells.size = size) (h7 : 0 < size)
    (ao : Option Addr) (n cap : Nat) (olds : List Value) (hs : a.eval s = .slice ao n cap) (hnone : ao = none → n = 0 ∧ cap = 0) (hlo : olds.length = n * size) (holds : ∀ b, ao = some b → ∀ j u, olds[j]? = some u → w.cell? (b.add j) = some u)
    (ad : Addr) (m c : Nat) (news : List Value) (hx : a.eval x = .slice (some ad) m c) (hn : news.length = m * size) (hc : ∀ j u, news[j]? = some u → w.cell? (ad.add j) = some u) (h1c : ∀ u ∈ news, u.oneCell' = true)
    (hfull : cap < n + m) (b1 : n + m ≤ maxLen) (b2 : (n + m) * bytes ≤ 140737488355328)
    (h : ∀ v' w', w'.ownsRow w.heap.size e size v' (n + m) (olds ++ news) → w.grownBy w' none → R v' w') : loudAt P o a w R := by
  cases ao with
  | some b =>
    obtain ⟨v', w', hrun, r1, r2⟩ := run_append_arg_grows (P := P) w t o.type e i z size bytes h1 h2 h3 h4 h5 h6 h7 b n cap olds hlo (holds b rfl) ad m c news hn hc hfull b1 b2
    unfold loudAt execOp
    simp only [ho, resolve, invoke, builtin, Sem.run_bind, Sem.run_pure, Result.andThen_ok, List.map_toArray, List.map_cons, List.map_nil, hs, hx, hrun]
    exact h v' w' r1 r2
  | none =>
    obtain ⟨rfl, rfl⟩ := hnone rfl
    obtain rfl : olds = [] := List.eq_nil_of_length_eq_zero (by simpa using hlo)
    obtain ⟨v', w', hrun, r1, r2, _⟩ := run_append_own (P := P) w w.heap.size t o.type e i z size bytes h1 h2 h3 h4 h5 h6 h7 (.slice none 0 0) 0 [] (World.ownsRow_nil w _ e size) ad m c news hn hc h1c b1 b2 (Nat.le_refl _)
    unfold loudAt execOp
    simp only [ho, resolve, invoke, builtin, Sem.run_bind, Sem.run_pure, Result.andThen_ok, List.map_toArray, List.map_cons, List.map_nil, hs, hx, hrun]
    exact h v' w' r1 r2
end Go.Proofs.YtighfmgkoepfkaaGreat

namespace Go.Proofs.YtighfmgkoepfkaaGreat
open Go.RowKit

/-- What the closure finds in memory. -/
structure ChSt (t : TR) (all : List Int) (g1 g6 g5 g7 : Nat) (Aa : Option Addr) (na ca : Nat) (W : World) : Prop where
  ok : t.Ok W
  b1 : Blk W g1 25 #[.slice t.A t.n t.c, .slice t.B t.m t.d]
  b6 : ∃ A6 n6 c6, Blk W g6 42 #[.slice A6 n6 c6]
  b5 : Blk W g5 42 #[.slice Aa na ca]
  b7 : Blk W g7 129 #[.func (.func 71) #[] #[.pointer (some ⟨g1, 0, none⟩), .pointer (some ⟨g6, 0, none⟩), .pointer (some ⟨g5, 0, none⟩), .pointer (some ⟨g7, 0, none⟩)]]
  all_ : SAt encI 1 W Aa na all
theorem ChSt.below {t : TR} {all : List Int} {g1 g6 g5 g7 : Nat} {Aa : Option Addr} {na ca : Nat} {W W' : World} (h : ChSt t all g1 g6 g5 g7 Aa na ca W) (hb : Below W.heap.size W W') : ChSt t all g1 g6 g5 g7 Aa na ca W' :=
  ⟨h.ok.below hb, h.b1.below hb, let ⟨A6, n6, c6, e⟩ := h.b6; ⟨A6, n6, c6, e.below hb⟩, h.b5.below hb, h.b7.below hb, h.all_.below hb⟩
/-- What the closure brings about. -/
def ChOut (W : World) (g6 : Nat) (r : Option (List Int)) (en : Ending) (W' : World) : Prop :=
  (r = none ∧ en = .returned (.bool false) ∧ Below W.heap.size W W') ∨ (∃ z, r = some z ∧ en = .returned (.bool true) ∧ W.grownBy W' (some g6) ∧ ∃ A n c, Blk W' g6 42 #[.slice A n c] ∧ SAt encI 1 W' A n z ∧ n ≤ c ∧ n ≤ 100 ∧ ∀ a, A = some a → W.heap.size ≤ a.block)
theorem ChOut.split {W : World} {g6 : Nat} {r : Option (List Int)} {en : Ending} {W' : World} (h : ChOut W g6 r en W') : ∃ b : Bool, en = .returned (.bool b) ∧ (b = false → r = none ∧ Below W.heap.size W W') ∧ (b = true → ∃ z, r = some z ∧ W.grownBy W' (some g6) ∧ ∃ A n c, Blk W' g6 42 #[.slice A n c] ∧ SAt encI 1 W' A n z ∧ n ≤ c ∧ n ≤ 100 ∧ ∀ a, A = some a → W.heap.size ≤ a.block) := by
  rcases h with ⟨hr, rfl, hb⟩ | ⟨z, hr, rfl, h⟩
  · exact ⟨false, rfl, fun _ => ⟨hr, hb⟩, fun h => by cases h⟩
  · exact ⟨true, rfl, (fun h => by cases h), fun _ => ⟨z, hr, h⟩⟩
theorem choose_zero (t : TR) (all : List Int) (g1 g6 g5 g7 : Nat) (Aa : Option Addr) (na ca : Nat) (hv : TV t.hs t.ms) (W : World) (As : Option Addr) (k cs : Nat) (s : List Int) (from_ : Int) (h : ChSt t all g1 g6 g5 g7 Aa na ca W) (hs : SAt encI 1 W As k s) (hk : k ≤ 100) :
    Calls Tryz.prog 71 #[.slice As k cs, .int .i64 from_, .int .i64 0, .pointer (some ⟨g1, 0, none⟩), .pointer (some ⟨g6, 0, none⟩), .pointer (some ⟨g5, 0, none⟩), .pointer (some ⟨g7, 0, none⟩)] W (ChOut W g6 (chL (okL t.hs t.ms) 0 s all)) := by
  have hn9 : t.n ≤ 9 := by rw [← h.ok.h.len]; exact hv.lenH
  have hm24 : t.m ≤ 24 := by rw [← h.ok.m.len]; exact hv.lenM
  have HW := Lib.hid (without_any t As k cs s W h.ok (by omega) (by omega) hs (by omega))
  have HSt := Lib.hid h
  have HS := Lib.hid hs
  have HV := Lib.hid hv
  have y0 := h.b1.cell 0
  have y1 := h.b1.cell 1
  simp only [List.getElem?_toArray, List.getElem?_cons_zero, List.getElem?_cons_succ] at y0 y1
  have yl := h.b1.lt
  obtain ⟨A, n, c, B, m, d, hss, ms⟩ := t
  dsimp only [TR.v] at *
  have HOk := Lib.hid (show okL hss ms s = agrL hss (dropL ms s) from rfl)
  clear h hs hv
  go_enter Tryz.func71, Tryz.ntmps71
  go_wp2_with fail
  refine HW.out.mono ?_
  rintro e w1 ⟨v1, v2, rfl, ho, hb1⟩
  obtain ⟨t', ht', hok', hh', hm'⟩ := ho.ok (by have := HV.out.lenH; omega) (by have := (HV.out.drop s).lenM; omega)
  have HAg := Lib.hid (agrees_any t' w1 hok' (by rw [hh', hm']; exact HV.out.drop s))
  rw [ht', hh', hm'] at HAg
  have HB1 := Lib.hid hb1
  clear ho ht' hok' hh' hm' hb1 HW
  go_wp2_with fail
  refine HAg.out.mono ?_
  rintro e w2 ⟨rfl, hb2⟩
  have HB2 := Lib.hid (HB1.out.trans (hb2.mono HB1.out.size))
  generalize hq : agrL hss (dropL ms s) = q at *
  have HQ := Lib.hid (show okL hss ms s = q from HOk.out)
  clear hq HAg hb2
  cases q with
  | false =>
    go_wp2
    go_ret
    exact .inl ⟨by rw [chL, HQ.out]; rfl, rfl, HB2.out⟩
  | true =>
    have HCl := Lib.hid (cloneI_any As k cs s w2 (HS.out.below HB2.out) (by omega))
    go_wp2_with fail
    refine HCl.out.mono ?_
    rintro e w3 ⟨v3, rfl, ho3, hb3⟩
    obtain ⟨A3, c3, e3, hs3, hf3, hc3⟩ := SAt_of_row encI_len HS.out.len ho3
    subst e3
    obtain ⟨A6, n6, c6, hb6⟩ := HSt.out.b6
    have h6 := (hb6.below HB2.out).below hb3
    have HB3 := Lib.hid (HB2.out.trans (hb3.mono HB2.out.size))
    have H6 := Lib.hid h6
    have z0 := h6.cell 0
    have f0 := h6.frozen 0
    simp only [List.getElem?_toArray, List.getElem?_cons_zero] at z0
    have zl := h6.lt
    have hg6 := hb6.lt
    have HS3 := Lib.hid hs3
    have HF3 := Lib.hid hf3
    have hBs := HB2.out.size
    clear h6 hb6 ho3 hb3 hs3 hf3 HCl
    go_wp2
    go_ret
    refine .inr ⟨s, by rw [chL, HQ.out]; rfl, rfl, grown_trans (below_grown HB3.out) (grownBy_set _ _ _ _), A3, k, c3, by simpa using H6.out.set_ 0 (.slice A3 k c3), HS3.out.grown (grownBy_set _ _ _ _) (fun a ha e => by have e2 : g6 = a.block := Option.some.inj e; have := HF3.out a ha; omega), hc3, hk, fun a ha => by have := HF3.out a ha; omega⟩
set_option maxRecDepth 100000 in
set_option maxHeartbeats 3200000 in
theorem choose_any (t : TR) (all : List Int) (g1 g6 g5 g7 : Nat) (Aa : Option Addr) (na ca : Nat) (hv : TV t.hs t.ms) (hna : na ≤ 100) : ∀ (m : Nat) (W : World) (As : Option Addr) (k cs : Nat) (s : List Int) (from_ : Nat) (_ : ChSt t all g1 g6 g5 g7 Aa na ca W) (_ : SAt encI 1 W As k s) (_ : k + m ≤ 100) (_ : k ≤ cs) (_ : As = none → k = 0 ∧ cs = 0) (_ : from_ ≤ na),
    Calls Tryz.prog 71 #[.slice As k cs, .int .i64 (from_ : Int), .int .i64 (m : Int), .pointer (some ⟨g1, 0, none⟩), .pointer (some ⟨g6, 0, none⟩), .pointer (some ⟨g5, 0, none⟩), .pointer (some ⟨g7, 0, none⟩)] W (ChOut W g6 (chL (okL t.hs t.ms) m s (all.drop from_))) := by
  intro m
  induction m with
  | zero =>
    intro W As k cs s f h hs hk _ _ _
    have := choose_zero t all g1 g6 g5 g7 Aa na ca hv W As k cs s (f : Int) h hs (by omega)
    simp only [chL] at this ⊢
    exact this
  | succ m ih =>
    intro w As k cs s f h hs hk hkc hno hf
    have HSt := Lib.hid h
    have HS := Lib.hid hs
    have HIH := Lib.hid ih
    have HNo := Lib.hid hno
    have HLs := Lib.hid hs.len
    have HLa := Lib.hid h.all_.len
    obtain ⟨ii, hi0, hi1, hi2, hi3⟩ := info_parts info_int
    generalize hok : okL t.hs t.ms = ok at *
    have HM : ((m + 1 : Nat) : Int) = (m : Int) + 1 := by omega
    rw [HM]
    have hm0 : ((m : Int) + 1 == 0) = false := by rw [beq_eq_false_iff_ne]; omega
    clear h hs ih hno hok HM
    go_enter Tryz.func71, Tryz.ntmps71
    go_wp2
    go_loopw [11] (fun i wx => ∃ j : Nat, j ≤ na ∧ i = .int .i64 (j : Int) ∧ chL ok (m + 1) s (all.drop f) = chL ok (m + 1) s (all.drop j) ∧ Below w.heap.size w wx) (fun i _ => na - (intOf i).toNat)
    case atStart => exact ⟨f, hf, rfl, rfl, Below.refl _ _⟩
    case round =>
      obtain ⟨j, hj, rfl, hch, hb⟩ := hrel
      have HCh := Lib.hid hch
      have HB := Lib.hid hb
      have st := HSt.out.below hb
      have HStr := Lib.hid st
      have u0 := st.b5.cell 0
      have v0 := st.b7.cell 0
      simp only [List.getElem?_toArray, List.getElem?_cons_zero] at u0 v0
      have ul := st.b5.lt
      have vl := st.b7.lt
      clear hch hb st
      by_cases hjn : j < na
      case neg =>
        have hjj : j = na := by omega
        subst hjj
        go_wp2
        go_ret
        refine .inl ⟨?_, rfl, HB.out⟩
        rw [HCh.out, List.drop_of_length_le (by rw [HLa.out]; exact Nat.le_refl _), chL]
      case pos =>
        have hjl : j < all.length := by rw [HLa.out]; exact hjn
        obtain ⟨bx, ofx, hAe, hlx⟩ := HStr.out.all_.at_ (by omega)
        subst hAe
        have HLx := Lib.hid hlx
        have c0 := hlx.c j _ (List.getElem?_eq_getElem hjl) 0 _ rfl
        have cl := hlx.lt
        have HSt2 := Lib.hid (chL_step ok m s hjl)
        clear hlx
        obtain ⟨x, hx⟩ : ∃ x, x = all[j] := ⟨_, rfl⟩
        have HX := Lib.hid hx.symm
        rw [← hx] at c0
        clear hx
        have hkl : k ≤ cs := hkc
        rcases As with _ | A1
        case none =>
          obtain ⟨hk0, hc0⟩ := HNo.out rfl
          subst hk0
          subst hc0
          go_upto_region 9 with fail
          refine wp_region_preC 17 [(11, 38), (12, 39)] (fun v => Below w.heap.size w v) (fun ls vs v => (ls 11 = true → ∃ g, vs 11 = .slice (some ⟨g, 0, none⟩) 1 1 ∧ Blk v g 3 #[.int .i64 x]) ∧ (ls 12 = true → v.ownsRow w.heap.size 3 1 (vs 12) 1 ((s ++ [x]).flatMap encI))) (by kernel_rfl) (by kernel_rfl) HB.out (fun v v' h k => h.trans (k.mono h.size)) (fun v _ => ⟨fun h => (by cases h), fun h => (by cases h)⟩) (fun ls vs v v' _ h kk => ⟨fun hl => (let ⟨g, e, b⟩ := h.1 hl; ⟨g, e, b.below kk⟩), fun hl => owns_below (h.2 hl) kk⟩) ?_
          apply Exists.intro
          refine ⟨?walk, ?loud, ?last⟩
          case walk =>
            intro V hV
            have st := HSt.out.below hV
            have y5 := st.b5.cell 0
            have y7 := st.b7.cell 0
            simp only [List.getElem?_toArray, List.getElem?_cons_zero] at y5 y7
            have y5l := st.b5.lt
            have y7l := st.b7.lt
            obtain ⟨by5, of5, e5, hl5⟩ := st.all_.at_ (by omega)
            obtain ⟨rfl⟩ := Option.some.inj e5
            have z0 := hl5.c j _ (List.getElem?_eq_getElem hjl) 0 _ rfl
            have zl := hl5.lt
            rw [Nat.mul_one, Nat.add_zero, HX.out] at z0
            clear hl5 st
            obtain ⟨xc, xf⟩ := xcell (W := V)
            simp only [List.take_succ_cons, List.take_zero, qOf, isLoud, List.any_cons, List.any_nil, Nat.reduceBEq, Bool.or_false, Bool.or_true, Nat.reduceAdd, Bool.false_eq_true, if_true, if_false, beq_self_eq_true, Nat.zero_add]
            repeat (first | go_big_quiet_step (fail) | quiet_step (fail))
            exact wpQuiet_nil rfl
          case loud =>
            rintro pp hpp vs v hC ls hI hls hw o ho
            simp only [List.mem_cons, List.not_mem_nil, or_false] at hpp
            rcases hpp with rfl | rfl
            · have u2 : updB ls 11 12 = ls 12 := by simp [updB]
              simp only [List.getElem?_cons_succ, List.getElem?_cons_zero, Option.some.injEq] at ho
              subst ho
              simp [loudAt, loudUpon, go_sem, execOp, putsL, Act.put]
              refine ⟨hC.alloc hC.size _, fun _ => ⟨v.heap.size, by simp [upd], Blk.new _ _ _⟩, fun h6 => ?_⟩
              rw [u2] at h6
              have := (hI.2 h6).alloc (.cells #[.int .i64 x] 3)
              simpa [upd] using this
            · have u2 : updB ls 12 11 = ls 11 := by simp [updB]
              have h9 := hw (11, 38) (by simp) (by kernel_rfl)
              obtain ⟨g, eg, hbk⟩ := hI.1 h9
              simp only [List.getElem?_cons_succ, List.getElem?_cons_zero, Option.some.injEq] at ho
              subst ho
              refine loudAt_grows (.tmp 33) (.tmp 38) 42 rfl 3 ii (.int .i64 0) 1 8 Tryz.underlying42 hi0 hi1 hi2 hi3 rfl (by decide) none 0 0 (s.flatMap encI) rfl ?k1 ?k2 ?k3 ⟨g, 0, none⟩ 1 1 [.int .i64 x] eg rfl ?k4 ?k5 (by omega) (by unfold maxLen; omega) (by omega) ?_
              case k1 => exact fun _ => ⟨rfl, rfl⟩
              case k2 => rw [flat_len encI_len, HS.out.len, Nat.mul_one]
              case k3 => exact fun b hb => by cases hb
              case k4 =>
                intro j' u hj'
                match j', hj' with
                | 0, hj' => simp at hj'; subst hj'; simpa [Addr.add] using hbk.cell 0
              case k5 => exact one_intsL [x]
              intro v' w2 hown hgrow
              refine ⟨hC.trans (((Below.refl v.heap.size v).grown hgrow (Nat.le_refl _) (fun r hr => by cases hr)).mono hC.size), fun h6 => ?_, fun _ => ?_⟩
              · rw [u2] at h6
                obtain ⟨g', eg', hb'⟩ := hI.1 h6
                exact ⟨g', by simpa [upd] using eg', hb'.below ((Below.refl v.heap.size v).grown hgrow (Nat.le_refl _) (fun r hr => by cases hr))⟩
              · have := owns_weak hown (B' := w.heap.size) hC.size
                rw [List.flatMap_append]
                simpa [upd, encI] using this
          case last =>
            rintro ls vs V hV hI hls
            have h2 := hI.2 (hls (12, 39) (by simp))
            have HN := Lib.hid h2
            obtain ⟨A5, c5, e5, hs5, hf5, hc5⟩ := SAt_of_row encI_len (by rw [List.length_append, HS.out.len]; rfl) h2
            have hA5 : A5 ≠ none := by (obtain ⟨g, c, e⟩ := ownsRow_succ h2; rw [e] at e5; rintro rfl; cases e5)
            have HS5 := Lib.hid hs5
            have HF5 := Lib.hid hf5
            have HV5 := Lib.hid hV
            have st := HSt.out.below hV
            have HCa := Lib.hid (HIH.out V A5 1 c5 (s ++ [x]) (j + 1) st hs5 (by omega) hc5 (fun h => absurd h hA5) (by omega))
            clear h2 hI hls st hs5 hf5 hV
            rw [show ((j + 1 : Nat) : Int) = (j : Int) + 1 by omega] at HCa
            simp only [List.drop_succ_cons, List.drop_zero]
            simp only [putsL, List.foldl_cons, List.foldl_nil, Act.put, List.setIfInBounds_toArray, List.set_cons_succ, List.set_cons_zero]
            generalize vs 12 = v7 at *
            generalize vs 11 = v6 at *
            subst e5
            go_wp2_with fail
            refine HCa.out.mono ?_
            rintro e W5 hX5
            obtain ⟨b, rfl, h5b⟩ := hX5.split
            have H5 := Lib.hid h5b
            clear hX5 h5b
            cases b
            · have hr := (H5.out.1 rfl).1
              have hb5 := (H5.out.1 rfl).2
              have HB5 := Lib.hid (HV5.out.trans (hb5.mono HV5.out.size))
              go_wp2
              go_roundw
              case rel => exact ⟨j + 1, by omega, by go_num, by rw [HCh.out, HSt2.out, HX.out, hr], HB5.out⟩
              case measure => simp [intOf]; omega
            · obtain ⟨z, hr, hg5, A6, n6, c6, ho6, hs6, hn6, hm6, hf6⟩ := H5.out.2 rfl
              go_wp2
              go_ret
              exact .inr ⟨z, by rw [HCh.out, HSt2.out, HX.out, hr], rfl, grown_trans (below_grown HV5.out) hg5, A6, n6, c6, ho6, hs6, hn6, hm6, fun a h => Nat.le_trans HV5.out.size (hf6 a h)⟩
        case some =>
          go_upto_region 9 with fail
          refine wp_region_preC 17 [(11, 38), (12, 39)] (fun v => Below w.heap.size w v) (fun ls vs v => (ls 11 = true → ∃ g, vs 11 = .slice (some ⟨g, 0, none⟩) 1 1 ∧ Blk v g 3 #[.int .i64 x]) ∧ (ls 12 = true → v.ownsRow w.heap.size 3 1 (vs 12) (k + 1) ((s ++ [x]).flatMap encI))) (by kernel_rfl) (by kernel_rfl) HB.out (fun v v' h k => h.trans (k.mono h.size)) (fun v _ => ⟨fun h => (by cases h), fun h => (by cases h)⟩) (fun ls vs v v' _ h kk => ⟨fun hl => (let ⟨g, e, b⟩ := h.1 hl; ⟨g, e, b.below kk⟩), fun hl => owns_below (h.2 hl) kk⟩) ?_
          apply Exists.intro
          refine ⟨?walk, ?loud, ?last⟩
          case walk =>
            intro V hV
            have st := HSt.out.below hV
            have y5 := st.b5.cell 0
            have y7 := st.b7.cell 0
            simp only [List.getElem?_toArray, List.getElem?_cons_zero] at y5 y7
            have y5l := st.b5.lt
            have y7l := st.b7.lt
            obtain ⟨by5, of5, e5, hl5⟩ := st.all_.at_ (by omega)
            obtain ⟨rfl⟩ := Option.some.inj e5
            have z0 := hl5.c j _ (List.getElem?_eq_getElem hjl) 0 _ rfl
            have zl := hl5.lt
            rw [Nat.mul_one, Nat.add_zero, HX.out] at z0
            clear hl5 st
            obtain ⟨xc, xf⟩ := xcell (W := V)
            simp only [List.take_succ_cons, List.take_zero, qOf, isLoud, List.any_cons, List.any_nil, Nat.reduceBEq, Bool.or_false, Bool.or_true, Nat.reduceAdd, Bool.false_eq_true, if_true, if_false, beq_self_eq_true, Nat.zero_add]
            repeat (first | go_big_quiet_step (fail) | quiet_step (fail))
            exact wpQuiet_nil rfl
          case loud =>
            rintro pp hpp vs v hC ls hI hls hw o ho
            simp only [List.mem_cons, List.not_mem_nil, or_false] at hpp
            rcases hpp with rfl | rfl
            · have u2 : updB ls 11 12 = ls 12 := by simp [updB]
              simp only [List.getElem?_cons_succ, List.getElem?_cons_zero, Option.some.injEq] at ho
              subst ho
              simp [loudAt, loudUpon, go_sem, execOp, putsL, Act.put]
              refine ⟨hC.alloc hC.size _, fun _ => ⟨v.heap.size, by simp [upd], Blk.new _ _ _⟩, fun h6 => ?_⟩
              rw [u2] at h6
              have := (hI.2 h6).alloc (.cells #[.int .i64 x] 3)
              simpa [upd] using this
            · have u2 : updB ls 12 11 = ls 11 := by simp [updB]
              have h9 := hw (11, 38) (by simp) (by kernel_rfl)
              obtain ⟨g, eg, hbk⟩ := hI.1 h9
              simp only [List.getElem?_cons_succ, List.getElem?_cons_zero, Option.some.injEq] at ho
              subst ho
              refine loudAt_grows (.tmp 33) (.tmp 38) 42 rfl 3 ii (.int .i64 0) 1 8 Tryz.underlying42 hi0 hi1 hi2 hi3 rfl (by decide) (some A1) k k (s.flatMap encI) rfl ?k1 ?k2 ?k3 ⟨g, 0, none⟩ 1 1 [.int .i64 x] eg rfl ?k4 ?k5 (by omega) (by unfold maxLen; omega) (by omega) ?_
              case k1 => exact fun h => by cases h
              case k2 => rw [flat_len encI_len, HS.out.len, Nat.mul_one]
              case k3 => intro b hb j' u hj'; obtain rfl := Option.some.inj hb; exact (HS.out.below hC).flat encI_len (by decide) j' u hj'
              case k4 =>
                intro j' u hj'
                match j', hj' with
                | 0, hj' => simp at hj'; subst hj'; simpa [Addr.add] using hbk.cell 0
              case k5 => exact one_intsL [x]
              intro v' w2 hown hgrow
              refine ⟨hC.trans (((Below.refl v.heap.size v).grown hgrow (Nat.le_refl _) (fun r hr => by cases hr)).mono hC.size), fun h6 => ?_, fun _ => ?_⟩
              · rw [u2] at h6
                obtain ⟨g', eg', hb'⟩ := hI.1 h6
                exact ⟨g', by simpa [upd] using eg', hb'.below ((Below.refl v.heap.size v).grown hgrow (Nat.le_refl _) (fun r hr => by cases hr))⟩
              · have := owns_weak hown (B' := w.heap.size) hC.size
                rw [List.flatMap_append]
                simpa [upd, encI] using this
          case last =>
            rintro ls vs V hV hI hls
            have h2 := hI.2 (hls (12, 39) (by simp))
            have HN := Lib.hid h2
            obtain ⟨A5, c5, e5, hs5, hf5, hc5⟩ := SAt_of_row encI_len (by rw [List.length_append, HS.out.len]; rfl) h2
            have hA5 : A5 ≠ none := by (obtain ⟨g, c, e⟩ := ownsRow_succ h2; rw [e] at e5; rintro rfl; cases e5)
            have HS5 := Lib.hid hs5
            have HF5 := Lib.hid hf5
            have HV5 := Lib.hid hV
            have st := HSt.out.below hV
            have HCa := Lib.hid (HIH.out V A5 (k + 1) c5 (s ++ [x]) (j + 1) st hs5 (by omega) hc5 (fun h => absurd h hA5) (by omega))
            clear h2 hI hls st hs5 hf5 hV
            rw [show ((j + 1 : Nat) : Int) = (j : Int) + 1 by omega] at HCa
            simp only [List.drop_succ_cons, List.drop_zero]
            simp only [putsL, List.foldl_cons, List.foldl_nil, Act.put, List.setIfInBounds_toArray, List.set_cons_succ, List.set_cons_zero]
            generalize vs 12 = v7 at *
            generalize vs 11 = v6 at *
            subst e5
            go_wp2_with fail
            refine HCa.out.mono ?_
            rintro e W5 hX5
            obtain ⟨b, rfl, h5b⟩ := hX5.split
            have H5 := Lib.hid h5b
            clear hX5 h5b
            cases b
            · have hr := (H5.out.1 rfl).1
              have hb5 := (H5.out.1 rfl).2
              have HB5 := Lib.hid (HV5.out.trans (hb5.mono HV5.out.size))
              go_wp2
              go_roundw
              case rel => exact ⟨j + 1, by omega, by go_num, by rw [HCh.out, HSt2.out, HX.out, hr], HB5.out⟩
              case measure => simp [intOf]; omega
            · obtain ⟨z, hr, hg5, A6, n6, c6, ho6, hs6, hn6, hm6, hf6⟩ := H5.out.2 rfl
              go_wp2
              go_ret
              exact .inr ⟨z, by rw [HCh.out, HSt2.out, HX.out, hr], rfl, grown_trans (below_grown HV5.out) hg5, A6, n6, c6, ho6, hs6, hn6, hm6, fun a h => Nat.le_trans HV5.out.size (hf6 a h)⟩
end Go.Proofs.YtighfmgkoepfkaaGreat

namespace Go.Proofs.YtighfmgkoepfkaaGreat
open Go.RowKit

/-- The first of so many sizes at which the search finds something. -/
def fewGo (ok : List Int → Bool) (all : List Int) : Nat → Nat → Option (List Int)
  | 0, _ => none
  | r + 1, k => match chL ok k [] all with
    | some z => some z
    | none => fewGo ok all r (k + 1)
def fewL (ok : List Int → Bool) (all : List Int) : Option (List Int) := fewGo ok all (all.length + 1) 0
def FwOut (w : World) (hs : List Hd) (ms : List Mv) (en : Ending) (w' : World) : Prop :=
  Below w.heap.size w w' ∧ ((tcheck hs ms ≠ 0 ∧ en = .returned (.tuple #[.slice none 0 0, .int .i64 (tcheck hs ms)])) ∨ (tcheck hs ms = 0 ∧ ((10 < ms.length ∧ en = .returned (.tuple #[.slice none 0 0, .int .i64 2])) ∨
    (ms.length ≤ 10 ∧ fewL (okL hs ms) (idsL ms) = none ∧ en = .returned (.tuple #[.slice none 0 0, .int .i64 5])) ∨
    (ms.length ≤ 10 ∧ ∃ z A n c, fewL (okL hs ms) (idsL ms) = some z ∧ en = .returned (.tuple #[.slice A n c, .int .i64 0]) ∧ SAt encI 1 w' A n z ∧ n ≤ c ∧ n ≤ 100 ∧ ∀ a, A = some a → w.heap.size ≤ a.block))))
set_option maxRecDepth 100000 in
set_option maxHeartbeats 3200000 in
theorem Fewest_any (t : TR) (w : World) (h : t.Ok w) : Calls Tryz.prog 22 #[t.v] w (FwOut w t.hs t.ms) := by
  have hb0 := (Below.refl w.heap.size w).alloc (Nat.le_refl _) (.cells #[.slice t.A t.n t.c, .slice t.B t.m t.d] 25)
  have HCk := Lib.hid (Check_any t _ (h.below hb0))
  obtain ⟨A, n, c, B, m, d, hs, ms⟩ := t
  dsimp only [TR.v] at *
  have t0 := Blk.new w 25 #[.slice A n c, .slice B m d]
  have HOk := Lib.hid h
  clear h
  generalize hck : tcheck hs ms = ck at *
  have HTc := Lib.hid hck
  clear hck
  go_enter Tryz.func22, Tryz.ntmps22
  generalize hW : w.alloc (.cells #[.slice A n c, .slice B m d] 25) = W at *
  have HWE := Lib.hid hW
  clear hW
  go_wp2_with fail
  rw [HWE.out]
  refine HCk.out.mono ?_; rintro e w1 ⟨rfl, hb1⟩
  have b1 := hb0.trans (hb1.mono hb0.size)
  have t1 := t0.below hb1
  have HT1 := Lib.hid t1
  have HB1 := Lib.hid b1
  clear HCk hb0 hb1 t0 HWE
  have y0 := t1.cell 0
  have y1 := t1.cell 1
  simp only [List.getElem?_toArray, List.getElem?_cons_zero, List.getElem?_cons_succ] at y0 y1
  have l0 := t1.lt
  clear t1 b1
  by_cases hz : ck = 0
  case neg =>
    have hz1 : (ck != 0) = true := by simpa using hz
    go_wp2
    exact bodyPost_ret (v := .tuple #[.slice none 0 0, .int .i64 ck]) (by simp [results, Tryz.results22, go_sem]) rfl ⟨HB1.out, .inl ⟨by rw [HTc.out]; exact hz, by rw [HTc.out]⟩⟩
  case pos =>
    subst hz
    have HV := Lib.hid (tcheck_zero.1 HTc.out)
    have HLm := Lib.hid HOk.out.m.len
    have hm24 : m ≤ 24 := by have := HV.out.lenM; have := HLm.out; dsimp only at *; omega
    have HI := Lib.hid (ids_any B m d ms w1 (HOk.out.m.below HB1.out) (by omega))
    go_wp2_with fail
    refine HI.out.mono ?_; rintro e w2 ⟨v2, rfl, ho2, hb2⟩
    obtain ⟨A2, c2, e2, hs2, hf2, hc2⟩ := SAt_of_row encI_len (by rw [idsL_len, HLm.out]) ho2
    subst e2
    have HB2 := Lib.hid (HB1.out.trans (hb2.mono HB1.out.size))
    have HT2 := Lib.hid (HT1.out.below hb2)
    have HS2 := Lib.hid hs2
    have hw2 := HB2.out.size
    have l2 := HT2.out.lt
    have hw12 := HB1.out.size
    clear HI hb2 ho2 hs2 hf2 y0 y1 l0
    by_cases h10 : 10 < m
    case pos =>
      have h10' : ((10 : Int) < (m : Int)) = true := by simp; omega
      go_wp2
      exact bodyPost_ret (v := .tuple #[.slice none 0 0, .int .i64 2]) (by simp [results, Tryz.results22, go_sem]) rfl ⟨HB2.out.alloc (by omega) _, .inr ⟨HTc.out, .inl ⟨by rw [HLm.out]; exact h10, rfl⟩⟩⟩
    case neg =>
      go_upto_region 9 with fail
      have q5 := ((Blk.new w2 42 #[.slice A2 m c2]).alloc (.cells #[.slice none 0 0] 42)).alloc (.cells #[.nilFunc] 129)
      have q6 := (Blk.at_new (W := w2.alloc (.cells #[.slice A2 m c2] 42)) (g := w2.heap.size + 1) 42 #[.slice none 0 0] (by simp)).alloc (.cells #[.nilFunc] 129)
      have q7 := Blk.at_new (W := (w2.alloc (.cells #[.slice A2 m c2] 42)).alloc (.cells #[.slice none 0 0] 42)) (g := w2.heap.size + 1 + 1) 129 #[.nilFunc] (by simp)
      have b3 := (((Below.refl w2.heap.size w2).alloc (Nat.le_refl _) (.cells #[.slice A2 m c2] 42)).alloc (by simp) (.cells #[.slice none 0 0] 42)).alloc (by simp; omega) (.cells #[.nilFunc] 129)
      generalize hV : ((w2.alloc (.cells #[.slice A2 m c2] 42)).alloc (.cells #[.slice none 0 0] 42)).alloc (.cells #[.nilFunc] 129) = V at *
      clear hV
      have hsf := fun (a : Addr) (c : Array Value) (w : World) => run_store Tryz.prog w a (.func (.func 71) #[] c) .plain rfl
      have q7' := q7.set_ 0 (.func (.func 71) #[] #[.pointer (some ⟨w.heap.size, 0, none⟩), .pointer (some ⟨w2.heap.size + 1, 0, none⟩), .pointer (some ⟨w2.heap.size, 0, none⟩), .pointer (some ⟨w2.heap.size + 1 + 1, 0, none⟩)])
      have z0 := q7.cell 0
      have f0 := q7.frozen 0
      simp only [List.getElem?_toArray, List.getElem?_cons_zero] at z0
      have zl := q7.lt
      go_upto_region 10 with fail
      have b4 := (Below.refl w2.heap.size w2).trans b3
      have b5 := b4.setCell (p := ⟨w2.heap.size + 1 + 1, 0, none⟩) (by simp; omega) (.func (.func 71) #[] #[.pointer (some ⟨w.heap.size, 0, none⟩), .pointer (some ⟨w2.heap.size + 1, 0, none⟩), .pointer (some ⟨w2.heap.size, 0, none⟩), .pointer (some ⟨w2.heap.size + 1 + 1, 0, none⟩)])
      have q5' := q5.far (p := ⟨w2.heap.size + 1 + 1, 0, none⟩) (by simp; omega) (.func (.func 71) #[] #[.pointer (some ⟨w.heap.size, 0, none⟩), .pointer (some ⟨w2.heap.size + 1, 0, none⟩), .pointer (some ⟨w2.heap.size, 0, none⟩), .pointer (some ⟨w2.heap.size + 1 + 1, 0, none⟩)])
      have q6' := q6.far (p := ⟨w2.heap.size + 1 + 1, 0, none⟩) (by simp) (.func (.func 71) #[] #[.pointer (some ⟨w.heap.size, 0, none⟩), .pointer (some ⟨w2.heap.size + 1, 0, none⟩), .pointer (some ⟨w2.heap.size, 0, none⟩), .pointer (some ⟨w2.heap.size + 1 + 1, 0, none⟩)])
      have q7'' := (show Blk (V.setCell ⟨w2.heap.size + 1 + 1, 0, none⟩ _) (w2.heap.size + 1 + 1) 129 #[.func (.func 71) #[] #[.pointer (some ⟨w.heap.size, 0, none⟩), .pointer (some ⟨w2.heap.size + 1, 0, none⟩), .pointer (some ⟨w2.heap.size, 0, none⟩), .pointer (some ⟨w2.heap.size + 1 + 1, 0, none⟩)]] by simpa using q7')
      clear hsf q5 q6 q7 q7' z0 f0 zl b3 b4
      generalize hV2 : V.setCell ⟨w2.heap.size + 1 + 1, 0, none⟩ (.func (.func 71) #[] #[.pointer (some ⟨w.heap.size, 0, none⟩), .pointer (some ⟨w2.heap.size + 1, 0, none⟩), .pointer (some ⟨w2.heap.size, 0, none⟩), .pointer (some ⟨w2.heap.size + 1 + 1, 0, none⟩)]) = V2 at *
      clear hV2
      have hst : ChSt ⟨A, n, c, B, m, d, hs, ms⟩ (idsL ms) w.heap.size (w2.heap.size + 1) w2.heap.size (w2.heap.size + 1 + 1) A2 m c2 V2 :=
        ⟨HOk.out.below (HB2.out.trans (b5.mono HB2.out.size)), HT2.out.below b5, ⟨none, 0, 0, q6'⟩, q5', q7'', HS2.out.below b5⟩
      have HSt := Lib.hid hst
      have HB5 := Lib.hid b5
      have y5 := hst.b5.cell 0
      simp only [List.getElem?_toArray, List.getElem?_cons_zero] at y5
      have y5l := hst.b5.lt
      have HF0 := Lib.hid (show fewL (okL hs ms) (idsL ms) = fewGo (okL hs ms) (idsL ms) (m + 1 - 0) 0 by unfold fewL; rw [idsL_len, HLm.out]; rfl)
      clear hst b5 q5' q6' q7''
      go_wp2
      go_loopw [8, 24] (fun _ i wx => ∃ j : Nat, j ≤ m + 1 ∧ i = .int .i64 (j : Int) ∧ fewL (okL hs ms) (idsL ms) = fewGo (okL hs ms) (idsL ms) (m + 1 - j) j ∧ Below V2.heap.size V2 wx) (fun _ i _ => m + 1 - (intOf i).toNat)
      case atStart => exact ⟨0, by omega, rfl, HF0.out, Below.refl _ _⟩
      case round =>
        obtain ⟨j, hj, rfl, hfw, hb⟩ := hrel
        have HFw := Lib.hid hfw
        have HBV := Lib.hid hb
        have HB := Lib.hid (HB5.out.trans (hb.mono HB5.out.size))
        have hst := HSt.out.below hb
        have z7 := hst.b7.cell 0
        simp only [List.getElem?_toArray, List.getElem?_cons_zero] at z7
        have z7l := hst.b7.lt
        have HCa := Lib.hid (choose_any ⟨A, n, c, B, m, d, hs, ms⟩ (idsL ms) w.heap.size (w2.heap.size + 1) w2.heap.size (w2.heap.size + 1 + 1) A2 m c2 HV.out (by omega) j wr none 0 0 [] 0 hst (SAt.nil _ _ _ _) (by omega) (Nat.le_refl _) (fun _ => ⟨rfl, rfl⟩) (Nat.zero_le _))
        clear hfw hb hst
        by_cases hjm : j < m + 1
        case neg =>
          have hjj : j = m + 1 := by omega
          subst hjj
          go_wp2
          exact bodyPost_ret (v := .tuple #[.slice none 0 0, .int .i64 5]) (by simp [results, Tryz.results22, go_sem]) rfl ⟨HB2.out.trans (HB.out.mono HB2.out.size), .inr ⟨HTc.out, .inr (.inl ⟨by rw [HLm.out]; show m ≤ 10; omega, by rw [HFw.out, Nat.sub_self]; rfl, rfl⟩)⟩⟩
        case pos =>
          go_wp2_with fail
          refine HCa.out.mono ?_
          rintro e W5 hX5
          obtain ⟨b, rfl, h5b⟩ := hX5.split
          have H5 := Lib.hid h5b
          clear hX5 h5b
          have HSu := Lib.hid (show m + 1 - j = (m + 1 - (j + 1)) + 1 by omega)
          cases b
          · have hr := (H5.out.1 rfl).1
            have HB6 := Lib.hid (H5.out.1 rfl).2
            go_wp2
            go_roundw
            case rel =>
              refine ⟨j + 1, by omega, by go_num, ?_, ?_⟩
              · rw [HFw.out, HSu.out, fewGo, show chL (okL hs ms) j [] (idsL ms) = none from hr]
              · exact HBV.out.trans (HB6.out.mono HBV.out.size)
            case measure => simp [intOf]; omega
          · obtain ⟨z, hr, hg5, A6, n6, c6, ho6, hs6, hn6, hm6, hf6⟩ := H5.out.2 rfl
            have z6 := ho6.cell 0
            simp only [List.getElem?_toArray, List.getElem?_cons_zero] at z6
            have z6l := ho6.lt
            have HS6 := Lib.hid hs6
            have HG5 := Lib.hid hg5
            clear hs6 hg5 ho6
            go_wp2
            exact bodyPost_ret (v := .tuple #[.slice A6 n6 c6, .int .i64 0]) (by simp [results, Tryz.results22, go_sem]) rfl ⟨HB2.out.trans ((HB.out.grown HG5.out HB.out.size (fun r hr => by cases hr; omega)).mono HB2.out.size), .inr ⟨HTc.out, .inr (.inr ⟨by rw [HLm.out]; show m ≤ 10; omega, z, A6, n6, c6, by rw [HFw.out, HSu.out, fewGo, show chL (okL hs ms) j [] (idsL ms) = some z from hr], rfl, HS6.out, hn6, hm6, fun a ha => by have := hf6 a ha; have := HB.out.size; omega⟩)⟩⟩
end Go.Proofs.YtighfmgkoepfkaaGreat
