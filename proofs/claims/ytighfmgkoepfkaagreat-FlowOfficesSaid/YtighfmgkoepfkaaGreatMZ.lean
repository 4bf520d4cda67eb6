/- Narrowed, Spans, Gaps. -/
import Derived.Test.YtighfmgkoepfkaaGreatMV
namespace Go.Proofs.YtighfmgkoepfkaaGreat
open Go.RowKit

/-- A trade in rows of one's own, from block L on. -/
structure OwnT (w : World) (L : Nat) (v1 v2 : Value) (hs : List Hd) (ms : List Mv) : Prop where
  h : w.ownsRow L 118 6 v1 hs.length (hs.flatMap encH)
  m : w.ownsRow L 59 5 v2 ms.length (ms.flatMap encM)
theorem OwnT.below {w w' : World} {L : Nat} {v1 v2 : Value} {hs : List Hd} {ms : List Mv} (h : OwnT w L v1 v2 hs ms) (hb : Below w.heap.size w w') : OwnT w' L v1 v2 hs ms := ⟨owns_below h.h hb, owns_below h.m hb⟩
theorem owns_weak {W : World} {B B' e size n : Nat} {v : Value} {xs : List Value} (h : W.ownsRow B e size v n xs) (hB : B' ≤ B) : W.ownsRow B' e size v n xs := by
  refine ⟨h.1, ?_⟩
  rcases h.2 with hn | ⟨g, cap, cur, rfl, hg, rest⟩
  · exact .inl hn
  · exact .inr ⟨g, cap, cur, rfl, Nat.le_trans hB hg, rest⟩
theorem OwnT.weak {w : World} {L L' : Nat} {v1 v2 : Value} {hs : List Hd} {ms : List Mv} (h : OwnT w L v1 v2 hs ms) (hL : L' ≤ L) : OwnT w L' v1 v2 hs ms := ⟨owns_weak h.h hL, owns_weak h.m hL⟩
theorem OwnT.grown {w w' : World} {L : Nat} {v1 v2 : Value} {hs : List Hd} {ms : List Mv} {r : Option Nat} (h : OwnT w L v1 v2 hs ms) (hg : w.grownBy w' r) (hr : ∀ g, r = some g → g < L) : OwnT w' L v1 v2 hs ms :=
  ⟨owns_grown h.h hg (fun g hg e => by have := (own_lt h.h hg).1; have := hr _ e; omega), owns_grown h.m hg (fun g hg e => by have := (own_lt h.m hg).1; have := hr _ e; omega)⟩
theorem OwnT.form {w : World} {L : Nat} {v1 v2 : Value} {hs : List Hd} {ms : List Mv} (h : OwnT w L v1 v2 hs ms) : ∃ A c B d, v1 = .slice A hs.length c ∧ v2 = .slice B ms.length d ∧ SAt encH 6 w A hs.length hs ∧ SAt encM 5 w B ms.length ms ∧ hs.length ≤ c ∧ ms.length ≤ d ∧ (∀ a, A = some a → L ≤ a.block) ∧ (∀ a, B = some a → L ≤ a.block) := by
  obtain ⟨A, c, e, h1, h2, h3⟩ := SAt_of_row encH_len rfl h.h
  obtain ⟨B, d, e', h1', h2', h3'⟩ := SAt_of_row encM_len rfl h.m
  exact ⟨A, c, B, d, e, e', h1, h1', h3, h3', h2, h2'⟩
theorem OwnT.ok {w : World} {L : Nat} {v1 v2 : Value} {hs : List Hd} {ms : List Mv} (h : OwnT w L v1 v2 hs ms) (h1 : hs.length ≤ 1000000) (h2 : ms.length ≤ 1000000) : ∃ t : TR, t.v = .agg #[v1, v2] ∧ t.Ok w ∧ t.hs = hs ∧ t.ms = ms := by
  obtain ⟨A, c, B, d, rfl, rfl, a1, a2, a3, a4, _, _⟩ := h.form
  exact ⟨⟨A, hs.length, c, B, ms.length, d, hs, ms⟩, rfl, ⟨a1, a2, by show hs.length ≤ _; omega, by show ms.length ≤ _; omega, a3, a4⟩, rfl, rfl⟩
set_option maxRecDepth 100000 in
set_option maxHeartbeats 3200000 in
theorem copied_any (t : TR) (w : World) (h : t.Ok w) (hn : t.n ≤ 1000000) (hm : t.m ≤ 1000000) :
    Calls Tryz.prog 89 #[t.v] w fun e w' => ∃ v1 v2, e = .returned (.agg #[v1, v2]) ∧ OwnT w' w.heap.size v1 v2 t.hs t.ms ∧ Below w.heap.size w w' := by
  have hb0 := ((Below.refl w.heap.size w).alloc (Nat.le_refl _) (.cells #[.slice t.A t.n t.c, .slice t.B t.m t.d] 25)).alloc (by simp) (.cells #[.slice none 0 0, .slice none 0 0] 25)
  obtain ⟨A, n, c, B, m, d, hs, ms⟩ := t
  dsimp only [TR.v] at *
  have t0 := ((Blk.new w 25 #[.slice A n c, .slice B m d]).alloc (.cells #[.slice none 0 0, .slice none 0 0] 25))
  have r0 := (Blk.at_new (W := w.alloc (.cells #[.slice A n c, .slice B m d] 25)) (g := w.heap.size + 1) 25 #[.slice none 0 0, .slice none 0 0] (by simp))
  have HOk := Lib.hid h
  have HLn := Lib.hid h.h.len
  have HLm := Lib.hid h.m.len
  clear h
  go_enter Tryz.func89, Tryz.ntmps89
  go_upto_region 1 with fail
  generalize hW : (w.alloc (.cells #[.slice A n c, .slice B m d] 25)).alloc (.cells #[.slice none 0 0, .slice none 0 0] 25) = W at *
  clear hW
  have HB0 := Lib.hid hb0
  have hs0 := hb0.size
  refine wp_region_preC 6 [(2, 5), (5, 8)] (fun v => Below W.heap.size W v) (fun ls vs v => (ls 2 = true → v.ownsRow w.heap.size 118 6 (vs 2) n (hs.flatMap encH)) ∧ (ls 5 = true → v.ownsRow w.heap.size 59 5 (vs 5) m (ms.flatMap encM))) (by kernel_rfl) (by kernel_rfl) (Below.refl _ _) (fun v v' h k => h.trans (k.mono h.size)) (fun v _ => ⟨fun h => (by cases h), fun h => (by cases h)⟩) (fun ls vs v v' _ h k => ⟨fun hl => owns_below (h.1 hl) k, fun hl => owns_below (h.2 hl) k⟩) ?_
  apply Exists.intro
  refine ⟨?_, ?_, ?_⟩
  · intro V hV
    have tq2 := t0.below hV
    have y0 := tq2.cell 0
    have y1 := tq2.cell 1
    simp only [List.getElem?_toArray, List.getElem?_cons_zero, List.getElem?_cons_succ] at y0 y1
    have yl := tq2.lt
    obtain ⟨xc, xf⟩ := xcell (W := V)
    simp only [List.take_succ_cons, List.take_zero, qOf, isLoud, List.any_cons, List.any_nil, Nat.reduceBEq, Bool.or_false, Bool.or_true, Nat.reduceAdd, Bool.false_eq_true, if_true, if_false, beq_self_eq_true, Nat.zero_add]
    repeat (first | go_big_quiet_step (fail) | quiet_step (fail))
    exact wpQuiet_nil rfl
  · rintro pp hpp vs v hC ls hI hls hw o ho
    simp only [List.mem_cons, List.not_mem_nil, or_false] at hpp
    rcases hpp with rfl | rfl
    · have u2 : updB ls 2 5 = ls 5 := by simp [updB]
      simp only [List.getElem?_cons_succ, List.getElem?_cons_zero, Option.some.injEq] at ho
      subst ho
      simp [loudAt, loudUpon, go_sem, putsL, Act.put]
      refine (cloneH_any A n c hs v (HOk.out.h.below (HB0.out.trans (hC.mono HB0.out.size))) hn).mono ?_
      rintro e w' ⟨v5, rfl, h5, hb5⟩
      refine ⟨_, rfl, hC.trans (hb5.mono hC.size), fun _ => ?_, fun h6 => ?_⟩
      · have := owns_weak h5 (B' := w.heap.size) (by have := hC.size; omega)
        simpa [upd] using this
      · rw [u2] at h6
        have := owns_below (hI.2 h6) hb5
        simpa [upd] using this
    · have u2 : updB ls 5 2 = ls 2 := by simp [updB]
      simp only [List.getElem?_cons_succ, List.getElem?_cons_zero, Option.some.injEq] at ho
      subst ho
      simp [loudAt, loudUpon, go_sem, putsL, Act.put]
      refine (cloneM_any B m d ms v (HOk.out.m.below (HB0.out.trans (hC.mono HB0.out.size))) hm).mono ?_
      rintro e w' ⟨v5, rfl, h5, hb5⟩
      refine ⟨_, rfl, hC.trans (hb5.mono hC.size), fun h6 => ?_, fun _ => ?_⟩
      · rw [u2] at h6
        have := owns_below (hI.1 h6) hb5
        simpa [upd] using this
      · have := owns_weak h5 (B' := w.heap.size) (by have := hC.size; omega)
        simpa [upd] using this
  rintro ls vs V hv hI hls
  have h1 := hI.1 (hls (2, 5) (by simp))
  have h2 := hI.2 (hls (5, 8) (by simp))
  have H1 := Lib.hid h1
  have H2 := Lib.hid h2
  obtain ⟨A1, c1, e1⟩ := owns_slice h1
  obtain ⟨A2, c2, e2⟩ := owns_slice h2
  rw [e1] at H1
  rw [e2] at H2
  have r1 := r0.below hv
  have HR1 := Lib.hid r1
  have HB1 := Lib.hid (HB0.out.trans (hv.mono HB0.out.size))
  have z0 := r1.cell 0
  have z1 := r1.cell 1
  have f0 := r1.frozen 0
  have f1 := r1.frozen 1
  simp only [List.getElem?_toArray, List.getElem?_cons_zero, List.getElem?_cons_succ] at z0 z1
  have l1 := r1.lt
  clear hls hI h1 h2 hv r1 r0 t0 hb0
  simp only [putsL, List.foldl_cons, List.foldl_nil, List.drop_succ_cons, List.drop_zero, Act.put, e1, e2, List.setIfInBounds_toArray, List.set_cons_succ, List.set_cons_zero]
  clear e1 e2
  go_wp2
  have hf := blk_set2 HR1.out (.slice A1 n c1) (.slice A2 m c2)
  have x0 := hf.cell 0
  have x1 := hf.cell 1
  simp only [List.getElem?_toArray, List.getElem?_cons_zero, List.getElem?_cons_succ] at x0 x1
  have hg := grown_set2 V (w.heap.size + 1) (.slice A1 n c1) (.slice A2 m c2)
  refine bodyPost_ret (v := .agg #[.slice A1 n c1, .slice A2 m c2]) (by simp [results, Tryz.results89, go_sem, x0, x1]) rfl ⟨_, _, rfl, ⟨?_, ?_⟩, below_set2 HB1.out (by omega) _ _⟩
  · rw [HLn.out]
    exact owns_grown H1.out hg (fun g hg e => own_ne H1.out HR1.out (by decide) (by rw [hg]; exact e.symm))
  · rw [HLm.out]
    exact owns_grown H2.out hg (fun g hg e => own_ne H2.out HR1.out (by decide) (by rw [hg]; exact e.symm))
end Go.Proofs.YtighfmgkoepfkaaGreat

namespace Go.Proofs.YtighfmgkoepfkaaGreat
open Go.RowKit

/-- Where the span of an edge stands. -/
def spAd (ga oa gb ob n at_ : Nat) : Addr := if at_ < n then ⟨ga, oa + at_ * 6 + 1, none⟩ else if at_ < 2 * n then ⟨ga, oa + (at_ - n) * 6 + 3, none⟩ else ⟨gb, ob + (at_ - 2 * n) * 5 + 3, none⟩
set_option maxRecDepth 100000 in
set_option maxHeartbeats 3200000 in
theorem spanAt_any (A : Option Addr) (n c : Nat) (B : Option Addr) (m d : Nat) (ga oa gb ob at_ : Nat) (w : World) (hA : 0 < n → A = some ⟨ga, oa, none⟩) (hB : 0 < m → B = some ⟨gb, ob, none⟩) (hat : at_ < 2 * n + m) (hn : n ≤ 100000) (hm : m ≤ 100000) (_ : n ≤ c) (_ : m ≤ d) :
    Calls Tryz.prog 102 #[vT A n c B m d, .int .i64 (at_ : Int)] w fun e w' => e = .returned (.pointer (some (spAd ga oa gb ob n at_))) ∧ Below w.heap.size w w' := by
  have hb0 := ((Below.refl w.heap.size w).alloc (Nat.le_refl _) (.cells #[.slice A n c, .slice B m d] 25))
  have HB0 := Lib.hid hb0
  clear hb0
  go_enter Tryz.func102, Tryz.ntmps102
  by_cases h1 : at_ < n
  case pos =>
    have e1 := hA (by omega)
    subst e1
    have HS := Lib.hid (show spAd ga oa gb ob n at_ = ⟨ga, oa + at_ * 6 + 1, none⟩ by unfold spAd; rw [if_pos h1])
    go_wp2
    go_ret
    exact ⟨by rw [HS.out]; rfl, HB0.out⟩
  case neg =>
    by_cases h2 : at_ < 2 * n
    case pos =>
      have e1 := hA (by omega)
      subst e1
      have HS := Lib.hid (show spAd ga oa gb ob n at_ = ⟨ga, oa + (at_ - n) * 6 + 3, none⟩ by unfold spAd; rw [if_neg h1, if_pos h2])
      have hq : (at_ : Int) - (n : Int) = ((at_ - n : Nat) : Int) := by omega
      have hkn : at_ - n < n := by omega
      generalize at_ - n = k at *
      go_wp2
      go_ret
      exact ⟨by rw [HS.out]; rfl, HB0.out⟩
    case neg =>
      have e1 := hB (by omega)
      subst e1
      have HS := Lib.hid (show spAd ga oa gb ob n at_ = ⟨gb, ob + (at_ - 2 * n) * 5 + 3, none⟩ by unfold spAd; rw [if_neg h1, if_neg h2])
      have hq : (at_ : Int) - 2 * (n : Int) = ((at_ - 2 * n : Nat) : Int) := by omega
      have hkn : at_ - 2 * n < m := by omega
      generalize at_ - 2 * n = k at *
      go_wp2
      go_ret
      exact ⟨by rw [HS.out]; rfl, HB0.out⟩
end Go.Proofs.YtighfmgkoepfkaaGreat

namespace Go.Proofs.YtighfmgkoepfkaaGreat
open Go.RowKit

theorem flat_setS : ∀ (hs : List Hd) (i : Nat) (lo hi : Int), i < hs.length → ((hs.flatMap encH).set (i * 6 + 1) (.int .i64 lo)).set (i * 6 + 2) (.int .i64 hi) = (hs.modify i (setS lo hi)).flatMap encH
  | [], i, _, _, h => by simp at h
  | x :: hs, 0, lo, hi, _ => rfl
  | x :: hs, i + 1, lo, hi, h => by
    have ih := flat_setS hs i lo hi (by simpa using h)
    show ((encH x ++ hs.flatMap encH).set ((i + 1) * 6 + 1) _).set ((i + 1) * 6 + 2) _ = encH x ++ (hs.modify i (setS lo hi)).flatMap encH
    rw [List.set_append, if_neg (by rw [encH_len]; omega), List.set_append, if_neg (by rw [encH_len]; omega), encH_len, show (i + 1) * 6 + 1 - 6 = i * 6 + 1 by omega, show (i + 1) * 6 + 2 - 6 = i * 6 + 2 by omega, ih]
theorem flat_setE : ∀ (hs : List Hd) (i : Nat) (lo hi : Int), i < hs.length → ((hs.flatMap encH).set (i * 6 + 3) (.int .i64 lo)).set (i * 6 + 4) (.int .i64 hi) = (hs.modify i (setE lo hi)).flatMap encH
  | [], i, _, _, h => by simp at h
  | x :: hs, 0, lo, hi, _ => rfl
  | x :: hs, i + 1, lo, hi, h => by
    have ih := flat_setE hs i lo hi (by simpa using h)
    show ((encH x ++ hs.flatMap encH).set ((i + 1) * 6 + 3) _).set ((i + 1) * 6 + 4) _ = encH x ++ (hs.modify i (setE lo hi)).flatMap encH
    rw [List.set_append, if_neg (by rw [encH_len]; omega), List.set_append, if_neg (by rw [encH_len]; omega), encH_len, show (i + 1) * 6 + 3 - 6 = i * 6 + 3 by omega, show (i + 1) * 6 + 4 - 6 = i * 6 + 4 by omega, ih]
theorem flat_setM : ∀ (ms : List Mv) (i : Nat) (lo hi : Int), i < ms.length → ((ms.flatMap encM).set (i * 5 + 3) (.int .i64 lo)).set (i * 5 + 4) (.int .i64 hi) = (ms.modify i (setM lo hi)).flatMap encM
  | [], i, _, _, h => by simp at h
  | x :: ms, 0, lo, hi, _ => rfl
  | x :: ms, i + 1, lo, hi, h => by
    have ih := flat_setM ms i lo hi (by simpa using h)
    show ((encM x ++ ms.flatMap encM).set ((i + 1) * 5 + 3) _).set ((i + 1) * 5 + 4) _ = encM x ++ (ms.modify i (setM lo hi)).flatMap encM
    rw [List.set_append, if_neg (by rw [encM_len]; omega), List.set_append, if_neg (by rw [encM_len]; omega), encM_len, show (i + 1) * 5 + 3 - 5 = i * 5 + 3 by omega, show (i + 1) * 5 + 4 - 5 = i * 5 + 4 by omega, ih]
theorem own_ne2 {W : World} {B e size n B' e' size' n' g : Nat} {v v' : Value} {xs xs' : List Value} (h : W.ownsRow B e size v n xs) (h' : W.ownsRow B' e' size' v' n' xs') (he : e ≠ e') (hg : v'.ownBlock = some g) : v.ownBlock ≠ some g := fun hc => by
  obtain ⟨c1, h1⟩ := own_blk h hc
  obtain ⟨c2, h2⟩ := own_blk h' hg
  rw [h1] at h2
  cases h2
  exact he rfl
theorem OwnT.spot {w : World} {L : Nat} {A B : Option Addr} {c d : Nat} {hs : List Hd} {ms : List Mv} (h : OwnT w L (.slice A hs.length c) (.slice B ms.length d) hs ms) {at_ : Nat} (hat' : at_ < 2 * hs.length + ms.length) {ga gb : Nat} (hA : 0 < hs.length → A = some ⟨ga, 0, none⟩) (hB : 0 < ms.length → B = some ⟨gb, 0, none⟩) :
    ∃ g o, spAd ga 0 gb 0 hs.length at_ = ⟨g, o, none⟩ ∧ L ≤ g ∧ g < w.heap.size ∧ w.cell? ⟨g, o, none⟩ = some (.int .i64 (spanLo hs ms at_)) ∧ w.cell? ⟨g, o + 1, none⟩ = some (.int .i64 (spanHi hs ms at_)) ∧ (∀ o', w.frozen? ⟨g, o', none⟩ = false) ∧ (∀ k ty cs, Blk w k ty cs → ty ≠ 118 → ty ≠ 59 → k ≠ g) ∧
      ∀ lo hi w', Below w.heap.size w w' → OwnT ((w'.setCell ⟨g, o, none⟩ (.int .i64 lo)).setCell ⟨g, o + 1, none⟩ (.int .i64 hi)) L (.slice A hs.length c) (.slice B ms.length d) (putH hs at_ lo hi) (putM hs ms at_ lo hi) := by
  by_cases c1 : at_ < 2 * hs.length
  · have e1 := hA (by omega)
    subst e1
    have hlt := own_lt h.h (g := ga) rfl
    obtain ⟨cur, hcur⟩ := own_blk h.h (g := ga) rfl
    have hfz : ∀ o', w.frozen? ⟨ga, o', none⟩ = false := fun o' => Blk.frozen (show Blk w ga _ cur from hcur) o'
    have hls := Ls_of_row encH_len rfl h.h
    have hty : ∀ k ty cs, Blk w k ty cs → ty ≠ 118 → ty ≠ 59 → k ≠ ga := fun k ty cs hb t1 _ e => own_ne h.h hb t1 (by rw [e]; rfl)
    have hne : ∀ g, (Value.slice B ms.length d).ownBlock = some g → some ga ≠ some g := fun g hg e => own_ne2 h.h h.m (by decide) hg (by rw [← e]; rfl)
    by_cases c2 : at_ < hs.length
    · have hx : hs[at_]? = some (hat hs at_) := by rw [hat_eq (by omega), List.getElem?_eq_getElem (by omega)]
      obtain ⟨x0, x1, x2, x3, x4, x5⟩ := Hds.at_ hls hx
      simp only [Nat.zero_add] at x0 x1 x2 x3 x4 x5
      refine ⟨ga, at_ * 6 + 1, by unfold spAd; rw [if_pos c2]; simp, hlt.1, hlt.2, ?_, ?_, hfz, hty, fun lo hi w' hw' => ⟨?_, ?_⟩⟩
      · unfold spanLo; rw [if_pos c2]; exact x1
      · unfold spanHi; rw [if_pos c2]; exact x2
      · have hr := owns_below h.h hw'
        have hl6 : (hs.flatMap encH).length = hs.length * 6 := flat_len encH_len hs
        have h1 := owns_set hr (at_ * 6 + 1) (by rw [hl6]; omega) (.int .i64 lo)
        have h2 := owns_set h1 (at_ * 6 + 2) (by rw [List.length_set, hl6]; omega) (.int .i64 hi)
        rw [flat_setS _ _ _ _ (by omega)] at h2
        have e1 : putH hs at_ lo hi = hs.modify at_ (setS lo hi) := by unfold putH; rw [if_pos c2]
        rw [e1, List.length_modify]
        exact h2
      · have e1 : putM hs ms at_ lo hi = ms := by unfold putM; rw [if_pos c1]
        rw [e1]
        exact owns_grown (owns_below h.m hw') (grown_trans (grownBy_set _ _ (at_ * 6 + 1) _) (grownBy_set _ _ (at_ * 6 + 1 + 1) _)) hne
    · have hx : hs[(at_ - hs.length)]? = some (hat hs (at_ - hs.length)) := by rw [hat_eq (by omega), List.getElem?_eq_getElem (by omega)]
      obtain ⟨x0, x1, x2, x3, x4, x5⟩ := Hds.at_ hls hx
      simp only [Nat.zero_add] at x0 x1 x2 x3 x4 x5
      refine ⟨ga, (at_ - hs.length) * 6 + 3, by unfold spAd; rw [if_neg c2, if_pos c1]; simp, hlt.1, hlt.2, ?_, ?_, hfz, hty, fun lo hi w' hw' => ⟨?_, ?_⟩⟩
      · unfold spanLo; rw [if_neg c2, if_pos c1]; exact x3
      · unfold spanHi; rw [if_neg c2, if_pos c1]; exact x4
      · have hr := owns_below h.h hw'
        have hl6 : (hs.flatMap encH).length = hs.length * 6 := flat_len encH_len hs
        have h1 := owns_set hr ((at_ - hs.length) * 6 + 3) (by rw [hl6]; omega) (.int .i64 lo)
        have h2 := owns_set h1 ((at_ - hs.length) * 6 + 4) (by rw [List.length_set, hl6]; omega) (.int .i64 hi)
        rw [flat_setE _ _ _ _ (by omega)] at h2
        have e1 : putH hs at_ lo hi = hs.modify (at_ - hs.length) (setE lo hi) := by unfold putH; rw [if_neg c2, if_pos c1]
        rw [e1, List.length_modify]
        exact h2
      · have e1 : putM hs ms at_ lo hi = ms := by unfold putM; rw [if_pos c1]
        rw [e1]
        exact owns_grown (owns_below h.m hw') (grown_trans (grownBy_set _ _ ((at_ - hs.length) * 6 + 3) _) (grownBy_set _ _ ((at_ - hs.length) * 6 + 3 + 1) _)) hne
  · have e1 := hB (by omega)
    subst e1
    have hlt := own_lt h.m (g := gb) rfl
    obtain ⟨cur, hcur⟩ := own_blk h.m (g := gb) rfl
    have hfz : ∀ o', w.frozen? ⟨gb, o', none⟩ = false := fun o' => Blk.frozen (show Blk w gb _ cur from hcur) o'
    have hls := Ls_of_row encM_len rfl h.m
    have hty : ∀ k ty cs, Blk w k ty cs → ty ≠ 118 → ty ≠ 59 → k ≠ gb := fun k ty cs hb _ t2 e => own_ne h.m hb t2 (by rw [e]; rfl)
    have hne : ∀ g, (Value.slice A hs.length c).ownBlock = some g → some gb ≠ some g := fun g hg e => own_ne2 h.m h.h (by decide) hg (by rw [← e]; rfl)
    have c0 : ¬ at_ < hs.length := by omega
    have hx : ms[at_ - 2 * hs.length]? = some (mat ms (at_ - 2 * hs.length)) := by rw [mat_eq (by omega), List.getElem?_eq_getElem (by omega)]
    obtain ⟨x0, x1, x2, x3, x4⟩ := Mvs.at_ hls hx
    simp only [Nat.zero_add] at x0 x1 x2 x3 x4
    refine ⟨gb, (at_ - 2 * hs.length) * 5 + 3, by unfold spAd; rw [if_neg c0, if_neg c1]; simp, hlt.1, hlt.2, ?_, ?_, hfz, hty, fun lo hi w' hw' => ⟨?_, ?_⟩⟩
    · unfold spanLo; rw [if_neg c0, if_neg c1]; exact x3
    · unfold spanHi; rw [if_neg c0, if_neg c1]; exact x4
    · have e1 : putH hs at_ lo hi = hs := by unfold putH; rw [if_neg c0, if_neg c1]
      rw [e1]
      exact owns_grown (owns_below h.h hw') (grown_trans (grownBy_set _ _ ((at_ - 2 * hs.length) * 5 + 3) _) (grownBy_set _ _ ((at_ - 2 * hs.length) * 5 + 3 + 1) _)) hne
    · have hr := owns_below h.m hw'
      have hl5 : (ms.flatMap encM).length = ms.length * 5 := flat_len encM_len ms
      have h1 := owns_set hr ((at_ - 2 * hs.length) * 5 + 3) (by rw [hl5]; omega) (.int .i64 lo)
      have h2 := owns_set h1 ((at_ - 2 * hs.length) * 5 + 4) (by rw [List.length_set, hl5]; omega) (.int .i64 hi)
      rw [flat_setM _ _ _ _ (by omega)] at h2
      have e1 : putM hs ms at_ lo hi = ms.modify (at_ - 2 * hs.length) (setM lo hi) := by unfold putM; rw [if_neg c1]
      rw [e1, List.length_modify]
      exact h2
/-- The trade with the first k spans narrowed. -/
def narT (hs : List Hd) (ms : List Mv) : Nat → List Hd × List Mv
  | 0 => (hs, ms)
  | k + 1 => (putH (narT hs ms k).1 k (narLo hs ms k) (narHi hs ms k), putM (narT hs ms k).1 (narT hs ms k).2 k (narLo hs ms k) (narHi hs ms k))
theorem narT_len (hs : List Hd) (ms : List Mv) : ∀ k, (narT hs ms k).1.length = hs.length ∧ (narT hs ms k).2.length = ms.length
  | 0 => ⟨rfl, rfl⟩
  | k + 1 => by
    have ih := narT_len hs ms k
    exact ⟨by rw [narT, putH_len]; exact ih.1, by rw [narT, putM_len]; exact ih.2⟩
def narH (hs : List Hd) (ms : List Mv) : List Hd := (narT hs ms (2 * hs.length + ms.length)).1
def narM (hs : List Hd) (ms : List Mv) : List Mv := (narT hs ms (2 * hs.length + ms.length)).2
end Go.Proofs.YtighfmgkoepfkaaGreat

namespace Go.Proofs.YtighfmgkoepfkaaGreat

theorem leastP_bd (P : Int → Bool) : ∀ (n : Nat) (lo : Int), lo ≤ leastP P lo n ∧ leastP P lo n ≤ lo + n
  | 0, lo => ⟨Int.le_refl _, by show lo ≤ lo + (0 : Nat); omega⟩
  | n + 1, lo => by
    have ih := leastP_bd P n (lo + 1)
    unfold leastP
    split <;> omega
theorem mostP_bd (P : Int → Bool) : ∀ (n : Nat) (hi : Int), mostP P hi n ≤ hi ∧ hi - n ≤ mostP P hi n
  | 0, hi => ⟨Int.le_refl _, by show hi - (0 : Nat) ≤ hi; omega⟩
  | n + 1, hi => by
    have ih := mostP_bd P n (hi - 1)
    unfold mostP
    split <;> omega
theorem nar_bd {hs : List Hd} {ms : List Mv} (h : TV hs ms) {at_ : Nat} (hat' : at_ < 2 * hs.length + ms.length) : 0 ≤ narLo hs ms at_ ∧ narLo hs ms at_ ≤ 65536 ∧ 0 ≤ narHi hs ms at_ ∧ narHi hs ms at_ ≤ 65536 := by
  have hk := span_ok h hat'
  have h1 := leastP_bd (fun u => agrL (putH hs at_ (spanLo hs ms at_) u) (putM hs ms at_ (spanLo hs ms at_) u)) (spanHi hs ms at_ - spanLo hs ms at_).toNat (spanLo hs ms at_)
  have h2 := mostP_bd (fun u => agrL (putH hs at_ u (spanHi hs ms at_)) (putM hs ms at_ u (spanHi hs ms at_))) (spanHi hs ms at_ - spanLo hs ms at_).toNat (spanHi hs ms at_)
  unfold narLo narHi
  omega
/-- A holder whose spans are narrowed. -/
def nH (hs : List Hd) (ms : List Mv) (i : Nat) : Hd := { hat hs i with sl := narLo hs ms i, sh := narHi hs ms i, el := narLo hs ms (hs.length + i), eh := narHi hs ms (hs.length + i) }
def nM (hs : List Hd) (ms : List Mv) (k : Nat) : Mv := { mat ms k with lo := narLo hs ms (2 * hs.length + k), hi := narHi hs ms (2 * hs.length + k) }
theorem narT_hat (hs : List Hd) (ms : List Mv) (i : Nat) (hi : i < hs.length) : ∀ k, hat (narT hs ms k).1 i = { hat hs i with sl := if i < k then narLo hs ms i else (hat hs i).sl, sh := if i < k then narHi hs ms i else (hat hs i).sh, el := if hs.length + i < k then narLo hs ms (hs.length + i) else (hat hs i).el, eh := if hs.length + i < k then narHi hs ms (hs.length + i) else (hat hs i).eh }
  | 0 => by
    rw [narT]
    simp
  | k + 1 => by
    have ih := narT_hat hs ms i hi k
    have hl := (narT_len hs ms k).1
    rw [narT, putH_at _ _ _ _ _ (by rw [hl]; exact hi), hl, ih]
    by_cases c1 : k = i
    · subst c1
      rw [if_pos rfl]
      unfold setS
      simp
      constructor <;> (rw [if_neg (by omega), if_neg (by omega)])
    · rw [if_neg c1]
      by_cases c2 : k = hs.length + i
      · rw [if_pos c2]
        unfold setE
        subst c2
        have e1 : i < hs.length + i := by omega
        have e2 : i < hs.length + i + 1 := by omega
        simp [e1, e2]
      · rw [if_neg c2]
        have e1 : (i < k + 1) = (i < k) := by apply propext; omega
        have e2 : (hs.length + i < k + 1) = (hs.length + i < k) := by apply propext; omega
        simp only [e1, e2]
theorem narT_mat (hs : List Hd) (ms : List Mv) (j : Nat) (hj : j < ms.length) : ∀ k, mat (narT hs ms k).2 j = { mat ms j with lo := if 2 * hs.length + j < k then narLo hs ms (2 * hs.length + j) else (mat ms j).lo, hi := if 2 * hs.length + j < k then narHi hs ms (2 * hs.length + j) else (mat ms j).hi }
  | 0 => by
    rw [narT]
    simp
  | k + 1 => by
    have ih := narT_mat hs ms j hj k
    have hl := (narT_len hs ms k).1
    have hl2 := (narT_len hs ms k).2
    rw [narT, putM_at _ _ _ _ _ _ (by rw [hl2]; exact hj), hl, ih]
    by_cases c1 : k = 2 * hs.length + j
    · rw [if_pos c1]
      subst c1
      unfold setM
      simp
    · rw [if_neg c1]
      have e2 : (2 * hs.length + j < k + 1) = (2 * hs.length + j < k) := by apply propext; omega
      simp only [e2]
theorem narH_hat (hs : List Hd) (ms : List Mv) (i : Nat) (hi : i < hs.length) : hat (narH hs ms) i = nH hs ms i := by
  unfold narH nH
  rw [narT_hat hs ms i hi, if_pos (by omega), if_pos (by omega), if_pos (by omega), if_pos (by omega)]
theorem narM_mat (hs : List Hd) (ms : List Mv) (j : Nat) (hj : j < ms.length) : mat (narM hs ms) j = nM hs ms j := by
  unfold narM nM
  rw [narT_mat hs ms j hj, if_pos (by omega), if_pos (by omega)]
theorem narH_len (hs : List Hd) (ms : List Mv) : (narH hs ms).length = hs.length := (narT_len _ _ _).1
theorem narM_len (hs : List Hd) (ms : List Mv) : (narM hs ms).length = ms.length := (narT_len _ _ _).2
theorem narH_eq (hs : List Hd) (ms : List Mv) : narH hs ms = (List.range hs.length).map (nH hs ms) := by
  apply List.ext_getElem (by simp [narH_len])
  intro i h1 h2
  rw [narH_len] at h1
  have := narH_hat hs ms i h1
  rw [hat_eq (by rw [narH_len]; exact h1)] at this
  simpa using this
theorem narM_eq (hs : List Hd) (ms : List Mv) : narM hs ms = (List.range ms.length).map (nM hs ms) := by
  apply List.ext_getElem (by simp [narM_len])
  intro i h1 h2
  rw [narM_len] at h1
  have := narM_mat hs ms i h1
  rw [mat_eq (by rw [narM_len]; exact h1)] at this
  simpa using this
/-- The error of Narrowed. -/
def nwE (hs : List Hd) (ms : List Mv) : Int := if tcheck hs ms ≠ 0 then tcheck hs ms else if agrL hs ms = false then 9 else 0
def nwH (hs : List Hd) (ms : List Mv) : List Hd := if nwE hs ms = 0 then narH hs ms else []
def nwM (hs : List Hd) (ms : List Mv) : List Mv := if nwE hs ms = 0 then narM hs ms else []
theorem nwE_zero {hs : List Hd} {ms : List Mv} (h : nwE hs ms = 0) : TV hs ms ∧ agrL hs ms = true := by
  unfold nwE at h
  split at h
  · rename_i c; exact absurd h c
  · rename_i c
    refine ⟨tcheck_zero.1 (Classical.byContradiction c), ?_⟩
    split at h
    · cases h
    · rename_i d; simpa using d
def spansL (hs : List Hd) (ms : List Mv) : List (Int × Int) := (nwM hs ms).map fun m => (m.lo, m.hi)
/-- A holder, and by how much it holds less than is booked. -/
structure Gp where
  id : Int
  lo : Int
  hi : Int
deriving DecidableEq, Inhabited
def gapsL (hs : List Hd) (ms : List Mv) : List Gp := (nwH hs ms).map fun h => ⟨h.id, h.bk - h.eh, h.bk - h.el⟩
/-- The holders of a narrowed trade: their numbers are masses. -/
theorem nwH_bd {hs : List Hd} {ms : List Mv} {x : Hd} (hx : x ∈ nwH hs ms) : 0 ≤ x.bk ∧ x.bk ≤ 65536 ∧ 0 ≤ x.el ∧ x.el ≤ 65536 ∧ 0 ≤ x.eh ∧ x.eh ≤ 65536 := by
  unfold nwH at hx
  split at hx
  · rename_i c
    obtain ⟨hv, _⟩ := nwE_zero c
    rw [narH_eq] at hx
    obtain ⟨i, hi, rfl⟩ := List.mem_map.1 hx
    have hi' : i < hs.length := by simpa using hi
    have h1 := nar_bd hv (at_ := hs.length + i) (by omega)
    have h2 := hv.hd _ (List.getElem_mem hi')
    rw [← hat_eq hi'] at h2
    simp only [okHd, Bool.and_eq_true, decide_eq_true_eq] at h2
    have h3 := h2.2
    exact ⟨h3.1, h3.2, h1.1, h1.2.1, h1.2.2.1, h1.2.2.2⟩
  · cases hx
theorem nwH_len (hs : List Hd) (ms : List Mv) : (nwH hs ms).length ≤ 9 := by
  unfold nwH
  split
  · rename_i c; rw [narH_len]; exact (nwE_zero c).1.lenH
  · simp
theorem nwM_len (hs : List Hd) (ms : List Mv) : (nwM hs ms).length ≤ 24 := by
  unfold nwM
  split
  · rename_i c; rw [narM_len]; exact (nwE_zero c).1.lenM
  · simp
end Go.Proofs.YtighfmgkoepfkaaGreat

namespace Go.Proofs.YtighfmgkoepfkaaGreat
open Go.RowKit

abbrev vT0 : Value := vT none 0 0 none 0 0
def NarOut (w : World) (hs : List Hd) (ms : List Mv) (en : Ending) (w' : World) : Prop :=
  Below w.heap.size w w' ∧ ((agrL hs ms = false ∧ en = .returned (.tuple #[vT0, .int .i64 9])) ∨ (agrL hs ms = true ∧ ∃ v1 v2, en = .returned (.tuple #[.agg #[v1, v2], .int .i64 0]) ∧ OwnT w' w.heap.size v1 v2 (narH hs ms) (narM hs ms)))
theorem form_some {W : World} {B e size n : Nat} {A : Option Addr} {c : Nat} {xs : List Value} (h : W.ownsRow B e size (.slice A n c) n xs) : ∃ g, 0 < n → A = some ⟨g, 0, none⟩ := by
  by_cases h0 : 0 < n
  · obtain ⟨g, cap, e⟩ := Joins.ownsRow_form h h0
    have e2 : A = some ⟨g, 0, none⟩ ∧ c = cap := by simpa using e
    exact ⟨g, fun _ => e2.1⟩
  · exact ⟨0, fun h => absurd h h0⟩
set_option maxRecDepth 100000 in
set_option maxHeartbeats 6400000 in
theorem narrowed_any (t : TR) (w : World) (h : t.Ok w) (hv : TV t.hs t.ms) : Calls Tryz.prog 63 #[t.v] w (NarOut w t.hs t.ms) := by
  have hb0 := ((Below.refl w.heap.size w).alloc (Nat.le_refl _) (.cells #[.slice t.A t.n t.c, .slice t.B t.m t.d] 25)).alloc (by simp) (.cells #[.slice none 0 0, .slice none 0 0] 25)
  have hn9 : t.n ≤ 9 := by rw [← h.h.len]; exact hv.lenH
  have hm24 : t.m ≤ 24 := by rw [← h.m.len]; exact hv.lenM
  have HCp := Lib.hid (copied_any t _ (h.below hb0) (by omega) (by omega))
  have HBo := Lib.hid (fun at_ W (hW : Below w.heap.size w W) hat' => both_any t at_ W (h.below hW) hv hat')
  obtain ⟨A, n, c, B, m, d, hs, ms⟩ := t
  dsimp only [TR.v] at *
  have HOk := Lib.hid h
  have HV := Lib.hid hv
  have HLn := Lib.hid h.h.len
  have HLm := Lib.hid h.m.len
  have t0 := ((Blk.new w 25 #[.slice A n c, .slice B m d]).alloc (.cells #[.slice none 0 0, .slice none 0 0] 25))
  have r0 := (Blk.at_new (W := w.alloc (.cells #[.slice A n c, .slice B m d] 25)) (g := w.heap.size + 1) 25 #[.slice none 0 0, .slice none 0 0] (by simp))
  clear h hv
  go_enter Tryz.func63, Tryz.ntmps63
  generalize hW : (w.alloc (.cells #[.slice A n c, .slice B m d] 25)).alloc (.cells #[.slice none 0 0, .slice none 0 0] 25) = W at *
  have HWE := Lib.hid hW
  clear hW
  have hWs := r0.lt
  go_wp2_with fail
  rw [HWE.out]
  refine HCp.out.mono ?_
  rintro e w1 ⟨v1, v2, rfl, ho1, hb1⟩
  obtain ⟨A1, c1, B1, d1, rfl, rfl, -, -, hc1, hd1, -, -⟩ := ho1.form
  obtain ⟨ga, hga⟩ := form_some ho1.h
  obtain ⟨gb, hgb⟩ := form_some ho1.m
  rw [HLn.out] at hga hc1
  rw [HLm.out] at hgb hd1
  rw [HLn.out, HLm.out]
  have b2 := (Below.refl w1.heap.size w1).alloc (Nat.le_refl _) (.cells #[.slice A1 n c1, .slice B1 m d1] 25)
  have q2 := Blk.new w1 25 #[.slice A1 n c1, .slice B1 m d1]
  have HB1 := Lib.hid (hb0.trans ((hb1.trans (b2.mono hb1.size)).mono hb0.size))
  have HR1 := Lib.hid ((r0.below hb1).below b2)
  have t1 := ((t0.below hb1).below b2)
  have HT1 := Lib.hid t1
  have HOw1 := Lib.hid (ho1.below b2)
  have HQ1 := Lib.hid q2
  have hs1 := hb1.size
  have HGA := Lib.hid (show (0 < n → A1 = some ⟨ga, 0, none⟩) ∧ (0 < m → B1 = some ⟨gb, 0, none⟩) ∧ n ≤ c1 ∧ m ≤ d1 from ⟨hga, hgb, hc1, hd1⟩)
  have HC := Lib.hid (of_any A n c B m d hs ms _ (HOk.out.h.below HB1.out) (HOk.out.m.below HB1.out) HV.out)
  have y0 := (t0.below hb1).cell 0
  have y1 := (t0.below hb1).cell 1
  simp only [List.getElem?_toArray, List.getElem?_cons_zero, List.getElem?_cons_succ] at y0 y1
  have yl := (t0.below hb1).lt
  clear hb0 t0 r0 HWE HCp hga hgb hc1 hd1 ho1 hb1
  go_wp2_with fail
  generalize hW2 : w1.alloc (.cells #[.slice A1 n c1, .slice B1 m d1] 25) = w2 at *
  clear hW2 y0 y1 b2
  generalize hg4 : w1.heap.size = g4 at *
  clear hg4
  refine HC.out.mono ?_; rintro e w3 ⟨p, A', c', rfl, hp, hn, hb3⟩
  have HB3 := Lib.hid (HB1.out.trans (hb3.mono HB1.out.size))
  have HS := Lib.hid (settle_any p (p + 1) A' c' (edges hs ms) (n + 1) w3 hn (small_edges HV.out) (by rw [← HLn.out]; exact edges_in HV.out) (by omega))
  have HN := Lib.hid hn
  have HR3 := Lib.hid (HR1.out.below hb3)
  have HT3 := Lib.hid (HT1.out.below hb3)
  have HQ3 := Lib.hid (HQ1.out.below hb3)
  have HOw3 := Lib.hid (HOw1.out.below hb3)
  have hq2l := HQ1.out.lt
  have HLt := Lib.hid (show (∀ g, (Value.slice A1 hs.length c1).ownBlock = some g → g < w2.heap.size) ∧ (∀ g, (Value.slice B1 ms.length d1).ownBlock = some g → g < w2.heap.size) from ⟨fun g hg => (own_lt HOw1.out.h hg).2, fun g hg => (own_lt HOw1.out.m hg).2⟩)
  have hpw : w2.heap.size ≤ p := hp
  clear HC hb3 hn HR1 HT1 HQ1 HOw1 t1 q2 yl
  go_wp2_with fail
  refine HS.out.mono ?_
  rintro e w4 hso
  have hlow := hso.low HN.out HB3.out (by have := HB1.out.size; omega)
  have hne : ∀ g, (Value.slice A' (edges hs ms).length c').ownBlock = some g → w2.heap.size ≤ g := fun g hg => by have := (own_lt HN.out.row hg).1; omega
  have hr4 := HR3.out.grown hso.1 (fun e => by have := hne _ e; omega)
  have ht4 := HT3.out.grown hso.1 (fun e => by have := hne _ e; omega)
  have hq4 := HQ3.out.grown hso.1 (fun e => by have := hne _ e; omega)
  have ho4 : OwnT w4 W.heap.size (.slice A1 n c1) (.slice B1 m d1) hs ms := by
    have : OwnT w4 W.heap.size (.slice A1 hs.length c1) (.slice B1 ms.length d1) hs ms := ⟨owns_grown HOw3.out.h hso.1 (fun g hg e => by have := HLt.out.1 g hg; have := hne _ e; omega), owns_grown HOw3.out.m hso.1 (fun g hg e => by have := HLt.out.2 g hg; have := hne _ e; omega)⟩
    rw [HLn.out, HLm.out] at this
    exact this
  have HR4 := Lib.hid hr4
  have HT4 := Lib.hid ht4
  have HQ4 := Lib.hid hq4
  have HOw4 := Lib.hid ho4
  have HLo := Lib.hid hlow
  clear HR3 HT3 HQ3 HOw3 HS hlow hne ho4
  obtain ⟨_, es', ha, hs', hn', ⟨rfl, hzz⟩ | ⟨g, S, rfl, hg, _, hsh, hpos⟩⟩ := hso
  case inr =>
    have hag := (settle_no HV.out ha hsh (by rw [HLn.out]; exact hpos)).2
    have HA := Lib.hid hag
    have z0 := hr4.cell 0
    have z1 := hr4.cell 1
    have f0 := hr4.frozen 0
    have f1 := hr4.frozen 1
    simp only [List.getElem?_toArray, List.getElem?_cons_zero, List.getElem?_cons_succ] at z0 z1
    have l1 := hr4.lt
    clear ha hs' hn' hsh hpos hag hg hr4 ht4 hq4
    go_wp2
    have hf := blk_set2 HR4.out (.slice none 0 0) (.slice none 0 0)
    have x0 := hf.cell 0
    have x1 := hf.cell 1
    simp only [List.getElem?_toArray, List.getElem?_cons_zero, List.getElem?_cons_succ] at x0 x1
    exact bodyPost_ret (v := .tuple #[vT0, .int .i64 9]) (by simp [results, Tryz.results63, go_sem, x0, x1]) rfl ⟨below_set2 HLo.out (by omega) _ _, .inl ⟨HA.out, rfl⟩⟩
  case inl =>
    have HA := Lib.hid (settle_yes HV.out ha hs' (by rw [HLn.out]; exact hzz)).2.2
    have y0 := ht4.cell 0
    have y1 := ht4.cell 1
    simp only [List.getElem?_toArray, List.getElem?_cons_zero, List.getElem?_cons_succ] at y0 y1
    have yl := ht4.lt
    clear ha hs' hn' hzz hr4 ht4 hq4
    go_wp2
    clear y0 y1 yl
    go_loopw [29] (fun i wx => ∃ k : Nat, k ≤ 2 * n + m ∧ i = .int .i64 (k : Int) ∧ OwnT wx W.heap.size (.slice A1 n c1) (.slice B1 m d1) (narT hs ms k).1 (narT hs ms k).2 ∧ Blk wx g4 25 #[.slice A1 n c1, .slice B1 m d1] ∧ Blk wx (w.heap.size + 1) 25 #[.slice none 0 0, .slice none 0 0] ∧ Blk wx w.heap.size 25 #[.slice A n c, .slice B m d] ∧ Below w.heap.size w wx) (fun i _ => 2 * n + m - (intOf i).toNat)
    case atStart => exact ⟨0, Nat.zero_le _, rfl, HOw4.out, HQ4.out, HR4.out, HT4.out, HLo.out⟩
    case round =>
      clear HOw4 HQ4 HR4 HT4 HLo HN
      obtain ⟨k, hk, rfl, ho, hq, hr, ht, hbw⟩ := hrel
      have HOw := Lib.hid ho
      have HQ := Lib.hid hq
      have HR := Lib.hid hr
      have HT := Lib.hid ht
      have HB := Lib.hid hbw
      by_cases hkn : k < 2 * n + m
      case neg =>
        have hkk : k = 2 * n + m := by omega
        have HK := Lib.hid hkk
        have q0 := hq.cell 0
        have q1 := hq.cell 1
        have z0 := hr.cell 0
        have z1 := hr.cell 1
        have f0 := hr.frozen 0
        have f1 := hr.frozen 1
        simp only [List.getElem?_toArray, List.getElem?_cons_zero, List.getElem?_cons_succ] at q0 q1 z0 z1
        have l1 := hr.lt
        have l2 := hq.lt
        clear hkk ho hq hr ht hbw
        go_wp2
        have hf := blk_set2 HR.out (.slice A1 n c1) (.slice B1 m d1)
        have x0 := hf.cell 0
        have x1 := hf.cell 1
        simp only [List.getElem?_toArray, List.getElem?_cons_zero, List.getElem?_cons_succ] at x0 x1
        refine bodyPost_ret (v := .tuple #[vT A1 n c1 B1 m d1, .int .i64 0]) (by simp [results, Tryz.results63, go_sem, x0, x1]) rfl ⟨below_set2 HB.out (by omega) _ _, .inr ⟨HA.out, _, _, rfl, ?_⟩⟩
        have hg := HOw.out.grown (grown_set2 wr (w.heap.size + 1) (.slice A1 n c1) (.slice B1 m d1)) (fun g hg => by have e2 : w.heap.size + 1 = g := Option.some.inj hg; omega)
        unfold narH narM
        rw [HLn.out, HLm.out, ← HK.out]
        exact hg.weak (by omega)
      case pos =>
        have hat2 : k < 2 * hs.length + ms.length := by rw [HLn.out, HLm.out]; exact hkn
        have HBk := Lib.hid (HBo.out k wr hbw hat2)
        have y0 := ht.cell 0
        have y1 := ht.cell 1
        simp only [List.getElem?_toArray, List.getElem?_cons_zero, List.getElem?_cons_succ] at y0 y1
        have yl := ht.lt
        clear ho hq hr ht hbw
        go_wp2_with fail
        refine HBk.out.mono ?_
        rintro e w5 ⟨hb5, ⟨hag, _⟩ | ⟨_, rfl⟩⟩
        · exact absurd (HA.out.symm.trans hag) (by decide)
        generalize hlo : narLo hs ms k = lo at *
        generalize hhi : narHi hs ms k = hi at *
        have HLh := Lib.hid (show narLo hs ms k = lo ∧ narHi hs ms k = hi from ⟨hlo, hhi⟩)
        clear hlo hhi HBk y0 y1 yl
        have b6 := hb5.trans ((((Below.refl w5.heap.size w5).alloc (Nat.le_refl _) (.cells #[.int .i64 lo, .int .i64 hi] 57))).mono hb5.size)
        have s6 := Blk.new w5 57 #[.int .i64 lo, .int .i64 hi]
        have HO6 := Lib.hid (HOw.out.below b6)
        have HQ6 := Lib.hid (HQ.out.below b6)
        have HR6 := Lib.hid (HR.out.below b6)
        have HT6 := Lib.hid (HT.out.below b6)
        have HB6 := Lib.hid (HB.out.trans (b6.mono HB.out.size))
        clear b6 hb5 HOw HQ HR HT HB
        go_upto_region 11 with fail
        generalize hV : w5.alloc (.cells #[.int .i64 lo, .int .i64 hi] 57) = V at *
        clear hV
        have ln1 := (narT_len hs ms k).1.trans HLn.out
        have ln2 := (narT_len hs ms k).2.trans HLm.out
        have ho6 := HO6.out
        rw [← ln1, ← ln2] at ho6
        obtain ⟨g, o, e1, hg1, hg2, hc1, hc2, hfz, hty, hput⟩ := ho6.spot (at_ := k) (by rw [ln1, ln2]; exact hkn) (ga := ga) (gb := gb) (by rw [ln1]; exact HGA.out.1) (by rw [ln2]; exact HGA.out.2.1)
        rw [ln1] at e1 hput
        rw [ln2] at hput
        have HPut := Lib.hid hput
        have HTy := Lib.hid hty
        have HSp := Lib.hid (show ∀ W', Calls Tryz.prog 102 #[vT A1 n c1 B1 m d1, .int .i64 (k : Int)] W' fun e w' => e = .returned (.pointer (some ⟨g, o, none⟩)) ∧ Below W'.heap.size W' w' from fun W' => by
          have := spanAt_any A1 n c1 B1 m d1 ga 0 gb 0 k W' HGA.out.1 HGA.out.2.1 hkn (by omega) (by omega) HGA.out.2.2.1 HGA.out.2.2.2
          rw [e1] at this
          exact this)
        have q0 := HQ6.out.cell 0
        have q1 := HQ6.out.cell 1
        have s0 := s6.cell 0
        have s1 := s6.cell 1
        simp only [List.getElem?_toArray, List.getElem?_cons_zero, List.getElem?_cons_succ] at q0 q1 s0 s1
        have ql := HQ6.out.lt
        have sl := s6.lt
        clear e1 hput hty ho6
        obtain ⟨xc, xf⟩ := xcell (W := V)
        refine wp_region_quiet_tail 5 (by kernel_rfl) (by kernel_rfl) ?_
        simp only [List.take_succ_cons, List.take_zero, List.drop_succ_cons, List.drop_zero]
        repeat (first | go_big_quiet_step ((go_at_call 102; with_reducible refine calls_ext (HSp.out _))) | quiet_step ((go_at_call 102; with_reducible refine calls_ext (HSp.out _))))
        refine wpQuiet_nil ?_
        intro w7 hb7
        have c7 := (hb7.cell (p := ⟨g, o, none⟩) hg2).trans hc1
        have c8 := (hb7.cell (p := ⟨g, o + 1, none⟩) hg2).trans hc2
        have f7 := (hb7.frozen (p := ⟨g, o, none⟩) hg2).trans (hfz o)
        have f8 := (hb7.frozen (p := ⟨g, o + 1, none⟩) hg2).trans (hfz (o + 1))
        have gl7 := Nat.lt_of_lt_of_le hg2 hb7.size
        clear q0 q1 s0 s1 ql sl xc xf HSp hc1 hc2 hfz
        go_wp2
        go_roundw
        case rel =>
          refine ⟨k + 1, by omega, by go_num, ?_, ((HQ6.out.below hb7).far (p := ⟨g, o, none⟩) (HTy.out _ _ _ HQ6.out (by decide) (by decide)) _).far (p := ⟨g, o + 1, none⟩) (HTy.out _ _ _ HQ6.out (by decide) (by decide)) _, ((HR6.out.below hb7).far (p := ⟨g, o, none⟩) (HTy.out _ _ _ HR6.out (by decide) (by decide)) _).far (p := ⟨g, o + 1, none⟩) (HTy.out _ _ _ HR6.out (by decide) (by decide)) _, ((HT6.out.below hb7).far (p := ⟨g, o, none⟩) (HTy.out _ _ _ HT6.out (by decide) (by decide)) _).far (p := ⟨g, o + 1, none⟩) (HTy.out _ _ _ HT6.out (by decide) (by decide)) _, ((HB6.out.trans (hb7.mono HB6.out.size)).setCell (p := ⟨g, o, none⟩) (by show w.heap.size ≤ g; omega) _).setCell (p := ⟨g, o + 1, none⟩) (by show w.heap.size ≤ g; omega) _⟩
          have := HPut.out lo hi w7 hb7
          rw [narT, HLh.out.1, HLh.out.2]
          exact this
        case measure => simp [intOf]; omega
end Go.Proofs.YtighfmgkoepfkaaGreat

namespace Go.Proofs.YtighfmgkoepfkaaGreat
open Go.RowKit

def NwOut (w : World) (hs : List Hd) (ms : List Mv) (en : Ending) (w' : World) : Prop :=
  Below w.heap.size w w' ∧ ∃ v1 v2, en = .returned (.tuple #[.agg #[v1, v2], .int .i64 (nwE hs ms)]) ∧ OwnT w' w.heap.size v1 v2 (nwH hs ms) (nwM hs ms)
theorem OwnT.nil (w : World) (L : Nat) : OwnT w L (.slice none 0 0) (.slice none 0 0) [] [] := ⟨World.ownsRow_nil _ _ _ _, World.ownsRow_nil _ _ _ _⟩
set_option maxHeartbeats 3200000 in
theorem Narrowed_any (t : TR) (w : World) (h : t.Ok w) : Calls Tryz.prog 16 #[t.v] w (NwOut w t.hs t.ms) := by
  have hb0 := ((Below.refl w.heap.size w).alloc (Nat.le_refl _) (.cells #[.slice t.A t.n t.c, .slice t.B t.m t.d] 25)).alloc (by simp) (.cells #[.slice none 0 0, .slice none 0 0] 25)
  have HCk := Lib.hid (Check_any t _ (h.below hb0))
  have HNa := Lib.hid (fun W (hW : Below w.heap.size w W) hv => narrowed_any t W (h.below hW) hv)
  obtain ⟨A, n, c, B, m, d, hs, ms⟩ := t
  dsimp only [TR.v] at *
  have t0 := ((Blk.new w 25 #[.slice A n c, .slice B m d]).alloc (.cells #[.slice none 0 0, .slice none 0 0] 25))
  have r0 := (Blk.at_new (W := w.alloc (.cells #[.slice A n c, .slice B m d] 25)) (g := w.heap.size + 1) 25 #[.slice none 0 0, .slice none 0 0] (by simp))
  clear h
  generalize hck : tcheck hs ms = ck at *
  have HTc := Lib.hid hck
  clear hck
  go_enter Tryz.func16, Tryz.ntmps16
  generalize hW : (w.alloc (.cells #[.slice A n c, .slice B m d] 25)).alloc (.cells #[.slice none 0 0, .slice none 0 0] 25) = W at *
  have HWE := Lib.hid hW
  clear hW
  go_wp2_with fail
  rw [HWE.out]
  refine HCk.out.mono ?_; rintro e w1 ⟨rfl, hb1⟩
  have b1 := hb0.trans (hb1.mono hb0.size)
  have t1 := t0.below hb1
  have r1 := r0.below hb1
  have HR1 := Lib.hid r1
  have HB1 := Lib.hid b1
  clear HCk hb0 hb1 t0 r0 HWE
  have y0 := t1.cell 0
  have y1 := t1.cell 1
  have z0 := r1.cell 0
  have z1 := r1.cell 1
  have f0 := r1.frozen 0
  have f1 := r1.frozen 1
  simp only [List.getElem?_toArray, List.getElem?_cons_zero, List.getElem?_cons_succ] at y0 y1 z0 z1
  have l0 := t1.lt
  have l1 := r1.lt
  clear t1 r1 b1
  by_cases hz : ck = 0
  case neg =>
    have hz1 : (ck != 0) = true := by simpa using hz
    have HE := Lib.hid (show nwE hs ms = ck by unfold nwE; rw [HTc.out, if_pos hz])
    have HX := Lib.hid (show nwH hs ms = [] ∧ nwM hs ms = [] by unfold nwH nwM; rw [HE.out, if_neg hz, if_neg hz]; exact ⟨rfl, rfl⟩)
    go_wp2
    have hf := blk_set2 HR1.out (.slice none 0 0) (.slice none 0 0)
    have x0 := hf.cell 0
    have x1 := hf.cell 1
    simp only [List.getElem?_toArray, List.getElem?_cons_zero, List.getElem?_cons_succ] at x0 x1
    exact bodyPost_ret (v := .tuple #[vT0, .int .i64 ck]) (by simp [results, Tryz.results16, go_sem, x0, x1]) rfl ⟨below_set2 HB1.out (by omega) _ _, _, _, by rw [HE.out], by rw [HX.out.1, HX.out.2]; exact OwnT.nil _ _⟩
  case pos =>
    subst hz
    have hv := tcheck_zero.1 HTc.out
    have HC := Lib.hid (HNa.out w1 HB1.out hv)
    have hs1 := HB1.out.size
    clear hv
    go_wp2_with fail
    refine HC.out.mono ?_
    rintro e w2 ⟨hb2, ⟨hag, rfl⟩ | ⟨hag, v1, v2, rfl, hot⟩⟩
    · have HE := Lib.hid (show nwE hs ms = 9 by unfold nwE; rw [HTc.out, if_neg (by decide), if_pos hag])
      have HX := Lib.hid (show nwH hs ms = [] ∧ nwM hs ms = [] by unfold nwH nwM; rw [HE.out, if_neg (by decide), if_neg (by decide)]; exact ⟨rfl, rfl⟩)
      have r2 := HR1.out.below hb2
      have HR2 := Lib.hid r2
      have HB2 := Lib.hid (HB1.out.trans (hb2.mono HB1.out.size))
      clear z0 z1 f0 f1 HC hag
      have l2 := r2.lt
      have z0 := r2.cell 0
      have z1 := r2.cell 1
      have f0 := r2.frozen 0
      have f1 := r2.frozen 1
      simp only [List.getElem?_toArray, List.getElem?_cons_zero, List.getElem?_cons_succ] at z0 z1
      clear r2 hb2
      go_wp2
      have hf := blk_set2 HR2.out (.slice none 0 0) (.slice none 0 0)
      have x0 := hf.cell 0
      have x1 := hf.cell 1
      simp only [List.getElem?_toArray, List.getElem?_cons_zero, List.getElem?_cons_succ] at x0 x1
      exact bodyPost_ret (v := .tuple #[vT0, .int .i64 9]) (by simp [results, Tryz.results16, go_sem, x0, x1]) rfl ⟨below_set2 HB2.out (by omega) _ _, _, _, by rw [HE.out], by rw [HX.out.1, HX.out.2]; exact OwnT.nil _ _⟩
    · have HE := Lib.hid (show nwE hs ms = 0 by unfold nwE; rw [HTc.out, if_neg (by decide), if_neg (by rw [hag]; decide)])
      have HX := Lib.hid (show nwH hs ms = narH hs ms ∧ nwM hs ms = narM hs ms by unfold nwH nwM; rw [HE.out, if_pos rfl, if_pos rfl]; exact ⟨rfl, rfl⟩)
      have HOt := Lib.hid hot
      obtain ⟨A1, c1, B1, d1, rfl, rfl, _⟩ := hot.form
      have r2 := HR1.out.below hb2
      have HR2 := Lib.hid r2
      have HB2 := Lib.hid (HB1.out.trans (hb2.mono HB1.out.size))
      clear z0 z1 f0 f1 HC hag hot
      have l2 := r2.lt
      have z0 := r2.cell 0
      have z1 := r2.cell 1
      have f0 := r2.frozen 0
      have f1 := r2.frozen 1
      simp only [List.getElem?_toArray, List.getElem?_cons_zero, List.getElem?_cons_succ] at z0 z1
      clear r2 hb2
      go_wp2
      have hf := blk_set2 HR2.out (.slice A1 (narH hs ms).length c1) (.slice B1 (narM hs ms).length d1)
      have x0 := hf.cell 0
      have x1 := hf.cell 1
      simp only [List.getElem?_toArray, List.getElem?_cons_zero, List.getElem?_cons_succ] at x0 x1
      refine bodyPost_ret (v := .tuple #[vT A1 (narH hs ms).length c1 B1 (narM hs ms).length d1, .int .i64 0]) (by simp [results, Tryz.results16, go_sem, x0, x1]) rfl ⟨below_set2 HB2.out (by omega) _ _, _, _, by rw [HE.out], ?_⟩
      rw [HX.out.1, HX.out.2]
      exact (HOt.out.grown (grown_set2 w2 (w.heap.size + 1) (.slice A1 (narH hs ms).length c1) (.slice B1 (narM hs ms).length d1)) (fun g hg => by have e2 : w.heap.size + 1 = g := Option.some.inj hg; omega)).weak (by omega)
def encSp (x : Int × Int) : List Value := [.int .i64 x.1, .int .i64 x.2]
theorem encSp_len (x : Int × Int) : (encSp x).length = 2 := rfl
theorem info_span : (Tryz.prog.info? 57).map (fun i => (i.zero, i.size, i.bytes)) = some (some (.agg #[.int .i64 0, .int .i64 0]), 2, 16) := by kernel_rfl
def encGp (x : Gp) : List Value := [.int .i64 x.id, .int .i64 x.lo, .int .i64 x.hi]
theorem encGp_len (x : Gp) : (encGp x).length = 3 := rfl
theorem info_gap : (Tryz.prog.info? 116).map (fun i => (i.zero, i.size, i.bytes)) = some (some (.agg #[.int .i64 0, .int .i64 0, .int .i64 0]), 3, 24) := by kernel_rfl

def SpOut (w : World) (hs : List Hd) (ms : List Mv) (en : Ending) (w' : World) : Prop :=
  Below w.heap.size w w' ∧ ∃ v, en = .returned (.tuple #[v, .int .i64 (nwE hs ms)]) ∧ w'.ownsRow w.heap.size 57 2 v (spansL hs ms).length ((spansL hs ms).flatMap encSp)
set_option maxRecDepth 100000 in
set_option maxHeartbeats 3200000 in
theorem Spans_any (t : TR) (w : World) (h : t.Ok w) : Calls Tryz.prog 14 #[t.v] w (SpOut w t.hs t.ms) := by
  have hb0 := ((Below.refl w.heap.size w).alloc (Nat.le_refl _) (.cells #[.slice t.A t.n t.c, .slice t.B t.m t.d] 25))
  have HNa := Lib.hid (Narrowed_any t _ (h.below hb0))
  obtain ⟨A, n, c, B, m, d, hs, ms⟩ := t
  dsimp only [TR.v] at *
  obtain ⟨i0, hi0, hi1, hi2, hi3⟩ := info_parts info_span
  clear h
  have hlen0 : (nwM hs ms).length ≤ 24 := nwM_len hs ms
  go_enter Tryz.func14, Tryz.ntmps14
  go_wp2_with fail
  refine HNa.out.mono ?_
  rintro e w1 ⟨hb1, v1, v2, rfl, hot⟩
  have HOt := Lib.hid hot
  obtain ⟨A1, c1, B1, d1, rfl, rfl, hsa, hsb, hc1, hd1, _, _⟩ := hot.form
  have HHl := Lib.hid (show (nwH hs ms).length ≤ 9 from nwH_len hs ms)
  have HMl := Lib.hid (show (nwM hs ms).length ≤ 24 from nwM_len hs ms)
  generalize hnh : (nwH hs ms).length = nh at *
  generalize hnm : (nwM hs ms).length = nm at *
  have HNh := Lib.hid (show (nwH hs ms).length = nh ∧ (nwM hs ms).length = nm from ⟨hnh, hnm⟩)
  clear hnh hnm
  have b2 := (Below.refl w1.heap.size w1).alloc (Nat.le_refl _) (.cells #[.slice A1 nh c1, .slice B1 nm d1] 25)
  have q2 := Blk.new w1 25 #[.slice A1 nh c1, .slice B1 nm d1]
  have HB2 := Lib.hid (hb0.trans ((hb1.trans (b2.mono hb1.size)).mono hb0.size))
  have HSA := Lib.hid (hsa.below b2)
  have HSB := Lib.hid (hsb.below b2)
  have hw01 := hb1.size
  generalize hck : nwE hs ms = ck at *
  have HCk := Lib.hid hck
  clear hck HNa hb0 hb1 hot hsa hsb b2
  by_cases hz : ck = 0
  case neg =>
    have hz1 : (ck != 0) = true := by simpa using hz
    have HX := Lib.hid (show spansL hs ms = [] by unfold spansL nwM; rw [HCk.out, if_neg hz]; rfl)
    go_wp2
    exact bodyPost_ret (v := .tuple #[.slice none 0 0, .int .i64 ck]) (by simp [results, Tryz.results14, go_sem]) rfl ⟨HB2.out, _, by rw [HCk.out], by rw [HX.out]; exact World.ownsRow_nil _ _ _ _⟩
  case pos =>
    subst hz
    go_wp2
    generalize hV : w1.alloc (.cells #[.slice A1 nh c1, .slice B1 nm d1] 25) = V at *
    clear hV
    go_loopw [6, 20] (fun v i wx => ∃ k : Nat, k ≤ nm ∧ i = .int .i64 (k : Int) ∧ wx.ownsRow V.heap.size 57 2 v k (((spansL hs ms).take k).flatMap encSp) ∧ Below V.heap.size V wx) (fun _ i _ => nm - (intOf i).toNat)
    case atStart => exact ⟨0, Nat.zero_le _, rfl, by simpa using World.ownsRow_nil _ _ _ _, Below.refl _ _⟩
    case round =>
      obtain ⟨k, hk, rfl, ow, hb⟩ := hrel
      have OW := Lib.hid ow
      have HLT := Lib.hid (fun (r : Nat) hr => own_lt (g := r) ow hr)
      obtain ⟨Ao, co, rfl⟩ := owns_slice ow
      have hVs := hb.size
      by_cases hkn : k < nm
      case neg =>
        have hkk : k = (spansL hs ms).length := by unfold spansL; rw [List.length_map]; have := HNh.out.2; omega
        have HK := Lib.hid hkk
        clear ow hkk
        go_wp2
        refine bodyPost_ret (v := .tuple #[.slice Ao k co, .int .i64 0]) (by simp [results, Tryz.results14, go_sem]) rfl ⟨HB2.out.trans (hb.mono HB2.out.size), _, by rw [HCk.out], ?_⟩
        have := OW.out
        rw [HK.out, List.take_length] at this
        rw [HK.out]
        exact owns_weak this (by have := HB2.out.size; omega)
      case pos =>
        have hkl : k < (nwM hs ms).length := by have := HNh.out.2; omega
        have hsat := HSB.out.below hb
        obtain ⟨b, off, hA, hl⟩ := hsat.at_ (by omega)
        subst hA
        obtain ⟨x0, x1, x2, x3, x4⟩ := Mvs.at_ hl (List.getElem?_eq_getElem hkl)
        have hlt := hl.lt
        have HT := Lib.hid (show (spansL hs ms).take (k + 1) = (spansL hs ms).take k ++ [(fun m : Mv => (m.lo, m.hi)) (nwM hs ms)[k]] by
          have hl2 : k < (spansL hs ms).length := by unfold spansL; rw [List.length_map]; exact hkl
          rw [List.take_succ_eq_append_getElem hl2]
          simp [spansL])
        clear hl hsat
        generalize (nwM hs ms)[k] = x at *
        obtain ⟨xi, xf, xt, xl, xh⟩ := x
        dsimp only at *
        have b3 := ((Below.refl wr.heap.size wr).alloc (Nat.le_refl _) (.cells #[.int .i64 xi, .int .i64 xf, .int .i64 xt, .int .i64 xl, .int .i64 xh] 59)).alloc (by simp) (.cells #[.int .i64 xl, .int .i64 xh] 57)
        have HB3 := Lib.hid (hb.trans (b3.mono hb.size))
        have OW2 := Lib.hid ((ow.alloc (.cells #[.int .i64 xi, .int .i64 xf, .int .i64 xt, .int .i64 xl, .int .i64 xh] 59)).alloc (.cells #[.int .i64 xl, .int .i64 xh] 57))
        clear ow
        go_wp2_with (at_builtin; go_loud (refine wpList_append_own _ rfl (.tmp 24) (.tmp 27) 28 rfl V.heap.size 57 i0 (.agg #[.int .i64 0, .int .i64 0]) 2 16 Tryz.underlying28 hi0 hi1 hi2 hi3 rfl (by decide) _ k (((spansL hs ms).take k).flatMap encSp) rfl OW2.out ⟨wr.heap.size + 1, 0, none⟩ 1 1 [.int .i64 xl, .int .i64 xh] rfl rfl ?c1 (one_intsL [xl, xh]) (by unfold maxLen; omega) (by omega) (by simp; omega) ?_))
        case c1 =>
          intro j u hj
          have := (Blk.at_new (W := wr.alloc (.cells #[.int .i64 xi, .int .i64 xf, .int .i64 xt, .int .i64 xl, .int .i64 xh] 59)) (g := wr.heap.size + 1) 57 #[.int .i64 xl, .int .i64 xh] (by simp)).cell j
          have hadd : (⟨wr.heap.size + 1, 0, none⟩ : Addr).add j = ⟨wr.heap.size + 1, j, none⟩ := by unfold Addr.add; split <;> simp_all
          rw [hadd, this]
          simpa using hj
        intro v' w4 ho hgr _
        obtain ⟨g5, c5, rfl⟩ := ownsRow_succ ho
        have HO := Lib.hid ho
        have HB4 := Lib.hid (HB3.out.grown hgr HB3.out.size (fun r hr => by have := HLT.out _ hr; omega))
        clear ho hgr
        go_wp2
        go_roundw
        case rel => exact ⟨k + 1, by omega, by go_num, by rw [HT.out, List.flatMap_append]; exact HO.out, HB4.out⟩
        case measure => simp [intOf]; omega

def GpOut (w : World) (hs : List Hd) (ms : List Mv) (en : Ending) (w' : World) : Prop :=
  Below w.heap.size w w' ∧ ∃ v, en = .returned (.tuple #[v, .int .i64 (nwE hs ms)]) ∧ w'.ownsRow w.heap.size 116 3 v (gapsL hs ms).length ((gapsL hs ms).flatMap encGp)
set_option maxRecDepth 100000 in
set_option maxHeartbeats 3200000 in
theorem Gaps_any (t : TR) (w : World) (h : t.Ok w) : Calls Tryz.prog 25 #[t.v] w (GpOut w t.hs t.ms) := by
  have hb0 := ((Below.refl w.heap.size w).alloc (Nat.le_refl _) (.cells #[.slice t.A t.n t.c, .slice t.B t.m t.d] 25))
  have HNa := Lib.hid (Narrowed_any t _ (h.below hb0))
  obtain ⟨A, n, c, B, m, d, hs, ms⟩ := t
  dsimp only [TR.v] at *
  obtain ⟨i0, hi0, hi1, hi2, hi3⟩ := info_parts info_gap
  clear h
  have HBd := Lib.hid (show ∀ x ∈ nwH hs ms, 0 ≤ x.bk ∧ x.bk ≤ 65536 ∧ 0 ≤ x.el ∧ x.el ≤ 65536 ∧ 0 ≤ x.eh ∧ x.eh ≤ 65536 from fun x hx => nwH_bd hx)
  have hlen0 : (nwH hs ms).length ≤ 9 := nwH_len hs ms
  go_enter Tryz.func25, Tryz.ntmps25
  go_wp2_with fail
  refine HNa.out.mono ?_
  rintro e w1 ⟨hb1, v1, v2, rfl, hot⟩
  have HOt := Lib.hid hot
  obtain ⟨A1, c1, B1, d1, rfl, rfl, hsa, hsb, hc1, hd1, _, _⟩ := hot.form
  have HHl := Lib.hid (show (nwH hs ms).length ≤ 9 from nwH_len hs ms)
  have HMl := Lib.hid (show (nwM hs ms).length ≤ 24 from nwM_len hs ms)
  generalize hnh : (nwH hs ms).length = nh at *
  generalize hnm : (nwM hs ms).length = nm at *
  have HNh := Lib.hid (show (nwH hs ms).length = nh ∧ (nwM hs ms).length = nm from ⟨hnh, hnm⟩)
  clear hnh hnm
  have b2 := (Below.refl w1.heap.size w1).alloc (Nat.le_refl _) (.cells #[.slice A1 nh c1, .slice B1 nm d1] 25)
  have q2 := Blk.new w1 25 #[.slice A1 nh c1, .slice B1 nm d1]
  have HB2 := Lib.hid (hb0.trans ((hb1.trans (b2.mono hb1.size)).mono hb0.size))
  have HSA := Lib.hid (hsa.below b2)
  have HSB := Lib.hid (hsb.below b2)
  have hw01 := hb1.size
  generalize hck : nwE hs ms = ck at *
  have HCk := Lib.hid hck
  clear hck HNa hb0 hb1 hot hsa hsb b2
  by_cases hz : ck = 0
  case neg =>
    have hz1 : (ck != 0) = true := by simpa using hz
    have HX := Lib.hid (show gapsL hs ms = [] by unfold gapsL nwH; rw [HCk.out, if_neg hz]; rfl)
    go_wp2
    exact bodyPost_ret (v := .tuple #[.slice none 0 0, .int .i64 ck]) (by simp [results, Tryz.results25, go_sem]) rfl ⟨HB2.out, _, by rw [HCk.out], by rw [HX.out]; exact World.ownsRow_nil _ _ _ _⟩
  case pos =>
    subst hz
    go_wp2
    generalize hV : w1.alloc (.cells #[.slice A1 nh c1, .slice B1 nm d1] 25) = V at *
    clear hV
    go_loopw [6, 20] (fun v i wx => ∃ k : Nat, k ≤ nh ∧ i = .int .i64 (k : Int) ∧ wx.ownsRow V.heap.size 116 3 v k (((gapsL hs ms).take k).flatMap encGp) ∧ Below V.heap.size V wx) (fun _ i _ => nh - (intOf i).toNat)
    case atStart => exact ⟨0, Nat.zero_le _, rfl, by simpa using World.ownsRow_nil _ _ _ _, Below.refl _ _⟩
    case round =>
      obtain ⟨k, hk, rfl, ow, hb⟩ := hrel
      have OW := Lib.hid ow
      have HLT := Lib.hid (fun (r : Nat) hr => own_lt (g := r) ow hr)
      obtain ⟨Ao, co, rfl⟩ := owns_slice ow
      have hVs := hb.size
      by_cases hkn : k < nh
      case neg =>
        have hkk : k = (gapsL hs ms).length := by unfold gapsL; rw [List.length_map]; have := HNh.out.1; omega
        have HK := Lib.hid hkk
        clear ow hkk
        go_wp2
        refine bodyPost_ret (v := .tuple #[.slice Ao k co, .int .i64 0]) (by simp [results, Tryz.results25, go_sem]) rfl ⟨HB2.out.trans (hb.mono HB2.out.size), _, by rw [HCk.out], ?_⟩
        have := OW.out
        rw [HK.out, List.take_length] at this
        rw [HK.out]
        exact owns_weak this (by have := HB2.out.size; omega)
      case pos =>
        have hkl : k < (nwH hs ms).length := by have := HNh.out.1; omega
        have hsat := HSA.out.below hb
        obtain ⟨b, off, hA, hl⟩ := hsat.at_ (by omega)
        subst hA
        obtain ⟨x0, x1, x2, x3, x4, x5⟩ := Hds.at_ hl (List.getElem?_eq_getElem hkl)
        have hlt := hl.lt
        have hbd := HBd.out _ (List.getElem_mem hkl)
        have HT := Lib.hid (show (gapsL hs ms).take (k + 1) = (gapsL hs ms).take k ++ [(fun h : Hd => (⟨h.id, h.bk - h.eh, h.bk - h.el⟩ : Gp)) (nwH hs ms)[k]] by
          have hl2 : k < (gapsL hs ms).length := by unfold gapsL; rw [List.length_map]; exact hkl
          rw [List.take_succ_eq_append_getElem hl2]
          simp [gapsL])
        clear hl hsat
        generalize (nwH hs ms)[k] = x at *
        obtain ⟨xi, xsl, xsh, xl, xh, xb⟩ := x
        dsimp only at *
        have hw1 : IntKind.i64.wrap (xb - xh) = xb - xh := IntWalk.i64_in _ (by omega)
        have hw2 : IntKind.i64.wrap (xb - xl) = xb - xl := IntWalk.i64_in _ (by omega)
        have b3 := ((Below.refl wr.heap.size wr).alloc (Nat.le_refl _) (.cells #[.int .i64 xi, .int .i64 xsl, .int .i64 xsh, .int .i64 xl, .int .i64 xh, .int .i64 xb] 118)).alloc (by simp) (.cells #[.int .i64 xi, .int .i64 (xb - xh), .int .i64 (xb - xl)] 116)
        have HB3 := Lib.hid (hb.trans (b3.mono hb.size))
        have OW2 := Lib.hid ((ow.alloc (.cells #[.int .i64 xi, .int .i64 xsl, .int .i64 xsh, .int .i64 xl, .int .i64 xh, .int .i64 xb] 118)).alloc (.cells #[.int .i64 xi, .int .i64 (xb - xh), .int .i64 (xb - xl)] 116))
        clear ow
        go_wp2_with (at_builtin; go_loud (refine wpList_append_own _ rfl (.tmp 24) (.tmp 41) 49 rfl V.heap.size 116 i0 (.agg #[.int .i64 0, .int .i64 0, .int .i64 0]) 3 24 Tryz.underlying49 hi0 hi1 hi2 hi3 rfl (by decide) _ k (((gapsL hs ms).take k).flatMap encGp) rfl OW2.out ⟨wr.heap.size + 1, 0, none⟩ 1 1 [.int .i64 xi, .int .i64 (xb - xh), .int .i64 (xb - xl)] rfl rfl ?c1 (one_intsL [xi, xb - xh, xb - xl]) (by unfold maxLen; omega) (by omega) (by simp; omega) ?_))
        case c1 =>
          intro j u hj
          have := (Blk.at_new (W := wr.alloc (.cells #[.int .i64 xi, .int .i64 xsl, .int .i64 xsh, .int .i64 xl, .int .i64 xh, .int .i64 xb] 118)) (g := wr.heap.size + 1) 116 #[.int .i64 xi, .int .i64 (xb - xh), .int .i64 (xb - xl)] (by simp)).cell j
          have hadd : (⟨wr.heap.size + 1, 0, none⟩ : Addr).add j = ⟨wr.heap.size + 1, j, none⟩ := by unfold Addr.add; split <;> simp_all
          rw [hadd, this]
          simpa using hj
        intro v' w4 ho hgr _
        obtain ⟨g5, c5, rfl⟩ := ownsRow_succ ho
        have HO := Lib.hid ho
        have HB4 := Lib.hid (HB3.out.grown hgr HB3.out.size (fun r hr => by have := HLT.out _ hr; omega))
        clear ho hgr
        go_wp2
        go_roundw
        case rel => exact ⟨k + 1, by omega, by go_num, by rw [HT.out, List.flatMap_append]; exact HO.out, HB4.out⟩
        case measure => simp [intOf]; omega
end Go.Proofs.YtighfmgkoepfkaaGreat
