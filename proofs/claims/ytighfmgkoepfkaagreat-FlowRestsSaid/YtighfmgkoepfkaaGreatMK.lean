/- Merged: a trade with two holders as one. -/
import Derived.Deep.RegionLaw
import Derived.Test.YtighfmgkoepfkaaGreatMW
import Derived.Test.YtighfmgkoepfkaaGreatMB
import Derived.Test.YtighfmgkoepfkaaGreatMEm
import Derived.Test.YtighfmgkoepfkaaGreatMV
import Derived.Test.YtighfmgkoepfkaaGreatMZ
namespace Go.Proofs.YtighfmgkoepfkaaGreat
open Go.RowKit Go.Lib

theorem owns_putCells {B e size n g c : Nat} : ∀ (vs : List Value) {W : World} {xs : List Value} (o : Nat), W.ownsRow B e size (.slice (some ⟨g, 0, none⟩) n c) n xs → o + vs.length ≤ xs.length →
    (W.setCells g o vs).ownsRow B e size (.slice (some ⟨g, 0, none⟩) n c) n (xs.take o ++ vs ++ xs.drop (o + vs.length)) ∧ W.grownBy (W.setCells g o vs) (some g)
  | [], W, xs, o, h, _ => ⟨by rw [show W.setCells g o [] = W from rfl]; simpa using h, grown_refl _ _⟩
  | v :: vs, W, xs, o, h, hl => by
    rw [List.length_cons] at hl
    have h1 := owns_set h o (by omega) v
    obtain ⟨a, b⟩ := owns_putCells vs (o + 1) h1 (by rw [List.length_set]; omega)
    have e1 : (xs.set o v).take (o + 1) ++ vs ++ (xs.set o v).drop (o + 1 + vs.length) = xs.take o ++ (v :: vs) ++ xs.drop (o + (v :: vs).length) := by
      rw [List.take_add_one, List.getElem?_set_self (by omega), List.take_set_of_le (Nat.le_refl _), List.drop_set_of_lt (by omega), List.length_cons]
      simp [Nat.add_assoc, Nat.add_comm 1]
    rw [e1] at a
    exact ⟨a, grown_trans (grownBy_set _ _ _ _) b⟩
theorem run_clear_hd (W : World) (b o n c : Nat) (hn : 0 < n) (hc : ∀ j, j < n * 6 → (W.cell? ⟨b, o + j, none⟩).isSome = true) (hf : ∀ j, W.frozen? ⟨b, o + j, none⟩ = false) :
    ∃ vs, vs.length = n * 6 ∧ ∀ ty, (Builtin.clear_ #[22] ty #[.slice (some ⟨b, o, none⟩) n c]).run Tryz.prog W = .ok (.tuple #[]) (W.setCells b o vs) := by
  refine ⟨(Builtin.zeroCells #[.int .i64 0, .int .i64 0, .int .i64 0, .int .i64 0, .int .i64 0, .int .i64 0] n).toList, by simp [Builtin.zeroCells], fun ty => ?_⟩
  have hst := run_storeCells_cells (P := Tryz.prog) b o (Builtin.zeroCells #[.int .i64 0, .int .i64 0, .int .i64 0, .int .i64 0, .int .i64 0, .int .i64 0] n).toList 0 W (by simpa [Builtin.zeroCells] using hc) (by simp [Builtin.zeroCells, hf]) (by
    intro v hv
    simp [Builtin.zeroCells] at hv
    obtain ⟨i, _, rfl⟩ := hv
    have h5 : i % 6 < 6 := Nat.mod_lt _ (by decide)
    generalize i % 6 = k at *
    match k, h5 with
    | 0, _ => rfl
    | 1, _ => rfl
    | 2, _ => rfl
    | 3, _ => rfl
    | 4, _ => rfl
    | 5, _ => rfl)
  simp only [Nat.add_zero] at hst
  obtain ⟨m, rfl⟩ : ∃ m, n = m + 1 := ⟨n - 1, by omega⟩
  have hz : ∀ w, (zeroValue 118).run Tryz.prog w = .ok (.agg #[.int .i64 0, .int .i64 0, .int .i64 0, .int .i64 0, .int .i64 0, .int .i64 0]) w := Tryz.zeroValue118
  simp [Builtin.clear_, run_underlying Tryz.underlying22, hz, Value.cells, hst]
set_option maxRecDepth 100000 in
set_option maxHeartbeats 12800000 in
theorem delH_any (L g q c k : Nat) (hs : List Hd) (w : World) (hk : k ≤ q) (hq : q ≤ 100000) (hl : hs.length = q + 1)
    (h : w.ownsRow L 118 6 (.slice (some ⟨g, 0, none⟩) (q + 1) c) (q + 1) (hs.flatMap encH)) :
    Calls Tryz.prog 91 #[.slice (some ⟨g, 0, none⟩) (q + 1) c, .int .i64 (k : Int), .int .i64 ((k : Int) + 1)] w fun e w' => e = .returned (.slice (some ⟨g, 0, none⟩) q c) ∧ w'.ownsRow L 118 6 (.slice (some ⟨g, 0, none⟩) q c) q ((hs.eraseIdx k).flatMap encH) ∧ w.grownBy w' (some g) := by
  have hnc := owns_cap' h
  obtain ⟨i0, hi0, hi1, hi2, hi3⟩ := info_parts info_hd
  have hd : Below w.heap.size w w.drew := (Below.refl _ w).drew
  have hrow := owns_below h hd
  have hgd : w.grownBy w.drew (some g) := below_grown hd
  obtain ⟨news, hnews⟩ : ∃ news, news = (hs.drop (k + 1)).flatMap encH := ⟨_, rfl⟩
  have hlen : news.length = (q - k) * 6 := by rw [hnews, flat_len encH_len, List.length_drop, hl]; congr 1; omega
  have hfl : (hs.flatMap encH).length = (q + 1) * 6 := by rw [flat_len encH_len, hl]
  have hsplit : hs.flatMap encH = (hs.take (k + 1)).flatMap encH ++ news := by rw [hnews, ← List.flatMap_append, List.take_append_drop]
  have htl : ((hs.take (k + 1)).flatMap encH).length = (k + 1) * 6 := by rw [flat_len encH_len, List.length_take, hl]; congr 1; omega
  have hcell : ∀ j, j < (q + 1) * 6 → w.drew.cell? ⟨g, j, none⟩ = (hs.flatMap encH)[j]? ∧ ((hs.flatMap encH)[j]?).isSome = true := fun j hj => by
    have hj2 : j < (hs.flatMap encH).length := by omega
    have := hrow.cells (g := g) rfl j _ (List.getElem?_eq_getElem hj2)
    rw [show (⟨g, 0, none⟩ : Addr).add j = ⟨g, j, none⟩ by unfold Addr.add; split <;> simp_all] at this
    rw [this, List.getElem?_eq_getElem hj2]
    exact ⟨rfl, rfl⟩
  have hfz : ∀ j, w.drew.frozen? ⟨g, j, none⟩ = false := fun j => by
    obtain ⟨cur0, hb0⟩ := own_blk hrow (g := g) rfl
    exact Blk.frozen (show Blk w.drew g _ cur0 from hb0) j
  obtain ⟨A, hA, hsrc⟩ : ∃ A : Addr, (if c = k + 1 then some (⟨g, 0, none⟩ : Addr) else some ⟨g, (k + 1) * 6, none⟩) = some A ∧ Hid (∀ t u, news[t]? = some u → w.drew.cell? (A.add t) = some u) := by
    by_cases hc : c = k + 1
    · refine ⟨⟨g, 0, none⟩, by simp [hc], fun t u hu => ?_⟩
      have h0 : news.length = 0 := by rw [hlen]; omega
      rw [List.length_eq_zero_iff.1 h0] at hu
      simp at hu
    · refine ⟨⟨g, (k + 1) * 6, none⟩, by simp [hc], fun t u hu => ?_⟩
      have ht : t < news.length := (List.getElem?_eq_some_iff.1 hu).1
      rw [show (⟨g, (k + 1) * 6, none⟩ : Addr).add t = ⟨g, (k + 1) * 6 + t, none⟩ by unfold Addr.add; split <;> simp_all]
      rw [(hcell ((k + 1) * 6 + t) (by rw [hlen] at ht; omega)).1, hsplit, List.getElem?_append_right (by omega), htl, Nat.add_sub_cancel_left]
      exact hu
  have s1 : Hid (news.length = (q - k) * 6) := hlen
  have s2 : Hid (∀ u ∈ news, u.oneCell' = true) := by rw [hnews]; exact encH_one _
  have s3 : Hid (∀ t, t < news.length → (w.drew.cell? ⟨g, 0 + k * 6 + t, none⟩).isSome = true ∧ w.drew.frozen? ⟨g, 0 + k * 6 + t, none⟩ = false) := by
    intro t ht
    rw [hlen] at ht
    have := hcell (0 + k * 6 + t) (by omega)
    exact ⟨by rw [this.1]; exact this.2, hfz _⟩
  obtain ⟨W1, hW1⟩ : ∃ W1, W1 = w.drew.setCells g (0 + k * 6) news := ⟨_, rfl⟩
  have hW : Hid (W1 = w.drew.setCells g (0 + k * 6) news) := hW1
  obtain ⟨r1, g1⟩ := owns_putCells news (0 + k * 6) hrow (by rw [hlen, hfl]; omega)
  rw [← hW1] at r1 g1
  obtain ⟨xs1, hxs1⟩ : ∃ x, (hs.flatMap encH).take (0 + k * 6) ++ news ++ (hs.flatMap encH).drop (0 + k * 6 + news.length) = x := ⟨_, rfl⟩
  rw [hxs1] at r1
  have hx1 : xs1.take (q * 6) = (hs.eraseIdx k).flatMap encH := by
    have e1 : (hs.flatMap encH).take (0 + k * 6) = (hs.take k).flatMap encH := by
      have h1 : ((hs.take k).flatMap encH).length = k * 6 := by rw [flat_len encH_len, List.length_take, hl]; congr 1; omega
      have h2 : hs.flatMap encH = (hs.take k).flatMap encH ++ (hs.drop k).flatMap encH := by rw [← List.flatMap_append, List.take_append_drop]
      rw [h2, List.take_append_of_le_length (by omega), List.take_of_length_le (by omega)]
    rw [← hxs1, e1, hnews, ← List.flatMap_append, List.eraseIdx_eq_take_drop_succ, List.take_append_of_le_length, List.take_of_length_le]
    · rw [flat_len encH_len, List.length_append, List.length_take, List.length_drop, hl]; omega
    · rw [flat_len encH_len, List.length_append, List.length_take, List.length_drop, hl]; omega
  have hx1l : xs1.length = (q + 1) * 6 := r1.1
  obtain ⟨cur1, hb1⟩ := own_blk r1 (g := g) rfl
  have hcl1 : ∀ j, j < (q + 1) * 6 → (W1.cell? ⟨g, j, none⟩).isSome = true := fun j hj => by
    have hj2 : j < xs1.length := by omega
    have := r1.cells (g := g) rfl j _ (List.getElem?_eq_getElem hj2)
    rw [show (⟨g, 0, none⟩ : Addr).add j = ⟨g, j, none⟩ by unfold Addr.add; split <;> simp_all] at this
    rw [this]; rfl
  obtain ⟨vs, hvl, hvc⟩ := run_clear_hd W1 g (q * 6) 1 (c - q) (by decide) (fun j hj => hcl1 _ (by omega)) (fun j => Blk.frozen (show Blk W1 g _ cur1 from hb1) _)
  obtain ⟨ys, r2, hy, g2⟩ := owns_setCells vs (q * 6) r1 (by rw [hvl, hx1l]; omega)
  have HFin := Lib.hid (show (W1.setCells g (q * 6) vs).ownsRow L 118 6 (.slice (some ⟨g, 0, none⟩) q c) q ((hs.eraseIdx k).flatMap encH) by
    have := owns_prefix r2 (show q ≤ q + 1 by omega)
    rw [hy, hx1] at this
    exact this)
  have HG := Lib.hid (grown_trans hgd (grown_trans g1 g2))
  have hmix : Tryz.prog.follows .mixedOrders = true := by kernel_rfl
  have hk0 : (0 : Int) ≤ (k : Int) + 1 := by omega
  have hkc : k ≤ c := by omega
  have hkc1 : k + 1 ≤ c := by omega
  have hcq : ¬ c = q := by omega
  have hqc : q ≤ c := by omega
  have hk1 : ((k : Int) == (k : Int) + 1) = false := by simp; omega
  clear h hrow hgd hd hnews hlen hfl hsplit htl hcell hfz hW1 r1 g1 hxs1 hx1 hx1l hb1 hcl1 r2 hy g2 hvl
  go_enter Tryz.func91, Tryz.ntmps91
  go_wp2_with fail
  go_region_law_o (refine step_append_room rfl (.tmp 22) (.tmp 25) 22 rfl 118 i0 6 Tryz.underlying22 hi0 hi2 g 0 k c (by simp [Act.eval, Act.put]) A (q - k) (c - (k + 1)) news (by simp [Act.eval, Act.put]) s1.out hsrc.out s2.out (by omega) s3.out ?_; rw [← hW.out])
  go_wp2
  go_ret
  exact ⟨rfl, HFin.out, HG.out⟩
end Go.Proofs.YtighfmgkoepfkaaGreat

namespace Go.Proofs.YtighfmgkoepfkaaGreat
open Go.RowKit

def setB (bk : Int) (h : Hd) : Hd := { h with bk := bk }
theorem flat_setB : ∀ (hs : List Hd) (i : Nat) (bk : Int), i < hs.length → (hs.flatMap encH).set (i * 6 + 5) (.int .i64 bk) = (hs.modify i (setB bk)).flatMap encH
  | [], i, _, h => by simp at h
  | x :: hs, 0, bk, _ => rfl
  | x :: hs, i + 1, bk, h => by
    have ih := flat_setB hs i bk (by simpa using h)
    show (encH x ++ hs.flatMap encH).set ((i + 1) * 6 + 5) _ = encH x ++ (hs.modify i (setB bk)).flatMap encH
    rw [List.set_append, if_neg (by rw [encH_len]; omega), encH_len, show (i + 1) * 6 + 5 - 6 = i * 6 + 5 by omega, ih]
def hM (x y : Hd) (a b c : Bool) : Hd := ⟨x.id, if a = true then x.sl + y.sl else x.sl, if a = true then x.sh + y.sh else x.sh, if b = true then x.el + y.el else x.el, if b = true then x.eh + y.eh else x.eh, if c = true then x.bk + y.bk else x.bk⟩
theorem hM_all (x y : Hd) : hM x y true true true = addH x y := by simp [hM, addH]
theorem hM_no (x y : Hd) : hM x y false false false = x := by simp [hM]
structure MgP (L ga n c : Nat) (hs : List Hd) (i : Nat) (x y : Hd) (ls : Nat → Bool) (vs : Nat → Value) (v : World) : Prop where
  p7 : ls 7 = true → vs 7 = .agg #[.int .i64 x.sl, .int .i64 x.sh]
  p10 : ls 10 = true → vs 10 = .agg #[.int .i64 (x.sl + y.sl), .int .i64 (x.sh + y.sh)]
  p15 : ls 15 = true → vs 15 = .agg #[.int .i64 x.el, .int .i64 x.eh]
  p18 : ls 18 = true → vs 18 = .agg #[.int .i64 (x.el + y.el), .int .i64 (x.eh + y.eh)]
  p22 : ls 22 = true → vs 22 = .int .i64 x.bk
  p25 : ls 25 = true → vs 25 = .int .i64 (x.bk + y.bk)
  o28 : ls 28 = true → ls 7 = true ∧ ls 15 = true ∧ ls 22 = true
  o31 : ls 31 = true → ls 28 = true
  o34 : ls 34 = true → ls 31 = true
  row : v.ownsRow L 118 6 (.slice (some ⟨ga, 0, none⟩) n c) n ((hs.set i (hM x y (ls 28) (ls 31) (ls 34))).flatMap encH)
section
variable {L ga n c i : Nat} {hs : List Hd} {x y : Hd} {ls : Nat → Bool} {vs : Nat → Value} {v v' : World}
theorem MgP.init (hi : i < hs.length) (hx : hs[i] = x) (h : v.ownsRow L 118 6 (.slice (some ⟨ga, 0, none⟩) n c) n (hs.flatMap encH)) : MgP L ga n c hs i x y (fun _ => false) (fun _ => undef) v := by
  refine ⟨fun h => (by cases h), fun h => (by cases h), fun h => (by cases h), fun h => (by cases h), fun h => (by cases h), fun h => (by cases h), fun h => (by cases h), fun h => (by cases h), fun h => (by cases h), ?_⟩
  rw [hM_no, ← hx, List.set_getElem_self]
  exact h
theorem MgP.below (h : MgP L ga n c hs i x y ls vs v) (hb : Below v.heap.size v v') : MgP L ga n c hs i x y ls vs v' :=
  ⟨h.p7, h.p10, h.p15, h.p18, h.p22, h.p25, h.o28, h.o31, h.o34, owns_below h.row hb⟩
theorem MgP.early (h : MgP L ga n c hs i x y ls vs v) {k : Nat} (hk : k = 7 ∨ k = 15 ∨ k = 22) (hls : ls k = false) : ls 28 = false ∧ ls 31 = false ∧ ls 34 = false := by
  have a : ls 28 = false := by
    cases q : ls 28
    · rfl
    · obtain ⟨a, b, c⟩ := h.o28 q
      rcases hk with rfl | rfl | rfl
      · rw [a] at hls; cases hls
      · rw [b] at hls; cases hls
      · rw [c] at hls; cases hls
  have b : ls 31 = false := by
    cases q : ls 31
    · rfl
    · have := h.o31 q; rw [a] at this; cases this
  have c : ls 34 = false := by
    cases q : ls 34
    · rfl
    · have := h.o34 q; rw [b] at this; cases this
  exact ⟨a, b, c⟩
theorem MgP.cells (h : MgP L ga n c hs i x y ls vs v) (hl : hs.length = n) (hi : i < hs.length) {k : Nat} (hk : k = 7 ∨ k = 15 ∨ k = 22) (hls : ls k = false) :
    ga < v.heap.size ∧ v.cell? ⟨ga, i * 6 + 1, none⟩ = some (.int .i64 x.sl) ∧ v.cell? ⟨ga, i * 6 + 2, none⟩ = some (.int .i64 x.sh) ∧ v.cell? ⟨ga, i * 6 + 3, none⟩ = some (.int .i64 x.el) ∧ v.cell? ⟨ga, i * 6 + 4, none⟩ = some (.int .i64 x.eh) ∧ v.cell? ⟨ga, i * 6 + 5, none⟩ = some (.int .i64 x.bk) := by
  have hr := h.row
  obtain ⟨e1, e2, e3⟩ := h.early hk hls
  rw [e1, e2, e3, hM_no] at hr
  have hls := Ls_of_row (enc := encH) (zs := hs.set i x) encH_len (by rw [List.length_set]; exact hl) hr
  obtain ⟨u0, u1, u2, u3, u4, u5⟩ := Hds.at_ hls (List.getElem?_set_self hi)
  simp only [Nat.zero_add] at u1 u2 u3 u4 u5
  exact ⟨hls.lt, u1, u2, u3, u4, u5⟩
theorem MgP.spots (h : MgP L ga n c hs i x y ls vs v) (hl : hs.length = n) (hi : i < hs.length) : ga < v.heap.size ∧ ∀ j, j < 6 → (∃ u, v.cell? ⟨ga, i * 6 + j, none⟩ = some u) ∧ v.frozen? ⟨ga, i * 6 + j, none⟩ = false := by
  have hr := h.row
  refine ⟨(own_lt hr (g := ga) rfl).2, fun j hj => ⟨?_, ?_⟩⟩
  · have hj2 : i * 6 + j < ((hs.set i (hM x y (ls 28) (ls 31) (ls 34))).flatMap encH).length := by rw [flat_len encH_len, List.length_set]; omega
    have := hr.cells (g := ga) rfl (i * 6 + j) _ (List.getElem?_eq_getElem hj2)
    rw [show (⟨ga, 0, none⟩ : Addr).add (i * 6 + j) = ⟨ga, i * 6 + j, none⟩ by unfold Addr.add; split <;> simp_all] at this
    exact ⟨_, this⟩
  · obtain ⟨cur0, hb0⟩ := own_blk hr (g := ga) rfl
    exact Blk.frozen (show Blk v ga _ cur0 from hb0) _
theorem MgP.s7 (h : MgP L ga n c hs i x y ls vs v) : MgP L ga n c hs i x y (updB ls 7) (upd vs 7 (.agg #[.int .i64 x.sl, .int .i64 x.sh])) v :=
  ⟨fun _ => by simp [upd], fun a => by simpa [updB, upd] using h.p10 (by simpa [updB] using a), fun a => by simpa [updB, upd] using h.p15 (by simpa [updB] using a), fun a => by simpa [updB, upd] using h.p18 (by simpa [updB] using a), fun a => by simpa [updB, upd] using h.p22 (by simpa [updB] using a), fun a => by simpa [updB, upd] using h.p25 (by simpa [updB] using a),
    fun a => by obtain ⟨_, q2, q3⟩ := h.o28 (by simpa [updB] using a); simp [updB, q2, q3], fun a => by simpa [updB] using h.o31 (by simpa [updB] using a), fun a => by simpa [updB] using h.o34 (by simpa [updB] using a), by simpa [updB] using h.row⟩
theorem MgP.s10 (h : MgP L ga n c hs i x y ls vs v) : MgP L ga n c hs i x y (updB ls 10) (upd vs 10 (.agg #[.int .i64 (x.sl + y.sl), .int .i64 (x.sh + y.sh)])) v :=
  ⟨fun a => by simpa [updB, upd] using h.p7 (by simpa [updB] using a), fun _ => by simp [upd], fun a => by simpa [updB, upd] using h.p15 (by simpa [updB] using a), fun a => by simpa [updB, upd] using h.p18 (by simpa [updB] using a), fun a => by simpa [updB, upd] using h.p22 (by simpa [updB] using a), fun a => by simpa [updB, upd] using h.p25 (by simpa [updB] using a),
    fun a => by simpa [updB] using h.o28 (by simpa [updB] using a), fun a => by simpa [updB] using h.o31 (by simpa [updB] using a), fun a => by simpa [updB] using h.o34 (by simpa [updB] using a), by simpa [updB] using h.row⟩
theorem MgP.s15 (h : MgP L ga n c hs i x y ls vs v) : MgP L ga n c hs i x y (updB ls 15) (upd vs 15 (.agg #[.int .i64 x.el, .int .i64 x.eh])) v :=
  ⟨fun a => by simpa [updB, upd] using h.p7 (by simpa [updB] using a), fun a => by simpa [updB, upd] using h.p10 (by simpa [updB] using a), fun _ => by simp [upd], fun a => by simpa [updB, upd] using h.p18 (by simpa [updB] using a), fun a => by simpa [updB, upd] using h.p22 (by simpa [updB] using a), fun a => by simpa [updB, upd] using h.p25 (by simpa [updB] using a),
    fun a => by obtain ⟨q1, _, q3⟩ := h.o28 (by simpa [updB] using a); simp [updB, q1, q3], fun a => by simpa [updB] using h.o31 (by simpa [updB] using a), fun a => by simpa [updB] using h.o34 (by simpa [updB] using a), by simpa [updB] using h.row⟩
theorem MgP.s18 (h : MgP L ga n c hs i x y ls vs v) : MgP L ga n c hs i x y (updB ls 18) (upd vs 18 (.agg #[.int .i64 (x.el + y.el), .int .i64 (x.eh + y.eh)])) v :=
  ⟨fun a => by simpa [updB, upd] using h.p7 (by simpa [updB] using a), fun a => by simpa [updB, upd] using h.p10 (by simpa [updB] using a), fun a => by simpa [updB, upd] using h.p15 (by simpa [updB] using a), fun _ => by simp [upd], fun a => by simpa [updB, upd] using h.p22 (by simpa [updB] using a), fun a => by simpa [updB, upd] using h.p25 (by simpa [updB] using a),
    fun a => by simpa [updB] using h.o28 (by simpa [updB] using a), fun a => by simpa [updB] using h.o31 (by simpa [updB] using a), fun a => by simpa [updB] using h.o34 (by simpa [updB] using a), by simpa [updB] using h.row⟩
theorem MgP.s22 (h : MgP L ga n c hs i x y ls vs v) : MgP L ga n c hs i x y (updB ls 22) (upd vs 22 (.int .i64 x.bk)) v :=
  ⟨fun a => by simpa [updB, upd] using h.p7 (by simpa [updB] using a), fun a => by simpa [updB, upd] using h.p10 (by simpa [updB] using a), fun a => by simpa [updB, upd] using h.p15 (by simpa [updB] using a), fun a => by simpa [updB, upd] using h.p18 (by simpa [updB] using a), fun _ => by simp [upd], fun a => by simpa [updB, upd] using h.p25 (by simpa [updB] using a),
    fun a => by obtain ⟨q1, q2, _⟩ := h.o28 (by simpa [updB] using a); simp [updB, q1, q2], fun a => by simpa [updB] using h.o31 (by simpa [updB] using a), fun a => by simpa [updB] using h.o34 (by simpa [updB] using a), by simpa [updB] using h.row⟩
theorem MgP.s25 (h : MgP L ga n c hs i x y ls vs v) : MgP L ga n c hs i x y (updB ls 25) (upd vs 25 (.int .i64 (x.bk + y.bk))) v :=
  ⟨fun a => by simpa [updB, upd] using h.p7 (by simpa [updB] using a), fun a => by simpa [updB, upd] using h.p10 (by simpa [updB] using a), fun a => by simpa [updB, upd] using h.p15 (by simpa [updB] using a), fun a => by simpa [updB, upd] using h.p18 (by simpa [updB] using a), fun a => by simpa [updB, upd] using h.p22 (by simpa [updB] using a), fun _ => by simp [upd],
    fun a => by simpa [updB] using h.o28 (by simpa [updB] using a), fun a => by simpa [updB] using h.o31 (by simpa [updB] using a), fun a => by simpa [updB] using h.o34 (by simpa [updB] using a), by simpa [updB] using h.row⟩
theorem MgP.s28 (h : MgP L ga n c hs i x y ls vs v) (hi : i < hs.length) (h7 : ls 7 = true) (h15 : ls 15 = true) (h22 : ls 22 = true) (u : Value) :
    MgP L ga n c hs i x y (updB ls 28) (upd vs 28 u) ((v.setCell ⟨ga, i * 6 + 1, none⟩ (.int .i64 (x.sl + y.sl))).setCell ⟨ga, i * 6 + 2, none⟩ (.int .i64 (x.sh + y.sh))) := by
  refine ⟨fun a => by simpa [updB, upd] using h.p7 (by simpa [updB] using a), fun a => by simpa [updB, upd] using h.p10 (by simpa [updB] using a), fun a => by simpa [updB, upd] using h.p15 (by simpa [updB] using a), fun a => by simpa [updB, upd] using h.p18 (by simpa [updB] using a), fun a => by simpa [updB, upd] using h.p22 (by simpa [updB] using a), fun a => by simpa [updB, upd] using h.p25 (by simpa [updB] using a),
    fun _ => by simp [updB, h7, h15, h22], fun _ => by simp [updB], fun a => by simpa [updB] using h.o34 (by simpa [updB] using a), ?_⟩
  have hl : ((hs.set i (hM x y (ls 28) (ls 31) (ls 34))).flatMap encH).length = hs.length * 6 := by rw [flat_len encH_len, List.length_set]
  have k1 := owns_set h.row (i * 6 + 1) (by omega) (.int .i64 (x.sl + y.sl))
  have k2 := owns_set k1 (i * 6 + 2) (by rw [List.length_set]; omega) (.int .i64 (x.sh + y.sh))
  rw [flat_setS _ _ _ _ (by rw [List.length_set]; exact hi), modify_set] at k2
  simpa [updB, hM, setS] using k2
theorem MgP.s31 (h : MgP L ga n c hs i x y ls vs v) (hi : i < hs.length) (h28 : ls 28 = true) (u : Value) :
    MgP L ga n c hs i x y (updB ls 31) (upd vs 31 u) ((v.setCell ⟨ga, i * 6 + 3, none⟩ (.int .i64 (x.el + y.el))).setCell ⟨ga, i * 6 + 4, none⟩ (.int .i64 (x.eh + y.eh))) := by
  refine ⟨fun a => by simpa [updB, upd] using h.p7 (by simpa [updB] using a), fun a => by simpa [updB, upd] using h.p10 (by simpa [updB] using a), fun a => by simpa [updB, upd] using h.p15 (by simpa [updB] using a), fun a => by simpa [updB, upd] using h.p18 (by simpa [updB] using a), fun a => by simpa [updB, upd] using h.p22 (by simpa [updB] using a), fun a => by simpa [updB, upd] using h.p25 (by simpa [updB] using a),
    fun a => by simpa [updB] using h.o28 (by simpa [updB] using a), fun _ => by simpa [updB] using h28, fun _ => by simp [updB], ?_⟩
  have hl : ((hs.set i (hM x y (ls 28) (ls 31) (ls 34))).flatMap encH).length = hs.length * 6 := by rw [flat_len encH_len, List.length_set]
  have k1 := owns_set h.row (i * 6 + 3) (by omega) (.int .i64 (x.el + y.el))
  have k2 := owns_set k1 (i * 6 + 4) (by rw [List.length_set]; omega) (.int .i64 (x.eh + y.eh))
  rw [flat_setE _ _ _ _ (by rw [List.length_set]; exact hi), modify_set] at k2
  simpa [updB, hM, setE] using k2
theorem MgP.s34 (h : MgP L ga n c hs i x y ls vs v) (hi : i < hs.length) (h31 : ls 31 = true) (u : Value) :
    MgP L ga n c hs i x y (updB ls 34) (upd vs 34 u) (v.setCell ⟨ga, i * 6 + 5, none⟩ (.int .i64 (x.bk + y.bk))) := by
  refine ⟨fun a => by simpa [updB, upd] using h.p7 (by simpa [updB] using a), fun a => by simpa [updB, upd] using h.p10 (by simpa [updB] using a), fun a => by simpa [updB, upd] using h.p15 (by simpa [updB] using a), fun a => by simpa [updB, upd] using h.p18 (by simpa [updB] using a), fun a => by simpa [updB, upd] using h.p22 (by simpa [updB] using a), fun a => by simpa [updB, upd] using h.p25 (by simpa [updB] using a),
    fun a => by simpa [updB] using h.o28 (by simpa [updB] using a), fun a => by simpa [updB] using h.o31 (by simpa [updB] using a), fun _ => by simpa [updB] using h31, ?_⟩
  have hl : ((hs.set i (hM x y (ls 28) (ls 31) (ls 34))).flatMap encH).length = hs.length * 6 := by rw [flat_len encH_len, List.length_set]
  have k1 := owns_set h.row (i * 6 + 5) (by omega) (.int .i64 (x.bk + y.bk))
  rw [flat_setB _ _ _ (by rw [List.length_set]; exact hi), modify_set] at k1
  simpa [updB, hM, setB] using k1
/-- The end. -/
theorem MgP.done (h : MgP L ga n c hs i x y ls vs v) (h34 : ls 34 = true) : v.ownsRow L 118 6 (.slice (some ⟨ga, 0, none⟩) n c) n ((hs.set i (addH x y)).flatMap encH) := by
  have := h.row
  have h31 := h.o34 h34
  rw [h34, h31, h.o31 h31, hM_all] at this
  exact this
end
end Go.Proofs.YtighfmgkoepfkaaGreat

namespace Go.Proofs.YtighfmgkoepfkaaGreat
open Go.RowKit

set_option maxRecDepth 100000 in
theorem merged1_any (a0 a1 b0 b1 : Int) (w : World) (h0 : 0 ≤ a0 ∧ a0 ≤ 65536) (h1 : 0 ≤ a1 ∧ a1 ≤ 65536) (h2 : 0 ≤ b0 ∧ b0 ≤ 65536) (h3 : 0 ≤ b1 ∧ b1 ≤ 65536) :
    Calls Tryz.prog 90 #[vSp a0 a1, vSp b0 b1] w fun e w' => e = .returned (vSp (a0 + b0) (a1 + b1)) ∧ Below w.heap.size w w' := by
  have hw0 : IntKind.i64.wrap (a0 + b0) = a0 + b0 := IntWalk.i64_in _ (by omega)
  have hw1 : IntKind.i64.wrap (a1 + b1) = a1 + b1 := IntWalk.i64_in _ (by omega)
  go_enter Tryz.func90, Tryz.ntmps90
  go_wp2
  obtain ⟨s0, hs0⟩ : ∃ x, a0 + b0 = x := ⟨_, rfl⟩
  obtain ⟨s1, hs1⟩ : ∃ x, a1 + b1 = x := ⟨_, rfl⟩
  rw [hs0, hs1]
  have hb := (((Below.refl w.heap.size w).alloc (Nat.le_refl _) (.cells #[.int .i64 a0, .int .i64 a1] 57)).alloc (by simp) (.cells #[.int .i64 b0, .int .i64 b1] 57)).alloc (by simp; omega) (.cells #[.int .i64 s0, .int .i64 s1] 57)
  have hf := Blk.at_new (W := (w.alloc (.cells #[.int .i64 a0, .int .i64 a1] 57)).alloc (.cells #[.int .i64 b0, .int .i64 b1] 57)) (g := w.heap.size + 1 + 1) 57 #[.int .i64 s0, .int .i64 s1] (by simp)
  have x0 := hf.cell 0
  have x1 := hf.cell 1
  simp only [List.getElem?_toArray, List.getElem?_cons_zero, List.getElem?_cons_succ] at x0 x1
  exact bodyPost_ret (v := vSp s0 s1) (by simp [results, Tryz.results90, go_sem, x0, x1]) rfl ⟨rfl, hb⟩
theorem merged2_any (x : Mv) (w : World) : Calls Tryz.prog 93 #[vMv x] w fun e w' => e = .returned (.bool (decide (x.fr = x.to))) ∧ Below w.heap.size w w' := by
  obtain ⟨xi, xf, xt, xl, xh⟩ := x
  have b0 := (Below.refl w.heap.size w).alloc (Nat.le_refl _) (.cells #[.int .i64 xi, .int .i64 xf, .int .i64 xt, .int .i64 xl, .int .i64 xh] 59)
  have HE : (xf == xt) = decide (xf = xt) := by rw [Bool.eq_iff_iff]; simp
  generalize decide (xf = xt) = q at *
  go_enter Tryz.func93, Tryz.ntmps93
  go_wp2
  exact bodyPost_ret (v := .bool q) (by simp [results, Tryz.results93, go_sem]) rfl ⟨rfl, b0⟩
theorem enter_merged2 : ∀ args w, (callFunc 93 args).run Tryz.prog w = .ok (.enter 93 args) w := enters_of Tryz.func93 (by kernel_rfl) rfl
def MgOut (w : World) (hs : List Hd) (ms : List Mv) (a b : Int) (en : Ending) (w' : World) : Prop :=
  Below w.heap.size w w' ∧ ∃ v1 v2, en = .returned (.tuple #[.agg #[v1, v2], .int .i64 (mgE hs ms a b)]) ∧ OwnT w' w.heap.size v1 v2 (mgH hs ms a b) (mgM hs ms a b)
theorem mg_bad {hs : List Hd} {ms : List Mv} {a b e : Int} (h : mgE hs ms a b = e) (he : e ≠ 0) : mgH hs ms a b = [] ∧ mgM hs ms a b = [] := by
  unfold mgH mgM
  rw [h, if_neg he, if_neg he]
  exact ⟨rfl, rfl⟩
/-- The movements while they are renamed. -/
def renT (ms : List Mv) (a b : Int) (k : Nat) : List Mv := (ms.take k).map (renM a b) ++ ms.drop k
theorem renT_zero (ms : List Mv) (a b : Int) : renT ms a b 0 = ms := by simp [renT]
theorem renT_end {ms : List Mv} {a b : Int} {k : Nat} (h : ms.length ≤ k) : renT ms a b k = ms.map (renM a b) := by simp [renT, List.take_of_length_le h, List.drop_of_length_le h]
theorem renT_len (ms : List Mv) (a b : Int) (k : Nat) : (renT ms a b k).length = ms.length := by simp [renT]; omega
theorem renT_at {ms : List Mv} {a b : Int} {k : Nat} (h : k < ms.length) : (renT ms a b k)[k]? = some ms[k] := by
  unfold renT
  rw [List.getElem?_append_right (by rw [List.length_map, List.length_take]; exact Nat.min_le_left _ _), List.getElem?_drop, List.length_map, List.length_take, Nat.min_eq_left (by omega), Nat.sub_self, Nat.add_zero, List.getElem?_eq_getElem h]
theorem renT_step {ms : List Mv} {a b : Int} {k : Nat} (h : k < ms.length) : renT ms a b (k + 1) = (renT ms a b k).set k (renM a b ms[k]) := by
  unfold renT
  have e : ms.drop k = ms[k] :: ms.drop (k + 1) := List.drop_eq_getElem_cons h
  rw [List.take_succ_eq_append_getElem h, List.map_append, List.set_append_right _ _ (by rw [List.length_map, List.length_take]; exact Nat.min_le_left _ _), List.length_map, List.length_take, Nat.min_eq_left (by omega), Nat.sub_self, e, List.append_assoc]
  rfl
def setF (f : Int) (m : Mv) : Mv := ⟨m.id, f, m.to, m.lo, m.hi⟩
def setT (t : Int) (m : Mv) : Mv := ⟨m.id, m.fr, t, m.lo, m.hi⟩
theorem flat_setF : ∀ (ms : List Mv) (i : Nat) (f : Int), i < ms.length → (ms.flatMap encM).set (i * 5 + 1) (.int .i64 f) = (ms.modify i (setF f)).flatMap encM
  | [], i, _, h => by simp at h
  | x :: ms, 0, f, _ => rfl
  | x :: ms, i + 1, f, h => by
    have ih := flat_setF ms i f (by simpa using h)
    show (encM x ++ ms.flatMap encM).set ((i + 1) * 5 + 1) _ = encM x ++ (ms.modify i (setF f)).flatMap encM
    rw [List.set_append, if_neg (by rw [encM_len]; omega), encM_len, show (i + 1) * 5 + 1 - 5 = i * 5 + 1 by omega, ih]
theorem flat_setT : ∀ (ms : List Mv) (i : Nat) (f : Int), i < ms.length → (ms.flatMap encM).set (i * 5 + 2) (.int .i64 f) = (ms.modify i (setT f)).flatMap encM
  | [], i, _, h => by simp at h
  | x :: ms, 0, f, _ => rfl
  | x :: ms, i + 1, f, h => by
    have ih := flat_setT ms i f (by simpa using h)
    show (encM x ++ ms.flatMap encM).set ((i + 1) * 5 + 2) _ = encM x ++ (ms.modify i (setT f)).flatMap encM
    rw [List.set_append, if_neg (by rw [encM_len]; omega), encM_len, show (i + 1) * 5 + 2 - 5 = i * 5 + 2 by omega, ih]
set_option maxRecDepth 100000 in
set_option maxHeartbeats 12800000 in
theorem Merged_any (t : TR) (ida idb : Int) (w : World) (h : t.Ok w) : Calls Tryz.prog 43 #[t.v, .int .i64 ida, .int .i64 idb] w (MgOut w t.hs t.ms ida idb) := by
  have hb0 := ((Below.refl w.heap.size w).alloc (Nat.le_refl _) (.cells #[.slice t.A t.n t.c, .slice t.B t.m t.d] 25)).alloc (by simp) (.cells #[.slice none 0 0, .slice none 0 0] 25)
  have HCk := Lib.hid (Check_any t _ (h.below hb0))
  obtain ⟨A, n, c, B, m, d, hs, ms⟩ := t
  dsimp only [TR.v] at *
  have HOk := Lib.hid h
  have t0 := ((Blk.new w 25 #[.slice A n c, .slice B m d]).alloc (.cells #[.slice none 0 0, .slice none 0 0] 25))
  have r0 := (Blk.at_new (W := w.alloc (.cells #[.slice A n c, .slice B m d] 25)) (g := w.heap.size + 1) 25 #[.slice none 0 0, .slice none 0 0] (by simp))
  clear h
  go_enter Tryz.func43, Tryz.ntmps43
  generalize hW : (w.alloc (.cells #[.slice A n c, .slice B m d] 25)).alloc (.cells #[.slice none 0 0, .slice none 0 0] 25) = W at *
  have HWE := Lib.hid hW
  clear hW
  go_wp2_with fail
  rw [HWE.out]
  refine HCk.out.mono ?_
  rintro e w1 ⟨rfl, hb1⟩
  have HB1 := Lib.hid (hb0.trans (hb1.mono hb0.size))
  have HT1 := Lib.hid (t0.below hb1)
  have HR1 := Lib.hid (r0.below hb1)
  clear hb0 t0 r0 hb1 HCk HWE
  have y0 := HT1.out.cell 0
  have y1 := HT1.out.cell 1
  have z0 := HR1.out.cell 0
  have z1 := HR1.out.cell 1
  have f0 := HR1.out.frozen 0
  have f1 := HR1.out.frozen 1
  simp only [List.getElem?_toArray, List.getElem?_cons_zero, List.getElem?_cons_succ] at y0 y1 z0 z1
  have yl := HT1.out.lt
  have zl := HR1.out.lt
  by_cases hz : tcheck hs ms = 0
  case neg =>
    have HE := Lib.hid (show mgE hs ms ida idb = tcheck hs ms from by unfold mgE; rw [if_pos hz])
    have HX := Lib.hid (mg_bad HE.out hz)
    generalize tcheck hs ms = ck at *
    have hz1 : (ck != 0) = true := by simpa using hz
    go_wp2
    have hf := blk_set2 HR1.out (.slice none 0 0) (.slice none 0 0)
    have x0 := hf.cell 0
    have x1 := hf.cell 1
    simp only [List.getElem?_toArray, List.getElem?_cons_zero, List.getElem?_cons_succ] at x0 x1
    exact bodyPost_ret (v := .tuple #[vT0, .int .i64 ck]) (by simp [results, Tryz.results43, go_sem, x0, x1]) rfl ⟨below_set2 HB1.out (by omega) _ _, _, _, by rw [HE.out], by rw [HX.out.1, HX.out.2]; exact OwnT.nil _ _⟩
  case pos =>
    have HTV := Lib.hid (tcheck_zero.1 hz)
    have HTc := Lib.hid hz
    have HLh := Lib.hid (show hs.length = n from HOk.out.h.len)
    have HLm := Lib.hid (show ms.length = m from HOk.out.m.len)
    have hn : n ≤ 9 := by rw [← HLh.out]; exact HTV.out.lenH
    have hm : m ≤ 24 := by rw [← HLm.out]; exact HTV.out.lenM
    rw [hz]
    clear hz
    have HPa := Lib.hid (fun (u : World) (hu : SAt encH 6 u A n hs) => holder_any A n c B m d hs ida u hu (by omega))
    have HPb := Lib.hid (fun (u : World) (hu : SAt encH 6 u A n hs) => holder_any A n c B m d hs idb u hu (by omega))
    have HH1 := Lib.hid (HOk.out.h.below HB1.out)
    go_upto_region 4 with fail
    obtain ⟨xc, xf'⟩ := xcell (W := w1)
    refine wp_region_quiet_tail 6 (by kernel_rfl) (by kernel_rfl) ?_
    simp only [List.take_succ_cons, List.take_zero, List.drop_succ_cons, List.drop_zero]
    repeat (first | go_big_quiet_step (first | (go_at_call 77; with_reducible refine calls_ext (HPa.out _ ?_); exact HH1.out.below (Ext.below _)) | (go_at_call 77; with_reducible refine calls_ext (HPb.out _ ?_); exact HH1.out.below (Ext.below _))) | quiet_step (first | (go_at_call 77; with_reducible refine calls_ext (HPa.out _ ?_); exact HH1.out.below (Ext.below _)) | (go_at_call 77; with_reducible refine calls_ext (HPb.out _ ?_); exact HH1.out.below (Ext.below _))))
    refine wpQuiet_nil ?_
    intro w2 hb2
    have HB2 := Lib.hid (HB1.out.trans (hb2.mono HB1.out.size))
    have HT2 := Lib.hid (HT1.out.below hb2)
    have HR2 := Lib.hid (HR1.out.below hb2)
    clear y0 y1 z0 z1 f0 f1 yl zl xc xf' hb2 HPa HPb HH1 HB1 HT1 HR1
    have HE0 := Lib.hid (show mgE hs ms ida idb = if pos hs ida < 0 ∨ pos hs idb < 0 then 5 else if pos hs ida = pos hs idb then 1 else if 65536 < (mgT hs ida idb).sh ∨ 65536 < (mgT hs ida idb).eh ∨ 65536 < (mgT hs ida idb).bk then 3 else 0 from by unfold mgE; rw [if_neg (by rw [HTc.out]; decide)])
    have z0 := HR2.out.cell 0
    have z1 := HR2.out.cell 1
    have f0 := HR2.out.frozen 0
    have f1 := HR2.out.frozen 1
    simp only [List.getElem?_toArray, List.getElem?_cons_zero, List.getElem?_cons_succ] at z0 z1
    have zl := HR2.out.lt
    have hf := blk_set2 HR2.out (.slice none 0 0) (.slice none 0 0)
    have x0 := hf.cell 0
    have x1 := hf.cell 1
    simp only [List.getElem?_toArray, List.getElem?_cons_zero, List.getElem?_cons_succ] at x0 x1
    clear hf
    by_cases ha : pos hs ida < 0
    case pos =>
      have HE := Lib.hid (show mgE hs ms ida idb = 5 by rw [HE0.out, if_pos (.inl ha)])
      have HX := Lib.hid (mg_bad HE.out (by decide))
      generalize pos hs ida = pa at *
      generalize pos hs idb = pb at *
      have hab : decide (pa < 0) = true := decide_eq_true ha
      clear HE0
      go_wp2
      exact bodyPost_ret (v := .tuple #[vT0, .int .i64 5]) (by simp [results, Tryz.results43, go_sem, x0, x1]) rfl ⟨below_set2 HB2.out (by omega) _ _, _, _, by rw [HE.out], by rw [HX.out.1, HX.out.2]; exact OwnT.nil _ _⟩
    case neg =>
    by_cases hb : pos hs idb < 0
    case pos =>
      have HE := Lib.hid (show mgE hs ms ida idb = 5 by rw [HE0.out, if_pos (.inr hb)])
      have HX := Lib.hid (mg_bad HE.out (by decide))
      generalize pos hs ida = pa at *
      generalize pos hs idb = pb at *
      have hab : decide (pa < 0) = false := decide_eq_false ha
      have hbb : decide (pb < 0) = true := decide_eq_true hb
      clear HE0
      go_wp2
      exact bodyPost_ret (v := .tuple #[vT0, .int .i64 5]) (by simp [results, Tryz.results43, go_sem, x0, x1]) rfl ⟨below_set2 HB2.out (by omega) _ _, _, _, by rw [HE.out], by rw [HX.out.1, HX.out.2]; exact OwnT.nil _ _⟩
    case neg =>
    by_cases hab : pos hs ida = pos hs idb
    case pos =>
      have HE := Lib.hid (show mgE hs ms ida idb = 1 by rw [HE0.out, if_neg (by omega), if_pos hab])
      have HX := Lib.hid (mg_bad HE.out (by decide))
      generalize pos hs ida = pa at *
      generalize pos hs idb = pb at *
      have h1 : decide (pa < 0) = false := decide_eq_false ha
      have h2 : decide (pb < 0) = false := decide_eq_false hb
      have h3 : (pa == pb) = true := by simpa using hab
      clear HE0 hab
      go_wp2
      exact bodyPost_ret (v := .tuple #[vT0, .int .i64 1]) (by simp [results, Tryz.results43, go_sem, x0, x1]) rfl ⟨below_set2 HB2.out (by omega) _ _, _, _, by rw [HE.out], by rw [HX.out.1, HX.out.2]; exact OwnT.nil _ _⟩
    case neg =>
    have hlt : ∀ q, ¬ pos hs q < 0 → posN hs q < hs.length := fun q hq => by
      unfold pos at hq
      by_cases r : posN hs q < hs.length
      · exact r
      · rw [if_neg r] at hq; omega
    have HTw := Lib.hid (show TwoH hs ida idb from ⟨hlt _ ha, hlt _ hb, fun e => hab (by rw [e])⟩)
    have e1 : pos hs ida = (posN hs ida : Int) := pos_in HTw.out.pa
    have e2 : pos hs idb = (posN hs idb : Int) := pos_in HTw.out.pb
    have HE1 := Lib.hid (show mgE hs ms ida idb = if 65536 < (mgT hs ida idb).sh ∨ 65536 < (mgT hs ida idb).eh ∨ 65536 < (mgT hs ida idb).bk then 3 else 0 by rw [HE0.out, if_neg (by omega), if_neg hab])
    rw [e1, e2]
    have hpp := HTw.out.pos_ne
    have HMt := Lib.hid (show mgT hs ida idb = addH (hat hs (posN hs ida)) (hat hs (posN hs idb)) from rfl)
    have HMh := Lib.hid (show mgHs hs ida idb = (hs.set (posN hs ida) (addH (hat hs (posN hs ida)) (hat hs (posN hs idb)))).eraseIdx (posN hs idb) from rfl)
    have hil := HTw.out.pa
    have hkl := HTw.out.pb
    clear e1 e2 HE0 ha hb hab hlt
    generalize posN hs ida = i at *
    generalize posN hs idb = k at *
    obtain ⟨x, hx⟩ : ∃ x, hat hs i = x := ⟨_, rfl⟩
    obtain ⟨y, hy⟩ : ∃ y, hat hs k = y := ⟨_, rfl⟩
    have HXe := Lib.hid (show hs[i]'hil = x by rw [← hat_eq hil]; exact hx)
    have HYe := Lib.hid (show hs[k]'hkl = y by rw [← hat_eq hkl]; exact hy)
    have bx := HTV.out.hd _ (List.getElem_mem hil)
    have bY := HTV.out.hd _ (List.getElem_mem hkl)
    rw [HXe.out] at bx
    rw [HYe.out] at bY
    rw [hx, hy] at HMt HMh
    clear hx hy
    obtain ⟨xd, xsl, xsh, xel, xeh, xbk⟩ := x
    obtain ⟨yd, ysl, ysh, yel, yeh, ybk⟩ := y
    have HBx := Lib.hid (show (0 ≤ xsl ∧ xsl ≤ 65536 ∧ 0 ≤ xsh ∧ xsh ≤ 65536 ∧ 0 ≤ xel ∧ xel ≤ 65536 ∧ 0 ≤ xeh ∧ xeh ≤ 65536 ∧ 0 ≤ xbk ∧ xbk ≤ 65536) ∧ (0 ≤ ysl ∧ ysl ≤ 65536 ∧ 0 ≤ ysh ∧ ysh ≤ 65536 ∧ 0 ≤ yel ∧ yel ≤ 65536 ∧ 0 ≤ yeh ∧ yeh ≤ 65536 ∧ 0 ≤ ybk ∧ ybk ≤ 65536) by
      simp [okHd, okSp] at bx bY
      omega)
    clear bx bY
    have hin : i < n := by rw [← HLh.out]; exact hil
    have hkn : k < n := by rw [← HLh.out]; exact hkl
    have h1 : decide ((i : Int) < 0) = false := decide_eq_false (by omega)
    have h2 : decide ((k : Int) < 0) = false := decide_eq_false (by omega)
    have h3 : ((i : Int) == (k : Int)) = false := by simp; omega
    have HCp := Lib.hid (copied_any ⟨A, n, c, B, m, d, hs, ms⟩ w2 (HOk.out.below HB2.out) (show n ≤ 1000000 by omega) (show m ≤ 1000000 by omega))
    dsimp only [TR.v] at HCp
    have y0 := HT2.out.cell 0
    have y1 := HT2.out.cell 1
    simp only [List.getElem?_toArray, List.getElem?_cons_zero, List.getElem?_cons_succ] at y0 y1
    have yl := HT2.out.lt
    clear z0 z1 f0 f1 zl x0 x1
    go_wp2_with fail
    refine HCp.out.mono ?_
    rintro e w3 ⟨v1, v2, rfl, ho, hb3⟩
    obtain ⟨A1, c1, B1, d1, rfl, rfl, -, -, hc1, hd1, -, -⟩ := ho.form
    obtain ⟨ga, hga⟩ := form_some ho.h
    rw [HLh.out] at hga hc1
    rw [HLm.out] at hd1
    rw [HLh.out, HLm.out]
    obtain rfl := hga (by omega)
    have hoh := ho.h
    have hom := ho.m
    rw [HLh.out] at hoh
    rw [HLm.out] at hom
    have bn := below_new w3 (.cells #[.slice (some ⟨ga, 0, none⟩) n c1, .slice B1 m d1] 25)
    have HB3 := Lib.hid (HB2.out.trans ((hb3.trans (bn.mono hb3.size)).mono HB2.out.size))
    have HT3 := Lib.hid ((HT2.out.below hb3).below bn)
    have HR3 := Lib.hid ((HR2.out.below hb3).below bn)
    have HQ3 := Lib.hid (Blk.new w3 25 #[.slice (some ⟨ga, 0, none⟩) n c1, .slice B1 m d1])
    have HH3 := Lib.hid (owns_below hoh bn)
    have HM3 := Lib.hid (owns_below hom bn)
    have HGl := Lib.hid (show ga < w3.heap.size from (own_lt hoh (g := ga) rfl).2)
    have HGb := Lib.hid (show w2.heap.size ≤ ga from (own_lt hoh (g := ga) rfl).1)
    have HLw := Lib.hid (show w.heap.size + 2 ≤ w2.heap.size from HR2.out.lt)
    have hsz3 := hb3.size
    clear HCp ho hoh hom hb3 bn y0 y1 yl hga
    go_upto_region 10 with fail
    generalize hV : w3.alloc (.cells #[.slice (some ⟨ga, 0, none⟩) n c1, .slice B1 m d1] 25) = V3 at *
    generalize hg4 : w3.heap.size = g4 at *
    generalize hL : w2.heap.size = L at *
    clear hV hg4 hL HB2 HT2 HR2
    obtain ⟨bH, oH, eH, hH⟩ := HOk.out.h.at_ (show 0 < n by omega)
    dsimp only at eH
    subst eH
    have HHs := Lib.hid hH
    clear hH
    refine wp_region_new 11 9 13 118 #[.int .i64 0, .int .i64 0, .int .i64 0, .int .i64 0, .int .i64 0, .int .i64 0] (by kernel_rfl) (by kernel_rfl) ?_ ?_
    · intro a' v R hR o ho
      simp only [List.getElem?_cons_succ, List.getElem?_cons_zero, Option.some.injEq] at ho
      subst ho
      simpa [loudAt, loudUpon, go_sem, execOp] using hR
    apply Exists.intro
    refine ⟨?_, ?_⟩
    · intro V hV
      have qq := HQ3.out.below hV
      have q0 := qq.cell 0
      have q1 := qq.cell 1
      have tt := HT3.out.below hV
      have y0 := tt.cell 0
      have y1 := tt.cell 1
      simp only [List.getElem?_toArray, List.getElem?_cons_zero, List.getElem?_cons_succ] at q0 q1 y0 y1
      have ql := qq.lt
      have yl := tt.lt
      have hH := HHs.out.below (HB3.out.trans (hV.mono HB3.out.size))
      obtain ⟨u0, u1, u2, u3, u4, u5⟩ := Hds.at_ hH (List.getElem?_eq_getElem hkl)
      rw [HYe.out] at u0 u1 u2 u3 u4 u5
      have ul := hH.lt
      clear qq tt hH
      obtain ⟨xc, xf'⟩ := xcell (W := V)
      simp only [List.take_succ_cons, List.take_zero, qOf, isLoud, List.any_cons, List.any_nil, Nat.reduceBEq, Bool.or_false, Nat.reduceAdd, Bool.false_eq_true, if_true, if_false, beq_self_eq_true, Nat.zero_add]
      repeat (first | go_big_quiet_step (fail) | quiet_step (fail))
      exact wpQuiet_nil rfl
    intro gz v10 hgz hv10 hz10
    simp only [List.drop_succ_cons, List.drop_zero, Act.put, List.setIfInBounds_toArray, List.set_cons_succ, List.set_cons_zero]
    have z0 := hz10.cell 0
    have z1 := hz10.cell 1
    have z2 := hz10.cell 2
    have z3 := hz10.cell 3
    have z4 := hz10.cell 4
    have z5 := hz10.cell 5
    simp only [List.getElem?_toArray, List.getElem?_cons_zero, List.getElem?_cons_succ] at z0 z1 z2 z3 z4 z5
    have f0 := hz10.frozen 0
    have f1 := hz10.frozen 1
    have f2 := hz10.frozen 2
    have f3 := hz10.frozen 3
    have f4 := hz10.frozen 4
    have f5 := hz10.frozen 5
    have zl := hz10.lt
    have hgl := HGl.out
    have hgb := HGb.out
    have hlw := HLw.out
    have hq3 := HQ3.out.lt
    have hs6 := grown_set6 v10 gz (.int .i64 yd) (.int .i64 ysl) (.int .i64 ysh) (.int .i64 yel) (.int .i64 yeh) (.int .i64 ybk)
    have HB10 := Lib.hid (below_set6 (HB3.out.trans (hv10.mono HB3.out.size)) (g := gz) (by omega) (.int .i64 yd) (.int .i64 ysl) (.int .i64 ysh) (.int .i64 yel) (.int .i64 yeh) (.int .i64 ybk))
    have HT10 := Lib.hid ((HT3.out.below hv10).grown hs6 (fun e => by have := Option.some.inj e; omega))
    have HR10 := Lib.hid ((HR3.out.below hv10).grown hs6 (fun e => by have := Option.some.inj e; omega))
    have HQ10 := Lib.hid ((HQ3.out.below hv10).grown hs6 (fun e => by have := Option.some.inj e; omega))
    have HZ10 := Lib.hid (blk_set6 hz10 (.int .i64 yd) (.int .i64 ysl) (.int .i64 ysh) (.int .i64 yel) (.int .i64 yeh) (.int .i64 ybk))
    have HH10 := Lib.hid (owns_grown (owns_below HH3.out hv10) hs6 (fun r hr e => by have := (own_lt HH3.out hr).2; have := Option.some.inj e; omega))
    have HM10 := Lib.hid (owns_grown (owns_below HM3.out hv10) hs6 (fun r hr e => by have := (own_lt HM3.out hr).2; have := Option.some.inj e; omega))
    clear hs6 HB3 HT3 HR3 HQ3 HH3 HM3 hz10 hv10
    go_upto_region 12 with fail
    clear z0 z1 z2 z3 z4 z5 f0 f1 f2 f3 f4 f5 zl
    generalize hV10 : (((((v10.setCell ⟨gz, 0, none⟩ (.int .i64 yd)).setCell ⟨gz, 1, none⟩ (.int .i64 ysl)).setCell ⟨gz, 2, none⟩ (.int .i64 ysh)).setCell ⟨gz, 3, none⟩ (.int .i64 yel)).setCell ⟨gz, 4, none⟩ (.int .i64 yeh)).setCell ⟨gz, 5, none⟩ (.int .i64 ybk) = V10 at *
    clear hV10
    have HAd := Lib.hid (fun (u : World) => merged1_any xsl xsh ysl ysh u ⟨HBx.out.1.1, HBx.out.1.2.1⟩ ⟨HBx.out.1.2.2.1, HBx.out.1.2.2.2.1⟩ ⟨HBx.out.2.1, HBx.out.2.2.1⟩ ⟨HBx.out.2.2.2.1, HBx.out.2.2.2.2.1⟩)
    have HAe := Lib.hid (fun (u : World) => merged1_any xel xeh yel yeh u ⟨HBx.out.1.2.2.2.2.1, HBx.out.1.2.2.2.2.2.1⟩ ⟨HBx.out.1.2.2.2.2.2.2.1, HBx.out.1.2.2.2.2.2.2.2.1⟩ ⟨HBx.out.2.2.2.2.2.1, HBx.out.2.2.2.2.2.2.1⟩ ⟨HBx.out.2.2.2.2.2.2.2.1, HBx.out.2.2.2.2.2.2.2.2.1⟩)
    have hwb : IntKind.i64.wrap (xbk + ybk) = xbk + ybk := IntWalk.i64_in _ (by have := HBx.out; omega)
    refine wp_region_preC 35 [(7, 60), (10, 63), (15, 68), (18, 71), (22, 75), (25, 78), (28, 1000), (31, 1001), (34, 1002)] (fun v => Below w.heap.size w v ∧ Blk v w.heap.size 25 #[.slice (some ⟨bH, oH, none⟩) n c, .slice B m d] ∧ Blk v (w.heap.size + 1) 25 #[.slice none 0 0, .slice none 0 0] ∧ Blk v g4 25 #[.slice (some ⟨ga, 0, none⟩) n c1, .slice B1 m d1] ∧ Blk v gz 118 #[.int .i64 yd, .int .i64 ysl, .int .i64 ysh, .int .i64 yel, .int .i64 yeh, .int .i64 ybk] ∧ v.ownsRow L 59 5 (.slice B1 m d1) m (ms.flatMap encM)) (MgP L ga n c1 hs i ⟨xd, xsl, xsh, xel, xeh, xbk⟩ ⟨yd, ysl, ysh, yel, yeh, ybk⟩) (by kernel_rfl) (by kernel_rfl) ?hw ?hC ?h0 ?hP ?ex
    case hw => exact ⟨HB10.out, HT10.out, HR10.out, HQ10.out, HZ10.out, HM10.out⟩
    case hC =>
      rintro v1 v2 ⟨h0, qt, qr, qq, qz, qm⟩ kk
      exact ⟨h0.trans (kk.mono h0.size), qt.below kk, qr.below kk, qq.below kk, qz.below kk, owns_below qm kk⟩
    case h0 => exact fun v' hv' => (MgP.init hil HXe.out HH10.out).below hv'
    case hP => exact fun ls vs v v' _ h kk => h.below kk
    case ex =>
    apply Exists.intro
    refine ⟨?walk, ?loud, ?last⟩
    case walk =>
      rintro V ⟨h0, qt, qr, qq, qz, qm⟩
      have zc0 := qz.cell 0
      have zc1 := qz.cell 1
      have zc2 := qz.cell 2
      have zc3 := qz.cell 3
      have zc4 := qz.cell 4
      have zc5 := qz.cell 5
      simp only [List.getElem?_toArray, List.getElem?_cons_zero, List.getElem?_cons_succ] at zc0 zc1 zc2 zc3 zc4 zc5
      have zcl := qz.lt
      obtain ⟨xc, xf'⟩ := xcell (W := V)
      simp only [List.take_succ_cons, List.take_nil, qOf, isLoud, List.any_cons, List.any_nil, Nat.reduceBEq, Bool.or_false, Bool.or_true, Nat.reduceAdd, Bool.false_eq_true, if_true, if_false, beq_self_eq_true, Nat.zero_add]
      repeat (first | go_big_quiet_step (fail) | quiet_step (fail))
      exact wpQuiet_nil rfl
    case loud =>
      rintro pp hpp vs v hC ls hI hls hw o ho
      simp only [List.mem_cons, List.not_mem_nil, or_false] at hpp
      rcases hpp with rfl | rfl | rfl | rfl | rfl | rfl | rfl | rfl | rfl
      · obtain ⟨vl, c1', c2', c3', c4', c5'⟩ := hI.cells HLh.out hil (.inl rfl) hls
        simp only [List.getElem?_cons_succ, List.getElem?_cons_zero, Option.some.injEq] at ho
        subst ho
        simp [loudAt, loudUpon, go_sem, execOp, putsL, Act.put, c1', c2']
        exact ⟨hC, hI.s7⟩
      · have e7 := hI.p7 (hw (7, 60) (by simp) (by kernel_rfl))
        simp only [List.getElem?_cons_succ, List.getElem?_cons_zero, Option.some.injEq] at ho
        subst ho
        simp [loudAt, loudUpon, go_sem, putsL, Act.put, e7]
        refine (HAd.out v).mono ?_
        rintro e v' ⟨rfl, hb⟩
        obtain ⟨h0, qt, qr, qq, qz, qm⟩ := hC
        exact ⟨_, rfl, ⟨h0.trans (hb.mono h0.size), qt.below hb, qr.below hb, qq.below hb, qz.below hb, owns_below qm hb⟩, (hI.below hb).s10⟩
      · obtain ⟨vl, c1', c2', c3', c4', c5'⟩ := hI.cells HLh.out hil (.inr (.inl rfl)) hls
        simp only [List.getElem?_cons_succ, List.getElem?_cons_zero, Option.some.injEq] at ho
        subst ho
        simp [loudAt, loudUpon, go_sem, execOp, putsL, Act.put, c3', c4']
        exact ⟨hC, hI.s15⟩
      · have e15 := hI.p15 (hw (15, 68) (by simp) (by kernel_rfl))
        simp only [List.getElem?_cons_succ, List.getElem?_cons_zero, Option.some.injEq] at ho
        subst ho
        simp [loudAt, loudUpon, go_sem, putsL, Act.put, e15]
        refine (HAe.out v).mono ?_
        rintro e v' ⟨rfl, hb⟩
        obtain ⟨h0, qt, qr, qq, qz, qm⟩ := hC
        exact ⟨_, rfl, ⟨h0.trans (hb.mono h0.size), qt.below hb, qr.below hb, qq.below hb, qz.below hb, owns_below qm hb⟩, (hI.below hb).s18⟩
      · obtain ⟨vl, c1', c2', c3', c4', c5'⟩ := hI.cells HLh.out hil (.inr (.inr rfl)) hls
        simp only [List.getElem?_cons_succ, List.getElem?_cons_zero, Option.some.injEq] at ho
        subst ho
        simp [loudAt, loudUpon, go_sem, execOp, putsL, Act.put, c5']
        exact ⟨hC, hI.s22⟩
      · have e22 := hI.p22 (hw (22, 75) (by simp) (by kernel_rfl))
        simp only [List.getElem?_cons_succ, List.getElem?_cons_zero, Option.some.injEq] at ho
        subst ho
        simp [loudAt, loudUpon, go_sem, execOp, putsL, Act.put, e22, hwb]
        exact ⟨hC, hI.s25⟩
      · have h7 := hw (7, 60) (by simp) (by kernel_rfl)
        have h15 := hw (15, 68) (by simp) (by kernel_rfl)
        have h22 := hw (22, 75) (by simp) (by kernel_rfl)
        have e10 := hI.p10 (hw (10, 63) (by simp) (by kernel_rfl))
        obtain ⟨vl, sp⟩ := hI.spots HLh.out hil
        have hgb := HGb.out
        have hlw := HLw.out
        have hgl := HGl.out
        obtain ⟨⟨a1, q1⟩, r1⟩ := sp 1 (by decide)
        obtain ⟨⟨a2, q2⟩, r2⟩ := sp 2 (by decide)
        simp only [List.getElem?_cons_succ, List.getElem?_cons_zero, Option.some.injEq] at ho
        subst ho
        simp [loudAt, loudUpon, go_sem, execOp, putsL, Act.put, e10, q1, r1, q2, r2]
        obtain ⟨h0, qt, qr, qq, qz, qm⟩ := hC
        have hnm := own_ne2 qm hI.row (by decide) (g := ga) rfl
        exact ⟨⟨((h0.setCell (p := ⟨ga, i * 6 + 1, none⟩) (by simp; omega) _).setCell (p := ⟨ga, i * 6 + 2, none⟩) (by simp; omega) _), ((qt.far (p := ⟨ga, i * 6 + 1, none⟩) (by simp; omega) _).far (p := ⟨ga, i * 6 + 2, none⟩) (by simp; omega) _), ((qr.far (p := ⟨ga, i * 6 + 1, none⟩) (by simp; omega) _).far (p := ⟨ga, i * 6 + 2, none⟩) (by simp; omega) _), ((qq.far (p := ⟨ga, i * 6 + 1, none⟩) (by simp; omega) _).far (p := ⟨ga, i * 6 + 2, none⟩) (by simp; omega) _), ((qz.far (p := ⟨ga, i * 6 + 1, none⟩) (by simp; omega) _).far (p := ⟨ga, i * 6 + 2, none⟩) (by simp; omega) _), (owns_grown (owns_grown qm (grownBy_set _ ga (i * 6 + 1) (.int .i64 (xsl + ysl))) (fun r hr e => hnm (by rw [hr, ← e]))) (grownBy_set _ ga (i * 6 + 2) (.int .i64 (xsh + ysh))) (fun r hr e => hnm (by rw [hr, ← e])))⟩, hI.s28 hil h7 h15 h22 _⟩
      · have h28 := hw (28, 1000) (by simp) (by kernel_rfl)
        have e18 := hI.p18 (hw (18, 71) (by simp) (by kernel_rfl))
        obtain ⟨vl, sp⟩ := hI.spots HLh.out hil
        have hgb := HGb.out
        have hlw := HLw.out
        have hgl := HGl.out
        obtain ⟨⟨a3, q3⟩, r3⟩ := sp 3 (by decide)
        obtain ⟨⟨a4, q4⟩, r4⟩ := sp 4 (by decide)
        simp only [List.getElem?_cons_succ, List.getElem?_cons_zero, Option.some.injEq] at ho
        subst ho
        simp [loudAt, loudUpon, go_sem, execOp, putsL, Act.put, e18, q3, r3, q4, r4]
        obtain ⟨h0, qt, qr, qq, qz, qm⟩ := hC
        have hnm := own_ne2 qm hI.row (by decide) (g := ga) rfl
        exact ⟨⟨((h0.setCell (p := ⟨ga, i * 6 + 3, none⟩) (by simp; omega) _).setCell (p := ⟨ga, i * 6 + 4, none⟩) (by simp; omega) _), ((qt.far (p := ⟨ga, i * 6 + 3, none⟩) (by simp; omega) _).far (p := ⟨ga, i * 6 + 4, none⟩) (by simp; omega) _), ((qr.far (p := ⟨ga, i * 6 + 3, none⟩) (by simp; omega) _).far (p := ⟨ga, i * 6 + 4, none⟩) (by simp; omega) _), ((qq.far (p := ⟨ga, i * 6 + 3, none⟩) (by simp; omega) _).far (p := ⟨ga, i * 6 + 4, none⟩) (by simp; omega) _), ((qz.far (p := ⟨ga, i * 6 + 3, none⟩) (by simp; omega) _).far (p := ⟨ga, i * 6 + 4, none⟩) (by simp; omega) _), (owns_grown (owns_grown qm (grownBy_set _ ga (i * 6 + 3) (.int .i64 (xel + yel))) (fun r hr e => hnm (by rw [hr, ← e]))) (grownBy_set _ ga (i * 6 + 4) (.int .i64 (xeh + yeh))) (fun r hr e => hnm (by rw [hr, ← e])))⟩, hI.s31 hil h28 _⟩
      · have h31 := hw (31, 1001) (by simp) (by kernel_rfl)
        have e25 := hI.p25 (hw (25, 78) (by simp) (by kernel_rfl))
        obtain ⟨vl, sp⟩ := hI.spots HLh.out hil
        have hgb := HGb.out
        have hlw := HLw.out
        have hgl := HGl.out
        obtain ⟨⟨a5, q5⟩, r5⟩ := sp 5 (by decide)
        simp only [List.getElem?_cons_succ, List.getElem?_cons_zero, Option.some.injEq] at ho
        subst ho
        simp [loudAt, loudUpon, go_sem, execOp, putsL, Act.put, e25, q5, r5]
        obtain ⟨h0, qt, qr, qq, qz, qm⟩ := hC
        have hnm := own_ne2 qm hI.row (by decide) (g := ga) rfl
        exact ⟨⟨(h0.setCell (p := ⟨ga, i * 6 + 5, none⟩) (by simp; omega) _), (qt.far (p := ⟨ga, i * 6 + 5, none⟩) (by simp; omega) _), (qr.far (p := ⟨ga, i * 6 + 5, none⟩) (by simp; omega) _), (qq.far (p := ⟨ga, i * 6 + 5, none⟩) (by simp; omega) _), (qz.far (p := ⟨ga, i * 6 + 5, none⟩) (by simp; omega) _), (owns_grown qm (grownBy_set _ ga (i * 6 + 5) (.int .i64 (xbk + ybk))) (fun r hr e => hnm (by rw [hr, ← e])))⟩, hI.s34 hil h31 _⟩
    case last =>
    rintro ls vs V12 ⟨hB12, hT12, hR12, hQ12, hZ12, hM12⟩ hI hls
    have HH12 := Lib.hid (hI.done (hls (34, 1002) (by simp)))
    have HB12 := Lib.hid hB12
    have HT12 := Lib.hid hT12
    have HR12 := Lib.hid hR12
    have HQ12 := Lib.hid hQ12
    have HM12 := Lib.hid hM12
    clear hI hls hB12 hT12 hR12 hQ12 hZ12 hM12 HB10 HT10 HR10 HQ10 HZ10 HH10 HM10 HAd HAe hwb
    simp only [putsL, List.foldl_cons, List.foldl_nil, List.drop_succ_cons, List.drop_nil, Act.put, List.setIfInBounds_toArray, List.set_cons_succ, List.set_cons_zero, List.set_nil]
    generalize vs 7 = v7 at *
    generalize vs 10 = v10' at *
    generalize vs 15 = v15 at *
    generalize vs 18 = v18 at *
    generalize vs 22 = v22 at *
    generalize vs 25 = v25 at *
    generalize vs 28 = v28 at *
    generalize vs 31 = v31 at *
    generalize vs 34 = v34 at *
    clear vs ls
    have HAe : Hid (addH ⟨xd, xsl, xsh, xel, xeh, xbk⟩ ⟨yd, ysl, ysh, yel, yeh, ybk⟩ = ⟨xd, xsl + ysl, xsh + ysh, xel + yel, xeh + yeh, xbk + ybk⟩) := Lib.hid rfl
    rw [HAe.out] at HH12 HMt HMh
    have HSb := Lib.hid (show (0 ≤ xsh + ysh ∧ xsh + ysh ≤ 131072) ∧ (0 ≤ xeh + yeh ∧ xeh + yeh ≤ 131072) ∧ (0 ≤ xbk + ybk ∧ xbk + ybk ≤ 131072) by have := HBx.out; omega)
    generalize xsl + ysl = s1 at *
    generalize xsh + ysh = s2 at *
    generalize xel + yel = s3 at *
    generalize xeh + yeh = s4 at *
    generalize xbk + ybk = s5 at *
    clear HAe HBx
    go_upto_region 13 with fail
    have hrow := Ls_of_row (enc := encH) (zs := hs.set i ⟨xd, s1, s2, s3, s4, s5⟩) encH_len (by rw [List.length_set]; exact HLh.out) HH12.out
    obtain ⟨u0, u1, u2, u3, u4, u5⟩ := Hds.at_ hrow (List.getElem?_set_self hil)
    simp only [Nat.zero_add] at u0 u1 u2 u3 u4 u5
    have ul := hrow.lt
    clear hrow
    obtain ⟨xc, xf'⟩ := xcell (W := V12)
    refine wp_region_quiet_tail 16 (by kernel_rfl) (by kernel_rfl) ?_
    simp only [List.take_succ_cons, List.take_zero, List.drop_succ_cons, List.drop_zero]
    repeat (first | go_big_quiet_step (fail) | quiet_step (fail))
    refine wpQuiet_nil ?_
    intro w13 hb13
    have HB13 := Lib.hid (HB12.out.trans (hb13.mono HB12.out.size))
    have HT13 := Lib.hid (HT12.out.below hb13)
    have HR13 := Lib.hid (HR12.out.below hb13)
    have HQ13 := Lib.hid (HQ12.out.below hb13)
    have HH13 := Lib.hid (owns_below HH12.out hb13)
    have HM13 := Lib.hid (owns_below HM12.out hb13)
    clear u0 u1 u2 u3 u4 u5 ul xc xf' hb13 HB12 HT12 HR12 HQ12 HH12 HM12
    obtain ⟨M, hM⟩ : ∃ M, (if (if s2 < s4 then s4 else s2) < s5 then s5 else if s2 < s4 then s4 else s2) = M := ⟨_, rfl⟩
    have HMx := Lib.hid (show 65536 < M ↔ 65536 < s2 ∨ 65536 < s4 ∨ 65536 < s5 by rw [← hM]; split <;> split <;> omega)
    rw [hM]
    clear hM
    by_cases c6 : 65536 < M
    case pos =>
      have HE := Lib.hid (show mgE hs ms ida idb = 3 by rw [HE1.out, HMt.out, if_pos (HMx.out.1 c6)])
      have HX := Lib.hid (mg_bad HE.out (by decide))
      rw [decide_eq_true c6]
      have z0 := HR13.out.cell 0
      have z1 := HR13.out.cell 1
      have f0 := HR13.out.frozen 0
      have f1 := HR13.out.frozen 1
      simp only [List.getElem?_toArray, List.getElem?_cons_zero, List.getElem?_cons_succ] at z0 z1
      have zl := HR13.out.lt
      have hf := blk_set2 HR13.out (.slice none 0 0) (.slice none 0 0)
      have x0 := hf.cell 0
      have x1 := hf.cell 1
      simp only [List.getElem?_toArray, List.getElem?_cons_zero, List.getElem?_cons_succ] at x0 x1
      clear hf c6
      go_wp2
      exact bodyPost_ret (v := .tuple #[vT0, .int .i64 3]) (by simp [results, Tryz.results43, go_sem, x0, x1]) rfl ⟨below_set2 HB13.out (by omega) _ _, _, _, by rw [HE.out], by rw [HX.out.1, HX.out.2]; exact OwnT.nil _ _⟩
    case neg =>
    have HE := Lib.hid (show mgE hs ms ida idb = 0 by rw [HE1.out, HMt.out, if_neg (fun q => c6 (HMx.out.2 q))])
    have HX := Lib.hid (show mgH hs ms ida idb = mgHs hs ida idb ∧ mgM hs ms ida idb = mgMs ms ida idb by unfold mgH mgM; rw [if_pos HE.out, if_pos HE.out]; exact ⟨rfl, rfl⟩)
    rw [decide_eq_false c6]
    have HMl := Lib.hid (mgHs_len HTw.out)
    clear c6 HMx HMt HE1 HSb
    obtain ⟨q, rfl⟩ : ∃ q, n = q + 1 := ⟨n - 1, by omega⟩
    have HDe := Lib.hid (delH_any L ga q c1 k (hs.set i ⟨xd, s1, s2, s3, s4, s5⟩) w13 (by omega) (by omega) (by rw [List.length_set]; exact HLh.out) HH13.out)
    rw [← HMh.out] at HDe
    have q0 := HQ13.out.cell 0
    have q1 := HQ13.out.cell 1
    simp only [List.getElem?_toArray, List.getElem?_cons_zero, List.getElem?_cons_succ] at q0 q1
    have ql := HQ13.out.lt
    have hl13 := HB13.out.size
    have hnm13 := own_ne2 HM13.out HH13.out (by decide) (g := ga) rfl
    have hnq13 := own_ne HM13.out HQ13.out (by decide)
    go_wp2_with (go_at_call 91; with_reducible refine HDe.out.mono ?_; rintro e w14 ⟨rfl, ho14, hg14⟩; have HQ14 := Lib.hid (HQ13.out.grown hg14 (fun e => by have := Option.some.inj e; omega)); have qq0 := HQ14.out.cell 0; have qq1 := HQ14.out.cell 1; simp only [List.getElem?_toArray, List.getElem?_cons_zero, List.getElem?_cons_succ] at qq0 qq1; have qql := HQ14.out.lt; have qf0 := HQ14.out.frozen 0)
    -- THE LOOP
    have HH14 := Lib.hid ho14
    have HB14 := Lib.hid (HB13.out.grown hg14 hl13 (fun r hr => by have := Option.some.inj hr; omega))
    have HT14 := Lib.hid (HT13.out.grown hg14 (fun e => by have := Option.some.inj e; omega))
    have HR14 := Lib.hid (HR13.out.grown hg14 (fun e => by have := Option.some.inj e; omega))
    have HM14 := Lib.hid (owns_grown HM13.out hg14 (fun r hr e => hnm13 (by rw [hr, ← e])))
    have hX := hg14.size
    clear HDe ho14 hg14 q0 q1 ql HB13 HT13 HR13 HQ13 HH13 HM13
    go_upto_region 17 with fail
    clear qq0 qq1 qql qf0
    have hgX := grownBy_set w14 g4 0 (.slice (some ⟨ga, 0, none⟩) q c1)
    have HB15 := Lib.hid (HB14.out.setCell (p := ⟨g4, 0, none⟩) (by simp; omega) (.slice (some ⟨ga, 0, none⟩) q c1))
    have HT15 := Lib.hid (HT14.out.far (p := ⟨g4, 0, none⟩) (by simp; omega) (.slice (some ⟨ga, 0, none⟩) q c1))
    have HR15 := Lib.hid (HR14.out.far (p := ⟨g4, 0, none⟩) (by simp; omega) (.slice (some ⟨ga, 0, none⟩) q c1))
    have HQ15 := Lib.hid (show Blk (w14.setCell ⟨g4, 0, none⟩ (.slice (some ⟨ga, 0, none⟩) q c1)) g4 25 #[.slice (some ⟨ga, 0, none⟩) q c1, .slice B1 m d1] by simpa using HQ14.out.set_ 0 (.slice (some ⟨ga, 0, none⟩) q c1))
    have HH15 := Lib.hid (owns_grown HH14.out hgX (fun r hr e => by have e3 : ga = r := Option.some.inj hr; have e4 : g4 = r := Option.some.inj e; omega))
    have HM15 := Lib.hid (owns_grown HM14.out hgX (fun r hr e => hnq13 (by rw [hr, ← e])))
    clear hgX HB14 HT14 HR14 HQ14 HH14 HM14
    generalize w14.setCell ⟨g4, 0, none⟩ (.slice (some ⟨ga, 0, none⟩) q c1) = V15 at *
    go_loopw [112, 15, 16] (fun i _ _ wx => ∃ p : Nat, p ≤ m ∧ i = .int .i64 (p : Int) ∧ wx.ownsRow L 59 5 (.slice B1 m d1) m ((renT ms ida idb p).flatMap encM) ∧ wx.ownsRow L 118 6 (.slice (some ⟨ga, 0, none⟩) q c1) q ((mgHs hs ida idb).flatMap encH) ∧ Below w.heap.size w wx ∧ Blk wx w.heap.size 25 #[.slice (some ⟨bH, oH, none⟩) (q + 1) c, .slice B m d] ∧ Blk wx (w.heap.size + 1) 25 #[.slice none 0 0, .slice none 0 0] ∧ Blk wx g4 25 #[.slice (some ⟨ga, 0, none⟩) q c1, .slice B1 m d1]) (fun i _ _ _ => m - (intOf i).toNat)
    case atStart => exact ⟨0, Nat.zero_le _, rfl, by rw [renT_zero]; exact HM15.out, HH15.out, HB15.out, HT15.out, HR15.out, HQ15.out⟩
    case round =>
      clear HM15 HH15 HB15 HT15 HR15 HQ15
      obtain ⟨p, hp, rfl, owp, ohp, hbp, htp, hrp, hqp⟩ := hrel
      have OWp := Lib.hid owp
      have OHp := Lib.hid ohp
      have HBp := Lib.hid hbp
      have HTp := Lib.hid htp
      have HRp := Lib.hid hrp
      have HQp := Lib.hid hqp
      have q0 := hqp.cell 0
      have q1 := hqp.cell 1
      simp only [List.getElem?_toArray, List.getElem?_cons_zero, List.getElem?_cons_succ] at q0 q1
      have ql := hqp.lt
      clear owp ohp hbp htp hrp hqp
      by_cases hpm : p < m
      case pos =>
        have hpl : p < ms.length := by rw [HLm.out]; exact hpm
        obtain ⟨gb, hgb'⟩ := form_some OWp.out
        obtain rfl := hgb' (by omega)
        have hrow := Ls_of_row (enc := encM) (zs := renT ms ida idb p) encM_len (by rw [renT_len]; exact HLm.out) OWp.out
        obtain ⟨u0, u1, u2, u3, u4⟩ := Mvs.at_ hrow (renT_at hpl)
        simp only [Nat.zero_add] at u0 u1 u2 u3 u4
        have ul := hrow.lt
        obtain ⟨mm, hmm⟩ : ∃ x, ms[p] = x := ⟨_, rfl⟩
        rw [hmm] at u0 u1 u2 u3 u4
        have HMe := Lib.hid (show ms[p]'hpl = mm from hmm)
        obtain ⟨xi, xf, xt, xl, xh⟩ := mm
        obtain ⟨cur0, hb0⟩ := own_blk OWp.out (g := gb) rfl
        have fb1 : wr.frozen? ⟨gb, p * 5 + 1, none⟩ = false := Blk.frozen (show Blk wr gb _ cur0 from hb0) _
        have fb2 : wr.frozen? ⟨gb, p * 5 + 2, none⟩ = false := Blk.frozen (show Blk wr gb _ cur0 from hb0) _
        have hgb2 : L ≤ gb := (own_lt OWp.out (g := gb) rfl).1
        have hnm := own_ne2 OHp.out OWp.out (by decide) (g := gb) rfl
        have hnq : gb ≠ g4 := fun e => own_ne OWp.out HQp.out (by decide) (by rw [← e]; rfl)
        clear hrow hmm hgb' hb0
        dsimp only at u0 u1 u2 u3 u4
        by_cases c1 : xf = idb
        case pos =>
          by_cases c2 : xt = idb
          case pos =>
            have e1 : (xf == idb) = true := by simpa using c1
            have e2 : (xt == idb) = true := by simpa using c2
            have HC1 := Lib.hid c1
            have HC2 := Lib.hid c2
            clear c1 c2
            go_wp2
            go_roundw
            case rel =>
              have hge : (renT ms ida idb p)[p]'(by rw [renT_len]; exact hpl) = ⟨xi, xf, xt, xl, xh⟩ := by
                have := renT_at (a := ida) (b := idb) hpl
                rw [List.getElem?_eq_getElem (by rw [renT_len]; exact hpl)] at this
                rw [Option.some.inj this]
                exact HMe.out
              have k0 := owns_set OWp.out (p * 5 + 1) (by rw [flat_len encM_len, renT_len]; omega) (.int .i64 ida)
              rw [flat_setF _ _ _ (by rw [renT_len]; exact hpl), modify_at (by rw [renT_len]; exact hpl), hge] at k0
              have k1 := owns_set k0 (p * 5 + 2) (by rw [flat_len encM_len, List.length_set, renT_len]; omega) (.int .i64 ida)
              rw [flat_setT _ _ _ (by rw [List.length_set, renT_len]; exact hpl), modify_set] at k1
              refine ⟨p + 1, by omega, by go_num, ?_, (owns_grown (owns_grown OHp.out (grownBy_set _ gb (p * 5 + 1) (.int .i64 ida)) (fun r hr e => hnm (by rw [hr, ← e]))) (grownBy_set _ gb (p * 5 + 2) (.int .i64 ida)) (fun r hr e => hnm (by rw [hr, ← e]))), ((HBp.out.setCell (p := ⟨gb, p * 5 + 1, none⟩) (by simp; omega) _).setCell (p := ⟨gb, p * 5 + 2, none⟩) (by simp; omega) _), ((HTp.out.far (p := ⟨gb, p * 5 + 1, none⟩) (by simp; omega) _).far (p := ⟨gb, p * 5 + 2, none⟩) (by simp; omega) _), ((HRp.out.far (p := ⟨gb, p * 5 + 1, none⟩) (by simp; omega) _).far (p := ⟨gb, p * 5 + 2, none⟩) (by simp; omega) _), ((HQp.out.far (p := ⟨gb, p * 5 + 1, none⟩) (by simp; omega) _).far (p := ⟨gb, p * 5 + 2, none⟩) (by simp; omega) _)⟩
              have hre : renM ida idb ⟨xi, xf, xt, xl, xh⟩ = setT ida (setF ida ⟨xi, xf, xt, xl, xh⟩) := by simp [renM, setF, setT, HC1.out, HC2.out]
              rw [renT_step hpl, HMe.out, hre]
              exact k1
            case measure => simp [intOf]; omega
          case neg =>
            have e1 : (xf == idb) = true := by simpa using c1
            have e2 : (xt == idb) = false := by simpa using c2
            have HC1 := Lib.hid c1
            have HC2 := Lib.hid c2
            clear c1 c2
            go_wp2
            go_roundw
            case rel =>
              have hge : (renT ms ida idb p)[p]'(by rw [renT_len]; exact hpl) = ⟨xi, xf, xt, xl, xh⟩ := by
                have := renT_at (a := ida) (b := idb) hpl
                rw [List.getElem?_eq_getElem (by rw [renT_len]; exact hpl)] at this
                rw [Option.some.inj this]
                exact HMe.out
              have k0 := owns_set OWp.out (p * 5 + 1) (by rw [flat_len encM_len, renT_len]; omega) (.int .i64 ida)
              rw [flat_setF _ _ _ (by rw [renT_len]; exact hpl), modify_at (by rw [renT_len]; exact hpl), hge] at k0
              refine ⟨p + 1, by omega, by go_num, ?_, (owns_grown OHp.out (grownBy_set _ gb (p * 5 + 1) (.int .i64 ida)) (fun r hr e => hnm (by rw [hr, ← e]))), (HBp.out.setCell (p := ⟨gb, p * 5 + 1, none⟩) (by simp; omega) _), (HTp.out.far (p := ⟨gb, p * 5 + 1, none⟩) (by simp; omega) _), (HRp.out.far (p := ⟨gb, p * 5 + 1, none⟩) (by simp; omega) _), (HQp.out.far (p := ⟨gb, p * 5 + 1, none⟩) (by simp; omega) _)⟩
              have hre : renM ida idb ⟨xi, xf, xt, xl, xh⟩ = setF ida ⟨xi, xf, xt, xl, xh⟩ := by simp [renM, setF, HC1.out, HC2.out]
              rw [renT_step hpl, HMe.out, hre]
              exact k0
            case measure => simp [intOf]; omega
        case neg =>
          by_cases c2 : xt = idb
          case pos =>
            have e1 : (xf == idb) = false := by simpa using c1
            have e2 : (xt == idb) = true := by simpa using c2
            have HC1 := Lib.hid c1
            have HC2 := Lib.hid c2
            clear c1 c2
            go_wp2
            go_roundw
            case rel =>
              have hge : (renT ms ida idb p)[p]'(by rw [renT_len]; exact hpl) = ⟨xi, xf, xt, xl, xh⟩ := by
                have := renT_at (a := ida) (b := idb) hpl
                rw [List.getElem?_eq_getElem (by rw [renT_len]; exact hpl)] at this
                rw [Option.some.inj this]
                exact HMe.out
              have k0 := owns_set OWp.out (p * 5 + 2) (by rw [flat_len encM_len, renT_len]; omega) (.int .i64 ida)
              rw [flat_setT _ _ _ (by rw [renT_len]; exact hpl), modify_at (by rw [renT_len]; exact hpl), hge] at k0
              refine ⟨p + 1, by omega, by go_num, ?_, (owns_grown OHp.out (grownBy_set _ gb (p * 5 + 2) (.int .i64 ida)) (fun r hr e => hnm (by rw [hr, ← e]))), (HBp.out.setCell (p := ⟨gb, p * 5 + 2, none⟩) (by simp; omega) _), (HTp.out.far (p := ⟨gb, p * 5 + 2, none⟩) (by simp; omega) _), (HRp.out.far (p := ⟨gb, p * 5 + 2, none⟩) (by simp; omega) _), (HQp.out.far (p := ⟨gb, p * 5 + 2, none⟩) (by simp; omega) _)⟩
              have hre : renM ida idb ⟨xi, xf, xt, xl, xh⟩ = setT ida ⟨xi, xf, xt, xl, xh⟩ := by simp [renM, setT, HC1.out, HC2.out]
              rw [renT_step hpl, HMe.out, hre]
              exact k0
            case measure => simp [intOf]; omega
          case neg =>
            have e1 : (xf == idb) = false := by simpa using c1
            have e2 : (xt == idb) = false := by simpa using c2
            have HC1 := Lib.hid c1
            have HC2 := Lib.hid c2
            clear c1 c2
            go_wp2
            go_roundw
            case rel =>
              have hge : (renT ms ida idb p)[p]'(by rw [renT_len]; exact hpl) = ⟨xi, xf, xt, xl, xh⟩ := by
                have := renT_at (a := ida) (b := idb) hpl
                rw [List.getElem?_eq_getElem (by rw [renT_len]; exact hpl)] at this
                rw [Option.some.inj this]
                exact HMe.out
              refine ⟨p + 1, by omega, by go_num, ?_, OHp.out, HBp.out, HTp.out, HRp.out, HQp.out⟩
              have hre : renM ida idb ⟨xi, xf, xt, xl, xh⟩ = ⟨xi, xf, xt, xl, xh⟩ := by simp [renM, HC1.out, HC2.out]
              rw [renT_step hpl, HMe.out, hre]
              rw [← hge, List.set_getElem_self]
              exact OWp.out
            case measure => simp [intOf]; omega
      case neg =>
        obtain rfl : p = m := by omega
        have HRe := Lib.hid (show renT ms ida idb p = ms.map (renM ida idb) from renT_end (by rw [HLm.out]; exact Nat.le_refl _))
        have OWq := Lib.hid (show wr.ownsRow L 59 5 (.slice B1 p d1) (ms.map (renM ida idb)).length ((ms.map (renM ida idb)).flatMap encM) by rw [← HRe.out, renT_len, HLm.out]; exact OWp.out)
        have hnq := own_ne OWp.out HQp.out (by decide)
        have hnr := own_ne OWp.out HRp.out (by decide)
        have HDf := Lib.hid (delM_row L (.slice B1 p d1) (ms.map (renM ida idb)) (fun x => decide (x.fr = x.to)) 93 #[] enter_merged2 wr (fun W x _ => by simpa using merged2_any x W) (by rw [List.length_map, HLm.out]; omega) OWq.out)
        have hlr := HBp.out.size
        go_wp2_with (go_at_call 92; with_reducible refine HDf.out.mono ?_; rintro e w20 ⟨_, rfl, hov, hg20, A3, c3, rfl⟩; have HQ20 := Lib.hid (HQp.out.grown hg20 hnq); have HR20 := Lib.hid (HRp.out.grown hg20 hnr); have a0 := HQ20.out.cell 0; have a1 := HQ20.out.cell 1; have b0 := HR20.out.cell 0; have b1 := HR20.out.cell 1; simp only [List.getElem?_toArray, List.getElem?_cons_zero, List.getElem?_cons_succ] at a0 a1 b0 b1; have al := HQ20.out.lt; have bl := HR20.out.lt; have af1 := HQ20.out.frozen 1; have bf0 := HR20.out.frozen 0; have bf1 := HR20.out.frozen 1)
        have hmg : (List.map (renM ida idb) ms).filter (fun x => !decide (x.fr = x.to)) = mgMs ms ida idb := rfl
        rw [hmg] at hov ⊢
        have HOv := Lib.hid hov
        have hnv := own_ne hov HQ20.out (by decide)
        obtain ⟨nf, hnf⟩ : ∃ x, (mgMs ms ida idb).length = x := ⟨_, rfl⟩
        have HNf := Lib.hid hnf
        rw [hnf]
        rw [hnf] at HOv hnv
        have hr21 := HR20.out.far (p := ⟨g4, 1, none⟩) (by simp; omega) (.slice A3 nf c3)
        have hb21 := (HBp.out.grown hg20 hlr (fun r hr => by have := (own_lt OWp.out hr).1; omega)).setCell (p := ⟨g4, 1, none⟩) (by simp; omega) (.slice A3 nf c3)
        have hgY := grownBy_set w20 g4 1 (.slice A3 nf c3)
        have hgZ := grown_set2 (w20.setCell ⟨g4, 1, none⟩ (.slice A3 nf c3)) (w.heap.size + 1) (.slice (some ⟨ga, 0, none⟩) q c1) (.slice A3 nf c3)
        have hf := blk_set2 hr21 (.slice (some ⟨ga, 0, none⟩) q c1) (.slice A3 nf c3)
        have x0 := hf.cell 0
        have x1 := hf.cell 1
        simp only [List.getElem?_toArray, List.getElem?_cons_zero, List.getElem?_cons_succ] at x0 x1
        refine bodyPost_ret (v := .tuple #[vT (some ⟨ga, 0, none⟩) q c1 A3 nf c3, .int .i64 0]) (by simp [results, Tryz.results43, go_sem, x0, x1]) rfl ⟨below_set2 hb21 (by omega) _ _, _, _, by rw [HE.out], ?_⟩
        rw [HX.out.1, HX.out.2]
        have hq : (mgHs hs ida idb).length = q := by have := HMl.out; have := HLh.out; omega
        refine ⟨?_, ?_⟩
        · rw [hq]
          refine owns_weak (owns_grown (owns_grown (owns_grown OHp.out hg20 (fun r hr e => own_ne2 OHp.out OWp.out (by decide) e hr)) hgY (fun r hr e => ?_)) hgZ (fun r hr e => ?_)) (by omega)
          · have e3 : ga = r := Option.some.inj hr
            have e4 : g4 = r := Option.some.inj e
            omega
          · have e3 : ga = r := Option.some.inj hr
            have e4 : w.heap.size + 1 = r := Option.some.inj e
            omega
        · rw [HNf.out]
          refine owns_weak (owns_grown (owns_grown HOv.out hgY (fun r hr e => hnv (by rw [hr, ← e]))) hgZ (fun r hr e => ?_)) (by omega)
          have e4 : w.heap.size + 1 = r := Option.some.inj e
          have := (own_lt HOv.out hr).1
          omega
end Go.Proofs.YtighfmgkoepfkaaGreat
