/- agrees, Find, Contradiction. -/
import Derived.Sort.OwnSortedInts
import Derived.Test.YtighfmgkoepfkaaGreatMQ
import Derived.Test.YtighfmgkoepfkaaGreatShelf
namespace Go.Proofs.YtighfmgkoepfkaaGreat
open Go.RowKit Go.Shelf

def sortI (zs : List Int) : List Int := zs.mergeSort fun x y => decide (x ≤ y)
theorem sortI_len (zs : List Int) : (sortI zs).length = zs.length := by unfold sortI; simp
theorem sortI_mem {zs : List Int} {x : Int} : x ∈ sortI zs ↔ x ∈ zs := by unfold sortI; exact List.mem_mergeSort
/-- The sort of a row that the call owns, nil let in. -/
theorem sort_any {W : World} {base n : Nat} {v : Value} {zs : List Int} (hn : zs.length = n) (hown : W.ownsRow base 3 1 v n (zs.flatMap encI)) (hl : n ≤ 1000000) :
    Calls Tryz.prog 74 #[v] W fun e w' => e = .returned (.tuple #[]) ∧ w'.ownsRow base 3 1 v n ((sortI zs).flatMap encI) ∧ W.grownBy w' v.ownBlock := by
  subst hn
  rw [flatI] at hown
  rw [flatI]
  rcases hown.2 with ⟨h0, hz⟩ | ⟨g, cap, cur, hv, hg, hb, h1, h2, h3, h4⟩
  · subst h0
    have : zs = [] := List.eq_nil_of_length_eq_zero (by simpa using hz)
    subst this
    refine (Tryz.slices_Sort_int_none none 0 W).mono ?_
    rintro e w' ⟨rfl, rfl⟩
    exact ⟨rfl, by simpa [sortI] using World.ownsRow_nil w' base 3 1, grown_refl _ _⟩
  · subst hv
    refine (Tryz.slices_Sort_int g 0 cap zs W (holds_of_blockI hb (by simpa using h4)) (Array.getElem?_eq_some_iff.1 hb).1 (by omega)).mono ?_
    rintro e w' ⟨rfl, n, os, rfl⟩
    exact ⟨rfl, ownsRow_sortedI (by simp) hg hb h1 h2 h3, grownBy_sortedI _⟩
theorem Ls.flat {α : Type} {enc : α → List Value} {k : Nat} (hk : ∀ x, (enc x).length = k) (hk0 : 0 < k) {w : World} {b off : Nat} {l : List α} (h : Ls enc k w b off l) (j : Nat) (u : Value) (hj : (l.flatMap enc)[j]? = some u) : w.cell? ⟨b, off + j, none⟩ = some u := by
  have hlen : (l.flatMap enc).length = l.length * k := by
    clear h hj
    induction l with
    | nil => simp
    | cons x t ih => rw [List.flatMap_cons, List.length_append, ih, hk, List.length_cons, Nat.add_mul]; omega
  have hjl : j < l.length * k := by rw [← hlen]; exact (List.getElem?_eq_some_iff.1 hj).1
  have h1 : j / k < l.length := (Nat.div_lt_iff_lt_mul hk0).2 hjl
  have h2 : j % k < k := Nat.mod_lt _ hk0
  have e : j / k * k + j % k = j := by rw [Nat.mul_comm]; exact Nat.div_add_mod j k
  have hf := flat_at k enc hk l (j / k) (j % k) l[j / k] h1 h2
  rw [e, hj] at hf
  have hg : l.getD (j / k) l[j / k] = l[j / k] := by simp [List.getD_eq_getElem?_getD, h1]
  rw [hg] at hf
  have := h.c (j / k) _ (List.getElem?_eq_getElem h1) (j % k) u hf.symm
  rw [show off + j / k * k + j % k = off + j by omega] at this
  exact this
theorem SAt.flat {α : Type} {enc : α → List Value} {k : Nat} (hk : ∀ x, (enc x).length = k) (hk0 : 0 < k) {w : World} {a : Addr} {n : Nat} {l : List α} (h : SAt enc k w (some a) n l) (j : Nat) (u : Value) (hj : (l.flatMap enc)[j]? = some u) : w.cell? (a.add j) = some u := by
  have hn : 0 < n := by
    refine Nat.pos_of_ne_zero fun e => ?_
    have := h.len
    rw [e] at this
    have : l = [] := List.eq_nil_of_length_eq_zero this
    subst this
    simp at hj
  obtain ⟨b, off, e, hl⟩ := h.at_ hn
  have e2 : a = ⟨b, off, none⟩ := Option.some.inj e
  subst e2
  have hadd : (⟨b, off, none⟩ : Addr).add j = ⟨b, off + j, none⟩ := by unfold Addr.add; simp
  rw [hadd]
  exact hl.flat hk hk0 j u hj
theorem info_hd : (Tryz.prog.info? 118).map (fun i => (i.zero, i.size, i.bytes)) = some (some (.agg #[.int .i64 0, .int .i64 0, .int .i64 0, .int .i64 0, .int .i64 0, .int .i64 0]), 6, 48) := by kernel_rfl
theorem info_mv : (Tryz.prog.info? 59).map (fun i => (i.zero, i.size, i.bytes)) = some (some (.agg #[.int .i64 0, .int .i64 0, .int .i64 0, .int .i64 0, .int .i64 0]), 5, 40) := by kernel_rfl
theorem encH_len (x : Hd) : (encH x).length = 6 := rfl
theorem encM_len (x : Mv) : (encM x).length = 5 := rfl
theorem encH_one (l : List Hd) : ∀ u ∈ l.flatMap encH, u.oneCell' = true := by
  intro u hu
  obtain ⟨x, _, hx⟩ := List.mem_flatMap.1 hu
  simp only [encH, List.mem_cons, List.not_mem_nil, or_false] at hx
  rcases hx with rfl | rfl | rfl | rfl | rfl | rfl <;> rfl
theorem encM_one (l : List Mv) : ∀ u ∈ l.flatMap encM, u.oneCell' = true := by
  intro u hu
  obtain ⟨x, _, hx⟩ := List.mem_flatMap.1 hu
  simp only [encM, List.mem_cons, List.not_mem_nil, or_false] at hx
  rcases hx with rfl | rfl | rfl | rfl | rfl <;> rfl
theorem encI_one (l : List Int) : ∀ u ∈ l.flatMap encI, u.oneCell' = true := by
  intro u hu
  obtain ⟨x, _, hx⟩ := List.mem_flatMap.1 hu
  simp only [encI, List.mem_cons, List.not_mem_nil, or_false] at hx
  rcases hx with rfl; rfl
theorem flat_len {α : Type} {enc : α → List Value} {k : Nat} (hk : ∀ x, (enc x).length = k) (l : List α) : (l.flatMap enc).length = l.length * k := by
  induction l with
  | nil => simp
  | cons x t ih => rw [List.flatMap_cons, List.length_append, ih, hk, List.length_cons, Nat.add_mul]; omega
set_option maxRecDepth 100000 in
set_option maxHeartbeats 1600000 in
theorem cloneH_any (A : Option Addr) (n c : Nat) (l : List Hd) (w : World) (h : SAt encH 6 w A n l) (hn : n ≤ 1000000) :
    Calls Tryz.prog 79 #[.slice A n c] w fun e w' => ∃ v', e = .returned v' ∧ w'.ownsRow w.heap.size 118 6 v' n (l.flatMap encH) ∧ Below w.heap.size w w' := by
  obtain ⟨i0, hi0, hi1, hi2, hi3⟩ := info_parts info_hd
  have q22 : ∀ (w : World) (a : Option Addr) (n c n' c' : Nat), (binOp .eql 22 (.slice a n c) (.slice none n' c')).run Tryz.prog w = .ok (.bool a.isNone) w := fun w a n c n' c' => Lib.run_eql_slice_nil w _ _ a n c n' c' Tryz.underlying22
  have HL := Lib.hid h.len
  cases A with
  | none =>
    have h0 : n = 0 := by
      refine Nat.eq_zero_of_not_pos fun q => ?_
      obtain ⟨b, off, e, _⟩ := h.at_ q
      cases e
    subst h0
    have hl : l = [] := List.eq_nil_of_length_eq_zero h.len
    subst hl
    clear h
    go_enter Tryz.func79, Tryz.ntmps79
    go_wp2
    go_ret
    exact ⟨_, rfl, World.ownsRow_nil _ _ _ _, Below.refl _ _⟩
  | some a =>
    have HF := Lib.hid (show ∀ (j : Nat) (u : Value), (l.flatMap encH)[j]? = some u → w.cell? (a.add j) = some u from h.flat encH_len (by decide))
    clear h
    go_enter Tryz.func79, Tryz.ntmps79
    go_wp2_with (at_builtin; refine wpList_append_own _ rfl _ _ 22 rfl w.heap.size 118 i0 (.agg #[.int .i64 0, .int .i64 0, .int .i64 0, .int .i64 0, .int .i64 0, .int .i64 0]) 6 48 Tryz.underlying22 hi0 hi1 hi2 hi3 rfl (by decide) _ 0 [] rfl ?q0 a n c (l.flatMap encH) rfl ?q1 ?q2 ?q3 ?q4 ?q5 ?q6 ?_)
    case q0 => exact World.ownsRow_made w #[] 0 (Nat.le_refl _) (Nat.zero_le _) (by simp)
    case q1 => rw [flat_len encH_len, HL.out]
    case q2 =>
      intro j u hj
      exact Lib.cell?_alloc_some _ (HF.out j u hj)
    case q3 => exact encH_one l
    case q4 => unfold maxLen; omega
    case q5 => omega
    case q6 => simp
    intro v' w1 hown hgrow hnil
    obtain ⟨A', c', rfl⟩ := owns_slice hown
    go_wp2
    go_ret
    exact ⟨_, rfl, by simpa using hown, ((Below.refl _ w).alloc (Nat.le_refl _) _).grown hgrow (by simp) (by intro k hk; simp [Value.ownBlock] at hk; omega)⟩
set_option maxRecDepth 100000 in
set_option maxHeartbeats 1600000 in
theorem cloneM_any (A : Option Addr) (n c : Nat) (l : List Mv) (w : World) (h : SAt encM 5 w A n l) (hn : n ≤ 1000000) :
    Calls Tryz.prog 127 #[.slice A n c] w fun e w' => ∃ v', e = .returned v' ∧ w'.ownsRow w.heap.size 59 5 v' n (l.flatMap encM) ∧ Below w.heap.size w w' := by
  obtain ⟨i0, hi0, hi1, hi2, hi3⟩ := info_parts info_mv
  have q22 : ∀ (w : World) (a : Option Addr) (n c n' c' : Nat), (binOp .eql 23 (.slice a n c) (.slice none n' c')).run Tryz.prog w = .ok (.bool a.isNone) w := fun w a n c n' c' => Lib.run_eql_slice_nil w _ _ a n c n' c' Tryz.underlying23
  have HL := Lib.hid h.len
  cases A with
  | none =>
    have h0 : n = 0 := by
      refine Nat.eq_zero_of_not_pos fun q => ?_
      obtain ⟨b, off, e, _⟩ := h.at_ q
      cases e
    subst h0
    have hl : l = [] := List.eq_nil_of_length_eq_zero h.len
    subst hl
    clear h
    go_enter Tryz.func127, Tryz.ntmps127
    go_wp2
    go_ret
    exact ⟨_, rfl, World.ownsRow_nil _ _ _ _, Below.refl _ _⟩
  | some a =>
    have HF := Lib.hid (show ∀ (j : Nat) (u : Value), (l.flatMap encM)[j]? = some u → w.cell? (a.add j) = some u from h.flat encM_len (by decide))
    clear h
    go_enter Tryz.func127, Tryz.ntmps127
    go_wp2_with (at_builtin; refine wpList_append_own _ rfl _ _ 23 rfl w.heap.size 59 i0 (.agg #[.int .i64 0, .int .i64 0, .int .i64 0, .int .i64 0, .int .i64 0]) 5 40 Tryz.underlying23 hi0 hi1 hi2 hi3 rfl (by decide) _ 0 [] rfl ?q0 a n c (l.flatMap encM) rfl ?q1 ?q2 ?q3 ?q4 ?q5 ?q6 ?_)
    case q0 => exact World.ownsRow_made w #[] 0 (Nat.le_refl _) (Nat.zero_le _) (by simp)
    case q1 => rw [flat_len encM_len, HL.out]
    case q2 =>
      intro j u hj
      exact Lib.cell?_alloc_some _ (HF.out j u hj)
    case q3 => exact encM_one l
    case q4 => unfold maxLen; omega
    case q5 => omega
    case q6 => simp
    intro v' w1 hown hgrow hnil
    obtain ⟨A', c', rfl⟩ := owns_slice hown
    go_wp2
    go_ret
    exact ⟨_, rfl, by simpa using hown, ((Below.refl _ w).alloc (Nat.le_refl _) _).grown hgrow (by simp) (by intro k hk; simp [Value.ownBlock] at hk; omega)⟩
set_option maxRecDepth 100000 in
set_option maxHeartbeats 1600000 in
theorem cloneI_any (A : Option Addr) (n c : Nat) (l : List Int) (w : World) (h : SAt encI 1 w A n l) (hn : n ≤ 1000000) :
    Calls Tryz.prog 72 #[.slice A n c] w fun e w' => ∃ v', e = .returned v' ∧ w'.ownsRow w.heap.size 3 1 v' n (l.flatMap encI) ∧ Below w.heap.size w w' := by
  obtain ⟨i0, hi0, hi1, hi2, hi3⟩ := info_parts info_int
  have q22 : ∀ (w : World) (a : Option Addr) (n c n' c' : Nat), (binOp .eql 42 (.slice a n c) (.slice none n' c')).run Tryz.prog w = .ok (.bool a.isNone) w := fun w a n c n' c' => Lib.run_eql_slice_nil w _ _ a n c n' c' Tryz.underlying42
  have HL := Lib.hid h.len
  cases A with
  | none =>
    have h0 : n = 0 := by
      refine Nat.eq_zero_of_not_pos fun q => ?_
      obtain ⟨b, off, e, _⟩ := h.at_ q
      cases e
    subst h0
    have hl : l = [] := List.eq_nil_of_length_eq_zero h.len
    subst hl
    clear h
    go_enter Tryz.func72, Tryz.ntmps72
    go_wp2
    go_ret
    exact ⟨_, rfl, World.ownsRow_nil _ _ _ _, Below.refl _ _⟩
  | some a =>
    have HF := Lib.hid (show ∀ (j : Nat) (u : Value), (l.flatMap encI)[j]? = some u → w.cell? (a.add j) = some u from h.flat encI_len (by decide))
    clear h
    go_enter Tryz.func72, Tryz.ntmps72
    go_wp2_with (at_builtin; refine wpList_append_own _ rfl _ _ 42 rfl w.heap.size 3 i0 (.int .i64 0) 1 8 Tryz.underlying42 hi0 hi1 hi2 hi3 rfl (by decide) _ 0 [] rfl ?q0 a n c (l.flatMap encI) rfl ?q1 ?q2 ?q3 ?q4 ?q5 ?q6 ?_)
    case q0 => exact World.ownsRow_made w #[] 0 (Nat.le_refl _) (Nat.zero_le _) (by simp)
    case q1 => rw [flat_len encI_len, HL.out]
    case q2 =>
      intro j u hj
      exact Lib.cell?_alloc_some _ (HF.out j u hj)
    case q3 => exact encI_one l
    case q4 => unfold maxLen; omega
    case q5 => omega
    case q6 => simp
    intro v' w1 hown hgrow hnil
    obtain ⟨A', c', rfl⟩ := owns_slice hown
    go_wp2
    go_ret
    exact ⟨_, rfl, by simpa using hown, ((Below.refl _ w).alloc (Nat.le_refl _) _).grown hgrow (by simp) (by intro k hk; simp [Value.ownBlock] at hk; omega)⟩
end Go.Proofs.YtighfmgkoepfkaaGreat

namespace Go.Proofs.YtighfmgkoepfkaaGreat
open Go.RowKit

def sideT (hs : List Hd) (S : Nat → Bool) (b : Bool) : Nat → List Int
  | 0 => []
  | k + 1 => sideT hs S b k ++ (if S k = b then [(hat hs k).id] else [])
theorem sideT_take (hs : List Hd) (S : Nat → Bool) (b : Bool) : ∀ k, k ≤ hs.length → sideL (hs.take k) S b = sideT hs S b k
  | 0, _ => rfl
  | k + 1, hk => by
    have ih := sideT_take hs S b k (by omega)
    rw [sideT, ← ih, List.take_succ_eq_append_getElem (by omega)]
    unfold sideL
    have hl : (hs.take k).length = k := by simp; omega
    rw [List.zipIdx_append, List.filter_append, List.map_append, Nat.zero_add, hl]
    congr 1
    rw [hat_eq (by omega)]
    by_cases c : S k = b
    · rw [if_pos c]; simp [c]
    · rw [if_neg c]
      have : (S k == b) = false := by simpa using c
      simp [this]
theorem sideT_all (hs : List Hd) (S : Nat → Bool) (b : Bool) : sideT hs S b hs.length = sideL hs S b := by
  rw [← sideT_take hs S b hs.length (Nat.le_refl _), List.take_length]
theorem sideT_len (hs : List Hd) (S : Nat → Bool) (b : Bool) : ∀ k, (sideT hs S b k).length ≤ k
  | 0 => Nat.le_refl _
  | k + 1 => by
    have := sideT_len hs S b k
    rw [sideT, List.length_append]
    split
    · simp; omega
    · simp; omega
/-- A cut as it lies, from block L on. -/
def CuAt (w : World) (L : Nat) (v : Value) (way : Int) (s : List Int) : Prop := ∃ A n c, v = .agg #[.int .i64 way, .slice A n c] ∧ SAt encI 1 w A n s ∧ n ≤ c ∧ ∀ a, A = some a → L ≤ a.block
theorem CuAt.grown {w w' : World} {L : Nat} {v : Value} {way : Int} {s : List Int} {r : Option Nat} (h : CuAt w L v way s) (hg : w.grownBy w' r) (hr : ∀ g, r = some g → g < L) : CuAt w' L v way s := by
  obtain ⟨A, n, c, e, hs, hc, hl⟩ := h
  exact ⟨A, n, c, e, hs.grown hg (fun a ha e => by have := hl a ha; have := hr _ e; omega), hc, hl⟩
theorem CuAt.below {w w' : World} {L : Nat} {v : Value} {way : Int} {s : List Int} (h : CuAt w L v way s) (hb : Below w.heap.size w w') : CuAt w' L v way s :=
  h.grown (r := none) (below_grown hb) (fun g e => by cases e)
theorem CuAt.weak {w : World} {L L' : Nat} {v : Value} {way : Int} {s : List Int} (h : CuAt w L v way s) (hL : L' ≤ L) : CuAt w L' v way s := by
  obtain ⟨A, n, c, e, hs, hc, hl⟩ := h
  exact ⟨A, n, c, e, hs, hc, fun a ha => Nat.le_trans hL (hl a ha)⟩
theorem CuAt.of_done {w : World} {L B : Nat} {v : Value} {way : Int} {s : List Int} (h : Done w L B v s) : CuAt w L (.agg #[.int .i64 way, v]) way s := by
  obtain ⟨A, n, c, rfl, a, b, d⟩ := h
  exact ⟨A, n, c, rfl, a, b, fun a h => (d a h).1⟩

set_option maxRecDepth 100000 in
set_option maxHeartbeats 6400000 in
theorem cut_any (A : Option Addr) (n c : Nat) (B : Option Addr) (m d : Nat) (hs : List Hd) (g : Nat) (N : Nat) (S : Nat → Bool) (w : World) (h : SAt encH 6 w A n hs) (hn : n ≤ 9) (hN : N = n + 1) (hg : Blk w g 4 (rowI N Value.bool S)) :
    Calls Tryz.prog 106 #[vT A n c B m d, .slice (some ⟨g, 0, none⟩) N N] w fun e w' => ∃ v, e = .returned v ∧ CuAt w' w.heap.size v (if S n = true then 1 else 2) (sortI (sideL hs S (!(S n)))) ∧ Below w.heap.size w w' := by
  have HH := Lib.hid h
  have HLh := Lib.hid h.len
  have HG := Lib.hid hg
  obtain ⟨ii, hi0, hi1, hi2, hi3⟩ := info_parts info_int
  have g0 := (hg.cell n).trans (rowI_at (by omega))
  have gl := hg.lt
  have gl1 : g < w.heap.size + 1 := by omega
  have gl2 : g < w.heap.size + 1 + 1 := by omega
  have gl3 : g < w.heap.size + 1 + 1 + 1 := by omega
  have hnN : n < N := by omega
  have HNN := Lib.hid hN
  clear h hg hN
  generalize hb : (!(S n)) = b
  have HSn := Lib.hid hb
  clear hb
  go_enter Tryz.func106, Tryz.ntmps106
  cases hS : S n with
  | false =>
    rw [hS] at g0
    have hbv : b = true := by rw [← HSn.out, hS]; rfl
    subst hbv
    clear hS
    go_wp2
    have B1 := ((((Below.refl w.heap.size w).alloc (Nat.le_refl _) (.cells #[.slice A n c, .slice B m d] 25)).alloc (by simp) (.cells #[.int .i64 0, .slice none 0 0] 93)).alloc (by simp; omega) (.cells #[.int .i64 2, .slice none 0 0] 93))
    have t1 := ((Blk.new w 25 #[.slice A n c, .slice B m d]).alloc (.cells #[.int .i64 0, .slice none 0 0] 93)).alloc (.cells #[.int .i64 2, .slice none 0 0] 93)
    have r1 := (Blk.at_new (W := w.alloc (.cells #[.slice A n c, .slice B m d] 25)) (g := w.heap.size + 1) 93 #[.int .i64 0, .slice none 0 0] (by simp)).alloc (.cells #[.int .i64 2, .slice none 0 0] 93)
    have c1 := Blk.at_new (W := (w.alloc (.cells #[.slice A n c, .slice B m d] 25)).alloc (.cells #[.int .i64 0, .slice none 0 0] 93)) (g := w.heap.size + 1 + 1) 93 #[.int .i64 2, .slice none 0 0] (by simp)
    generalize hV : ((w.alloc (.cells #[.slice A n c, .slice B m d] 25)).alloc (.cells #[.int .i64 0, .slice none 0 0] 93)).alloc (.cells #[.int .i64 2, .slice none 0 0] 93) = V at *
    clear hV g0
    go_loopw [20] (fun i wx => ∃ (k : Nat) (v : Value), k ≤ n ∧ i = .int .i64 (k : Int) ∧ Blk wx (w.heap.size + 1) 93 #[.int .i64 0, .slice none 0 0] ∧ Blk wx (w.heap.size + 1 + 1) 93 #[.int .i64 2, v] ∧ w.heap.size + 3 ≤ wx.heap.size ∧ Below w.heap.size w wx ∧ wx.ownsRow (w.heap.size + 3) 3 1 v (sideT hs S true k).length ((sideT hs S true k).flatMap encI)) (fun i _ => n - (intOf i).toNat)
    case atStart => exact ⟨0, _, Nat.zero_le _, rfl, r1, c1, c1.lt, B1, World.ownsRow_nil _ _ _ _⟩
    case round =>
      obtain ⟨k, v, hk, rfl, rb, cb, hsz, Br, ow⟩ := hrel
      have HLT := Lib.hid (fun (r : Nat) hr => own_lt (g := r) ow hr)
      have HR := Lib.hid rb
      have HCb := Lib.hid cb
      obtain ⟨Ao, co, rfl⟩ := owns_slice ow
      have HLl := Lib.hid (sideT_len hs S true k)
      have hlen := sideT_len hs S true k
      have q1 := cb.cell 1
      simp only [List.getElem?_toArray, List.getElem?_cons_zero, List.getElem?_cons_succ] at q1
      have l1 := cb.lt
      have OW := Lib.hid ow
      have HB := Lib.hid Br
      by_cases hkn : k < n
      case neg =>
        have hkk : k = n := by omega
        subst hkk
        have HSo := Lib.hid (sort_any rfl ow (by omega))
        clear ow rb cb
        go_wp2_with fail
        refine HSo.out.mono ?_
        rintro e w4 ⟨rfl, ho4, hg4⟩
        have BF := Br.grown hg4 Br.size (fun r hr => by have := HLT.out _ hr; omega)
        have rb4 := HR.out.grown hg4 (fun e => by have := HLT.out _ e; omega)
        have cb4 := HCb.out.grown hg4 (fun e => by have := HLT.out _ e; omega)
        have D4 := Lib.hid (Done.row (Nat.le_refl _) (by rw [sortI_len]) ho4)
        have y0 := cb4.cell 0
        have y1 := cb4.cell 1
        have s0 := rb4.cell 0
        have s1 := rb4.cell 1
        have f0 := rb4.frozen 0
        have f1 := rb4.frozen 1
        simp only [List.getElem?_toArray, List.getElem?_cons_zero, List.getElem?_cons_succ] at y0 y1 s0 s1
        have l2 := cb4.lt
        have l3 := rb4.lt
        have HR4 := Lib.hid rb4
        clear ho4 rb4 cb4 q1 l1
        go_wp2
        have hfin : Blk ((w4.setCell ⟨w.heap.size + 1, 0, none⟩ (.int .i64 2)).setCell ⟨w.heap.size + 1, 1, none⟩ (.slice Ao (sideT hs S true k).length co)) (w.heap.size + 1) 93 #[.int .i64 2, .slice Ao (sideT hs S true k).length co] := by
          have := (HR4.out.set_ 0 (.int .i64 2)).set_ 1 (.slice Ao (sideT hs S true k).length co)
          simpa using this
        have z0 := hfin.cell 0
        have z1 := hfin.cell 1
        simp only [List.getElem?_toArray, List.getElem?_cons_zero, List.getElem?_cons_succ] at z0 z1
        have hgF : w4.grownBy ((w4.setCell ⟨w.heap.size + 1, 0, none⟩ (.int .i64 2)).setCell ⟨w.heap.size + 1, 1, none⟩ (.slice Ao (sideT hs S true k).length co)) (some (w.heap.size + 1)) := grown_trans (grownBy_set _ _ 0 _) (grownBy_set _ _ 1 _)
        refine bodyPost_ret (v := .agg #[.int .i64 2, .slice Ao (sideT hs S true k).length co]) (by simp [results, Tryz.results106, go_sem, z0, z1]) rfl ⟨_, rfl, ?_, (BF.setCell (p := ⟨w.heap.size + 1, 0, none⟩) (by simp) _).setCell (p := ⟨w.heap.size + 1, 1, none⟩) (by simp) _⟩
        have hco := CuAt.of_done (way := 2) (D4.out.grown hgF (fun g hg => .inl (by have e2 : w.heap.size + 1 = g := Option.some.inj hg; omega)))
        have e1 : sideT hs S true k = sideL hs S true := by rw [← HLh.out, sideT_all]
        rw [e1] at hco
        rw [e1]
        exact hco.weak (by omega)
      case pos =>
        have hkl : k < hs.length := by rw [HLh.out]; exact hkn
        obtain ⟨b0, off, rfl, hl⟩ := HH.out.at_ (by omega)
        have hl2 := hl.below Br
        obtain ⟨x0, x1, x2, x3, x4, x5⟩ := Hds.at_ hl2 (List.getElem?_eq_getElem hkl)
        have hlt := hl2.lt
        have HX := Lib.hid (show (hat hs k).id = (hs[k]).id by rw [hat_eq hkl])
        have hgb := HG.out.below Br
        have g1 := (hgb.cell k).trans (rowI_at (show k < N by have := HNN.out; omega))
        have gl4 := hgb.lt
        have gl5 : g < wr.heap.size + 1 := by omega
        clear hl hl2 hgb
        generalize hs[k] = x at *
        obtain ⟨xi, xsl, xsh, xel, xeh, xbk⟩ := x
        dsimp only at *
        have bq := (Below.refl wr.heap.size wr).alloc (Nat.le_refl _) (.cells #[.int .i64 xi, .int .i64 xsl, .int .i64 xsh, .int .i64 xel, .int .i64 xeh, .int .i64 xbk] 118)
        by_cases hSk : S k = true
        case neg =>
          have hSk2 : S k = !true := by cases hq : S k <;> simp_all
          rw [hSk2] at g1
          have HT := Lib.hid (show sideT hs S true (k + 1) = sideT hs S true k by rw [sideT, if_neg hSk, List.append_nil])
          have OW2 := Lib.hid (owns_below ow bq)
          clear hSk hSk2 ow
          simp only [Bool.not_true] at g1
          go_wp2
          go_roundw
          case rel => exact ⟨k + 1, _, by omega, by go_num, HR.out.alloc _, HCb.out.alloc _, by simp; omega, HB.out.trans (bq.mono HB.out.size), by rw [HT.out]; exact OW2.out⟩
          case measure => simp [intOf]; omega
        case pos =>
          rw [hSk] at g1
          have HT := Lib.hid (show sideT hs S true (k + 1) = sideT hs S true k ++ [xi] by rw [sideT, if_pos hSk, HX.out])
          have bq2 := bq.alloc (by simp) (.cells #[.int .i64 xi] 3)
          have OW2 := Lib.hid ((ow.alloc (.cells #[.int .i64 xi, .int .i64 xsl, .int .i64 xsh, .int .i64 xel, .int .i64 xeh, .int .i64 xbk] 118)).alloc (.cells #[.int .i64 xi] 3))
          have HR2 := Lib.hid (HR.out.below bq2)
          have HCb2 := Lib.hid (HCb.out.below bq2)
          have HB2 := Lib.hid (HB.out.trans (bq2.mono HB.out.size))
          clear hSk ow rb cb Br
          go_wp2_with (at_builtin; go_loud (refine wpList_append_own _ rfl (.tmp 32) (.tmp 35) 42 rfl (w.heap.size + 3) 3 ii (.int .i64 0) 1 8 Tryz.underlying42 hi0 hi1 hi2 hi3 rfl (by decide) _ (sideT hs S true k).length ((sideT hs S true k).flatMap encI) rfl OW2.out ⟨wr.heap.size + 1, 0, none⟩ 1 1 [.int .i64 xi] rfl rfl (fun j u h => by match j, h with | 0, h => (simp at h; subst h; exact (Blk.at_new (W := wr.alloc _) (g := wr.heap.size + 1) _ _ (by simp)).cell 0)) (one_intsL [xi]) (by unfold maxLen; omega) (by omega) (by simp; omega) ?_))
          intro v' w4 ho hgr _
          obtain ⟨g5, c5, rfl⟩ := ownsRow_succ ho
          have HO := Lib.hid ho
          have hcb4 := HCb2.out.grown hgr (fun e => by have := HLT.out _ e; omega)
          have HCb4 := Lib.hid hcb4
          have HR4 := Lib.hid (HR2.out.grown hgr (fun e => by have := HLT.out _ e; omega))
          have HB4 := Lib.hid (HB2.out.grown hgr HB2.out.size (fun r hr => by have := HLT.out _ hr; omega))
          have hsz4 : w.heap.size + 3 ≤ w4.heap.size := Nat.le_trans (by simp; omega) hgr.size
          have q4 := hcb4.cell 1
          have f4 := hcb4.frozen 1
          simp only [List.getElem?_toArray, List.getElem?_cons_zero, List.getElem?_cons_succ] at q4
          have l4 := hcb4.lt
          clear hcb4 hgr ho q1 l1
          go_wp2
          go_roundw
          case rel =>
            refine ⟨k + 1, .slice (some ⟨g5, 0, none⟩) ((sideT hs S true k).length + 1) c5, by omega, by go_num, HR4.out.far (p := ⟨w.heap.size + 1 + 1, 1, none⟩) (by simp) _, by simpa using HCb4.out.set_ 1 (.slice (some ⟨g5, 0, none⟩) ((sideT hs S true k).length + 1) c5), by simpa [World.setCell] using hsz4, HB4.out.setCell (p := ⟨w.heap.size + 1 + 1, 1, none⟩) (by simp; omega) _, ?_⟩
            rw [HT.out, List.length_append, List.flatMap_append]
            exact owns_grown HO.out (grownBy_set w4 (w.heap.size + 1 + 1) 1 _) (fun g hg e => by have e1 : g5 = g := Option.some.inj hg; have e2 : w.heap.size + 1 + 1 = g := Option.some.inj e; have := (own_lt HO.out (g := g5) rfl).1; omega)
          case measure => simp [intOf]; omega
  | true =>
    rw [hS] at g0
    have hbv : b = false := by rw [← HSn.out, hS]; rfl
    subst hbv
    clear hS
    go_wp2
    have B1 := ((((Below.refl w.heap.size w).alloc (Nat.le_refl _) (.cells #[.slice A n c, .slice B m d] 25)).alloc (by simp) (.cells #[.int .i64 0, .slice none 0 0] 93)).alloc (by simp; omega) (.cells #[.int .i64 1, .slice none 0 0] 93))
    have t1 := ((Blk.new w 25 #[.slice A n c, .slice B m d]).alloc (.cells #[.int .i64 0, .slice none 0 0] 93)).alloc (.cells #[.int .i64 1, .slice none 0 0] 93)
    have r1 := (Blk.at_new (W := w.alloc (.cells #[.slice A n c, .slice B m d] 25)) (g := w.heap.size + 1) 93 #[.int .i64 0, .slice none 0 0] (by simp)).alloc (.cells #[.int .i64 1, .slice none 0 0] 93)
    have c1 := Blk.at_new (W := (w.alloc (.cells #[.slice A n c, .slice B m d] 25)).alloc (.cells #[.int .i64 0, .slice none 0 0] 93)) (g := w.heap.size + 1 + 1) 93 #[.int .i64 1, .slice none 0 0] (by simp)
    generalize hV : ((w.alloc (.cells #[.slice A n c, .slice B m d] 25)).alloc (.cells #[.int .i64 0, .slice none 0 0] 93)).alloc (.cells #[.int .i64 1, .slice none 0 0] 93) = V at *
    clear hV g0
    go_loopw [20] (fun i wx => ∃ (k : Nat) (v : Value), k ≤ n ∧ i = .int .i64 (k : Int) ∧ Blk wx (w.heap.size + 1) 93 #[.int .i64 0, .slice none 0 0] ∧ Blk wx (w.heap.size + 1 + 1) 93 #[.int .i64 1, v] ∧ w.heap.size + 3 ≤ wx.heap.size ∧ Below w.heap.size w wx ∧ wx.ownsRow (w.heap.size + 3) 3 1 v (sideT hs S false k).length ((sideT hs S false k).flatMap encI)) (fun i _ => n - (intOf i).toNat)
    case atStart => exact ⟨0, _, Nat.zero_le _, rfl, r1, c1, c1.lt, B1, World.ownsRow_nil _ _ _ _⟩
    case round =>
      obtain ⟨k, v, hk, rfl, rb, cb, hsz, Br, ow⟩ := hrel
      have HLT := Lib.hid (fun (r : Nat) hr => own_lt (g := r) ow hr)
      have HR := Lib.hid rb
      have HCb := Lib.hid cb
      obtain ⟨Ao, co, rfl⟩ := owns_slice ow
      have HLl := Lib.hid (sideT_len hs S false k)
      have hlen := sideT_len hs S false k
      have q1 := cb.cell 1
      simp only [List.getElem?_toArray, List.getElem?_cons_zero, List.getElem?_cons_succ] at q1
      have l1 := cb.lt
      have OW := Lib.hid ow
      have HB := Lib.hid Br
      by_cases hkn : k < n
      case neg =>
        have hkk : k = n := by omega
        subst hkk
        have HSo := Lib.hid (sort_any rfl ow (by omega))
        clear ow rb cb
        go_wp2_with fail
        refine HSo.out.mono ?_
        rintro e w4 ⟨rfl, ho4, hg4⟩
        have BF := Br.grown hg4 Br.size (fun r hr => by have := HLT.out _ hr; omega)
        have rb4 := HR.out.grown hg4 (fun e => by have := HLT.out _ e; omega)
        have cb4 := HCb.out.grown hg4 (fun e => by have := HLT.out _ e; omega)
        have D4 := Lib.hid (Done.row (Nat.le_refl _) (by rw [sortI_len]) ho4)
        have y0 := cb4.cell 0
        have y1 := cb4.cell 1
        have s0 := rb4.cell 0
        have s1 := rb4.cell 1
        have f0 := rb4.frozen 0
        have f1 := rb4.frozen 1
        simp only [List.getElem?_toArray, List.getElem?_cons_zero, List.getElem?_cons_succ] at y0 y1 s0 s1
        have l2 := cb4.lt
        have l3 := rb4.lt
        have HR4 := Lib.hid rb4
        clear ho4 rb4 cb4 q1 l1
        go_wp2
        have hfin : Blk ((w4.setCell ⟨w.heap.size + 1, 0, none⟩ (.int .i64 1)).setCell ⟨w.heap.size + 1, 1, none⟩ (.slice Ao (sideT hs S false k).length co)) (w.heap.size + 1) 93 #[.int .i64 1, .slice Ao (sideT hs S false k).length co] := by
          have := (HR4.out.set_ 0 (.int .i64 1)).set_ 1 (.slice Ao (sideT hs S false k).length co)
          simpa using this
        have z0 := hfin.cell 0
        have z1 := hfin.cell 1
        simp only [List.getElem?_toArray, List.getElem?_cons_zero, List.getElem?_cons_succ] at z0 z1
        have hgF : w4.grownBy ((w4.setCell ⟨w.heap.size + 1, 0, none⟩ (.int .i64 1)).setCell ⟨w.heap.size + 1, 1, none⟩ (.slice Ao (sideT hs S false k).length co)) (some (w.heap.size + 1)) := grown_trans (grownBy_set _ _ 0 _) (grownBy_set _ _ 1 _)
        refine bodyPost_ret (v := .agg #[.int .i64 1, .slice Ao (sideT hs S false k).length co]) (by simp [results, Tryz.results106, go_sem, z0, z1]) rfl ⟨_, rfl, ?_, (BF.setCell (p := ⟨w.heap.size + 1, 0, none⟩) (by simp) _).setCell (p := ⟨w.heap.size + 1, 1, none⟩) (by simp) _⟩
        have hco := CuAt.of_done (way := 1) (D4.out.grown hgF (fun g hg => .inl (by have e2 : w.heap.size + 1 = g := Option.some.inj hg; omega)))
        have e1 : sideT hs S false k = sideL hs S false := by rw [← HLh.out, sideT_all]
        rw [e1] at hco
        rw [e1]
        exact hco.weak (by omega)
      case pos =>
        have hkl : k < hs.length := by rw [HLh.out]; exact hkn
        obtain ⟨b0, off, rfl, hl⟩ := HH.out.at_ (by omega)
        have hl2 := hl.below Br
        obtain ⟨x0, x1, x2, x3, x4, x5⟩ := Hds.at_ hl2 (List.getElem?_eq_getElem hkl)
        have hlt := hl2.lt
        have HX := Lib.hid (show (hat hs k).id = (hs[k]).id by rw [hat_eq hkl])
        have hgb := HG.out.below Br
        have g1 := (hgb.cell k).trans (rowI_at (show k < N by have := HNN.out; omega))
        have gl4 := hgb.lt
        have gl5 : g < wr.heap.size + 1 := by omega
        clear hl hl2 hgb
        generalize hs[k] = x at *
        obtain ⟨xi, xsl, xsh, xel, xeh, xbk⟩ := x
        dsimp only at *
        have bq := (Below.refl wr.heap.size wr).alloc (Nat.le_refl _) (.cells #[.int .i64 xi, .int .i64 xsl, .int .i64 xsh, .int .i64 xel, .int .i64 xeh, .int .i64 xbk] 118)
        by_cases hSk : S k = false
        case neg =>
          have hSk2 : S k = !false := by cases hq : S k <;> simp_all
          rw [hSk2] at g1
          have HT := Lib.hid (show sideT hs S false (k + 1) = sideT hs S false k by rw [sideT, if_neg hSk, List.append_nil])
          have OW2 := Lib.hid (owns_below ow bq)
          clear hSk hSk2 ow
          simp only [Bool.not_false] at g1
          go_wp2
          go_roundw
          case rel => exact ⟨k + 1, _, by omega, by go_num, HR.out.alloc _, HCb.out.alloc _, by simp; omega, HB.out.trans (bq.mono HB.out.size), by rw [HT.out]; exact OW2.out⟩
          case measure => simp [intOf]; omega
        case pos =>
          rw [hSk] at g1
          have HT := Lib.hid (show sideT hs S false (k + 1) = sideT hs S false k ++ [xi] by rw [sideT, if_pos hSk, HX.out])
          have bq2 := bq.alloc (by simp) (.cells #[.int .i64 xi] 3)
          have OW2 := Lib.hid ((ow.alloc (.cells #[.int .i64 xi, .int .i64 xsl, .int .i64 xsh, .int .i64 xel, .int .i64 xeh, .int .i64 xbk] 118)).alloc (.cells #[.int .i64 xi] 3))
          have HR2 := Lib.hid (HR.out.below bq2)
          have HCb2 := Lib.hid (HCb.out.below bq2)
          have HB2 := Lib.hid (HB.out.trans (bq2.mono HB.out.size))
          clear hSk ow rb cb Br
          go_wp2_with (at_builtin; go_loud (refine wpList_append_own _ rfl (.tmp 32) (.tmp 35) 42 rfl (w.heap.size + 3) 3 ii (.int .i64 0) 1 8 Tryz.underlying42 hi0 hi1 hi2 hi3 rfl (by decide) _ (sideT hs S false k).length ((sideT hs S false k).flatMap encI) rfl OW2.out ⟨wr.heap.size + 1, 0, none⟩ 1 1 [.int .i64 xi] rfl rfl (fun j u h => by match j, h with | 0, h => (simp at h; subst h; exact (Blk.at_new (W := wr.alloc _) (g := wr.heap.size + 1) _ _ (by simp)).cell 0)) (one_intsL [xi]) (by unfold maxLen; omega) (by omega) (by simp; omega) ?_))
          intro v' w4 ho hgr _
          obtain ⟨g5, c5, rfl⟩ := ownsRow_succ ho
          have HO := Lib.hid ho
          have hcb4 := HCb2.out.grown hgr (fun e => by have := HLT.out _ e; omega)
          have HCb4 := Lib.hid hcb4
          have HR4 := Lib.hid (HR2.out.grown hgr (fun e => by have := HLT.out _ e; omega))
          have HB4 := Lib.hid (HB2.out.grown hgr HB2.out.size (fun r hr => by have := HLT.out _ hr; omega))
          have hsz4 : w.heap.size + 3 ≤ w4.heap.size := Nat.le_trans (by simp; omega) hgr.size
          have q4 := hcb4.cell 1
          have f4 := hcb4.frozen 1
          simp only [List.getElem?_toArray, List.getElem?_cons_zero, List.getElem?_cons_succ] at q4
          have l4 := hcb4.lt
          clear hcb4 hgr ho q1 l1
          go_wp2
          go_roundw
          case rel =>
            refine ⟨k + 1, .slice (some ⟨g5, 0, none⟩) ((sideT hs S false k).length + 1) c5, by omega, by go_num, HR4.out.far (p := ⟨w.heap.size + 1 + 1, 1, none⟩) (by simp) _, by simpa using HCb4.out.set_ 1 (.slice (some ⟨g5, 0, none⟩) ((sideT hs S false k).length + 1) c5), by simpa [World.setCell] using hsz4, HB4.out.setCell (p := ⟨w.heap.size + 1 + 1, 1, none⟩) (by simp; omega) _, ?_⟩
            rw [HT.out, List.length_append, List.flatMap_append]
            exact owns_grown HO.out (grownBy_set w4 (w.heap.size + 1 + 1) 1 _) (fun g hg e => by have e1 : g5 = g := Option.some.inj hg; have e2 : w.heap.size + 1 + 1 = g := Option.some.inj e; have := (own_lt HO.out (g := g5) rfl).1; omega)
          case measure => simp [intOf]; omega
end Go.Proofs.YtighfmgkoepfkaaGreat

namespace Go.Proofs.YtighfmgkoepfkaaGreat

theorem upL_of : ∀ {l : List Int}, l.Pairwise (· < ·) → upL l = true
  | [], _ => rfl
  | [_], _ => rfl
  | x :: y :: t, h => by
    have h1 := List.pairwise_cons.1 h
    have := upL_of h1.2
    unfold upL
    rw [this, decide_eq_true (h1.1 y (by simp))]; rfl
theorem upL_up : ∀ {l : List Int}, upL l = true → l.Pairwise (· < ·)
  | [], _ => List.Pairwise.nil
  | [x], _ => by simp
  | x :: y :: t, h => by
    have e : (decide (x < y) && upL (y :: t)) = true := h
    simp only [Bool.and_eq_true, decide_eq_true_eq] at e
    have ih := upL_up e.2
    refine List.pairwise_cons.2 ⟨fun z hz => ?_, ih⟩
    rcases List.mem_cons.1 hz with rfl | hz
    · exact e.1
    · exact Int.lt_trans e.1 ((List.pairwise_cons.1 ih).1 z hz)
theorem sortI_up {l : List Int} (h : l.Nodup) : (sortI l).Pairwise (· < ·) := by
  unfold sortI
  have h1 : (l.mergeSort fun x y => decide (x ≤ y)).Pairwise (fun a b => decide (a ≤ b) = true) :=
    List.pairwise_mergeSort (fun a b c h1 h2 => by simp at *; omega) (fun a b => by simp; omega) l
  have h2 : (l.mergeSort fun x y => decide (x ≤ y)).Nodup := (List.mergeSort_perm l _).nodup_iff.2 h
  rw [List.nodup_iff_pairwise_ne] at h2
  exact (h1.and h2).imp fun {a b} hab => by have := hab.1; have := hab.2; simp at *; omega
theorem sideL_nodup {hs : List Hd} (h : (hs.map Hd.id).Nodup) (S : Nat → Bool) (b : Bool) : (sideL hs S b).Nodup := by
  unfold sideL
  have e : (hs.zipIdx.map fun p => p.1.id) = hs.map Hd.id := by
    rw [show (fun p : Hd × Nat => p.1.id) = Hd.id ∘ Prod.fst from rfl, ← List.map_map, List.zipIdx_map_fst]
  have hsub : ((hs.zipIdx.filter fun p => S p.2 == b).map fun p => p.1.id).Sublist (hs.map Hd.id) := by
    rw [← e]; exact (List.filter_sublist (l := hs.zipIdx)).map _
  exact hsub.nodup h
theorem mem_pos {hs : List Hd} {S : Nat → Bool} {b : Bool} {id : Int} (h : id ∈ sideL hs S b) : 0 ≤ pos hs id := by
  obtain ⟨i, hi, e, _⟩ := mem_sideL.1 h
  exact pos_id.2 ⟨_, List.getElem_mem hi, e⟩
theorem formed_cut {hs : List Hd} (h : (hs.map Hd.id).Nodup) {S : Nat → Bool} {b : Bool} (hne : sideL hs S b ≠ []) {way : Int} (hw : way = 1 ∨ way = 2) : formedL hs way (sortI (sideL hs S b)) = true := by
  unfold formedL
  have h1 : (sortI (sideL hs S b)).isEmpty = false := by
    rw [List.isEmpty_eq_false_iff]
    intro c
    have := sortI_len (sideL hs S b)
    rw [c] at this
    exact hne (List.eq_nil_of_length_eq_zero this.symm)
  have h2 : (sortI (sideL hs S b)).all (fun id => decide (0 ≤ pos hs id)) = true := by
    rw [List.all_eq_true]
    intro id hid
    exact decide_eq_true (mem_pos (sortI_mem.1 hid))
  rw [h1, h2, upL_of (sortI_up (sideL_nodup h S b)), decide_eq_true hw]
  rfl
theorem thrL_nil {hs : List Hd} {ms : List Mv} (way : Int) : thrL hs ms way [] = 0 := by
  have h1 : ∀ (f : Hd → Int) (hs : List Hd), hsum [] f hs = 0 := fun f hs => by
    induction hs with
    | nil => rfl
    | cons h t ih => show 0 + hsum [] f t = 0; rw [ih]; rfl
  have h2 : ∀ (o : Bool) (f : Mv → Int) (ms : List Mv), msum [] o f ms = 0 := fun o f ms => by
    induction ms with
    | nil => rfl
    | cons m t ih => show (if _ then _ else _) + msum [] o f t = 0; rw [ih]; cases o <;> simp
  unfold thrL outLo inHi inLo outHi
  simp [h1, h2]
theorem shows_cut {hs : List Hd} {ms : List Mv} (h : (hs.map Hd.id).Nodup) {S : Nat → Bool} {b : Bool} {way : Int} (hw : way = 1 ∨ way = 2) (hp : 0 < thrL hs ms way (sortI (sideL hs S b))) : showsL hs ms way (sortI (sideL hs S b)) = true := by
  unfold showsL
  have hne : sideL hs S b ≠ [] := fun c => by
    rw [c, show sortI [] = [] by simp [sortI], thrL_nil] at hp
    omega
  rw [formed_cut h hne hw, decide_eq_true hp]
  rfl
theorem way_12 (o : Bool) : (if o = true then (1 : Int) else 2) = 1 ∨ (if o = true then (1 : Int) else 2) = 2 := by cases o <;> simp
theorem settle_yes {hs : List Hd} {ms : List Mv} (h : TV hs ms) {es : List Eg} (ha : Alike es (edges hs ms)) (hs' : Small es) (hz : ∀ v, v < hs.length + 1 → sur es v ≤ 0) :
    (∀ v, v < hs.length + 1 → sur es v = 0) ∧ fitsL hs ms (stOf hs es) (enOf hs es) (maOf hs es) = true ∧ agrL hs ms = true := by
  have hz0 := sur_zero (inN_alike ha (edges_in h)) hz
  have hf := fits_net h ha hs'.inb fun v hv => hz0 v (by omega)
  exact ⟨hz0, hf, (agrL_course h).2 ⟨_, _, _, hf⟩⟩
theorem settle_no {hs : List Hd} {ms : List Mv} (h : TV hs ms) {es : List Eg} (ha : Alike es (edges hs ms)) {S : Nat → Bool} (hsh : Shut es (-1) S) (hp : 0 < sumS es S (hs.length + 1)) :
    showsL hs ms (if S hs.length = true then 1 else 2) (sortI (sideL hs S (!(S hs.length)))) = true ∧ agrL hs ms = false := by
  have hpos := thrL_pos h ha hsh hp (s := sortI (sideL hs S (!(S hs.length)))) fun id => sortI_mem
  refine ⟨shows_cut h.ids (way_12 _) hpos, Bool.eq_false_iff.2 fun c => ?_⟩
  obtain ⟨st, en, ma, hf⟩ := (agrL_course h).1 c
  have := thrL_le h hf (if S hs.length = true then 1 else 2) (sortI (sideL hs S (!(S hs.length))))
  omega
end Go.Proofs.YtighfmgkoepfkaaGreat

namespace Go.Proofs.YtighfmgkoepfkaaGreat
open Go.RowKit

theorem SettleOut.low {w w1 w' : World} {p base : Nat} {A : Option Addr} {c : Nat} {es : List Eg} {N : Nat} {en : Ending} (h : SettleOut w1 p base A c es N en w') (hN : Net w1 p base A c es N) (hb : Below w.heap.size w w1) (hB : w.heap.size ≤ base) : Below w.heap.size w w' :=
  hb.trans (below_of_grown h.1 hb.size (fun _ hg => Nat.le_trans hB (own_lt hN.row hg).1))
set_option maxHeartbeats 1600000 in
theorem agrees_any (t : TR) (w : World) (h : t.Ok w) (hv : TV t.hs t.ms) :
    Calls Tryz.prog 64 #[t.v] w fun e w' => e = .returned (.bool (agrL t.hs t.ms)) ∧ Below w.heap.size w w' := by
  obtain ⟨A, n, c, B, m, d, hs, ms⟩ := t
  obtain ⟨h1, h2, _, _, _, _⟩ := h
  dsimp only [TR.v] at *
  have hb0 := (Below.refl w.heap.size w).alloc (Nat.le_refl _) (.cells #[.slice A n c, .slice B m d] 25)
  have HC := Lib.hid (of_any A n c B m d hs ms _ (h1.below hb0) (h2.below hb0) hv)
  have HV := Lib.hid hv
  have HL := Lib.hid h1.len
  clear h1 h2 hv
  go_enter Tryz.func64, Tryz.ntmps64
  go_wp2_with (go_at_call 81; refine HC.out.mono ?_; rintro e w1 ⟨p, A', c', rfl, hp, hn, hb1⟩)
  have HB1 := Lib.hid (hb0.trans (hb1.mono hb0.size))
  have HS := Lib.hid (settle_any p (p + 1) A' c' (edges hs ms) (n + 1) w1 hn (small_edges HV.out) (by rw [← HL.out]; exact edges_in HV.out) (by have := HV.out.lenH; have := HL.out; omega))
  have HN := Lib.hid hn
  have hpw : w.heap.size ≤ p := by simp at hp; omega
  clear HC hb0 hb1 hn
  go_wp2_with fail
  refine HS.out.mono ?_
  rintro e w2 hso
  have hlow := hso.low HN.out HB1.out (by omega)
  obtain ⟨_, es', ha, hs', hn', ⟨rfl, hz⟩ | ⟨g, S, rfl, hg, _, hsh, hpos⟩⟩ := hso
  · have hag := (settle_yes HV.out ha hs' (by rw [HL.out]; exact hz)).2.2
    have HA := Lib.hid hag
    have HLo := Lib.hid hlow
    clear ha hs' hn' hz hag hlow
    go_wp2
    go_ret
    exact ⟨ret_bool HA.out.symm, HLo.out⟩
  · have hag := (settle_no HV.out ha hsh (by rw [HL.out]; exact hpos)).2
    have HA := Lib.hid hag
    have HLo := Lib.hid hlow
    clear ha hs' hn' hsh hpos hag hlow hg
    go_wp2
    go_ret
    exact ⟨ret_bool HA.out.symm, HLo.out⟩

theorem blk_set3 {W : World} {g : Nat} {t : TypeId} {p q r : Value} (h : Blk W g t #[p, q, r]) (a b c : Value) :
    Blk (((W.setCell ⟨g, 0, none⟩ a).setCell ⟨g, 1, none⟩ b).setCell ⟨g, 2, none⟩ c) g t #[a, b, c] := by
  have := ((h.set_ 0 a).set_ 1 b).set_ 2 c
  simpa using this
theorem below_set3 {B : Nat} {w W : World} {g : Nat} (h : Below B w W) (hg : B ≤ g) (a b c : Value) :
    Below B w (((W.setCell ⟨g, 0, none⟩ a).setCell ⟨g, 1, none⟩ b).setCell ⟨g, 2, none⟩ c) :=
  ((h.setCell (p := ⟨g, 0, none⟩) hg a).setCell (p := ⟨g, 1, none⟩) hg b).setCell (p := ⟨g, 2, none⟩) hg c
theorem grown_set3 (W : World) (g : Nat) (a b c : Value) : W.grownBy (((W.setCell ⟨g, 0, none⟩ a).setCell ⟨g, 1, none⟩ b).setCell ⟨g, 2, none⟩ c) (some g) :=
  grown_trans (grown_trans (grownBy_set _ _ 0 _) (grownBy_set _ _ 1 _)) (grownBy_set _ _ 2 _)
theorem blk_set2 {W : World} {g : Nat} {t : TypeId} {p q : Value} (h : Blk W g t #[p, q]) (a b : Value) :
    Blk ((W.setCell ⟨g, 0, none⟩ a).setCell ⟨g, 1, none⟩ b) g t #[a, b] := by
  have := (h.set_ 0 a).set_ 1 b
  simpa using this
theorem below_set2 {B : Nat} {w W : World} {g : Nat} (h : Below B w W) (hg : B ≤ g) (a b : Value) :
    Below B w ((W.setCell ⟨g, 0, none⟩ a).setCell ⟨g, 1, none⟩ b) :=
  (h.setCell (p := ⟨g, 0, none⟩) hg a).setCell (p := ⟨g, 1, none⟩) hg b
theorem grown_set2 (W : World) (g : Nat) (a b : Value) : W.grownBy ((W.setCell ⟨g, 0, none⟩ a).setCell ⟨g, 1, none⟩ b) (some g) :=
  grown_trans (grownBy_set _ _ 0 _) (grownBy_set _ _ 1 _)
abbrev vCo0 : Value := vCo none 0 0 none 0 0 none 0 0
def FindOut (w : World) (hs : List Hd) (ms : List Mv) (en : Ending) (w' : World) : Prop :=
  Below w.heap.size w w' ∧ ((tcheck hs ms ≠ 0 ∧ en = .returned (.tuple #[vCo0, .int .i64 (tcheck hs ms)])) ∨ (tcheck hs ms = 0 ∧ agrL hs ms = false ∧ en = .returned (.tuple #[vCo0, .int .i64 9])) ∨
    (tcheck hs ms = 0 ∧ agrL hs ms = true ∧ ∃ v st ed ma, en = .returned (.tuple #[v, .int .i64 0]) ∧ CoAt w' w.heap.size v st ed ma ∧ fitsL hs ms st ed ma = true))
set_option maxHeartbeats 3200000 in
theorem Find_any (t : TR) (w : World) (h : t.Ok w) : Calls Tryz.prog 35 #[t.v] w (FindOut w t.hs t.ms) := by
  have hb0 := ((Below.refl w.heap.size w).alloc (Nat.le_refl _) (.cells #[.slice t.A t.n t.c, .slice t.B t.m t.d] 25)).alloc (by simp) (.cells #[.slice none 0 0, .slice none 0 0, .slice none 0 0] 68)
  have HCk := Lib.hid (Check_any t _ (h.below hb0))
  obtain ⟨A, n, c, B, m, d, hs, ms⟩ := t
  dsimp only [TR.v] at *
  have r0 := (Blk.at_new (W := w.alloc (.cells #[.slice A n c, .slice B m d] 25)) (g := w.heap.size + 1) 68 #[.slice none 0 0, .slice none 0 0, .slice none 0 0] (by simp))
  have t0 := ((Blk.new w 25 #[.slice A n c, .slice B m d]).alloc (.cells #[.slice none 0 0, .slice none 0 0, .slice none 0 0] 68))
  have HOk := Lib.hid h
  clear h
  generalize hck : tcheck hs ms = ck at *
  have HTc := Lib.hid hck
  clear hck
  go_enter Tryz.func35, Tryz.ntmps35
  generalize hW : (w.alloc (.cells #[.slice A n c, .slice B m d] 25)).alloc (.cells #[.slice none 0 0, .slice none 0 0, .slice none 0 0] 68) = W at *
  have HWE := Lib.hid hW
  clear hW
  go_wp2_with fail
  rw [HWE.out]
  refine HCk.out.mono ?_; rintro e w1 ⟨rfl, hb1⟩
  have b1 := hb0.trans (hb1.mono hb0.size)
  have t1 := t0.below hb1
  have r1 := r0.below hb1
  have HT1 := Lib.hid t1
  have HR1 := Lib.hid r1
  have HB1 := Lib.hid b1
  clear HCk hb0 hb1 t0 r0 HWE
  have y0 := t1.cell 0
  have y1 := t1.cell 1
  have z0 := r1.cell 0
  have z1 := r1.cell 1
  have z2 := r1.cell 2
  have f0 := r1.frozen 0
  have f1 := r1.frozen 1
  have f2 := r1.frozen 2
  simp only [List.getElem?_toArray, List.getElem?_cons_zero, List.getElem?_cons_succ] at y0 y1 z0 z1 z2
  have l0 := t1.lt
  have l1 := r1.lt
  clear t1 r1 b1
  by_cases hz : ck = 0
  case neg =>
    have hz1 : (ck != 0) = true := by simpa using hz
    go_wp2
    have hf := blk_set3 HR1.out (.slice none 0 0) (.slice none 0 0) (.slice none 0 0)
    have x0 := hf.cell 0
    have x1 := hf.cell 1
    have x2 := hf.cell 2
    simp only [List.getElem?_toArray, List.getElem?_cons_zero, List.getElem?_cons_succ] at x0 x1 x2
    exact bodyPost_ret (v := .tuple #[vCo0, .int .i64 ck]) (by simp [results, Tryz.results35, go_sem, x0, x1, x2]) rfl ⟨below_set3 HB1.out (by omega) _ _ _, .inl ⟨by rw [HTc.out]; exact hz, by rw [HTc.out]⟩⟩
  case pos =>
    subst hz
    have hv := tcheck_zero.1 HTc.out
    have HV := Lib.hid hv
    have HC := Lib.hid (of_any A n c B m d hs ms w1 (HOk.out.h.below HB1.out) (HOk.out.m.below HB1.out) hv)
    have HL := Lib.hid HOk.out.h.len
    clear hv
    go_wp2_with (go_at_call 81; refine HC.out.mono ?_; rintro e w2 ⟨p, A', c', rfl, hp, hn, hb2⟩)
    have HB2 := Lib.hid (HB1.out.trans (hb2.mono HB1.out.size))
    have HR2 := Lib.hid (HR1.out.below hb2)
    have HS := Lib.hid (settle_any p (p + 1) A' c' (edges hs ms) (n + 1) w2 hn (small_edges HV.out) (by rw [← HL.out]; exact edges_in HV.out) (by have := HV.out.lenH; have := HL.out; omega))
    have HN := Lib.hid hn
    have hw12 := HB1.out.size
    have hpw : w1.heap.size ≤ p := hp
    clear HC hb2 hn f0 f1 f2 y0 y1 z0 z1 z2
    go_wp2_with fail
    refine HS.out.mono ?_
    rintro e w3 hso
    have hlow := hso.low HN.out HB2.out (by omega)
    have hr3 := HR2.out.grown hso.1 (fun e => by have := (own_lt HN.out.row e).1; omega)
    have HR3 := Lib.hid hr3
    have HLo := Lib.hid hlow
    have z0 := hr3.cell 0
    have z1 := hr3.cell 1
    have z2 := hr3.cell 2
    have f0 := hr3.frozen 0
    have f1 := hr3.frozen 1
    have f2 := hr3.frozen 2
    simp only [List.getElem?_toArray, List.getElem?_cons_zero, List.getElem?_cons_succ] at z0 z1 z2
    have l3 := hr3.lt
    clear hr3 hlow l1 l0
    obtain ⟨_, es', ha, hs', hn', ⟨rfl, hzz⟩ | ⟨g, S, rfl, hg, _, hsh, hpos⟩⟩ := hso
    · obtain ⟨_, hfit, hag⟩ := settle_yes HV.out ha hs' (by rw [HL.out]; exact hzz)
      have HA := Lib.hid (show agrL hs ms = true ∧ fitsL hs ms (stOf hs es') (enOf hs es') (maOf hs es') = true from ⟨hag, hfit⟩)
      have HCo := Lib.hid (course_any p (p + 1) A' c' es' (n + 1) n w3 hn' hs' rfl (by rw [alike_len ha, edges_len]; have := HL.out; omega) (by have := HV.out.lenH; have := HL.out; omega))
      clear ha hs' hn' hzz hfit hag HS
      go_wp2_with fail
      refine HCo.out.mono ?_
      rintro e w4 ⟨v, rfl, hco, hb4⟩
      have hsz3 := HLo.out.size
      have HCo4 := Lib.hid hco
      obtain ⟨A1, n1, c1, A2, n2, c2, A3, n3, c3, rfl, _⟩ := hco
      have hr4 := HR3.out.below hb4
      have HR4 := Lib.hid hr4
      have HB4 := Lib.hid (HLo.out.trans (hb4.mono HLo.out.size))
      have z0 := hr4.cell 0
      have z1 := hr4.cell 1
      have z2 := hr4.cell 2
      have f0 := hr4.frozen 0
      have f1 := hr4.frozen 1
      have f2 := hr4.frozen 2
      simp only [List.getElem?_toArray, List.getElem?_cons_zero, List.getElem?_cons_succ] at z0 z1 z2
      have l4 := hr4.lt
      clear hr4 hb4 HCo
      go_wp2
      have hf := blk_set3 HR4.out (.slice A1 n1 c1) (.slice A2 n2 c2) (.slice A3 n3 c3)
      have x0 := hf.cell 0
      have x1 := hf.cell 1
      have x2 := hf.cell 2
      simp only [List.getElem?_toArray, List.getElem?_cons_zero, List.getElem?_cons_succ] at x0 x1 x2
      refine bodyPost_ret (v := .tuple #[vCo A1 n1 c1 A2 n2 c2 A3 n3 c3, .int .i64 0]) (by simp [results, Tryz.results35, go_sem, x0, x1, x2]) rfl ⟨below_set3 HB4.out (by omega) _ _ _, .inr (.inr ⟨HTc.out, HA.out.1, _, _, _, _, rfl, ?_, HA.out.2⟩)⟩
      have := HCo4.out.grown (grown_set3 w4 (w.heap.size + 1) (.slice A1 n1 c1) (.slice A2 n2 c2) (.slice A3 n3 c3)) (fun g hg => by have e2 : w.heap.size + 1 = g := Option.some.inj hg; omega)
      unfold stOf enOf maOf
      have hln : hs.length = n := HL.out
      rw [hln]
      exact this.weak (by omega)
    · have hag := (settle_no HV.out ha hsh (by rw [HL.out]; exact hpos)).2
      have HA := Lib.hid hag
      clear ha hs' hn' hsh hpos hag hg HS
      go_wp2
      have hf := blk_set3 HR3.out (.slice none 0 0) (.slice none 0 0) (.slice none 0 0)
      have x0 := hf.cell 0
      have x1 := hf.cell 1
      have x2 := hf.cell 2
      simp only [List.getElem?_toArray, List.getElem?_cons_zero, List.getElem?_cons_succ] at x0 x1 x2
      exact bodyPost_ret (v := .tuple #[vCo0, .int .i64 9]) (by simp [results, Tryz.results35, go_sem, x0, x1, x2]) rfl ⟨below_set3 HLo.out (by omega) _ _ _, .inr (.inl ⟨HTc.out, HA.out, rfl⟩)⟩

abbrev vCu0 : Value := .agg #[.int .i64 0, .slice none 0 0]
def ContOut (w : World) (hs : List Hd) (ms : List Mv) (en : Ending) (w' : World) : Prop :=
  Below w.heap.size w w' ∧ ((tcheck hs ms ≠ 0 ∧ en = .returned (.tuple #[vCu0, .bool false, .int .i64 (tcheck hs ms)])) ∨ (tcheck hs ms = 0 ∧ agrL hs ms = true ∧ en = .returned (.tuple #[vCu0, .bool false, .int .i64 0])) ∨
    (tcheck hs ms = 0 ∧ agrL hs ms = false ∧ ∃ v way s, en = .returned (.tuple #[v, .bool true, .int .i64 0]) ∧ CuAt w' w.heap.size v way s ∧ showsL hs ms way s = true ∧ s.length ≤ 9))
theorem sideL_len (hs : List Hd) (S : Nat → Bool) (b : Bool) : (sideL hs S b).length ≤ hs.length := by rw [← sideT_all]; exact sideT_len _ _ _ _
set_option maxHeartbeats 3200000 in
theorem Contradiction_any (t : TR) (w : World) (h : t.Ok w) : Calls Tryz.prog 57 #[t.v] w (ContOut w t.hs t.ms) := by
  have hb0 := ((Below.refl w.heap.size w).alloc (Nat.le_refl _) (.cells #[.slice t.A t.n t.c, .slice t.B t.m t.d] 25)).alloc (by simp) (.cells #[.int .i64 0, .slice none 0 0] 93)
  have HCk := Lib.hid (Check_any t _ (h.below hb0))
  obtain ⟨A, n, c, B, m, d, hs, ms⟩ := t
  dsimp only [TR.v] at *
  have r0 := (Blk.at_new (W := w.alloc (.cells #[.slice A n c, .slice B m d] 25)) (g := w.heap.size + 1) 93 #[.int .i64 0, .slice none 0 0] (by simp))
  have t0 := ((Blk.new w 25 #[.slice A n c, .slice B m d]).alloc (.cells #[.int .i64 0, .slice none 0 0] 93))
  have HOk := Lib.hid h
  clear h
  generalize hck : tcheck hs ms = ck at *
  have HTc := Lib.hid hck
  clear hck
  go_enter Tryz.func57, Tryz.ntmps57
  generalize hW : (w.alloc (.cells #[.slice A n c, .slice B m d] 25)).alloc (.cells #[.int .i64 0, .slice none 0 0] 93) = W at *
  have HWE := Lib.hid hW
  clear hW
  go_wp2_with fail
  rw [HWE.out]
  refine HCk.out.mono ?_; rintro e w1 ⟨rfl, hb1⟩
  have b1 := hb0.trans (hb1.mono hb0.size)
  have t1 := t0.below hb1
  have r1 := r0.below hb1
  have HT1 := Lib.hid t1
  have HR1 := Lib.hid r1
  have HB1 := Lib.hid b1
  clear HCk hb0 hb1 t0 r0 HWE
  have y0 := t1.cell 0
  have y1 := t1.cell 1
  have z0 := r1.cell 0
  have z1 := r1.cell 1
  have f0 := r1.frozen 0
  have f1 := r1.frozen 1
  simp only [List.getElem?_toArray, List.getElem?_cons_zero, List.getElem?_cons_succ] at y0 y1 z0 z1
  have l0 := t1.lt
  have l1 := r1.lt
  clear t1 r1 b1
  by_cases hz : ck = 0
  case neg =>
    have hz1 : (ck != 0) = true := by simpa using hz
    go_wp2
    have hf := blk_set2 HR1.out (.int .i64 0) (.slice none 0 0)
    have x0 := hf.cell 0
    have x1 := hf.cell 1
    simp only [List.getElem?_toArray, List.getElem?_cons_zero, List.getElem?_cons_succ] at x0 x1
    exact bodyPost_ret (v := .tuple #[vCu0, .bool false, .int .i64 ck]) (by simp [results, Tryz.results57, go_sem, x0, x1]) rfl ⟨below_set2 HB1.out (by omega) _ _, .inl ⟨by rw [HTc.out]; exact hz, by rw [HTc.out]⟩⟩
  case pos =>
    subst hz
    have hv := tcheck_zero.1 HTc.out
    have HV := Lib.hid hv
    have HC := Lib.hid (of_any A n c B m d hs ms w1 (HOk.out.h.below HB1.out) (HOk.out.m.below HB1.out) hv)
    have HL := Lib.hid HOk.out.h.len
    clear hv
    go_wp2_with (go_at_call 81; refine HC.out.mono ?_; rintro e w2 ⟨p, A', c', rfl, hp, hn, hb2⟩)
    have HB2 := Lib.hid (HB1.out.trans (hb2.mono HB1.out.size))
    have HR2 := Lib.hid (HR1.out.below hb2)
    have HT2 := Lib.hid (HT1.out.below hb2)
    have HS := Lib.hid (settle_any p (p + 1) A' c' (edges hs ms) (n + 1) w2 hn (small_edges HV.out) (by rw [← HL.out]; exact edges_in HV.out) (by have := HV.out.lenH; have := HL.out; omega))
    have HN := Lib.hid hn
    have hw12 := HB1.out.size
    have hpw : w1.heap.size ≤ p := hp
    clear HC hb2 hn f0 f1 y0 y1 z0 z1
    go_wp2_with fail
    refine HS.out.mono ?_
    rintro e w3 hso
    have hlow := hso.low HN.out HB2.out (by omega)
    have hr3 := HR2.out.grown hso.1 (fun e => by have := (own_lt HN.out.row e).1; omega)
    have ht3 := HT2.out.grown hso.1 (fun e => by have := (own_lt HN.out.row e).1; omega)
    have HR3 := Lib.hid hr3
    have HLo := Lib.hid hlow
    have y0 := ht3.cell 0
    have y1 := ht3.cell 1
    have z0 := hr3.cell 0
    have z1 := hr3.cell 1
    have f0 := hr3.frozen 0
    have f1 := hr3.frozen 1
    simp only [List.getElem?_toArray, List.getElem?_cons_zero, List.getElem?_cons_succ] at z0 z1 y0 y1
    have l3 := hr3.lt
    have l2 := ht3.lt
    clear hr3 hlow l1 l0 ht3
    obtain ⟨_, es', ha, hs', hn', ⟨rfl, hzz⟩ | ⟨g, S, rfl, hg, _, hsh, hpos⟩⟩ := hso
    · obtain ⟨_, _, hag⟩ := settle_yes HV.out ha hs' (by rw [HL.out]; exact hzz)
      have HA := Lib.hid hag
      clear ha hs' hn' hzz hag HS
      go_wp2
      have hf := blk_set2 HR3.out (.int .i64 0) (.slice none 0 0)
      have x0 := hf.cell 0
      have x1 := hf.cell 1
      simp only [List.getElem?_toArray, List.getElem?_cons_zero, List.getElem?_cons_succ] at x0 x1
      exact bodyPost_ret (v := .tuple #[vCu0, .bool false, .int .i64 0]) (by simp [results, Tryz.results57, go_sem, x0, x1]) rfl ⟨below_set2 HLo.out (by omega) _ _, .inr (.inl ⟨HTc.out, HA.out, rfl⟩)⟩
    · obtain ⟨hsw, hag⟩ := settle_no HV.out ha hsh (by rw [HL.out]; exact hpos)
      have HA := Lib.hid (show showsL hs ms (if S hs.length = true then 1 else 2) (sortI (sideL hs S (!(S hs.length)))) = true ∧ agrL hs ms = false from ⟨hsw, hag⟩)
      have hln : hs.length = n := HL.out
      have hn9 : n ≤ 9 := by rw [← hln]; exact HV.out.lenH
      have HCu := Lib.hid (cut_any A n c B m d hs g (n + 1) S w3 (HOk.out.h.below HLo.out) hn9 rfl hg)
      have HLn := Lib.hid hln
      clear ha hs' hn' hsh hpos hag hg HS hsw hln
      go_wp2_with fail
      refine HCu.out.mono ?_
      rintro e w4 ⟨v, rfl, hcu, hb4⟩
      have hsz3 := HLo.out.size
      have HCu4 := Lib.hid hcu
      obtain ⟨A1, n1, c1, rfl, _⟩ := hcu
      have hr4 := HR3.out.below hb4
      have HR4 := Lib.hid hr4
      have HB4 := Lib.hid (HLo.out.trans (hb4.mono HLo.out.size))
      have z0 := hr4.cell 0
      have z1 := hr4.cell 1
      have f0 := hr4.frozen 0
      have f1 := hr4.frozen 1
      simp only [List.getElem?_toArray, List.getElem?_cons_zero, List.getElem?_cons_succ] at z0 z1
      have l4 := hr4.lt
      clear hr4 hb4 HCu
      rw [← HLn.out] at HCu4
      generalize hway : (if S hs.length = true then (1 : Int) else 2) = way at *
      rw [HLn.out] at hway
      rw [hway]
      clear hway
      go_wp2
      have hf := blk_set2 HR4.out (.int .i64 way) (.slice A1 n1 c1)
      have x0 := hf.cell 0
      have x1 := hf.cell 1
      simp only [List.getElem?_toArray, List.getElem?_cons_zero, List.getElem?_cons_succ] at x0 x1
      refine bodyPost_ret (v := .tuple #[.agg #[.int .i64 way, .slice A1 n1 c1], .bool true, .int .i64 0]) (by simp [results, Tryz.results57, go_sem, x0, x1]) rfl ⟨below_set2 HB4.out (by omega) _ _, .inr (.inr ⟨HTc.out, HA.out.2, _, _, _, rfl, ?_, HA.out.1, by rw [sortI_len]; have := sideL_len hs S (!(S hs.length)); have := HV.out.lenH; omega⟩)⟩
      have := HCu4.out.grown (grown_set2 w4 (w.heap.size + 1) (.int .i64 way) (.slice A1 n1 c1)) (fun g hg => by have e2 : w.heap.size + 1 = g := Option.some.inj hg; omega)
      exact this.weak (by omega)
end Go.Proofs.YtighfmgkoepfkaaGreat
