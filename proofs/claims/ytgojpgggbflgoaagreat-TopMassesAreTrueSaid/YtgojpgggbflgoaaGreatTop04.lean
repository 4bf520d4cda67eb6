/- The index of the first thing of a list of which a function says so; find. -/
import Derived.Test.YtgojpgggbflgoaaGreatTop02
namespace Go.Proofs.YtgojpgggbflgoaaGreat
open Go.RowKit

/-- The first index; -1 if there is none. -/
def idx {α : Type} (p : α → Bool) (l : List α) : Int := if l.findIdx p < l.length then (l.findIdx p : Int) else -1
theorem idx_at {α : Type} {p : α → Bool} {l : List α} {k : Nat} (h : k < l.length) (hk : p l[k] = true) (hb : ∀ i (q : i < l.length), i < k → p l[i] = false) : idx p l = k := by
  have : l.findIdx p = k := (List.findIdx_eq h).2 ⟨hk, fun j hj => hb j (by omega) hj⟩
  unfold idx
  rw [this, if_pos h]
theorem idx_none {α : Type} {p : α → Bool} {l : List α} (hb : ∀ i (q : i < l.length), p l[i] = false) : idx p l = -1 := by
  have : l.findIdx p = l.length := List.findIdx_eq_length.2 fun x hx => by
    obtain ⟨i, q, rfl⟩ := List.getElem_of_mem hx
    exact hb i q
  unfold idx
  rw [this, if_neg (Nat.lt_irrefl _)]
theorem idx_lt {α : Type} {p : α → Bool} {l : List α} (h : ¬ idx p l < 0) : ∃ k, ∃ q : k < l.length, idx p l = k ∧ p l[k] = true ∧ ∀ i (r : i < l.length), i < k → p l[i] = false := by
  unfold idx at h ⊢
  by_cases c : l.findIdx p < l.length
  · rw [if_pos c]
    exact ⟨_, c, rfl, List.findIdx_getElem, fun i r hi => by simpa using List.not_of_lt_findIdx hi⟩
  · rw [if_neg c] at h; exact absurd (by decide) h
theorem idx_neg {α : Type} {p : α → Bool} {l : List α} : idx p l < 0 ↔ ∀ x ∈ l, p x = false := by
  constructor
  · intro h x hx
    cases e : p x with
    | false => rfl
    | true =>
      have := List.findIdx_lt_length_of_exists ⟨x, hx, e⟩
      unfold idx at h
      rw [if_pos this] at h
      omega
  · intro h
    rw [idx_none fun i q => h _ (List.getElem_mem q)]
    decide
/-- A hydrometer. -/
structure Hy where
  id : Int
  lo : Int
  hi : Int
deriving Inhabited
def encY (h : Hy) : List Value := [.int .i64 h.id, .int .i64 h.lo, .int .i64 h.hi]
theorem encY_len (h : Hy) : (encY h).length = 3 := rfl
abbrev vHy (h : Hy) : Value := .agg #[.int .i64 h.id, .int .i64 h.lo, .int .i64 h.hi]
theorem Hys.at_ {w : World} {b off : Nat} {l : List Hy} (h : Ls encY 3 w b off l) {i : Nat} {x : Hy} (hi : l[i]? = some x) :
    w.cell? ⟨b, off + i * 3, none⟩ = some (.int .i64 x.id) ∧ w.cell? ⟨b, off + i * 3 + 1, none⟩ = some (.int .i64 x.lo) ∧ w.cell? ⟨b, off + i * 3 + 2, none⟩ = some (.int .i64 x.hi) :=
  ⟨h.c i x hi 0 _ rfl, h.c i x hi 1 _ rfl, h.c i x hi 2 _ rfl⟩
/-- A reading of a glass. -/
structure Gs where
  id : Int
  hy : Int
  dense : Int
  lo : Int
  hi : Int
deriving Inhabited
def encG (h : Gs) : List Value := [.int .i64 h.id, .int .i64 h.hy, .int .i64 h.dense, .int .i64 h.lo, .int .i64 h.hi]
theorem encG_len (h : Gs) : (encG h).length = 5 := rfl
abbrev vGs (h : Gs) : Value := .agg #[.int .i64 h.id, .int .i64 h.hy, .int .i64 h.dense, .int .i64 h.lo, .int .i64 h.hi]
theorem Gss.at_ {w : World} {b off : Nat} {l : List Gs} (h : Ls encG 5 w b off l) {i : Nat} {x : Gs} (hi : l[i]? = some x) :
    w.cell? ⟨b, off + i * 5, none⟩ = some (.int .i64 x.id) ∧ w.cell? ⟨b, off + i * 5 + 1, none⟩ = some (.int .i64 x.hy) ∧ w.cell? ⟨b, off + i * 5 + 2, none⟩ = some (.int .i64 x.dense) ∧ w.cell? ⟨b, off + i * 5 + 3, none⟩ = some (.int .i64 x.lo) ∧ w.cell? ⟨b, off + i * 5 + 4, none⟩ = some (.int .i64 x.hi) :=
  ⟨h.c i x hi 0 _ rfl, h.c i x hi 1 _ rfl, h.c i x hi 2 _ rfl, h.c i x hi 3 _ rfl, h.c i x hi 4 _ rfl⟩
/-- A survey: the marks are twelve numbers. -/
structure Sv where
  id : Int
  tick : Int
  a0 : Int
  b0 : Int
  a1 : Int
  b1 : Int
  a2 : Int
  b2 : Int
  a3 : Int
  b3 : Int
  a4 : Int
  b4 : Int
  a5 : Int
  b5 : Int
  sag : Int
  hy : Int
  lo : Int
  hi : Int
deriving Inhabited
def encV (x : Sv) : List Value := [.int .i64 x.id, .int .i64 x.tick, .int .i64 x.a0, .int .i64 x.b0, .int .i64 x.a1, .int .i64 x.b1, .int .i64 x.a2, .int .i64 x.b2, .int .i64 x.a3, .int .i64 x.b3, .int .i64 x.a4, .int .i64 x.b4, .int .i64 x.a5, .int .i64 x.b5, .int .i64 x.sag, .int .i64 x.hy, .int .i64 x.lo, .int .i64 x.hi]
theorem encV_len (x : Sv) : (encV x).length = 18 := rfl
abbrev vSv (x : Sv) : Value := .agg #[.int .i64 x.id, .int .i64 x.tick, .int .i64 x.a0, .int .i64 x.b0, .int .i64 x.a1, .int .i64 x.b1, .int .i64 x.a2, .int .i64 x.b2, .int .i64 x.a3, .int .i64 x.b3, .int .i64 x.a4, .int .i64 x.b4, .int .i64 x.a5, .int .i64 x.b5, .int .i64 x.sag, .int .i64 x.hy, .int .i64 x.lo, .int .i64 x.hi]
theorem Svs.at_ {w : World} {b off : Nat} {l : List Sv} (h : Ls encV 18 w b off l) {i : Nat} {x : Sv} (hi : l[i]? = some x) :
    w.cell? ⟨b, off + i * 18, none⟩ = some (.int .i64 x.id) ∧ w.cell? ⟨b, off + i * 18 + 1, none⟩ = some (.int .i64 x.tick) ∧ w.cell? ⟨b, off + i * 18 + 2, none⟩ = some (.int .i64 x.a0) ∧ w.cell? ⟨b, off + i * 18 + 3, none⟩ = some (.int .i64 x.b0) ∧ w.cell? ⟨b, off + i * 18 + 4, none⟩ = some (.int .i64 x.a1) ∧ w.cell? ⟨b, off + i * 18 + 5, none⟩ = some (.int .i64 x.b1) ∧ w.cell? ⟨b, off + i * 18 + 6, none⟩ = some (.int .i64 x.a2) ∧ w.cell? ⟨b, off + i * 18 + 7, none⟩ = some (.int .i64 x.b2) ∧ w.cell? ⟨b, off + i * 18 + 8, none⟩ = some (.int .i64 x.a3) ∧ w.cell? ⟨b, off + i * 18 + 9, none⟩ = some (.int .i64 x.b3) ∧ w.cell? ⟨b, off + i * 18 + 10, none⟩ = some (.int .i64 x.a4) ∧ w.cell? ⟨b, off + i * 18 + 11, none⟩ = some (.int .i64 x.b4) ∧ w.cell? ⟨b, off + i * 18 + 12, none⟩ = some (.int .i64 x.a5) ∧ w.cell? ⟨b, off + i * 18 + 13, none⟩ = some (.int .i64 x.b5) ∧ w.cell? ⟨b, off + i * 18 + 14, none⟩ = some (.int .i64 x.sag) ∧ w.cell? ⟨b, off + i * 18 + 15, none⟩ = some (.int .i64 x.hy) ∧ w.cell? ⟨b, off + i * 18 + 16, none⟩ = some (.int .i64 x.lo) ∧ w.cell? ⟨b, off + i * 18 + 17, none⟩ = some (.int .i64 x.hi) :=
  ⟨h.c i x hi 0 _ rfl, h.c i x hi 1 _ rfl, h.c i x hi 2 _ rfl, h.c i x hi 3 _ rfl, h.c i x hi 4 _ rfl, h.c i x hi 5 _ rfl, h.c i x hi 6 _ rfl, h.c i x hi 7 _ rfl, h.c i x hi 8 _ rfl, h.c i x hi 9 _ rfl, h.c i x hi 10 _ rfl, h.c i x hi 11 _ rfl, h.c i x hi 12 _ rfl, h.c i x hi 13 _ rfl, h.c i x hi 14 _ rfl, h.c i x hi 15 _ rfl, h.c i x hi 16 _ rfl, h.c i x hi 17 _ rfl⟩
theorem ixL1 (x : Hl) (id : Int) (B : Nat) (w : World) (hB : B < w.heap.size) (hc : w.cell? ⟨B, 0, none⟩ = some (.int .i64 id)) :
    Calls Tryz.prog 63 #[vHl x, .pointer (some ⟨B, 0, none⟩)] w fun e w' => e = .returned (.bool (x.id == id)) ∧ Below w.heap.size w w' := by
  obtain ⟨x0, x1, x2, x3⟩ := x
  have hne : B ≠ w.heap.size := by omega
  go_enter Tryz.func63, Tryz.ntmps63
  go_wp2
  go_ret
  exact ⟨rfl, (Below.refl _ _).alloc (Nat.le_refl _) _⟩
set_option maxHeartbeats 1600000 in
theorem ixL_any (A : Option Addr) (n c : Nat) (l : List Hl) (id : Int) (B : Nat) (w : World) (h : SAt encL 4 w A n l) (hn : n ≤ 9223372036854775807) (hB : B < w.heap.size) (hc : w.cell? ⟨B, 0, none⟩ = some (.int .i64 id)) :
    Calls Tryz.prog 89 #[.slice A n c, .func (.func 63) #[] #[.pointer (some ⟨B, 0, none⟩)]] w fun e w' => e = .returned (.int .i64 (idx (fun x => x.id == id) l)) ∧ Below w.heap.size w w' := by
  have HA := Lib.hid h
  have HLen := Lib.hid h.len
  clear h
  go_enter Tryz.func89, Tryz.ntmps89
  go_wp2
  go_loopw [5, 8] (fun _ i wr => ∃ k : Nat, k ≤ n ∧ i = .int .i64 k ∧ (∀ i (q : i < l.length), i < k → ((l[i]).id == id) = false) ∧ Below w.heap.size w wr) (fun _ i _ => n - (intOf i).toNat)
  case atStart => exact ⟨0, Nat.zero_le _, rfl, fun i q h => absurd h (by omega), Below.refl _ _⟩
  case round =>
    obtain ⟨k, hk, rfl, hno, hb⟩ := hrel
    have HNo := Lib.hid hno
    clear hno
    by_cases hkn : k < n
    · obtain ⟨b, off, rfl, hl⟩ := HA.out.at_ (by omega)
      have hkl : k < l.length := by rw [HLen.out]; exact hkn
      have hl2 := hl.below hb
      obtain ⟨c0, c1, c2, c3⟩ := Hls.at_ hl2 (List.getElem?_eq_getElem hkl)
      have hlt := hl2.lt
      have hcw := (hb.cell (p := ⟨B, 0, none⟩) hB).trans hc
      have hBw := Nat.lt_of_lt_of_le hB hb.size
      have HC := Lib.hid (ixL1 l[k] id B wr hBw hcw)
      have HNk := Lib.hid (fun (e : ((l[k]).id == id) = true) => idx_at (p := fun x => x.id == id) hkl e HNo.out)
      have HNx := Lib.hid (fun (e : ((l[k]).id == id) = false) => (show ∀ i (q : i < l.length), i < k + 1 → ((l[i]).id == id) = false from fun i q hi => by
        by_cases c : i = k
        · subst c; exact e
        · exact HNo.out i q (by omega)))
      clear hl hl2
      generalize l[k] = x at *
      obtain ⟨x0, x1, x2, x3⟩ := x
      dsimp only at *
      cases hq : (x0 == id) with
      | true =>
        rw [hq] at HC
        have HQ := Lib.hid (HNk.out hq)
        clear hq
        go_wp2_with (go_at_call 63; refine HC.out.mono ?_; rintro e w' ⟨rfl, hb'⟩)
        go_ret
        exact ⟨ret_int HQ.out.symm, hb.trans (hb'.mono hb.size)⟩
      | false =>
        rw [hq] at HC
        have HQ := Lib.hid (HNx.out hq)
        clear hq
        go_wp2_with (go_at_call 63; refine HC.out.mono ?_; rintro e w' ⟨rfl, hb'⟩)
        go_roundw
        case rel => exact ⟨k + 1, by omega, by go_num, HQ.out, hb.trans (hb'.mono hb.size)⟩
        case measure => simp [intOf]; omega
    · have HP := Lib.hid (idx_none (p := fun x => x.id == id) (l := l) fun i q => HNo.out i q (by have := HLen.out; omega))
      go_wp2
      go_ret
      exact ⟨ret_int HP.out.symm, hb⟩
theorem ixY11 (x : Hy) (id : Int) (B : Nat) (w : World) (hB : B < w.heap.size) (hc : w.cell? ⟨B, 0, none⟩ = some (.int .i64 id)) :
    Calls Tryz.prog 39 #[vHy x, .pointer (some ⟨B, 0, none⟩)] w fun e w' => e = .returned (.bool (x.id == id)) ∧ Below w.heap.size w w' := by
  obtain ⟨x0, x1, x2⟩ := x
  have hne : B ≠ w.heap.size := by omega
  go_enter Tryz.func39, Tryz.ntmps39
  go_wp2
  go_ret
  exact ⟨rfl, (Below.refl _ _).alloc (Nat.le_refl _) _⟩
set_option maxHeartbeats 1600000 in
theorem ixY1_any (A : Option Addr) (n c : Nat) (l : List Hy) (id : Int) (B : Nat) (w : World) (h : SAt encY 3 w A n l) (hn : n ≤ 9223372036854775807) (hB : B < w.heap.size) (hc : w.cell? ⟨B, 0, none⟩ = some (.int .i64 id)) :
    Calls Tryz.prog 69 #[.slice A n c, .func (.func 39) #[] #[.pointer (some ⟨B, 0, none⟩)]] w fun e w' => e = .returned (.int .i64 (idx (fun x => x.id == id) l)) ∧ Below w.heap.size w w' := by
  have HA := Lib.hid h
  have HLen := Lib.hid h.len
  clear h
  go_enter Tryz.func69, Tryz.ntmps69
  go_wp2
  go_loopw [5, 8] (fun _ i wr => ∃ k : Nat, k ≤ n ∧ i = .int .i64 k ∧ (∀ i (q : i < l.length), i < k → ((l[i]).id == id) = false) ∧ Below w.heap.size w wr) (fun _ i _ => n - (intOf i).toNat)
  case atStart => exact ⟨0, Nat.zero_le _, rfl, fun i q h => absurd h (by omega), Below.refl _ _⟩
  case round =>
    obtain ⟨k, hk, rfl, hno, hb⟩ := hrel
    have HNo := Lib.hid hno
    clear hno
    by_cases hkn : k < n
    · obtain ⟨b, off, rfl, hl⟩ := HA.out.at_ (by omega)
      have hkl : k < l.length := by rw [HLen.out]; exact hkn
      have hl2 := hl.below hb
      obtain ⟨c0, c1, c2⟩ := Hys.at_ hl2 (List.getElem?_eq_getElem hkl)
      have hlt := hl2.lt
      have hcw := (hb.cell (p := ⟨B, 0, none⟩) hB).trans hc
      have hBw := Nat.lt_of_lt_of_le hB hb.size
      have HC := Lib.hid (ixY11 l[k] id B wr hBw hcw)
      have HNk := Lib.hid (fun (e : ((l[k]).id == id) = true) => idx_at (p := fun x => x.id == id) hkl e HNo.out)
      have HNx := Lib.hid (fun (e : ((l[k]).id == id) = false) => (show ∀ i (q : i < l.length), i < k + 1 → ((l[i]).id == id) = false from fun i q hi => by
        by_cases c : i = k
        · subst c; exact e
        · exact HNo.out i q (by omega)))
      clear hl hl2
      generalize l[k] = x at *
      obtain ⟨x0, x1, x2⟩ := x
      dsimp only at *
      cases hq : (x0 == id) with
      | true =>
        rw [hq] at HC
        have HQ := Lib.hid (HNk.out hq)
        clear hq
        go_wp2_with (go_at_call 39; refine HC.out.mono ?_; rintro e w' ⟨rfl, hb'⟩)
        go_ret
        exact ⟨ret_int HQ.out.symm, hb.trans (hb'.mono hb.size)⟩
      | false =>
        rw [hq] at HC
        have HQ := Lib.hid (HNx.out hq)
        clear hq
        go_wp2_with (go_at_call 39; refine HC.out.mono ?_; rintro e w' ⟨rfl, hb'⟩)
        go_roundw
        case rel => exact ⟨k + 1, by omega, by go_num, HQ.out, hb.trans (hb'.mono hb.size)⟩
        case measure => simp [intOf]; omega
    · have HP := Lib.hid (idx_none (p := fun x => x.id == id) (l := l) fun i q => HNo.out i q (by have := HLen.out; omega))
      go_wp2
      go_ret
      exact ⟨ret_int HP.out.symm, hb⟩
theorem ixY21 (x : Hy) (id : Int) (B : Nat) (w : World) (hB : B < w.heap.size) (hc : w.cell? ⟨B, 1, none⟩ = some (.int .i64 id)) :
    Calls Tryz.prog 40 #[vHy x, .pointer (some ⟨B, 0, none⟩)] w fun e w' => e = .returned (.bool (x.id == id)) ∧ Below w.heap.size w w' := by
  obtain ⟨x0, x1, x2⟩ := x
  have hne : B ≠ w.heap.size := by omega
  go_enter Tryz.func40, Tryz.ntmps40
  go_wp2
  go_ret
  exact ⟨rfl, (Below.refl _ _).alloc (Nat.le_refl _) _⟩
set_option maxHeartbeats 1600000 in
theorem ixY2_any (A : Option Addr) (n c : Nat) (l : List Hy) (id : Int) (B : Nat) (w : World) (h : SAt encY 3 w A n l) (hn : n ≤ 9223372036854775807) (hB : B < w.heap.size) (hc : w.cell? ⟨B, 1, none⟩ = some (.int .i64 id)) :
    Calls Tryz.prog 69 #[.slice A n c, .func (.func 40) #[] #[.pointer (some ⟨B, 0, none⟩)]] w fun e w' => e = .returned (.int .i64 (idx (fun x => x.id == id) l)) ∧ Below w.heap.size w w' := by
  have HA := Lib.hid h
  have HLen := Lib.hid h.len
  clear h
  go_enter Tryz.func69, Tryz.ntmps69
  go_wp2
  go_loopw [5, 8] (fun _ i wr => ∃ k : Nat, k ≤ n ∧ i = .int .i64 k ∧ (∀ i (q : i < l.length), i < k → ((l[i]).id == id) = false) ∧ Below w.heap.size w wr) (fun _ i _ => n - (intOf i).toNat)
  case atStart => exact ⟨0, Nat.zero_le _, rfl, fun i q h => absurd h (by omega), Below.refl _ _⟩
  case round =>
    obtain ⟨k, hk, rfl, hno, hb⟩ := hrel
    have HNo := Lib.hid hno
    clear hno
    by_cases hkn : k < n
    · obtain ⟨b, off, rfl, hl⟩ := HA.out.at_ (by omega)
      have hkl : k < l.length := by rw [HLen.out]; exact hkn
      have hl2 := hl.below hb
      obtain ⟨c0, c1, c2⟩ := Hys.at_ hl2 (List.getElem?_eq_getElem hkl)
      have hlt := hl2.lt
      have hcw := (hb.cell (p := ⟨B, 1, none⟩) hB).trans hc
      have hBw := Nat.lt_of_lt_of_le hB hb.size
      have HC := Lib.hid (ixY21 l[k] id B wr hBw hcw)
      have HNk := Lib.hid (fun (e : ((l[k]).id == id) = true) => idx_at (p := fun x => x.id == id) hkl e HNo.out)
      have HNx := Lib.hid (fun (e : ((l[k]).id == id) = false) => (show ∀ i (q : i < l.length), i < k + 1 → ((l[i]).id == id) = false from fun i q hi => by
        by_cases c : i = k
        · subst c; exact e
        · exact HNo.out i q (by omega)))
      clear hl hl2
      generalize l[k] = x at *
      obtain ⟨x0, x1, x2⟩ := x
      dsimp only at *
      cases hq : (x0 == id) with
      | true =>
        rw [hq] at HC
        have HQ := Lib.hid (HNk.out hq)
        clear hq
        go_wp2_with (go_at_call 40; refine HC.out.mono ?_; rintro e w' ⟨rfl, hb'⟩)
        go_ret
        exact ⟨ret_int HQ.out.symm, hb.trans (hb'.mono hb.size)⟩
      | false =>
        rw [hq] at HC
        have HQ := Lib.hid (HNx.out hq)
        clear hq
        go_wp2_with (go_at_call 40; refine HC.out.mono ?_; rintro e w' ⟨rfl, hb'⟩)
        go_roundw
        case rel => exact ⟨k + 1, by omega, by go_num, HQ.out, hb.trans (hb'.mono hb.size)⟩
        case measure => simp [intOf]; omega
    · have HP := Lib.hid (idx_none (p := fun x => x.id == id) (l := l) fun i q => HNo.out i q (by have := HLen.out; omega))
      go_wp2
      go_ret
      exact ⟨ret_int HP.out.symm, hb⟩
theorem ixY31 (x : Hy) (id : Int) (B : Nat) (w : World) (hB : B < w.heap.size) (hc : w.cell? ⟨B, 0, none⟩ = some (.int .i64 id)) :
    Calls Tryz.prog 113 #[vHy x, .pointer (some ⟨B, 0, none⟩)] w fun e w' => e = .returned (.bool (x.id == id)) ∧ Below w.heap.size w w' := by
  obtain ⟨x0, x1, x2⟩ := x
  have hne : B ≠ w.heap.size := by omega
  go_enter Tryz.func113, Tryz.ntmps113
  go_wp2
  go_ret
  exact ⟨rfl, (Below.refl _ _).alloc (Nat.le_refl _) _⟩
set_option maxHeartbeats 1600000 in
theorem ixY3_any (A : Option Addr) (n c : Nat) (l : List Hy) (id : Int) (B : Nat) (w : World) (h : SAt encY 3 w A n l) (hn : n ≤ 9223372036854775807) (hB : B < w.heap.size) (hc : w.cell? ⟨B, 0, none⟩ = some (.int .i64 id)) :
    Calls Tryz.prog 69 #[.slice A n c, .func (.func 113) #[] #[.pointer (some ⟨B, 0, none⟩)]] w fun e w' => e = .returned (.int .i64 (idx (fun x => x.id == id) l)) ∧ Below w.heap.size w w' := by
  have HA := Lib.hid h
  have HLen := Lib.hid h.len
  clear h
  go_enter Tryz.func69, Tryz.ntmps69
  go_wp2
  go_loopw [5, 8] (fun _ i wr => ∃ k : Nat, k ≤ n ∧ i = .int .i64 k ∧ (∀ i (q : i < l.length), i < k → ((l[i]).id == id) = false) ∧ Below w.heap.size w wr) (fun _ i _ => n - (intOf i).toNat)
  case atStart => exact ⟨0, Nat.zero_le _, rfl, fun i q h => absurd h (by omega), Below.refl _ _⟩
  case round =>
    obtain ⟨k, hk, rfl, hno, hb⟩ := hrel
    have HNo := Lib.hid hno
    clear hno
    by_cases hkn : k < n
    · obtain ⟨b, off, rfl, hl⟩ := HA.out.at_ (by omega)
      have hkl : k < l.length := by rw [HLen.out]; exact hkn
      have hl2 := hl.below hb
      obtain ⟨c0, c1, c2⟩ := Hys.at_ hl2 (List.getElem?_eq_getElem hkl)
      have hlt := hl2.lt
      have hcw := (hb.cell (p := ⟨B, 0, none⟩) hB).trans hc
      have hBw := Nat.lt_of_lt_of_le hB hb.size
      have HC := Lib.hid (ixY31 l[k] id B wr hBw hcw)
      have HNk := Lib.hid (fun (e : ((l[k]).id == id) = true) => idx_at (p := fun x => x.id == id) hkl e HNo.out)
      have HNx := Lib.hid (fun (e : ((l[k]).id == id) = false) => (show ∀ i (q : i < l.length), i < k + 1 → ((l[i]).id == id) = false from fun i q hi => by
        by_cases c : i = k
        · subst c; exact e
        · exact HNo.out i q (by omega)))
      clear hl hl2
      generalize l[k] = x at *
      obtain ⟨x0, x1, x2⟩ := x
      dsimp only at *
      cases hq : (x0 == id) with
      | true =>
        rw [hq] at HC
        have HQ := Lib.hid (HNk.out hq)
        clear hq
        go_wp2_with (go_at_call 113; refine HC.out.mono ?_; rintro e w' ⟨rfl, hb'⟩)
        go_ret
        exact ⟨ret_int HQ.out.symm, hb.trans (hb'.mono hb.size)⟩
      | false =>
        rw [hq] at HC
        have HQ := Lib.hid (HNx.out hq)
        clear hq
        go_wp2_with (go_at_call 113; refine HC.out.mono ?_; rintro e w' ⟨rfl, hb'⟩)
        go_roundw
        case rel => exact ⟨k + 1, by omega, by go_num, HQ.out, hb.trans (hb'.mono hb.size)⟩
        case measure => simp [intOf]; omega
    · have HP := Lib.hid (idx_none (p := fun x => x.id == id) (l := l) fun i q => HNo.out i q (by have := HLen.out; omega))
      go_wp2
      go_ret
      exact ⟨ret_int HP.out.symm, hb⟩
theorem ixG1 (x : Gs) (id : Int) (B : Nat) (w : World) (hB : B < w.heap.size) (hc : w.cell? ⟨B, 0, none⟩ = some (.int .i64 id)) :
    Calls Tryz.prog 42 #[vGs x, .pointer (some ⟨B, 0, none⟩)] w fun e w' => e = .returned (.bool (x.id == id)) ∧ Below w.heap.size w w' := by
  obtain ⟨x0, x1, x2, x3, x4⟩ := x
  have hne : B ≠ w.heap.size := by omega
  go_enter Tryz.func42, Tryz.ntmps42
  go_wp2
  go_ret
  exact ⟨rfl, (Below.refl _ _).alloc (Nat.le_refl _) _⟩
set_option maxHeartbeats 1600000 in
theorem ixG_any (A : Option Addr) (n c : Nat) (l : List Gs) (id : Int) (B : Nat) (w : World) (h : SAt encG 5 w A n l) (hn : n ≤ 9223372036854775807) (hB : B < w.heap.size) (hc : w.cell? ⟨B, 0, none⟩ = some (.int .i64 id)) :
    Calls Tryz.prog 70 #[.slice A n c, .func (.func 42) #[] #[.pointer (some ⟨B, 0, none⟩)]] w fun e w' => e = .returned (.int .i64 (idx (fun x => x.id == id) l)) ∧ Below w.heap.size w w' := by
  have HA := Lib.hid h
  have HLen := Lib.hid h.len
  clear h
  go_enter Tryz.func70, Tryz.ntmps70
  go_wp2
  go_loopw [5, 8] (fun _ i wr => ∃ k : Nat, k ≤ n ∧ i = .int .i64 k ∧ (∀ i (q : i < l.length), i < k → ((l[i]).id == id) = false) ∧ Below w.heap.size w wr) (fun _ i _ => n - (intOf i).toNat)
  case atStart => exact ⟨0, Nat.zero_le _, rfl, fun i q h => absurd h (by omega), Below.refl _ _⟩
  case round =>
    obtain ⟨k, hk, rfl, hno, hb⟩ := hrel
    have HNo := Lib.hid hno
    clear hno
    by_cases hkn : k < n
    · obtain ⟨b, off, rfl, hl⟩ := HA.out.at_ (by omega)
      have hkl : k < l.length := by rw [HLen.out]; exact hkn
      have hl2 := hl.below hb
      obtain ⟨c0, c1, c2, c3, c4⟩ := Gss.at_ hl2 (List.getElem?_eq_getElem hkl)
      have hlt := hl2.lt
      have hcw := (hb.cell (p := ⟨B, 0, none⟩) hB).trans hc
      have hBw := Nat.lt_of_lt_of_le hB hb.size
      have HC := Lib.hid (ixG1 l[k] id B wr hBw hcw)
      have HNk := Lib.hid (fun (e : ((l[k]).id == id) = true) => idx_at (p := fun x => x.id == id) hkl e HNo.out)
      have HNx := Lib.hid (fun (e : ((l[k]).id == id) = false) => (show ∀ i (q : i < l.length), i < k + 1 → ((l[i]).id == id) = false from fun i q hi => by
        by_cases c : i = k
        · subst c; exact e
        · exact HNo.out i q (by omega)))
      clear hl hl2
      generalize l[k] = x at *
      obtain ⟨x0, x1, x2, x3, x4⟩ := x
      dsimp only at *
      cases hq : (x0 == id) with
      | true =>
        rw [hq] at HC
        have HQ := Lib.hid (HNk.out hq)
        clear hq
        go_wp2_with (go_at_call 42; refine HC.out.mono ?_; rintro e w' ⟨rfl, hb'⟩)
        go_ret
        exact ⟨ret_int HQ.out.symm, hb.trans (hb'.mono hb.size)⟩
      | false =>
        rw [hq] at HC
        have HQ := Lib.hid (HNx.out hq)
        clear hq
        go_wp2_with (go_at_call 42; refine HC.out.mono ?_; rintro e w' ⟨rfl, hb'⟩)
        go_roundw
        case rel => exact ⟨k + 1, by omega, by go_num, HQ.out, hb.trans (hb'.mono hb.size)⟩
        case measure => simp [intOf]; omega
    · have HP := Lib.hid (idx_none (p := fun x => x.id == id) (l := l) fun i q => HNo.out i q (by have := HLen.out; omega))
      go_wp2
      go_ret
      exact ⟨ret_int HP.out.symm, hb⟩
theorem ixV1 (x : Sv) (id : Int) (B : Nat) (w : World) (hB : B < w.heap.size) (hc : w.cell? ⟨B, 0, none⟩ = some (.int .i64 id)) :
    Calls Tryz.prog 50 #[vSv x, .pointer (some ⟨B, 0, none⟩)] w fun e w' => e = .returned (.bool (x.id == id)) ∧ Below w.heap.size w w' := by
  obtain ⟨x0, x1, x2, x3, x4, x5, x6, x7, x8, x9, x10, x11, x12, x13, x14, x15, x16, x17⟩ := x
  have hne : B ≠ w.heap.size := by omega
  go_enter Tryz.func50, Tryz.ntmps50
  go_wp2
  go_ret
  exact ⟨rfl, (Below.refl _ _).alloc (Nat.le_refl _) _⟩
set_option maxHeartbeats 1600000 in
theorem ixV_any (A : Option Addr) (n c : Nat) (l : List Sv) (id : Int) (B : Nat) (w : World) (h : SAt encV 18 w A n l) (hn : n ≤ 9223372036854775807) (hB : B < w.heap.size) (hc : w.cell? ⟨B, 0, none⟩ = some (.int .i64 id)) :
    Calls Tryz.prog 74 #[.slice A n c, .func (.func 50) #[] #[.pointer (some ⟨B, 0, none⟩)]] w fun e w' => e = .returned (.int .i64 (idx (fun x => x.id == id) l)) ∧ Below w.heap.size w w' := by
  have HA := Lib.hid h
  have HLen := Lib.hid h.len
  clear h
  go_enter Tryz.func74, Tryz.ntmps74
  go_wp2
  go_loopw [5, 8] (fun _ i wr => ∃ k : Nat, k ≤ n ∧ i = .int .i64 k ∧ (∀ i (q : i < l.length), i < k → ((l[i]).id == id) = false) ∧ Below w.heap.size w wr) (fun _ i _ => n - (intOf i).toNat)
  case atStart => exact ⟨0, Nat.zero_le _, rfl, fun i q h => absurd h (by omega), Below.refl _ _⟩
  case round =>
    obtain ⟨k, hk, rfl, hno, hb⟩ := hrel
    have HNo := Lib.hid hno
    clear hno
    by_cases hkn : k < n
    · obtain ⟨b, off, rfl, hl⟩ := HA.out.at_ (by omega)
      have hkl : k < l.length := by rw [HLen.out]; exact hkn
      have hl2 := hl.below hb
      obtain ⟨c0, c1, c2, c3, c4, c5, c6, c7, c8, c9, c10, c11, c12, c13, c14, c15, c16, c17⟩ := Svs.at_ hl2 (List.getElem?_eq_getElem hkl)
      have hlt := hl2.lt
      have hcw := (hb.cell (p := ⟨B, 0, none⟩) hB).trans hc
      have hBw := Nat.lt_of_lt_of_le hB hb.size
      have HC := Lib.hid (ixV1 l[k] id B wr hBw hcw)
      have HNk := Lib.hid (fun (e : ((l[k]).id == id) = true) => idx_at (p := fun x => x.id == id) hkl e HNo.out)
      have HNx := Lib.hid (fun (e : ((l[k]).id == id) = false) => (show ∀ i (q : i < l.length), i < k + 1 → ((l[i]).id == id) = false from fun i q hi => by
        by_cases c : i = k
        · subst c; exact e
        · exact HNo.out i q (by omega)))
      clear hl hl2
      generalize l[k] = x at *
      obtain ⟨x0, x1, x2, x3, x4, x5, x6, x7, x8, x9, x10, x11, x12, x13, x14, x15, x16, x17⟩ := x
      dsimp only at *
      cases hq : (x0 == id) with
      | true =>
        rw [hq] at HC
        have HQ := Lib.hid (HNk.out hq)
        clear hq
        go_wp2_with (go_at_call 50; refine HC.out.mono ?_; rintro e w' ⟨rfl, hb'⟩)
        go_ret
        exact ⟨ret_int HQ.out.symm, hb.trans (hb'.mono hb.size)⟩
      | false =>
        rw [hq] at HC
        have HQ := Lib.hid (HNx.out hq)
        clear hq
        go_wp2_with (go_at_call 50; refine HC.out.mono ?_; rintro e w' ⟨rfl, hb'⟩)
        go_roundw
        case rel => exact ⟨k + 1, by omega, by go_num, HQ.out, hb.trans (hb'.mono hb.size)⟩
        case measure => simp [intOf]; omega
    · have HP := Lib.hid (idx_none (p := fun x => x.id == id) (l := l) fun i q => HNo.out i q (by have := HLen.out; omega))
      go_wp2
      go_ret
      exact ⟨ret_int HP.out.symm, hb⟩
end Go.Proofs.YtgojpgggbflgoaaGreat
