/- Check of the program. -/
import Derived.Deep.DeepCutAuto
import Derived.Test.YtighfmgkoepfkaaGreatMA
import Derived.Test.YtighfmgkoepfkaaGreatMP
import Derived.Test.YtighfmgkoepfkaaGreatProg
namespace Go.Proofs.YtighfmgkoepfkaaGreat
open Go.RowKit

theorem within_any (n lo hi : Int) (w : World) :
    Calls Tryz.prog 75 #[.int .i64 n, .int .i64 lo, .int .i64 hi] w fun e w' => e = .returned (.bool (inSp n lo hi)) ∧ w = w' := by
  unfold inSp
  by_cases h1 : lo ≤ n
  · by_cases h2 : n ≤ hi
    · go_enter Tryz.func75, Tryz.ntmps75
      go_wp2
      go_ret
      exact ⟨ret_bool (by simp; omega), rfl⟩
    · go_enter Tryz.func75, Tryz.ntmps75
      go_wp2
      go_ret
      exact ⟨ret_bool (by simp; omega), rfl⟩
  · go_enter Tryz.func75, Tryz.ntmps75
    go_wp2
    go_ret
    exact ⟨ret_bool (by simp; omega), rfl⟩
abbrev vSp (lo hi : Int) : Value := .agg #[.int .i64 lo, .int .i64 hi]
theorem span_any (lo hi : Int) (w : World) :
    Calls Tryz.prog 76 #[vSp lo hi] w fun e w' => e = .returned (.bool (okSp lo hi)) ∧ Below w.heap.size w w' := by
  unfold okSp
  by_cases h1 : 0 ≤ lo
  · by_cases h2 : lo ≤ hi
    · by_cases h3 : hi ≤ 65536
      · go_enter Tryz.func76, Tryz.ntmps76
        go_wp2
        go_ret
        exact ⟨ret_bool (by simp; omega), (Below.refl _ _).alloc (Nat.le_refl _) _⟩
      · go_enter Tryz.func76, Tryz.ntmps76
        go_wp2
        go_ret
        exact ⟨ret_bool (by simp; omega), (Below.refl _ _).alloc (Nat.le_refl _) _⟩
    · go_enter Tryz.func76, Tryz.ntmps76
      go_wp2
      go_ret
      exact ⟨ret_bool (by simp; omega), (Below.refl _ _).alloc (Nat.le_refl _) _⟩
  · go_enter Tryz.func76, Tryz.ntmps76
    go_wp2
    go_ret
    exact ⟨ret_bool (by simp; omega), (Below.refl _ _).alloc (Nat.le_refl _) _⟩

/-! ### The index of a holder -/
theorem holder1_any (x : Hd) (id : Int) (B : Nat) (w : World) (hB : B < w.heap.size) (hc : w.cell? ⟨B, 0, none⟩ = some (.int .i64 id)) :
    Calls Tryz.prog 116 #[vHd x, .pointer (some ⟨B, 0, none⟩)] w fun e w' => e = .returned (.bool (x.id == id)) ∧ Below w.heap.size w w' := by
  obtain ⟨i, a, b, c, d, k⟩ := x
  have hne : B ≠ w.heap.size := by omega
  go_enter Tryz.func116, Tryz.ntmps116
  go_wp2
  go_ret
  exact ⟨rfl, (Below.refl _ _).alloc (Nat.le_refl _) _⟩
theorem posN_stop {hs : List Hd} {id : Int} {k : Nat} (h : k < hs.length) (hk : (hs[k]).id = id) (hb : ∀ i (q : i < hs.length), i < k → (hs[i]).id ≠ id) : pos hs id = k := by
  have h1 := posN_first hs id k h hk
  have h2 : posN hs id < hs.length := by omega
  have h3 := posN_at hs id h2
  have : ¬ posN hs id < k := fun c => hb _ h2 c h3
  unfold pos
  rw [if_pos h2]; omega
set_option maxHeartbeats 1600000 in
theorem indexH_any (A : Option Addr) (n c : Nat) (hs : List Hd) (id : Int) (B : Nat) (w : World) (h : SAt encH 6 w A n hs) (hn : n ≤ 9223372036854775807) (hB : B < w.heap.size) (hc : w.cell? ⟨B, 0, none⟩ = some (.int .i64 id)) :
    Calls Tryz.prog 115 #[.slice A n c, .func (.func 116) #[] #[.pointer (some ⟨B, 0, none⟩)]] w fun e w' => e = .returned (.int .i64 (pos hs id)) ∧ Below w.heap.size w w' := by
  have HA := Lib.hid h
  have HLen := Lib.hid h.len
  clear h
  go_enter Tryz.func115, Tryz.ntmps115
  go_wp2
  go_loopw [5, 8] (fun _ i wr => ∃ k : Nat, k ≤ n ∧ i = .int .i64 k ∧ (∀ i (q : i < hs.length), i < k → (hs[i]).id ≠ id) ∧ Below w.heap.size w wr) (fun _ i _ => n - (intOf i).toNat)
  case atStart => exact ⟨0, Nat.zero_le _, rfl, fun i q h => absurd h (by omega), Below.refl _ _⟩
  case round =>
    obtain ⟨k, hk, rfl, hno, hb⟩ := hrel
    have HNo := Lib.hid hno
    clear hno
    by_cases hkn : k < n
    · obtain ⟨b, off, rfl, hl⟩ := HA.out.at_ (by omega)
      have hkl : k < hs.length := by rw [HLen.out]; exact hkn
      have hl2 := hl.below hb
      obtain ⟨c0, c1, c2, c3, c4, c5⟩ := Hds.at_ hl2 (List.getElem?_eq_getElem hkl)
      have hlt := hl2.lt
      have hcw := (hb.cell (p := ⟨B, 0, none⟩) hB).trans hc
      have hBw := Nat.lt_of_lt_of_le hB hb.size
      have HX := Lib.hid (show hs[k] = hs[k] from rfl)
      have HC := Lib.hid (holder1_any hs[k] id B wr hBw hcw)
      have HNk := Lib.hid (fun (e : (hs[k]).id = id) => posN_stop hkl e HNo.out)
      have HNx := Lib.hid (fun (e : (hs[k]).id ≠ id) => (show ∀ i (q : i < hs.length), i < k + 1 → (hs[i]).id ≠ id from fun i q hi => by
        by_cases c : i = k
        · subst c; exact e
        · exact HNo.out i q (by omega)))
      clear hl hl2 HX
      generalize hs[k] = x at *
      obtain ⟨i, a, b, c, d, e⟩ := x
      dsimp only at *
      by_cases hq : i = id
      · subst hq
        go_wp2_with (go_at_call 116; refine HC.out.mono ?_; rintro e w' ⟨rfl, hb'⟩)
        go_ret
        exact ⟨ret_int (HNk.out (by trivial)).symm, hb.trans (hb'.mono hb.size)⟩
      · have hq2 : (i == id) = false := by simpa using hq
        go_wp2_with (go_at_call 116; refine HC.out.mono ?_; rintro e w' ⟨rfl, hb'⟩)
        go_roundw
        case rel => exact ⟨k + 1, by omega, by go_num, HNx.out hq, hb.trans (hb'.mono hb.size)⟩
        case measure => simp [intOf]; omega
    · have HP := Lib.hid (show pos hs id = -1 by
        have := (pos_neg (hs := hs) (id := id)).2 fun h hm e => by
          obtain ⟨i, q, rfl⟩ := List.getElem_of_mem hm
          exact HNo.out i q (by have := HLen.out; omega) e
        unfold pos at this ⊢
        split at this
        · omega
        · rename_i c; rw [if_neg c])
      go_wp2
      go_ret
      exact ⟨ret_int HP.out.symm, hb⟩
theorem holder_any (A : Option Addr) (n c : Nat) (B : Option Addr) (m d : Nat) (hs : List Hd) (id : Int) (w : World) (h : SAt encH 6 w A n hs) (hn : n ≤ 9223372036854775807) :
    Calls Tryz.prog 77 #[vT A n c B m d, .int .i64 id] w fun e w' => e = .returned (.int .i64 (pos hs id)) ∧ Below w.heap.size w w' := by
  have hb0 := ((Below.refl w.heap.size w).alloc (Nat.le_refl _) (.cells #[.slice A n c, .slice B m d] 25)).alloc (by simp) (.cells #[.int .i64 id] 3)
  have HC := Lib.hid (indexH_any A n c hs id (w.heap.size + 1) _ (h.below hb0) hn (by simp) (by simp))
  clear h
  go_enter Tryz.func77, Tryz.ntmps77
  go_wp2_with (go_at_call 115; refine HC.out.mono ?_; rintro e w' ⟨rfl, hb'⟩)
  go_ret
  exact ⟨rfl, hb0.trans (hb'.mono hb0.size)⟩
end Go.Proofs.YtighfmgkoepfkaaGreat

namespace Go.Proofs.YtighfmgkoepfkaaGreat
open Go.RowKit

/-- The index of the first movement of which p says so; -1 without one. -/
def posP (p : Mv → Bool) (ms : List Mv) : Int := if ms.findIdx p < ms.length then (ms.findIdx p : Int) else -1
theorem posP_hit {p : Mv → Bool} {ms : List Mv} {k : Nat} (h : k < ms.length) (hk : p ms[k] = true) (hb : ∀ i (q : i < ms.length), i < k → p ms[i] = false) : posP p ms = k := by
  have e : ms.findIdx p = k := by
    rw [List.findIdx_eq h]
    exact ⟨hk, fun j hj => hb j (by omega) hj⟩
  unfold posP
  rw [e, if_pos h]
theorem posP_miss {p : Mv → Bool} {ms : List Mv} (hb : ∀ i (q : i < ms.length), p ms[i] = false) : posP p ms = -1 := by
  unfold posP
  rw [if_neg]
  rw [List.findIdx_lt_length]
  rintro ⟨x, hx, hp⟩
  obtain ⟨i, q, rfl⟩ := List.getElem_of_mem hx
  rw [hb i q] at hp; cases hp
theorem posP_any {p : Mv → Bool} {ms : List Mv} : decide (0 ≤ posP p ms) = ms.any p := by
  unfold posP
  by_cases c : ms.findIdx p < ms.length
  · rw [if_pos c]
    rw [List.findIdx_lt_length] at c
    rw [List.any_eq_true.2 c]
    exact decide_eq_true (by omega)
  · rw [if_neg c]
    have : ms.any p = false := by
      rw [List.findIdx_lt_length] at c
      refine Bool.eq_false_iff.2 fun h => c (List.any_eq_true.1 h)
    rw [this]; rfl
theorem posP_id (ms : List Mv) (id : Int) : posP (fun m => m.id == id) ms = if posM ms id < ms.length then (posM ms id : Int) else -1 := by
  by_cases c : posM ms id < ms.length
  · rw [if_pos c]
    have := posM_at ms id c
    refine posP_hit c (by simpa using this) fun i q hi => ?_
    refine Bool.eq_false_iff.2 fun h => ?_
    have := posM_first ms id i q (by simpa using h)
    omega
  · rw [if_neg c]
    refine posP_miss fun i q => Bool.eq_false_iff.2 fun h => ?_
    have := posM_first ms id i q (by simpa using h)
    omega
set_option maxHeartbeats 1600000 in
theorem indexM_any (A : Option Addr) (n c : Nat) (ms : List Mv) (p : Mv → Bool) (g : Nat) (lb : Array Value) (eg : ∀ args w, (callFunc g args).run Tryz.prog w = .ok (.enter g args) w) (w : World)
    (hp : ∀ W x, Below w.heap.size w W → Calls Tryz.prog g (#[vMv x] ++ lb) W fun e w' => e = .returned (.bool (p x)) ∧ Below W.heap.size W w') (h : SAt encM 5 w A n ms) (hn : n ≤ 9223372036854775807) :
    Calls Tryz.prog 128 #[.slice A n c, .func (.func g) #[] lb] w fun e w' => e = .returned (.int .i64 (posP p ms)) ∧ Below w.heap.size w w' := by
  have HA := Lib.hid h
  have HLen := Lib.hid h.len
  have HP := Lib.hid hp
  clear h hp
  go_enter Tryz.func128, Tryz.ntmps128
  go_wp2
  go_loopw [5, 8] (fun _ i wr => ∃ k : Nat, k ≤ n ∧ i = .int .i64 k ∧ (∀ i (q : i < ms.length), i < k → p ms[i] = false) ∧ Below w.heap.size w wr) (fun _ i _ => n - (intOf i).toNat)
  case atStart => exact ⟨0, Nat.zero_le _, rfl, fun i q h => absurd h (by omega), Below.refl _ _⟩
  case round =>
    obtain ⟨k, hk, rfl, hno, hb⟩ := hrel
    have HNo := Lib.hid hno
    clear hno
    by_cases hkn : k < n
    · obtain ⟨b, off, rfl, hl⟩ := HA.out.at_ (by omega)
      have hkl : k < ms.length := by rw [HLen.out]; exact hkn
      have hl2 := hl.below hb
      obtain ⟨c0, c1, c2, c3, c4⟩ := Mvs.at_ hl2 (List.getElem?_eq_getElem hkl)
      have hlt := hl2.lt
      have HC := Lib.hid (HP.out wr ms[k] hb)
      have HNk := Lib.hid (fun (e : p ms[k] = true) => posP_hit hkl e HNo.out)
      have HNx := Lib.hid (fun (e : p ms[k] = false) => (show ∀ i (q : i < ms.length), i < k + 1 → p ms[i] = false from fun i q hi => by
        by_cases c : i = k
        · subst c; exact e
        · exact HNo.out i q (by omega)))
      clear hl hl2
      generalize ms[k] = x at *
      obtain ⟨i, a, b, c, d⟩ := x
      generalize hq : p ⟨i, a, b, c, d⟩ = pq at *
      dsimp only at *
      have HQ := Lib.hid hq
      clear hq
      cases pq with
      | true =>
        go_wp2_with (go_at_fn g; refine HC.out.mono ?_; rintro e w' ⟨rfl, hb'⟩)
        go_ret
        exact ⟨ret_int (HNk.out (by trivial)).symm, hb.trans (hb'.mono hb.size)⟩
      | false =>
        go_wp2_with (go_at_fn g; refine HC.out.mono ?_; rintro e w' ⟨rfl, hb'⟩)
        go_roundw
        case rel => exact ⟨k + 1, by omega, by go_num, HNx.out (by trivial), hb.trans (hb'.mono hb.size)⟩
        case measure => simp [intOf]; omega
    · have HPm := Lib.hid (posP_miss (p := p) (ms := ms) fun i q => HNo.out i q (by have := HLen.out; omega))
      go_wp2
      go_ret
      exact ⟨ret_int HPm.out.symm, hb⟩
theorem move1_any (x : Mv) (id : Int) (B : Nat) (w : World) (hB : B < w.heap.size) (hc : w.cell? ⟨B, 0, none⟩ = some (.int .i64 id)) :
    Calls Tryz.prog 146 #[vMv x, .pointer (some ⟨B, 0, none⟩)] w fun e w' => e = .returned (.bool (x.id == id)) ∧ Below w.heap.size w w' := by
  obtain ⟨i, a, b, c, d⟩ := x
  have hne : B ≠ w.heap.size := by omega
  go_enter Tryz.func146, Tryz.ntmps146
  go_wp2
  go_ret
  exact ⟨rfl, (Below.refl _ _).alloc (Nat.le_refl _) _⟩
theorem enter_move1 : ∀ args w, (callFunc 146 args).run Tryz.prog w = .ok (.enter 146 args) w := enters_of Tryz.func146 (by kernel_rfl) rfl
theorem move_any (A : Option Addr) (n c : Nat) (B : Option Addr) (m d : Nat) (ms : List Mv) (id : Int) (w : World) (h : SAt encM 5 w B m ms) (hn : m ≤ 9223372036854775807) :
    Calls Tryz.prog 125 #[vT A n c B m d, .int .i64 id] w fun e w' => e = .returned (.int .i64 (posP (fun m => m.id == id) ms)) ∧ Below w.heap.size w w' := by
  have hb0 := ((Below.refl w.heap.size w).alloc (Nat.le_refl _) (.cells #[.slice A n c, .slice B m d] 25)).alloc (by simp) (.cells #[.int .i64 id] 3)
  have HC := Lib.hid (indexM_any B m d ms (fun m => m.id == id) 146 #[.pointer (some ⟨w.heap.size + 1, 0, none⟩)] enter_move1 _ (fun W x hW => move1_any x id (w.heap.size + 1) W (Nat.lt_of_lt_of_le (by simp) hW.size) ((hW.cell (p := ⟨w.heap.size + 1, 0, none⟩) (by simp)).trans (by simp))) (h.below hb0) hn)
  clear h
  go_enter Tryz.func125, Tryz.ntmps125
  go_wp2_with (go_at_call 128; refine HC.out.mono ?_; rintro e w' ⟨rfl, hb'⟩)
  go_ret
  exact ⟨rfl, hb0.trans (hb'.mono hb0.size)⟩
theorem checkMove1_any (x : Mv) (id : Int) (B : Nat) (w : World) (hB : B < w.heap.size) (hc : w.cell? ⟨B, 0, none⟩ = some (.int .i64 id)) :
    Calls Tryz.prog 118 #[vMv x, .pointer (some ⟨B, 0, none⟩)] w fun e w' => e = .returned (.bool (x.id == id)) ∧ Below w.heap.size w w' := by
  obtain ⟨i, a, b, c, d⟩ := x
  have hne : B ≠ w.heap.size := by omega
  go_enter Tryz.func118, Tryz.ntmps118
  go_wp2
  go_ret
  exact ⟨rfl, (Below.refl _ _).alloc (Nat.le_refl _) _⟩
theorem enter_checkMove1 : ∀ args w, (callFunc 118 args).run Tryz.prog w = .ok (.enter 118 args) w := enters_of Tryz.func118 (by kernel_rfl) rfl
theorem containsM_any (A : Option Addr) (n c : Nat) (ms : List Mv) (id : Int) (B : Nat) (w : World) (h : SAt encM 5 w A n ms) (hn : n ≤ 9223372036854775807) (hB : B < w.heap.size) (hc : w.cell? ⟨B, 0, none⟩ = some (.int .i64 id)) :
    Calls Tryz.prog 117 #[.slice A n c, .func (.func 118) #[] #[.pointer (some ⟨B, 0, none⟩)]] w fun e w' => e = .returned (.bool (dupB ms id)) ∧ Below w.heap.size w w' := by
  have HC := Lib.hid (indexM_any A n c ms (fun m => m.id == id) 118 #[.pointer (some ⟨B, 0, none⟩)] enter_checkMove1 w (fun W x hW => checkMove1_any x id B W (Nat.lt_of_lt_of_le hB hW.size) ((hW.cell (p := ⟨B, 0, none⟩) hB).trans hc)) h hn)
  have HD := Lib.hid (posP_any (p := fun m => m.id == id) (ms := ms))
  clear h
  generalize posP (fun m => m.id == id) ms = q at *
  go_enter Tryz.func117, Tryz.ntmps117
  go_wp2_with (go_at_call 128; refine HC.out.mono ?_; rintro e w' ⟨rfl, hb'⟩)
  go_ret
  exact ⟨ret_bool HD.out, hb'⟩
end Go.Proofs.YtighfmgkoepfkaaGreat

namespace Go.Proofs.YtighfmgkoepfkaaGreat
open Go.RowKit
theorem within_b (n lo hi : Int) (w : World) :
    Calls Tryz.prog 75 #[.int .i64 n, .int .i64 lo, .int .i64 hi] w fun e w' => e = .returned (.bool (inSp n lo hi)) ∧ Below w.heap.size w w' :=
  (within_any n lo hi w).mono fun _ _ ⟨h1, h2⟩ => ⟨h1, h2 ▸ Below.refl _ _⟩
theorem mvE2_if (hs : List Hd) (pre : List Mv) (i a b lo hi : Int) : mvE2 hs pre ⟨i, a, b, lo, hi⟩ = if okId i = false ∨ okSp lo hi = false ∨ a = b then 1 else if pos hs a < 0 ∨ pos hs b < 0 then 5 else if dupB pre i = true then 6 else 0 := by
  unfold mvE2 mvE
  cases h1 : okId i <;> cases h2 : okSp lo hi <;> by_cases h3 : a = b <;> simp [h3]
  by_cases h4 : pos hs a < 0 <;> by_cases h5 : pos hs b < 0 <;> simp [h4, h5]
set_option maxHeartbeats 3200000 in
theorem checkMove_any (A : Option Addr) (n c : Nat) (B : Option Addr) (m d : Nat) (A' : Option Addr) (n' c' : Nat) (hs : List Hd) (pre : List Mv) (x : Mv) (w : World) (h : SAt encH 6 w A n hs) (hn : n ≤ 9223372036854775807) (h' : SAt encM 5 w A' n' pre) (hn' : n' ≤ 9223372036854775807) :
    Calls Tryz.prog 78 #[vT A n c B m d, .slice A' n' c', vMv x] w fun e w' => e = .returned (.int .i64 (mvE2 hs pre x)) ∧ Below w.heap.size w w' := by
  obtain ⟨i, a, b, lo, hi⟩ := x
  have HA := Lib.hid (fun W (hW : Below w.heap.size w W) => holder_any A n c B m d hs a W (h.below hW) hn)
  have HB := Lib.hid (fun W (hW : Below w.heap.size w W) => holder_any A n c B m d hs b W (h.below hW) hn)
  have HD := Lib.hid (fun W (hW : Below w.heap.size w W) B hB hc => containsM_any A' n' c' pre i B W (h'.below hW) hn' hB hc)
  have HW := Lib.hid (fun W => (show Calls Tryz.prog 75 #[.int .i64 i, .int .i64 1, .int .i64 1099511627776] W fun e w' => e = .returned (.bool (okId i)) ∧ Below W.heap.size W w' from within_b i 1 1099511627776 W))
  have HS := Lib.hid (fun W => span_any lo hi W)
  have HR := Lib.hid (mvE2_if hs pre i a b lo hi)
  clear h h' hn hn'
  generalize okId i = k1 at *
  generalize okSp lo hi = k2 at *
  generalize pos hs a = pa at *
  generalize pos hs b = pb at *
  generalize dupB pre i = kd at *
  generalize mvE2 hs pre ⟨i, a, b, lo, hi⟩ = r at *
  generalize hW : (w.alloc (.cells #[.slice A n c, .slice B m d] 25)).alloc (.cells #[.int .i64 i, .int .i64 a, .int .i64 b, .int .i64 lo, .int .i64 hi] 59) = W
  have B0 : Below w.heap.size w W := by rw [← hW]; exact (((Below.refl w.heap.size w).alloc (Nat.le_refl _) _).alloc (by simp) _)
  have t_0 : Blk W w.heap.size 25 #[.slice A n c, .slice B m d] := by rw [← hW]; exact ((Blk.at_new _ _ rfl).alloc _)
  have x_0 : Blk W (w.heap.size + 1) 59 #[.int .i64 i, .int .i64 a, .int .i64 b, .int .i64 lo, .int .i64 hi] := by rw [← hW]; exact (Blk.at_new _ _ (by simp))
  have HWE := Lib.hid hW
  clear hW
  go_enter Tryz.func78, Tryz.ntmps78
  cases k1 with
  | false =>
    have B1 := B0
    go_wp2_with fail
    rw [HWE.out]
    refine (HW.out _).mono ?_; rintro e w1 ⟨rfl, hb1⟩
    have t_1 := t_0.below hb1
    have x_1 := x_0.below hb1
    clear t_0 x_0
    have t_1c0 := t_1.cell 0
    have t_1c1 := t_1.cell 1
    simp only [List.getElem?_toArray, List.getElem?_cons_zero, List.getElem?_cons_succ] at t_1c0 t_1c1
    have t_1l := t_1.lt
    have x_1c0 := x_1.cell 0
    have x_1c1 := x_1.cell 1
    have x_1c2 := x_1.cell 2
    have x_1c3 := x_1.cell 3
    have x_1c4 := x_1.cell 4
    simp only [List.getElem?_toArray, List.getElem?_cons_zero, List.getElem?_cons_succ] at x_1c0 x_1c1 x_1c2 x_1c3 x_1c4
    have x_1l := x_1.lt
    go_wp2
    go_ret
    exact ⟨ret_int (by rw [HR.out]; simp), B1.trans (hb1.mono B1.size)⟩
  | true =>
    have B1 := B0
    go_wp2_with fail
    rw [HWE.out]
    refine (HW.out _).mono ?_; rintro e w1 ⟨rfl, hb1⟩
    have t_1 := t_0.below hb1
    have x_1 := x_0.below hb1
    clear t_0 x_0
    have t_1c0 := t_1.cell 0
    have t_1c1 := t_1.cell 1
    simp only [List.getElem?_toArray, List.getElem?_cons_zero, List.getElem?_cons_succ] at t_1c0 t_1c1
    have t_1l := t_1.lt
    have x_1c0 := x_1.cell 0
    have x_1c1 := x_1.cell 1
    have x_1c2 := x_1.cell 2
    have x_1c3 := x_1.cell 3
    have x_1c4 := x_1.cell 4
    simp only [List.getElem?_toArray, List.getElem?_cons_zero, List.getElem?_cons_succ] at x_1c0 x_1c1 x_1c2 x_1c3 x_1c4
    have x_1l := x_1.lt
    cases k2 with
    | false =>
      have B2 := B1.trans (hb1.mono B1.size)
      go_wp2_with fail
      refine (HS.out _).mono ?_; rintro e w2 ⟨rfl, hb2⟩
      clear t_1c0 t_1c1 t_1l x_1c0 x_1c1 x_1c2 x_1c3 x_1c4 x_1l
      have t_2 := t_1.below hb2
      have x_2 := x_1.below hb2
      clear t_1 x_1
      have t_2c0 := t_2.cell 0
      have t_2c1 := t_2.cell 1
      simp only [List.getElem?_toArray, List.getElem?_cons_zero, List.getElem?_cons_succ] at t_2c0 t_2c1
      have t_2l := t_2.lt
      have x_2c0 := x_2.cell 0
      have x_2c1 := x_2.cell 1
      have x_2c2 := x_2.cell 2
      have x_2c3 := x_2.cell 3
      have x_2c4 := x_2.cell 4
      simp only [List.getElem?_toArray, List.getElem?_cons_zero, List.getElem?_cons_succ] at x_2c0 x_2c1 x_2c2 x_2c3 x_2c4
      have x_2l := x_2.lt
      go_wp2
      go_ret
      exact ⟨ret_int (by rw [HR.out]; simp), B2.trans (hb2.mono B2.size)⟩
    | true =>
      have B2 := B1.trans (hb1.mono B1.size)
      go_wp2_with fail
      refine (HS.out _).mono ?_; rintro e w2 ⟨rfl, hb2⟩
      clear t_1c0 t_1c1 t_1l x_1c0 x_1c1 x_1c2 x_1c3 x_1c4 x_1l
      have t_2 := t_1.below hb2
      have x_2 := x_1.below hb2
      clear t_1 x_1
      have t_2c0 := t_2.cell 0
      have t_2c1 := t_2.cell 1
      simp only [List.getElem?_toArray, List.getElem?_cons_zero, List.getElem?_cons_succ] at t_2c0 t_2c1
      have t_2l := t_2.lt
      have x_2c0 := x_2.cell 0
      have x_2c1 := x_2.cell 1
      have x_2c2 := x_2.cell 2
      have x_2c3 := x_2.cell 3
      have x_2c4 := x_2.cell 4
      simp only [List.getElem?_toArray, List.getElem?_cons_zero, List.getElem?_cons_succ] at x_2c0 x_2c1 x_2c2 x_2c3 x_2c4
      have x_2l := x_2.lt
      by_cases hab : a = b
      case pos =>
        subst hab
        go_wp2
        go_ret
        exact ⟨ret_int (by rw [HR.out]; simp), B2.trans (hb2.mono B2.size)⟩
      have hab2 : (a == b) = false := by simpa using hab
      by_cases ha : pa < 0
      case pos =>
        have B3 := B2.trans (hb2.mono B2.size)
        go_wp2_with fail
        refine (HA.out _ B3).mono ?_; rintro e w3 ⟨rfl, hb3⟩
        clear t_2c0 t_2c1 t_2l x_2c0 x_2c1 x_2c2 x_2c3 x_2c4 x_2l
        have t_3 := t_2.below hb3
        have x_3 := x_2.below hb3
        clear t_2 x_2
        have t_3c0 := t_3.cell 0
        have t_3c1 := t_3.cell 1
        simp only [List.getElem?_toArray, List.getElem?_cons_zero, List.getElem?_cons_succ] at t_3c0 t_3c1
        have t_3l := t_3.lt
        have x_3c0 := x_3.cell 0
        have x_3c1 := x_3.cell 1
        have x_3c2 := x_3.cell 2
        have x_3c3 := x_3.cell 3
        have x_3c4 := x_3.cell 4
        simp only [List.getElem?_toArray, List.getElem?_cons_zero, List.getElem?_cons_succ] at x_3c0 x_3c1 x_3c2 x_3c3 x_3c4
        have x_3l := x_3.lt
        go_wp2
        go_ret
        exact ⟨ret_int (by rw [HR.out]; simp [hab, ha]), B3.trans (hb3.mono B3.size)⟩
      have B3 := B2.trans (hb2.mono B2.size)
      go_wp2_with fail
      refine (HA.out _ B3).mono ?_; rintro e w3 ⟨rfl, hb3⟩
      clear t_2c0 t_2c1 t_2l x_2c0 x_2c1 x_2c2 x_2c3 x_2c4 x_2l
      have t_3 := t_2.below hb3
      have x_3 := x_2.below hb3
      clear t_2 x_2
      have t_3c0 := t_3.cell 0
      have t_3c1 := t_3.cell 1
      simp only [List.getElem?_toArray, List.getElem?_cons_zero, List.getElem?_cons_succ] at t_3c0 t_3c1
      have t_3l := t_3.lt
      have x_3c0 := x_3.cell 0
      have x_3c1 := x_3.cell 1
      have x_3c2 := x_3.cell 2
      have x_3c3 := x_3.cell 3
      have x_3c4 := x_3.cell 4
      simp only [List.getElem?_toArray, List.getElem?_cons_zero, List.getElem?_cons_succ] at x_3c0 x_3c1 x_3c2 x_3c3 x_3c4
      have x_3l := x_3.lt
      by_cases hb : pb < 0
      case pos =>
        have B4 := B3.trans (hb3.mono B3.size)
        go_wp2_with fail
        refine (HB.out _ B4).mono ?_; rintro e w4 ⟨rfl, hb4⟩
        clear t_3c0 t_3c1 t_3l x_3c0 x_3c1 x_3c2 x_3c3 x_3c4 x_3l
        have t_4 := t_3.below hb4
        have x_4 := x_3.below hb4
        clear t_3 x_3
        have t_4c0 := t_4.cell 0
        have t_4c1 := t_4.cell 1
        simp only [List.getElem?_toArray, List.getElem?_cons_zero, List.getElem?_cons_succ] at t_4c0 t_4c1
        have t_4l := t_4.lt
        have x_4c0 := x_4.cell 0
        have x_4c1 := x_4.cell 1
        have x_4c2 := x_4.cell 2
        have x_4c3 := x_4.cell 3
        have x_4c4 := x_4.cell 4
        simp only [List.getElem?_toArray, List.getElem?_cons_zero, List.getElem?_cons_succ] at x_4c0 x_4c1 x_4c2 x_4c3 x_4c4
        have x_4l := x_4.lt
        go_wp2
        go_ret
        exact ⟨ret_int (by rw [HR.out]; simp [hab, hb]), B4.trans (hb4.mono B4.size)⟩
      have B4 := B3.trans (hb3.mono B3.size)
      go_wp2_with fail
      refine (HB.out _ B4).mono ?_; rintro e w4 ⟨rfl, hb4⟩
      clear t_3c0 t_3c1 t_3l x_3c0 x_3c1 x_3c2 x_3c3 x_3c4 x_3l
      have t_4 := t_3.below hb4
      have x_4 := x_3.below hb4
      clear t_3 x_3
      have t_4c0 := t_4.cell 0
      have t_4c1 := t_4.cell 1
      simp only [List.getElem?_toArray, List.getElem?_cons_zero, List.getElem?_cons_succ] at t_4c0 t_4c1
      have t_4l := t_4.lt
      have x_4c0 := x_4.cell 0
      have x_4c1 := x_4.cell 1
      have x_4c2 := x_4.cell 2
      have x_4c3 := x_4.cell 3
      have x_4c4 := x_4.cell 4
      simp only [List.getElem?_toArray, List.getElem?_cons_zero, List.getElem?_cons_succ] at x_4c0 x_4c1 x_4c2 x_4c3 x_4c4
      have x_4l := x_4.lt
      cases kd with
      | true =>
        have B5 := B4.trans (hb4.mono B4.size)
        go_wp2_with fail
        refine (HD.out _ B5 _ x_4.lt (x_4.cell 0)).mono ?_; rintro e w5 ⟨rfl, hb5⟩
        clear t_4c0 t_4c1 t_4l x_4c0 x_4c1 x_4c2 x_4c3 x_4c4 x_4l
        have t_5 := t_4.below hb5
        have x_5 := x_4.below hb5
        clear t_4 x_4
        have t_5c0 := t_5.cell 0
        have t_5c1 := t_5.cell 1
        simp only [List.getElem?_toArray, List.getElem?_cons_zero, List.getElem?_cons_succ] at t_5c0 t_5c1
        have t_5l := t_5.lt
        have x_5c0 := x_5.cell 0
        have x_5c1 := x_5.cell 1
        have x_5c2 := x_5.cell 2
        have x_5c3 := x_5.cell 3
        have x_5c4 := x_5.cell 4
        simp only [List.getElem?_toArray, List.getElem?_cons_zero, List.getElem?_cons_succ] at x_5c0 x_5c1 x_5c2 x_5c3 x_5c4
        have x_5l := x_5.lt
        go_wp2
        go_ret
        exact ⟨ret_int (by rw [HR.out]; simp [hab, ha, hb]), B5.trans (hb5.mono B5.size)⟩
      | false =>
        have B5 := B4.trans (hb4.mono B4.size)
        go_wp2_with fail
        refine (HD.out _ B5 _ x_4.lt (x_4.cell 0)).mono ?_; rintro e w5 ⟨rfl, hb5⟩
        clear t_4c0 t_4c1 t_4l x_4c0 x_4c1 x_4c2 x_4c3 x_4c4 x_4l
        have t_5 := t_4.below hb5
        have x_5 := x_4.below hb5
        clear t_4 x_4
        have t_5c0 := t_5.cell 0
        have t_5c1 := t_5.cell 1
        simp only [List.getElem?_toArray, List.getElem?_cons_zero, List.getElem?_cons_succ] at t_5c0 t_5c1
        have t_5l := t_5.lt
        have x_5c0 := x_5.cell 0
        have x_5c1 := x_5.cell 1
        have x_5c2 := x_5.cell 2
        have x_5c3 := x_5.cell 3
        have x_5c4 := x_5.cell 4
        simp only [List.getElem?_toArray, List.getElem?_cons_zero, List.getElem?_cons_succ] at x_5c0 x_5c1 x_5c2 x_5c3 x_5c4
        have x_5l := x_5.lt
        go_wp2
        go_ret
        exact ⟨ret_int (by rw [HR.out]; simp [hab, ha, hb]), B5.trans (hb5.mono B5.size)⟩
end Go.Proofs.YtighfmgkoepfkaaGreat

namespace Go.Proofs.YtighfmgkoepfkaaGreat
open Go.RowKit
theorem hdsE_step {hs : List Hd} {k : Nat} (h : k < hs.length) : hdsE hs k (hs.drop k) = if okHd hs[k] = false then 1 else if pos hs (hs[k]).id < k then 6 else hdsE hs (k + 1) (hs.drop (k + 1)) := by
  rw [List.drop_eq_getElem_cons h, hdsE]
theorem hdsE_end {hs : List Hd} {k : Nat} (h : hs.length ≤ k) : hdsE hs k (hs.drop k) = 0 := by
  rw [List.drop_eq_nil_of_le h, hdsE]
theorem mvsE_step {hs : List Hd} {ms : List Mv} {k : Nat} (h : k < ms.length) : mvsE hs (ms.take k) (ms.drop k) = if mvE2 hs (ms.take k) ms[k] ≠ 0 then mvE2 hs (ms.take k) ms[k] else mvsE hs (ms.take (k + 1)) (ms.drop (k + 1)) := by
  rw [List.drop_eq_getElem_cons h, mvsE, List.take_succ_eq_append_getElem h]
theorem mvsE_end {hs : List Hd} {ms pre : List Mv} {k : Nat} (h : ms.length ≤ k) : mvsE hs pre (ms.drop k) = 0 := by
  rw [List.drop_eq_nil_of_le h, mvsE]
theorem okHd_and (i sl sh el eh bk : Int) : okHd ⟨i, sl, sh, el, eh, bk⟩ = (okId i && okSp sl sh && okSp el eh && inSp bk 0 65536) := rfl
theorem Check_long (A : Option Addr) (n c : Nat) (B : Option Addr) (m d : Nat) (hs : List Hd) (ms : List Mv) (w : World) (h : SAt encH 6 w A n hs) (h' : SAt encM 5 w B m ms) (hn : n ≤ 9223372036854775807) (hm : m ≤ 9223372036854775807) (hl : 9 < n ∨ 24 < m) :
    Calls Tryz.prog 30 #[vT A n c B m d] w fun e w' => e = .returned (.int .i64 (tcheck hs ms)) ∧ Below w.heap.size w w' := by
  have HC := Lib.hid (show tcheck hs ms = 2 by unfold tcheck; rw [if_pos (by rw [h.len, h'.len]; exact hl)])
  clear h h'
  by_cases h1 : 9 < n
  · clear hl
    go_enter Tryz.func30, Tryz.ntmps30
    go_wp2
    go_ret
    exact ⟨ret_int HC.out.symm, (Below.refl _ _).alloc (Nat.le_refl _) _⟩
  · have h2 : 24 < m := hl.resolve_left h1
    clear hl
    go_enter Tryz.func30, Tryz.ntmps30
    go_wp2
    go_ret
    exact ⟨ret_int HC.out.symm, (Below.refl _ _).alloc (Nat.le_refl _) _⟩
set_option maxHeartbeats 6400000 in
theorem Check_short (A : Option Addr) (n c : Nat) (B : Option Addr) (m d : Nat) (hs : List Hd) (ms : List Mv) (w : World) (h : SAt encH 6 w A n hs) (h' : SAt encM 5 w B m ms) (hn : n ≤ 9) (hm : m ≤ 24) (hmd : m ≤ d) :
    Calls Tryz.prog 30 #[vT A n c B m d] w fun e w' => e = .returned (.int .i64 (tcheck hs ms)) ∧ Below w.heap.size w w' := by
  have HC := Lib.hid (show tcheck hs ms = if hdsE hs 0 hs ≠ 0 then hdsE hs 0 hs else mvsE hs [] ms by unfold tcheck; rw [if_neg (by rw [h.len, h'.len]; omega)])
  have HH := Lib.hid h
  have HM := Lib.hid h'
  have HLh := Lib.hid h.len
  have HLm := Lib.hid h'.len
  have HP := Lib.hid (fun W (hW : Below w.heap.size w W) id => holder_any A n c B m d hs id W (h.below hW) (by omega))
  clear h h'
  go_enter Tryz.func30, Tryz.ntmps30
  go_wp2
  go_loopw [3, 21] (fun _ i wr => ∃ k : Nat, k ≤ n ∧ i = .int .i64 k ∧ hdsE hs 0 hs = hdsE hs k (hs.drop k) ∧ Blk wr w.heap.size 25 #[.slice A n c, .slice B m d] ∧ Below w.heap.size w wr) (fun _ i _ => n - (intOf i).toNat)
  case atStart => exact ⟨0, Nat.zero_le _, rfl, rfl, Blk.at_new _ _ rfl, (Below.refl _ _).alloc (Nat.le_refl _) _⟩
  case round =>
    obtain ⟨k, hk, rfl, hst, t_20, Br⟩ := hrel
    have HSt := Lib.hid hst
    clear hst
    by_cases hkn : k < n
    case pos =>
      obtain ⟨b, off, rfl, hl⟩ := HH.out.at_ (by omega)
      have hkl : k < hs.length := by rw [HLh.out]; exact hkn
      have hl2 := hl.below Br
      obtain ⟨y0, y1, y2, y3, y4, y5⟩ := Hds.at_ hl2 (List.getElem?_eq_getElem hkl)
      have hlt := hl2.lt
      have HSp := Lib.hid (hdsE_step hkl)
      have HPk := Lib.hid (fun W hW => HP.out W hW (hs[k]).id)
      clear hl hl2
      generalize hs[k] = x at *
      obtain ⟨i, sl, sh, el, eh, bk⟩ := x
      have HK := Lib.hid (okHd_and i sl sh el eh bk)
      dsimp only at *
      have HW1 := Lib.hid (fun W => (show Calls Tryz.prog 75 #[.int .i64 i, .int .i64 1, .int .i64 1099511627776] W fun e w' => e = .returned (.bool (okId i)) ∧ Below W.heap.size W w' from within_b i 1 1099511627776 W))
      have HW2 := Lib.hid (fun W => within_b bk 0 65536 W)
      have HS1 := Lib.hid (fun W => span_any sl sh W)
      have HS2 := Lib.hid (fun W => span_any el eh W)
      generalize okId i = k1 at *
      generalize okSp sl sh = k2 at *
      generalize okSp el eh = k3 at *
      generalize inSp bk 0 65536 = k4 at *
      generalize okHd ⟨i, sl, sh, el, eh, bk⟩ = kk at *
      generalize pos hs i = pa at *
      have t_20c0 := t_20.cell 0
      have t_20c1 := t_20.cell 1
      simp only [List.getElem?_toArray, List.getElem?_cons_zero, List.getElem?_cons_succ] at t_20c0 t_20c1
      have t_20l := t_20.lt
      cases k1 with
      | false =>
        have B21 := Br
        have B21a := B21.alloc B21.size (.cells #[.int .i64 i, .int .i64 sl, .int .i64 sh, .int .i64 el, .int .i64 eh, .int .i64 bk] 118)
        go_wp2_with fail
        refine (HW1.out _).mono ?_; rintro e w21 ⟨rfl, hb21⟩
        clear t_20c0 t_20c1 t_20l
        have t_21 := (t_20.alloc (.cells #[.int .i64 i, .int .i64 sl, .int .i64 sh, .int .i64 el, .int .i64 eh, .int .i64 bk] 118)).below hb21
        clear t_20
        have x_21 := (Blk.new wr 118 #[.int .i64 i, .int .i64 sl, .int .i64 sh, .int .i64 el, .int .i64 eh, .int .i64 bk]).below hb21
        have t_21c0 := t_21.cell 0
        have t_21c1 := t_21.cell 1
        simp only [List.getElem?_toArray, List.getElem?_cons_zero, List.getElem?_cons_succ] at t_21c0 t_21c1
        have t_21l := t_21.lt
        have x_21c0 := x_21.cell 0
        have x_21c1 := x_21.cell 1
        have x_21c2 := x_21.cell 2
        have x_21c3 := x_21.cell 3
        have x_21c4 := x_21.cell 4
        have x_21c5 := x_21.cell 5
        simp only [List.getElem?_toArray, List.getElem?_cons_zero, List.getElem?_cons_succ] at x_21c0 x_21c1 x_21c2 x_21c3 x_21c4 x_21c5
        have x_21l := x_21.lt
        go_wp2
        go_ret
        exact ⟨ret_int (by rw [HC.out, HSt.out, HSp.out, HK.out]; simp), B21a.trans (hb21.mono B21a.size)⟩
      | true =>
        have B21 := Br
        have B21a := B21.alloc B21.size (.cells #[.int .i64 i, .int .i64 sl, .int .i64 sh, .int .i64 el, .int .i64 eh, .int .i64 bk] 118)
        go_wp2_with fail
        refine (HW1.out _).mono ?_; rintro e w21 ⟨rfl, hb21⟩
        clear t_20c0 t_20c1 t_20l
        have t_21 := (t_20.alloc (.cells #[.int .i64 i, .int .i64 sl, .int .i64 sh, .int .i64 el, .int .i64 eh, .int .i64 bk] 118)).below hb21
        clear t_20
        have x_21 := (Blk.new wr 118 #[.int .i64 i, .int .i64 sl, .int .i64 sh, .int .i64 el, .int .i64 eh, .int .i64 bk]).below hb21
        have t_21c0 := t_21.cell 0
        have t_21c1 := t_21.cell 1
        simp only [List.getElem?_toArray, List.getElem?_cons_zero, List.getElem?_cons_succ] at t_21c0 t_21c1
        have t_21l := t_21.lt
        have x_21c0 := x_21.cell 0
        have x_21c1 := x_21.cell 1
        have x_21c2 := x_21.cell 2
        have x_21c3 := x_21.cell 3
        have x_21c4 := x_21.cell 4
        have x_21c5 := x_21.cell 5
        simp only [List.getElem?_toArray, List.getElem?_cons_zero, List.getElem?_cons_succ] at x_21c0 x_21c1 x_21c2 x_21c3 x_21c4 x_21c5
        have x_21l := x_21.lt
        clear y0 y1 y2 y3 y4 y5 hlt
        cases k2 with
        | false =>
          have B22 := B21a.trans (hb21.mono B21a.size)
          go_wp2_with fail
          refine (HS1.out _).mono ?_; rintro e w22 ⟨rfl, hb22⟩
          clear t_21c0 t_21c1 t_21l x_21c0 x_21c1 x_21c2 x_21c3 x_21c4 x_21c5 x_21l
          have t_22 := t_21.below hb22
          have x_22 := x_21.below hb22
          clear t_21 x_21
          have t_22c0 := t_22.cell 0
          have t_22c1 := t_22.cell 1
          simp only [List.getElem?_toArray, List.getElem?_cons_zero, List.getElem?_cons_succ] at t_22c0 t_22c1
          have t_22l := t_22.lt
          have x_22c0 := x_22.cell 0
          have x_22c1 := x_22.cell 1
          have x_22c2 := x_22.cell 2
          have x_22c3 := x_22.cell 3
          have x_22c4 := x_22.cell 4
          have x_22c5 := x_22.cell 5
          simp only [List.getElem?_toArray, List.getElem?_cons_zero, List.getElem?_cons_succ] at x_22c0 x_22c1 x_22c2 x_22c3 x_22c4 x_22c5
          have x_22l := x_22.lt
          go_wp2
          go_ret
          exact ⟨ret_int (by rw [HC.out, HSt.out, HSp.out, HK.out]; simp), B22.trans (hb22.mono B22.size)⟩
        | true =>
          have B22 := B21a.trans (hb21.mono B21a.size)
          go_wp2_with fail
          refine (HS1.out _).mono ?_; rintro e w22 ⟨rfl, hb22⟩
          clear t_21c0 t_21c1 t_21l x_21c0 x_21c1 x_21c2 x_21c3 x_21c4 x_21c5 x_21l
          have t_22 := t_21.below hb22
          have x_22 := x_21.below hb22
          clear t_21 x_21
          have t_22c0 := t_22.cell 0
          have t_22c1 := t_22.cell 1
          simp only [List.getElem?_toArray, List.getElem?_cons_zero, List.getElem?_cons_succ] at t_22c0 t_22c1
          have t_22l := t_22.lt
          have x_22c0 := x_22.cell 0
          have x_22c1 := x_22.cell 1
          have x_22c2 := x_22.cell 2
          have x_22c3 := x_22.cell 3
          have x_22c4 := x_22.cell 4
          have x_22c5 := x_22.cell 5
          simp only [List.getElem?_toArray, List.getElem?_cons_zero, List.getElem?_cons_succ] at x_22c0 x_22c1 x_22c2 x_22c3 x_22c4 x_22c5
          have x_22l := x_22.lt
          cases k3 with
          | false =>
            have B23 := B22.trans (hb22.mono B22.size)
            go_wp2_with fail
            refine (HS2.out _).mono ?_; rintro e w23 ⟨rfl, hb23⟩
            clear t_22c0 t_22c1 t_22l x_22c0 x_22c1 x_22c2 x_22c3 x_22c4 x_22c5 x_22l
            have t_23 := t_22.below hb23
            have x_23 := x_22.below hb23
            clear t_22 x_22
            have t_23c0 := t_23.cell 0
            have t_23c1 := t_23.cell 1
            simp only [List.getElem?_toArray, List.getElem?_cons_zero, List.getElem?_cons_succ] at t_23c0 t_23c1
            have t_23l := t_23.lt
            have x_23c0 := x_23.cell 0
            have x_23c1 := x_23.cell 1
            have x_23c2 := x_23.cell 2
            have x_23c3 := x_23.cell 3
            have x_23c4 := x_23.cell 4
            have x_23c5 := x_23.cell 5
            simp only [List.getElem?_toArray, List.getElem?_cons_zero, List.getElem?_cons_succ] at x_23c0 x_23c1 x_23c2 x_23c3 x_23c4 x_23c5
            have x_23l := x_23.lt
            go_wp2
            go_ret
            exact ⟨ret_int (by rw [HC.out, HSt.out, HSp.out, HK.out]; simp), B23.trans (hb23.mono B23.size)⟩
          | true =>
            have B23 := B22.trans (hb22.mono B22.size)
            go_wp2_with fail
            refine (HS2.out _).mono ?_; rintro e w23 ⟨rfl, hb23⟩
            clear t_22c0 t_22c1 t_22l x_22c0 x_22c1 x_22c2 x_22c3 x_22c4 x_22c5 x_22l
            have t_23 := t_22.below hb23
            have x_23 := x_22.below hb23
            clear t_22 x_22
            have t_23c0 := t_23.cell 0
            have t_23c1 := t_23.cell 1
            simp only [List.getElem?_toArray, List.getElem?_cons_zero, List.getElem?_cons_succ] at t_23c0 t_23c1
            have t_23l := t_23.lt
            have x_23c0 := x_23.cell 0
            have x_23c1 := x_23.cell 1
            have x_23c2 := x_23.cell 2
            have x_23c3 := x_23.cell 3
            have x_23c4 := x_23.cell 4
            have x_23c5 := x_23.cell 5
            simp only [List.getElem?_toArray, List.getElem?_cons_zero, List.getElem?_cons_succ] at x_23c0 x_23c1 x_23c2 x_23c3 x_23c4 x_23c5
            have x_23l := x_23.lt
            cases k4 with
            | false =>
              have B24 := B23.trans (hb23.mono B23.size)
              go_wp2_with fail
              refine (HW2.out _).mono ?_; rintro e w24 ⟨rfl, hb24⟩
              clear t_23c0 t_23c1 t_23l x_23c0 x_23c1 x_23c2 x_23c3 x_23c4 x_23c5 x_23l
              have t_24 := t_23.below hb24
              have x_24 := x_23.below hb24
              clear t_23 x_23
              have t_24c0 := t_24.cell 0
              have t_24c1 := t_24.cell 1
              simp only [List.getElem?_toArray, List.getElem?_cons_zero, List.getElem?_cons_succ] at t_24c0 t_24c1
              have t_24l := t_24.lt
              have x_24c0 := x_24.cell 0
              have x_24c1 := x_24.cell 1
              have x_24c2 := x_24.cell 2
              have x_24c3 := x_24.cell 3
              have x_24c4 := x_24.cell 4
              have x_24c5 := x_24.cell 5
              simp only [List.getElem?_toArray, List.getElem?_cons_zero, List.getElem?_cons_succ] at x_24c0 x_24c1 x_24c2 x_24c3 x_24c4 x_24c5
              have x_24l := x_24.lt
              go_wp2
              go_ret
              exact ⟨ret_int (by rw [HC.out, HSt.out, HSp.out, HK.out]; simp), B24.trans (hb24.mono B24.size)⟩
            | true =>
              have B24 := B23.trans (hb23.mono B23.size)
              go_wp2_with fail
              refine (HW2.out _).mono ?_; rintro e w24 ⟨rfl, hb24⟩
              clear t_23c0 t_23c1 t_23l x_23c0 x_23c1 x_23c2 x_23c3 x_23c4 x_23c5 x_23l
              have t_24 := t_23.below hb24
              have x_24 := x_23.below hb24
              clear t_23 x_23
              have t_24c0 := t_24.cell 0
              have t_24c1 := t_24.cell 1
              simp only [List.getElem?_toArray, List.getElem?_cons_zero, List.getElem?_cons_succ] at t_24c0 t_24c1
              have t_24l := t_24.lt
              have x_24c0 := x_24.cell 0
              have x_24c1 := x_24.cell 1
              have x_24c2 := x_24.cell 2
              have x_24c3 := x_24.cell 3
              have x_24c4 := x_24.cell 4
              have x_24c5 := x_24.cell 5
              simp only [List.getElem?_toArray, List.getElem?_cons_zero, List.getElem?_cons_succ] at x_24c0 x_24c1 x_24c2 x_24c3 x_24c4 x_24c5
              have x_24l := x_24.lt
              have HKt := Lib.hid (show kk = true by rw [HK.out]; rfl)
              by_cases hp : pa < (k : Int)
              case pos =>
                have B25 := B24.trans (hb24.mono B24.size)
                go_wp2_with fail
                refine (HPk.out _ B25).mono ?_; rintro e w25 ⟨rfl, hb25⟩
                clear t_24c0 t_24c1 t_24l x_24c0 x_24c1 x_24c2 x_24c3 x_24c4 x_24c5 x_24l
                have t_25 := t_24.below hb25
                have x_25 := x_24.below hb25
                clear t_24 x_24
                have t_25c0 := t_25.cell 0
                have t_25c1 := t_25.cell 1
                simp only [List.getElem?_toArray, List.getElem?_cons_zero, List.getElem?_cons_succ] at t_25c0 t_25c1
                have t_25l := t_25.lt
                have x_25c0 := x_25.cell 0
                have x_25c1 := x_25.cell 1
                have x_25c2 := x_25.cell 2
                have x_25c3 := x_25.cell 3
                have x_25c4 := x_25.cell 4
                have x_25c5 := x_25.cell 5
                simp only [List.getElem?_toArray, List.getElem?_cons_zero, List.getElem?_cons_succ] at x_25c0 x_25c1 x_25c2 x_25c3 x_25c4 x_25c5
                have x_25l := x_25.lt
                go_wp2
                go_ret
                exact ⟨ret_int (by rw [HC.out, HSt.out, HSp.out, HKt.out]; simp [hp]), B25.trans (hb25.mono B25.size)⟩
              have HPn := Lib.hid hp
              have B25 := B24.trans (hb24.mono B24.size)
              go_wp2_with fail
              refine (HPk.out _ B25).mono ?_; rintro e w25 ⟨rfl, hb25⟩
              clear t_24c0 t_24c1 t_24l x_24c0 x_24c1 x_24c2 x_24c3 x_24c4 x_24c5 x_24l
              have t_25 := t_24.below hb25
              have x_25 := x_24.below hb25
              clear t_24 x_24
              have t_25c0 := t_25.cell 0
              have t_25c1 := t_25.cell 1
              simp only [List.getElem?_toArray, List.getElem?_cons_zero, List.getElem?_cons_succ] at t_25c0 t_25c1
              have t_25l := t_25.lt
              have x_25c0 := x_25.cell 0
              have x_25c1 := x_25.cell 1
              have x_25c2 := x_25.cell 2
              have x_25c3 := x_25.cell 3
              have x_25c4 := x_25.cell 4
              have x_25c5 := x_25.cell 5
              simp only [List.getElem?_toArray, List.getElem?_cons_zero, List.getElem?_cons_succ] at x_25c0 x_25c1 x_25c2 x_25c3 x_25c4 x_25c5
              have x_25l := x_25.lt
              go_wp2
              go_roundw
              case rel => exact ⟨k + 1, by omega, by go_num, by rw [HSt.out, HSp.out, HKt.out, if_neg (show ¬ (true = false) by decide), if_neg (Int.not_lt.2 HPn.out)], t_25, B25.trans (hb25.mono B25.size)⟩
              case measure => simp [intOf]; omega
    case neg =>
      have HZ := Lib.hid (show hdsE hs 0 hs = 0 by rw [HSt.out]; exact hdsE_end (by rw [HLh.out]; omega))
      clear HSt
      have t_20c0 := t_20.cell 0
      have t_20c1 := t_20.cell 1
      simp only [List.getElem?_toArray, List.getElem?_cons_zero, List.getElem?_cons_succ] at t_20c0 t_20c1
      have t_20l := t_20.lt
      have Brs := Br.size
      go_wp2
      go_loopw [5, 58] (fun _ i wr => ∃ k : Nat, k ≤ m ∧ i = .int .i64 k ∧ mvsE hs [] ms = mvsE hs (ms.take k) (ms.drop k) ∧ Blk wr w.heap.size 25 #[.slice A n c, .slice B m d] ∧ Below w.heap.size w wr) (fun _ i _ => m - (intOf i).toNat)
      case atStart => exact ⟨0, Nat.zero_le _, rfl, rfl, t_20, Br⟩
      case round =>
        clear t_20 t_20c0 t_20c1 t_20l Br Brs
        obtain ⟨k', hk', rfl, hst, t_20, Br⟩ := hrel
        have HSt := Lib.hid hst
        clear hst
        by_cases hkn' : k' < m
        case pos =>
          obtain ⟨b, off, rfl, hl⟩ := HM.out.at_ (by omega)
          have hkl : k' < ms.length := by rw [HLm.out]; exact hkn'
          have hl2 := hl.below Br
          obtain ⟨y0, y1, y2, y3, y4⟩ := Mvs.at_ hl2 (List.getElem?_eq_getElem hkl)
          have hlt := hl2.lt
          have HSp := Lib.hid (mvsE_step (hs := hs) hkl)
          have HKc := Lib.hid (fun W (hW : Below w.heap.size w W) => checkMove_any A n c (some ⟨b, off, none⟩) m d (some ⟨b, off, none⟩) k' d hs (ms.take k') ms[k'] W (HH.out.below hW) (by omega) ((HM.out.take (by omega)).below hW) (by omega))
          clear hl hl2
          generalize ms[k'] = x at *
          obtain ⟨i, a, e, lo, hi⟩ := x
          dsimp only at *
          generalize mvE2 hs (ms.take k') ⟨i, a, e, lo, hi⟩ = ve at *
          have t_20c0 := t_20.cell 0
          have t_20c1 := t_20.cell 1
          simp only [List.getElem?_toArray, List.getElem?_cons_zero, List.getElem?_cons_succ] at t_20c0 t_20c1
          have t_20l := t_20.lt
          have Brs := Br.size
          go_wp2_with fail
          have x_21 := Blk.new wr 59 #[.int .i64 i, .int .i64 a, .int .i64 e, .int .i64 lo, .int .i64 hi]
          have t_21 := t_20.alloc (.cells #[.int .i64 i, .int .i64 a, .int .i64 e, .int .i64 lo, .int .i64 hi] 59)
          have B21 := Br.alloc Brs (.cells #[.int .i64 i, .int .i64 a, .int .i64 e, .int .i64 lo, .int .i64 hi] 59)
          generalize hV : wr.alloc (.cells #[.int .i64 i, .int .i64 a, .int .i64 e, .int .i64 lo, .int .i64 hi] 59) = V at *
          generalize hg : wr.heap.size = g at *
          clear hV y0 y1 y2 y3 y4 hlt t_20 t_20c0 t_20c1 t_20l
          have x_21c0 := x_21.cell 0
          have x_21c1 := x_21.cell 1
          have x_21c2 := x_21.cell 2
          have x_21c3 := x_21.cell 3
          have x_21c4 := x_21.cell 4
          have t_21c0 := t_21.cell 0
          have t_21c1 := t_21.cell 1
          simp only [List.getElem?_toArray, List.getElem?_cons_zero, List.getElem?_cons_succ] at x_21c0 x_21c1 x_21c2 x_21c3 x_21c4 t_21c0 t_21c1
          have x_21l := x_21.lt
          have t_21l := t_21.lt
          have hkd : k' ≤ d := by omega
          obtain ⟨xc, xf⟩ := xcell (W := V)
          refine wp_region_quiet_tail 7 (by kernel_rfl) (by kernel_rfl) ?_
          simp only [List.take_succ_cons, List.take_zero, List.drop_succ_cons, List.drop_zero]
          repeat (first | go_big_quiet_step ((go_at_call 78; with_reducible refine calls_ext (HKc.out _ (B21.trans ((Ext.below _).mono B21.size))))) | quiet_step ((go_at_call 78; with_reducible refine calls_ext (HKc.out _ (B21.trans ((Ext.below _).mono B21.size))))))
          refine wpQuiet_nil ?_
          intro w22 hb22
          have t_22 := t_21.below hb22
          have B22 := B21.trans (hb22.mono B21.size)
          clear xc xf x_21 x_21c0 x_21c1 x_21c2 x_21c3 x_21c4 x_21l t_21c0 t_21c1 t_21l t_21
          by_cases hz : ve = 0
          · have hz1 : (ve != 0) = false := by simp [hz]
            have HZv := Lib.hid hz
            clear hz
            go_wp2
            go_roundw
            case rel => exact ⟨k' + 1, by omega, by go_num, by rw [HSt.out, HSp.out, if_neg (fun h => h HZv.out)], t_22, B22⟩
            case measure => simp [intOf]; omega
          · have hz1 : (ve != 0) = true := by simpa using hz
            have HZv := Lib.hid hz
            clear hz
            go_wp2
            go_ret
            exact ⟨ret_int (by rw [HC.out, HZ.out, HSt.out, HSp.out, if_pos HZv.out, if_neg (fun h => h rfl)]), B22⟩
        case neg =>
          have HZ2 := Lib.hid (show mvsE hs [] ms = 0 by rw [HSt.out]; exact mvsE_end (by rw [HLm.out]; omega))
          go_wp2
          go_ret
          exact ⟨ret_int (by rw [HC.out, HZ.out, HZ2.out]; rfl), Br⟩
theorem Check_any (t : TR) (w : World) (h : t.Ok w) :
    Calls Tryz.prog 30 #[t.v] w fun e w' => e = .returned (.int .i64 (tcheck t.hs t.ms)) ∧ Below w.heap.size w w' := by
  by_cases hl : 9 < t.n ∨ 24 < t.m
  · exact Check_long _ _ _ _ _ _ _ _ w h.h h.m h.n_le h.m_le hl
  · exact Check_short _ _ _ _ _ _ _ _ w h.h h.m (by omega) (by omega) h.m_cap
end Go.Proofs.YtighfmgkoepfkaaGreat
