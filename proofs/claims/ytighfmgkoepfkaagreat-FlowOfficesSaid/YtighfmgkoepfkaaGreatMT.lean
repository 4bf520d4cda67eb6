/- Through. -/
import Derived.Test.YtighfmgkoepfkaaGreatMW
import Derived.Test.YtighfmgkoepfkaaGreatMS
namespace Go.Proofs.YtighfmgkoepfkaaGreat
open Go.RowKit

theorem upL_iff : ∀ {s : List Int}, upL s = true ↔ ∀ i (h : i + 1 < s.length), s[i] < s[i + 1]
  | [] => ⟨fun _ i h => absurd h (by simp), fun _ => rfl⟩
  | [x] => ⟨fun _ i h => absurd h (by simp), fun _ => rfl⟩
  | x :: y :: t => by
    show (decide (x < y) && upL (y :: t)) = true ↔ _
    rw [Bool.and_eq_true, decide_eq_true_eq, upL_iff (s := y :: t)]
    constructor
    · rintro ⟨h1, h2⟩ i h
      match i, h with
      | 0, _ => exact h1
      | i + 1, h => exact h2 i (by simpa using h)
    · intro h
      exact ⟨h 0 (by simp), fun i hi => h (i + 1) (by simpa using hi)⟩
theorem formed_true {hs : List Hd} {s : List Int} (way : Int) (h : ∀ i (hi : i < s.length), 0 ≤ pos hs s[i] ∧ ∀ h0 : 0 < i, s[i - 1] < s[i]) : formedL hs way s = (decide (way = 1 ∨ way = 2) && !s.isEmpty) := by
  unfold formedL
  have h1 : s.all (fun id => decide (0 ≤ pos hs id)) = true := by
    rw [List.all_eq_true]
    intro x hx
    obtain ⟨i, hi, e⟩ := List.getElem_of_mem hx
    subst e
    exact decide_eq_true (h i hi).1
  have h2 : upL s = true := upL_iff.2 fun i hi => (h (i + 1) hi).2 (by omega)
  rw [h1, h2, Bool.and_true, Bool.and_true]
theorem formed_pos {hs : List Hd} {s : List Int} (way : Int) {i : Nat} (hi : i < s.length) (h : pos hs s[i] < 0) : formedL hs way s = false := by
  unfold formedL
  have h1 : s.all (fun id => decide (0 ≤ pos hs id)) = false := by
    rw [Bool.eq_false_iff]
    intro c
    have := List.all_eq_true.1 c _ (List.getElem_mem hi)
    simp at this
    omega
  rw [h1]; simp
theorem formed_up {hs : List Hd} {s : List Int} (way : Int) {i : Nat} (hi : i + 1 < s.length) (h : s[i + 1] ≤ s[i]) : formedL hs way s = false := by
  unfold formedL
  have h1 : upL s = false := by
    rw [Bool.eq_false_iff]
    intro c
    have := upL_iff.1 c i hi
    omega
  rw [h1]; simp
/-- A cut as it lies. -/
def vCt (way : Int) (A : Option Addr) (n c : Nat) : Value := .agg #[.int .i64 way, .slice A n c]
set_option maxRecDepth 100000 in
set_option maxHeartbeats 3200000 in
theorem formed_any (t : TR) (way : Int) (As : Option Addr) (k cs : Nat) (s : List Int) (w : World) (h : t.Ok w) (hs' : SAt encI 1 w As k s) (hk : k ≤ 1000000) :
    Calls Tryz.prog 103 #[t.v, vCt way As k cs] w fun e w' => e = .returned (.bool (formedL t.hs way s)) ∧ Below w.heap.size w w' := by
  have hb0 := ((Below.refl w.heap.size w).alloc (Nat.le_refl _) (.cells #[.slice t.A t.n t.c, .slice t.B t.m t.d] 25)).alloc (by simp) (.cells #[.int .i64 way, .slice As k cs] 93)
  obtain ⟨A, n, c, B, m, d, hs, ms⟩ := t
  dsimp only [TR.v] at *
  have t0 := (Blk.new w 25 #[.slice A n c, .slice B m d]).alloc (.cells #[.int .i64 way, .slice As k cs] 93)
  have r0 := Blk.at_new (W := w.alloc (.cells #[.slice A n c, .slice B m d] 25)) (g := w.heap.size + 1) 93 #[.int .i64 way, .slice As k cs] (by simp)
  have HOk := Lib.hid h
  have HS := Lib.hid hs'
  have HL := Lib.hid hs'.len
  clear h hs'
  unfold vCt
  go_enter Tryz.func103, Tryz.ntmps103
  go_upto_region 1 with fail
  generalize hW : (w.alloc (.cells #[.slice A n c, .slice B m d] 25)).alloc (.cells #[.int .i64 way, .slice As k cs] 93) = W at *
  clear hW
  have HT := Lib.hid t0
  have HR := Lib.hid r0
  have HB0 := Lib.hid hb0
  have z0 := r0.cell 0
  have z1 := r0.cell 1
  simp only [List.getElem?_toArray, List.getElem?_cons_zero, List.getElem?_cons_succ] at z0 z1
  have zl := r0.lt
  clear t0 r0 hb0
  go_wp2
  go_loopw [5, 6, 10] (fun _ _ i wx => ∃ j : Nat, j ≤ k ∧ i = .int .i64 (j : Int) ∧ (∀ i (hi : i < s.length), i < j → 0 ≤ pos hs s[i] ∧ ∀ h0 : 0 < i, s[i - 1] < s[i]) ∧ Below W.heap.size W wx) (fun _ _ i _ => k - (intOf i).toNat)
  case atStart => exact ⟨0, Nat.zero_le _, rfl, fun i _ h => absurd h (Nat.not_lt_zero _), Below.refl _ _⟩
  case round =>
    obtain ⟨j, hj, rfl, hq, hb⟩ := hrel
    have HQ := Lib.hid hq
    have HB := Lib.hid (HB0.out.trans (hb.mono HB0.out.size))
    have HBW := Lib.hid hb
    have q1 := HT.out.below hb
    have q2 := HR.out.below hb
    have y0 := q1.cell 0
    have y1 := q1.cell 1
    have x0 := q2.cell 0
    have x1 := q2.cell 1
    simp only [List.getElem?_toArray, List.getElem?_cons_zero, List.getElem?_cons_succ] at y0 y1 x0 x1
    have yl := q1.lt
    have xl := q2.lt
    clear hq hb q1 q2 z0 z1 zl
    by_cases hjk : j < k
    case neg =>
      have HF := Lib.hid (formed_true (hs := hs) (s := s) way fun i hi => HQ.out i hi (by have := HL.out; omega))
      rcases Nat.eq_zero_or_pos k with hk0 | hk0
      · have e : s = [] := List.eq_nil_of_length_eq_zero (by rw [HL.out]; exact hk0)
        have HF2 := Lib.hid (show formedL hs way s = false by rw [HF.out, e]; simp)
        clear e
        have hk1 : ¬ (0 : Int) < (k : Int) := by omega
        go_wp2
        exact bodyPost_ret (v := .bool false) (by simp [results, Tryz.results103, go_sem]) rfl ⟨by rw [HF2.out], HB.out⟩
      · have e : s.isEmpty = false := by rw [List.isEmpty_eq_false_iff]; intro c; have := HL.out; rw [c] at this; simp at this; omega
        have HF2 := Lib.hid (show formedL hs way s = decide (way = 1 ∨ way = 2) by rw [HF.out, e]; simp)
        have hk1 : (0 : Int) < (k : Int) := by omega
        by_cases h1 : way = 1
        · have h1b : (way == 1) = true := by simpa using h1
          go_wp2
          exact bodyPost_ret (v := .bool true) (by simp [results, Tryz.results103, go_sem]) rfl ⟨by rw [HF2.out, decide_eq_true (.inl h1)], HB.out⟩
        · have h1b : (way == 1) = false := by simpa using h1
          by_cases h2 : way = 2
          · have h2b : (way == 2) = true := by simpa using h2
            go_wp2
            exact bodyPost_ret (v := .bool true) (by simp [results, Tryz.results103, go_sem]) rfl ⟨by rw [HF2.out, decide_eq_true (.inr h2)], HB.out⟩
          · have h2b : (way == 2) = false := by simpa using h2
            go_wp2
            exact bodyPost_ret (v := .bool false) (by simp [results, Tryz.results103, go_sem]) rfl ⟨by rw [HF2.out, decide_eq_false (by omega)], HB.out⟩
    case pos =>
      have hjs : j < s.length := by rw [HL.out]; exact hjk
      obtain ⟨b, off, rfl, hl⟩ := HS.out.at_ (by omega)
      have hl2 := hl.below (HB.out)
      have c0 := hl2.c j _ (List.getElem?_eq_getElem hjs) 0 _ rfl
      rw [Nat.mul_one, Nat.add_zero] at c0
      have cl := hl2.lt
      have HHo := Lib.hid (holder_any A n c B m d hs s[j] wr (HOk.out.h.below HB.out) HOk.out.n_le)
      have HL2 := Lib.hid hl
      obtain ⟨x, hx⟩ : ∃ x, x = s[j] := ⟨_, rfl⟩
      rw [← hx] at c0 HHo
      have HX := Lib.hid hx
      clear hl hl2 hx
      by_cases hp : pos hs x < 0
      · have hpd : decide (pos hs x < 0) = true := decide_eq_true hp
        go_wp2_with (go_at_call 77; refine HHo.out.mono ?_; rintro e w2 ⟨rfl, hb2⟩)
        exact bodyPost_ret (v := .bool false) (by simp [results, Tryz.results103, go_sem]) rfl ⟨by rw [formed_pos way hjs (by rw [← HX.out]; exact hp)], HB.out.trans (hb2.mono HB.out.size)⟩
      · have hpd : decide (pos hs x < 0) = false := decide_eq_false hp
        rcases Nat.eq_zero_or_pos j with hj0 | hj0
        · subst hj0
          rw [Nat.add_zero] at c0
          go_wp2_with (go_at_call 77; refine HHo.out.mono ?_; rintro e w2 ⟨rfl, hb2⟩)
          go_roundw
          case rel =>
            refine ⟨0 + 1, by omega, by go_num, fun i hi h => ?_, HBW.out.trans (hb2.mono HBW.out.size)⟩
            rcases Nat.lt_succ_iff_lt_or_eq.1 h with h | h
            · exact HQ.out i hi h
            · subst h; exact ⟨by rw [← HX.out]; omega, fun h => absurd h (by omega)⟩
          case measure => simp [intOf]; omega
        · have hj2 : (0 : Int) < (j : Int) := by omega
          have hjs1 : j - 1 < s.length := by omega
          have hl3 := HL2.out.below HB.out
          obtain ⟨y, hy⟩ : ∃ y, s[j - 1] = y := ⟨_, rfl⟩
          have c1 := hl3.c (j - 1) y (by rw [List.getElem?_eq_getElem hjs1, hy]) 0 _ rfl
          rw [Nat.mul_one, Nat.add_zero] at c1
          have HY := Lib.hid hy
          clear hl3
          have HQR := Lib.hid (HR.out.below HBW.out)
          by_cases hxy : x ≤ y
          · have hxd : decide (x ≤ y) = true := decide_eq_true hxy
            go_wp2_with (go_at_call 77; refine HHo.out.mono ?_; rintro e w2 ⟨rfl, hb2⟩; have k1 := (HQR.out.below hb2).cell 1; have kl := (HQR.out.below hb2).lt; have c2 := (hb2.cell (p := ⟨b, off + (j - 1), none⟩) cl).trans c1; have cl2 := Nat.lt_of_lt_of_le cl hb2.size; simp only [List.getElem?_toArray, List.getElem?_cons_zero, List.getElem?_cons_succ] at k1)
            exact bodyPost_ret (v := .bool false) (by simp [results, Tryz.results103, go_sem]) rfl ⟨by rw [formed_up way (i := j - 1) (by omega) (by rw [HY.out]; simp only [show j - 1 + 1 = j by omega]; rw [← HX.out]; exact hxy)], HB.out.trans (hb2.mono HB.out.size)⟩
          · have hxd : decide (x ≤ y) = false := decide_eq_false hxy
            go_wp2_with (go_at_call 77; refine HHo.out.mono ?_; rintro e w2 ⟨rfl, hb2⟩; have k1 := (HQR.out.below hb2).cell 1; have kl := (HQR.out.below hb2).lt; have c2 := (hb2.cell (p := ⟨b, off + (j - 1), none⟩) cl).trans c1; have cl2 := Nat.lt_of_lt_of_le cl hb2.size; simp only [List.getElem?_toArray, List.getElem?_cons_zero, List.getElem?_cons_succ] at k1)
            go_roundw
            case rel =>
              refine ⟨j + 1, by omega, by go_num, fun i hi h => ?_, HBW.out.trans (hb2.mono HBW.out.size)⟩
              rcases Nat.lt_succ_iff_lt_or_eq.1 h with h | h
              · exact HQ.out i hi h
              · subst h; exact ⟨by rw [← HX.out]; omega, fun _ => by rw [← HX.out, HY.out]; omega⟩
            case measure => simp [intOf]; omega
end Go.Proofs.YtighfmgkoepfkaaGreat

namespace Go.Proofs.YtighfmgkoepfkaaGreat
open Go.RowKit

def thrH (s : List Int) (way : Int) (h : Hd) : Int := if s.contains h.id = true then (if way = 1 then h.el - h.sh else h.sl - h.eh) else 0
def thrM (s : List Int) (way : Int) (m : Mv) : Int := if s.contains m.fr = s.contains m.to then 0 else if s.contains m.fr = decide (way = 1) then m.lo else - m.hi
theorem isum_mul {α : Type} (f g h : α → Int) : ∀ (l : List α), (∀ x ∈ l, f x = g x - h x) → isum (l.map f) = isum (l.map g) - isum (l.map h)
  | [], _ => rfl
  | x :: t, H => by
    have ih := isum_mul f g h t fun y hy => H y (List.mem_cons_of_mem _ hy)
    have := H x (List.mem_cons_self ..)
    show f x + isum (t.map f) = g x + isum (t.map g) - (h x + isum (t.map h))
    rw [ih, this]; omega
theorem thrL_sums (hs : List Hd) (ms : List Mv) (way : Int) (s : List Int) : thrL hs ms way s = isum (hs.map (thrH s way)) + isum (ms.map (thrM s way)) := by
  unfold thrL outLo inHi inLo outHi hsum msum
  by_cases h : way = 1
  · rw [if_pos h, isum_mul (thrH s way) (fun h => if s.contains h.id = true then h.el else 0) (fun h => if s.contains h.id = true then h.sh else 0) hs (fun x _ => by unfold thrH; rw [if_pos h]; split <;> omega),
      isum_mul (thrM s way) (fun m => if s.contains m.fr = true ∧ s.contains m.to = !true then m.lo else 0) (fun m => if s.contains m.fr = false ∧ s.contains m.to = !false then m.hi else 0) ms (fun x _ => by
        unfold thrM; rw [decide_eq_true h]
        cases s.contains x.fr <;> cases s.contains x.to <;> simp)]
    omega
  · rw [if_neg h, isum_mul (thrH s way) (fun h => if s.contains h.id = true then h.sl else 0) (fun h => if s.contains h.id = true then h.eh else 0) hs (fun x _ => by unfold thrH; rw [if_neg h]; split <;> omega),
      isum_mul (thrM s way) (fun m => if s.contains m.fr = false ∧ s.contains m.to = !false then m.lo else 0) (fun m => if s.contains m.fr = true ∧ s.contains m.to = !true then m.hi else 0) ms (fun x _ => by
        unfold thrM; rw [decide_eq_false h]
        cases s.contains x.fr <;> cases s.contains x.to <;> simp)]
    omega
theorem isum_bound {α : Type} (f : α → Int) (b : Int) : ∀ (l : List α), (∀ x ∈ l, - b ≤ f x ∧ f x ≤ b) → - (b * l.length) ≤ isum (l.map f) ∧ isum (l.map f) ≤ b * l.length
  | [], _ => by simp [isum]
  | x :: t, H => by
    have ih := isum_bound f b t fun y hy => H y (List.mem_cons_of_mem _ hy)
    have := H x (List.mem_cons_self ..)
    show _ ≤ f x + isum (t.map f) ∧ f x + isum (t.map f) ≤ _
    rw [List.length_cons, show b * ((t.length + 1 : Nat) : Int) = b * (t.length : Int) + b by rw [show ((t.length + 1 : Nat) : Int) = (t.length : Int) + 1 by omega, Int.mul_add, Int.mul_one]]
    omega
theorem isum_take {α : Type} (f : α → Int) (l : List α) {k : Nat} (hk : k < l.length) : isum ((l.take (k + 1)).map f) = isum ((l.take k).map f) + f l[k] := by
  rw [List.take_succ_eq_append_getElem hk, List.map_append, isum_append]
  show _ + (f l[k] + 0) = _
  omega
theorem TV.hd_bound {hs : List Hd} {ms : List Mv} (h : TV hs ms) {x : Hd} (hx : x ∈ hs) : 0 ≤ x.sl ∧ x.sl ≤ x.sh ∧ x.sh ≤ 65536 ∧ 0 ≤ x.el ∧ x.el ≤ x.eh ∧ x.eh ≤ 65536 := by
  have := h.hd x hx
  simp only [okHd, okSp, okId, Bool.and_eq_true, decide_eq_true_eq] at this
  omega
theorem TV.mv_bound {hs : List Hd} {ms : List Mv} (h : TV hs ms) {x : Mv} (hx : x ∈ ms) : 0 ≤ x.lo ∧ x.lo ≤ x.hi ∧ x.hi ≤ 65536 := by
  have := (h.mv x hx).2.1
  simp only [okSp, decide_eq_true_eq] at this
  exact this
theorem thrH_bound {hs : List Hd} {ms : List Mv} (h : TV hs ms) (s : List Int) (way : Int) {k : Nat} : -589824 ≤ isum ((hs.take k).map (thrH s way)) ∧ isum ((hs.take k).map (thrH s way)) ≤ 589824 := by
  have := isum_bound (thrH s way) 65536 (hs.take k) fun x hx => by
    have := h.hd_bound (List.mem_of_mem_take hx)
    unfold thrH
    split
    · split <;> omega
    · omega
  have hl := h.lenH
  have : (hs.take k).length ≤ hs.length := by rw [List.length_take]; omega
  omega
theorem thrM_bound {hs : List Hd} {ms : List Mv} (h : TV hs ms) (s : List Int) (way : Int) {k : Nat} : -1572864 ≤ isum ((ms.take k).map (thrM s way)) ∧ isum ((ms.take k).map (thrM s way)) ≤ 1572864 := by
  have := isum_bound (thrM s way) 65536 (ms.take k) fun x hx => by
    have := h.mv_bound (List.mem_of_mem_take hx)
    unfold thrM
    split
    · omega
    · split <;> omega
  have hl := h.lenM
  have : (ms.take k).length ≤ ms.length := by rw [List.length_take]; omega
  omega
set_option maxHeartbeats 1600000 in
theorem inS_any (way : Int) (As : Option Addr) (k cs : Nat) (s : List Int) (g : Nat) (x : Int) (w : World) (hg : Blk w g 93 #[.int .i64 way, .slice As k cs]) (hs : SAt encI 1 w As k s) (hk : k ≤ 1000000) :
    Calls Tryz.prog 132 #[.int .i64 x, .pointer (some ⟨g, 0, none⟩)] w fun e w' => e = .returned (.bool (s.contains x)) ∧ Below w.heap.size w w' := by
  have z1 := hg.cell 1
  simp only [List.getElem?_toArray, List.getElem?_cons_zero, List.getElem?_cons_succ] at z1
  have zl := hg.lt
  have HC := Lib.hid (containsI_any As k cs s x w hs hk)
  generalize s.contains x = q at *
  clear hg hs
  go_enter Tryz.func132, Tryz.ntmps132
  go_wp2_with (go_at_call 111; refine HC.out.mono ?_; rintro e w2 ⟨rfl, hb2⟩)
  go_ret
  exact ⟨rfl, hb2⟩
set_option maxRecDepth 100000 in
set_option maxHeartbeats 6400000 in
theorem through_any (t : TR) (way : Int) (As : Option Addr) (k cs : Nat) (s : List Int) (w : World) (h : t.Ok w) (hs' : SAt encI 1 w As k s) (hk : k ≤ 1000000) (hv : TV t.hs t.ms) :
    Calls Tryz.prog 104 #[t.v, vCt way As k cs] w fun e w' => e = .returned (.int .i64 (thrL t.hs t.ms way s)) ∧ Below w.heap.size w w' := by
  have hb0 := ((Below.refl w.heap.size w).alloc (Nat.le_refl _) (.cells #[.slice t.A t.n t.c, .slice t.B t.m t.d] 25)).alloc (by simp) (.cells #[.int .i64 way, .slice As k cs] 93)
  obtain ⟨A, n, c, B, m, d, hs, ms⟩ := t
  dsimp only [TR.v] at *
  have t0 := (Blk.new w 25 #[.slice A n c, .slice B m d]).alloc (.cells #[.int .i64 way, .slice As k cs] 93)
  have r0 := Blk.at_new (W := w.alloc (.cells #[.slice A n c, .slice B m d] 25)) (g := w.heap.size + 1) 93 #[.int .i64 way, .slice As k cs] (by simp)
  have HOk := Lib.hid h
  have HS := Lib.hid hs'
  have HV := Lib.hid hv
  have HLh := Lib.hid (show hs.length = n from h.h.len)
  have HLm := Lib.hid (show ms.length = m from h.m.len)
  have hn9 : n ≤ 9 := by rw [← HLh.out]; exact hv.lenH
  have hm24 : m ≤ 24 := by rw [← HLm.out]; exact hv.lenM
  rw [thrL_sums]
  clear h hs' hv
  unfold vCt
  go_enter Tryz.func104, Tryz.ntmps104
  go_upto_region 1 with fail
  generalize hW : (w.alloc (.cells #[.slice A n c, .slice B m d] 25)).alloc (.cells #[.int .i64 way, .slice As k cs] 93) = W at *
  clear hW
  have HT := Lib.hid t0
  have HR := Lib.hid r0
  have HB0 := Lib.hid hb0
  have y0 := t0.cell 0
  have y1 := t0.cell 1
  simp only [List.getElem?_toArray, List.getElem?_cons_zero, List.getElem?_cons_succ] at y0 y1
  have yl := t0.lt
  clear t0 r0 hb0
  go_wp2
  go_loopw [6, 8, 15, 28, 34] (fun a _ i _ _ wx => ∃ (j : Nat) (X : Int), j ≤ n ∧ i = .int .i64 (j : Int) ∧ a = .int .i64 X ∧ X = isum ((hs.take j).map (thrH s way)) ∧ Below W.heap.size W wx) (fun _ _ i _ _ _ => n - (intOf i).toNat)
  case atStart => exact ⟨0, 0, Nat.zero_le _, rfl, rfl, rfl, Below.refl _ _⟩
  case round =>
    obtain ⟨j, X, hj, rfl, rfl, hX, hb⟩ := hrel
    have HX := Lib.hid hX
    have HB := Lib.hid (HB0.out.trans (hb.mono HB0.out.size))
    have HBW := Lib.hid hb
    have q1 := HT.out.below hb
    have HQR := Lib.hid (HR.out.below hb)
    have HQT := Lib.hid q1
    have yy0 := q1.cell 0
    have yy1 := q1.cell 1
    simp only [List.getElem?_toArray, List.getElem?_cons_zero, List.getElem?_cons_succ] at yy0 yy1
    have yyl := q1.lt
    have hBd := thrH_bound HV.out s way (k := j)
    rw [← HX.out] at hBd
    obtain ⟨hX1, hX2⟩ := hBd
    clear hb q1 y0 y1 yl hX
    by_cases hjk : j < n
    case neg =>
      have hjj : j = n := by omega
      subst hjj
      have HE := Lib.hid (show X = isum (hs.map (thrH s way)) by rw [HX.out, List.take_of_length_le (by rw [HLh.out]; exact Nat.le_refl _)])
      go_wp2
      go_loopw [6, 10, 51] (fun a _ i wx => ∃ (j : Nat) (Y : Int), j ≤ m ∧ i = .int .i64 (j : Int) ∧ a = .int .i64 Y ∧ Y = X + isum ((ms.take j).map (thrM s way)) ∧ Below wr.heap.size wr wx) (fun _ _ i _ => m - (intOf i).toNat)
      case atStart => exact ⟨0, X, Nat.zero_le _, rfl, rfl, (Int.add_zero _).symm, Below.refl _ _⟩
      case round =>
        obtain ⟨i, Y, hi, rfl, rfl, hY, hb⟩ := hrel
        have HY := Lib.hid hY
        have HB2 := Lib.hid (HB.out.trans (hb.mono HB.out.size))
        have HBR := Lib.hid hb
        have q1 := HQT.out.below hb
        have HQR2 := Lib.hid (HQR.out.below hb)
        have HQT2 := Lib.hid q1
        have zz0 := q1.cell 0
        have zz1 := q1.cell 1
        simp only [List.getElem?_toArray, List.getElem?_cons_zero, List.getElem?_cons_succ] at zz0 zz1
        have zzl := q1.lt
        obtain ⟨hY1, hY2⟩ := thrM_bound HV.out s way (k := i)
        have hY3 : -2162688 ≤ Y := by rw [HY.out]; omega
        have hY4 : Y ≤ 2162688 := by rw [HY.out]; omega
        clear hb q1 hY hY1 hY2 yy0 yy1 yyl
        by_cases hjk : i < m
        case neg =>
          have hjj : i = m := by omega
          subst hjj
          have HE2 := Lib.hid (show Y = isum (hs.map (thrH s way)) + isum (ms.map (thrM s way)) by rw [HY.out, ← HE.out, List.take_of_length_le (by rw [HLm.out]; exact Nat.le_refl _)])
          go_wp2
          exact bodyPost_ret (v := .int .i64 Y) (by simp [results, Tryz.results104, go_sem]) rfl ⟨by rw [HE2.out], HB2.out⟩
        case pos =>
          have hil : i < ms.length := by rw [HLm.out]; exact hjk
          obtain ⟨b, off, rfl, hl⟩ := HOk.out.m.at_ (by dsimp only; omega)
          have hl2 := hl.below HB2.out
          obtain ⟨x0, x1, x2, x3, x4⟩ := Mvs.at_ hl2 (List.getElem?_eq_getElem hil)
          have hlt := hl2.lt
          have HSt := Lib.hid (isum_take (thrM s way) ms hil)
          have hbd := HV.out.mv_bound (List.getElem_mem hil)
          clear hl hl2
          generalize ms[i] = x at *
          obtain ⟨xi, xf, xt, xl, xh⟩ := x
          dsimp only at *
          obtain ⟨b1, b2, b3⟩ := hbd
          have p1 := HQT2.out.alloc (.cells #[.int .i64 xi, .int .i64 xf, .int .i64 xt, .int .i64 xl, .int .i64 xh] 59)
          have p2 := HQR2.out.alloc (.cells #[.int .i64 xi, .int .i64 xf, .int .i64 xt, .int .i64 xl, .int .i64 xh] 59)
          have p3 := Blk.new wr 59 #[.int .i64 xi, .int .i64 xf, .int .i64 xt, .int .i64 xl, .int .i64 xh]
          have BV := (Below.refl wr.heap.size wr).alloc (Nat.le_refl _) (.cells #[.int .i64 xi, .int .i64 xf, .int .i64 xt, .int .i64 xl, .int .i64 xh] 59)
          have HW := Lib.hid (HB2.out.trans (BV.mono HB2.out.size))
          have HBV := Lib.hid (HBR.out.trans (BV.mono HBR.out.size))
          go_upto_region 14 with fail
          generalize hV : wr.alloc (.cells #[.int .i64 xi, .int .i64 xf, .int .i64 xt, .int .i64 xl, .int .i64 xh] 59) = V at *
          generalize hg : wr.heap.size = g8 at *
          clear hV hg x0 x1 x2 x3 x4 hlt zz0 zz1 zzl BV
          have x1 := p3.cell 1
          have x2 := p3.cell 2
          simp only [List.getElem?_toArray, List.getElem?_cons_zero, List.getElem?_cons_succ] at x1 x2
          have xll := p3.lt
          have HP := Lib.hid p3
          have HPR := Lib.hid p2
          have HIn := Lib.hid (fun (y : Int) (u : World) (hu : Below V.heap.size V u) => inS_any way As k cs s (w.heap.size + 1) y u (HPR.out.below hu) (HS.out.below (HW.out.trans (hu.mono HW.out.size))) hk)
          have HInF := Lib.hid (fun u hu => HIn.out xf u hu)
          have HInT := Lib.hid (fun u hu => HIn.out xt u hu)
          have HTh := Lib.hid (show thrM s way ⟨xi, xf, xt, xl, xh⟩ = if s.contains xf = s.contains xt then 0 else if s.contains xf = decide (way = 1) then xl else - xh from rfl)
          obtain ⟨q, hq⟩ : ∃ q, s.contains xf = q := ⟨_, rfl⟩
          obtain ⟨r, hr⟩ : ∃ q, s.contains xt = q := ⟨_, rfl⟩
          rw [hq, hr] at HTh
          rw [hq] at HInF
          rw [hr] at HInT
          clear p1 p2 p3 hq hr
          obtain ⟨xc, xf'⟩ := xcell (W := V)
          refine wp_region_quiet_tail 8 (by kernel_rfl) (by kernel_rfl) ?_
          simp only [List.take_succ_cons, List.take_zero, List.drop_succ_cons, List.drop_zero]
          repeat (first | go_big_quiet_step (first | (go_at_call 132; with_reducible refine calls_ext (HInF.out _ ?_); exact Ext.below _) | (go_at_call 132; with_reducible refine calls_ext (HInT.out _ ?_); exact Ext.below _)) | quiet_step (first | (go_at_call 132; with_reducible refine calls_ext (HInF.out _ ?_); exact Ext.below _) | (go_at_call 132; with_reducible refine calls_ext (HInT.out _ ?_); exact Ext.below _)))
          refine wpQuiet_nil ?_
          intro w2 hb2
          have P2 := HP.out.below hb2
          have R2 := HPR.out.below hb2
          have HR2 := Lib.hid R2
          have HP2 := Lib.hid P2
          have c0 := R2.cell 0
          have cl := R2.lt
          have d1 := P2.cell 1
          have d3 := P2.cell 3
          have d4 := P2.cell 4
          have dl := P2.lt
          simp only [List.getElem?_toArray, List.getElem?_cons_zero, List.getElem?_cons_succ] at c0 d1 d3 d4
          have HIn2 := Lib.hid (fun (u : World) (hu : Below w2.heap.size w2 u) => HInF.out u (hb2.trans (hu.mono hb2.size)))
          clear P2 R2
          cases hqr : (q == r) with
          | true =>
            have hqr2 : q = r := by simpa using hqr
            have HQR3 := Lib.hid hqr2
            clear hqr2
            go_wp2
            go_roundw
            case rel => exact ⟨i + 1, Y, by omega, by go_num, rfl, by rw [HSt.out, HTh.out, if_pos HQR3.out, HY.out]; omega, HBV.out.trans (hb2.mono HBV.out.size)⟩
            case measure => simp [intOf]; omega
          | false =>
            have hqr2 : ¬ q = r := by simpa using hqr
            have HQR3 := Lib.hid hqr2
            clear hqr2
            cases q
            · by_cases hw1 : way = 1
              · have HW1 := Lib.hid hw1
                have hw1b : (way == 1) = true := by simpa using hw1
                clear hw1
                go_upto_region 15 with fail
                obtain ⟨xc, xf'⟩ := xcell (W := w2)
                refine wp_region_quiet_tail 7 (by kernel_rfl) (by kernel_rfl) ?_
                simp only [List.take_succ_cons, List.take_zero, List.drop_succ_cons, List.drop_zero]
                repeat (first | go_big_quiet_step ((go_at_call 132; with_reducible refine calls_ext (HIn2.out _ ?_); exact Ext.below _)) | quiet_step ((go_at_call 132; with_reducible refine calls_ext (HIn2.out _ ?_); exact Ext.below _)))
                refine wpQuiet_nil ?_
                intro w3 hb3
                have P3 := HP2.out.below hb3
                have f3 := P3.cell 3
                have f4 := P3.cell 4
                have fl := P3.lt
                simp only [List.getElem?_toArray, List.getElem?_cons_zero, List.getElem?_cons_succ] at f3 f4
                go_wp2
                go_roundw
                case rel => exact ⟨i + 1, Y - xh, by omega, by go_num, rfl, by rw [HSt.out, HTh.out, if_neg HQR3.out, HY.out]; simp [HW1.out]; omega, HBV.out.trans ((hb2.trans (hb3.mono hb2.size)).mono HBV.out.size)⟩
                case measure => simp [intOf]; omega
              · have HW1 := Lib.hid hw1
                have hw1b : (way == 1) = false := by simpa using hw1
                clear hw1
                go_upto_region 15 with fail
                obtain ⟨xc, xf'⟩ := xcell (W := w2)
                refine wp_region_quiet_tail 7 (by kernel_rfl) (by kernel_rfl) ?_
                simp only [List.take_succ_cons, List.take_zero, List.drop_succ_cons, List.drop_zero]
                repeat (first | go_big_quiet_step ((go_at_call 132; with_reducible refine calls_ext (HIn2.out _ ?_); exact Ext.below _)) | quiet_step ((go_at_call 132; with_reducible refine calls_ext (HIn2.out _ ?_); exact Ext.below _)))
                refine wpQuiet_nil ?_
                intro w3 hb3
                have P3 := HP2.out.below hb3
                have f3 := P3.cell 3
                have f4 := P3.cell 4
                have fl := P3.lt
                simp only [List.getElem?_toArray, List.getElem?_cons_zero, List.getElem?_cons_succ] at f3 f4
                go_wp2
                go_roundw
                case rel => exact ⟨i + 1, Y + xl, by omega, by go_num, rfl, by rw [HSt.out, HTh.out, if_neg HQR3.out, HY.out]; simp [HW1.out]; omega, HBV.out.trans ((hb2.trans (hb3.mono hb2.size)).mono HBV.out.size)⟩
                case measure => simp [intOf]; omega
            · by_cases hw1 : way = 1
              · have HW1 := Lib.hid hw1
                have hw1b : (way == 1) = true := by simpa using hw1
                clear hw1
                go_upto_region 15 with fail
                obtain ⟨xc, xf'⟩ := xcell (W := w2)
                refine wp_region_quiet_tail 7 (by kernel_rfl) (by kernel_rfl) ?_
                simp only [List.take_succ_cons, List.take_zero, List.drop_succ_cons, List.drop_zero]
                repeat (first | go_big_quiet_step ((go_at_call 132; with_reducible refine calls_ext (HIn2.out _ ?_); exact Ext.below _)) | quiet_step ((go_at_call 132; with_reducible refine calls_ext (HIn2.out _ ?_); exact Ext.below _)))
                refine wpQuiet_nil ?_
                intro w3 hb3
                have P3 := HP2.out.below hb3
                have f3 := P3.cell 3
                have f4 := P3.cell 4
                have fl := P3.lt
                simp only [List.getElem?_toArray, List.getElem?_cons_zero, List.getElem?_cons_succ] at f3 f4
                go_wp2
                go_roundw
                case rel => exact ⟨i + 1, Y + xl, by omega, by go_num, rfl, by rw [HSt.out, HTh.out, if_neg HQR3.out, HY.out]; simp [HW1.out]; omega, HBV.out.trans ((hb2.trans (hb3.mono hb2.size)).mono HBV.out.size)⟩
                case measure => simp [intOf]; omega
              · have HW1 := Lib.hid hw1
                have hw1b : (way == 1) = false := by simpa using hw1
                clear hw1
                go_upto_region 15 with fail
                obtain ⟨xc, xf'⟩ := xcell (W := w2)
                refine wp_region_quiet_tail 7 (by kernel_rfl) (by kernel_rfl) ?_
                simp only [List.take_succ_cons, List.take_zero, List.drop_succ_cons, List.drop_zero]
                repeat (first | go_big_quiet_step ((go_at_call 132; with_reducible refine calls_ext (HIn2.out _ ?_); exact Ext.below _)) | quiet_step ((go_at_call 132; with_reducible refine calls_ext (HIn2.out _ ?_); exact Ext.below _)))
                refine wpQuiet_nil ?_
                intro w3 hb3
                have P3 := HP2.out.below hb3
                have f3 := P3.cell 3
                have f4 := P3.cell 4
                have fl := P3.lt
                simp only [List.getElem?_toArray, List.getElem?_cons_zero, List.getElem?_cons_succ] at f3 f4
                go_wp2
                go_roundw
                case rel => exact ⟨i + 1, Y - xh, by omega, by go_num, rfl, by rw [HSt.out, HTh.out, if_neg HQR3.out, HY.out]; simp [HW1.out]; omega, HBV.out.trans ((hb2.trans (hb3.mono hb2.size)).mono HBV.out.size)⟩
                case measure => simp [intOf]; omega
    case pos =>
      have hil : j < hs.length := by rw [HLh.out]; exact hjk
      obtain ⟨b, off, rfl, hl⟩ := HOk.out.h.at_ (by dsimp only; omega)
      have hl2 := hl.below HB.out
      obtain ⟨x0, x1, x2, x3, x4, x5⟩ := Hds.at_ hl2 (List.getElem?_eq_getElem hil)
      have hlt := hl2.lt
      have HSt := Lib.hid (isum_take (thrH s way) hs hil)
      have hbd := HV.out.hd_bound (List.getElem_mem hil)
      clear hl hl2
      generalize hs[j] = x at *
      obtain ⟨xi, xsl, xsh, xel, xeh, xb⟩ := x
      dsimp only at *
      obtain ⟨b1, b2, b3, b4, b5, b6⟩ := hbd
      have p1 := HQT.out.alloc (.cells #[.int .i64 xi, .int .i64 xsl, .int .i64 xsh, .int .i64 xel, .int .i64 xeh, .int .i64 xb] 118)
      have p2 := HQR.out.alloc (.cells #[.int .i64 xi, .int .i64 xsl, .int .i64 xsh, .int .i64 xel, .int .i64 xeh, .int .i64 xb] 118)
      have p3 := Blk.new wr 118 #[.int .i64 xi, .int .i64 xsl, .int .i64 xsh, .int .i64 xel, .int .i64 xeh, .int .i64 xb]
      have BV := (Below.refl wr.heap.size wr).alloc (Nat.le_refl _) (.cells #[.int .i64 xi, .int .i64 xsl, .int .i64 xsh, .int .i64 xel, .int .i64 xeh, .int .i64 xb] 118)
      have HW := Lib.hid (HB.out.trans (BV.mono HB.out.size))
      have HBV := Lib.hid (HBW.out.trans (BV.mono HBW.out.size))
      go_upto_region 7 with fail
      generalize hV : wr.alloc (.cells #[.int .i64 xi, .int .i64 xsl, .int .i64 xsh, .int .i64 xel, .int .i64 xeh, .int .i64 xb] 118) = V at *
      generalize hg : wr.heap.size = g8 at *
      clear hV hg x0 x1 x2 x3 x4 x5 hlt yy0 yy1 yyl BV
      have x0 := p3.cell 0
      simp only [List.getElem?_toArray, List.getElem?_cons_zero] at x0
      have xl := p3.lt
      have HP := Lib.hid p3
      have HPR := Lib.hid p2
      have HIn := Lib.hid (inS_any way As k cs s (w.heap.size + 1) xi V p2 (HS.out.below HW.out) hk)
      have HTh := Lib.hid (show thrH s way ⟨xi, xsl, xsh, xel, xeh, xb⟩ = if s.contains xi = true then (if way = 1 then xel - xsh else xsl - xeh) else 0 from rfl)
      obtain ⟨q, hq⟩ : ∃ q, s.contains xi = q := ⟨_, rfl⟩
      rw [hq] at HTh HIn
      clear p1 p2 p3 hq
      cases q
      case false =>
        go_wp2_with (go_at_call 132; refine HIn.out.mono ?_; rintro e w2 ⟨rfl, hb2⟩)
        go_roundw
        case rel => exact ⟨j + 1, X, by omega, by go_num, rfl, by rw [HSt.out, ← HX.out, HTh.out]; simp, HBV.out.trans (hb2.mono HBV.out.size)⟩
        case measure => simp [intOf]; omega
      case true =>
        by_cases hw1 : way = 1
        · have hw2 : (way == 1) = true := by simpa using hw1
          have HW1 := Lib.hid hw1
          clear hw1
          go_wp2_with (go_at_call 132; refine HIn.out.mono ?_; rintro e w2 ⟨rfl, hb2⟩; have c0 := (HPR.out.below hb2).cell 0; have cl := (HPR.out.below hb2).lt; have d1 := (HP.out.below hb2).cell 1; have d2 := (HP.out.below hb2).cell 2; have d3 := (HP.out.below hb2).cell 3; have d4 := (HP.out.below hb2).cell 4; have dl := (HP.out.below hb2).lt; simp only [List.getElem?_toArray, List.getElem?_cons_zero, List.getElem?_cons_succ] at c0 d1 d2 d3 d4)
          go_roundw
          case rel => exact ⟨j + 1, X + (xel - xsh), by omega, by go_num, rfl, by rw [HSt.out, ← HX.out, HTh.out]; simp [HW1.out], HBV.out.trans (hb2.mono HBV.out.size)⟩
          case measure => simp [intOf]; omega
        · have hw2 : (way == 1) = false := by simpa using hw1
          have HW1 := Lib.hid hw1
          clear hw1
          go_wp2_with (go_at_call 132; refine HIn.out.mono ?_; rintro e w2 ⟨rfl, hb2⟩; have c0 := (HPR.out.below hb2).cell 0; have cl := (HPR.out.below hb2).lt; have d1 := (HP.out.below hb2).cell 1; have d2 := (HP.out.below hb2).cell 2; have d3 := (HP.out.below hb2).cell 3; have d4 := (HP.out.below hb2).cell 4; have dl := (HP.out.below hb2).lt; simp only [List.getElem?_toArray, List.getElem?_cons_zero, List.getElem?_cons_succ] at c0 d1 d2 d3 d4)
          go_roundw
          case rel => exact ⟨j + 1, X + (xsl - xeh), by omega, by go_num, rfl, by rw [HSt.out, ← HX.out, HTh.out]; simp [HW1.out], HBV.out.trans (hb2.mono HBV.out.size)⟩
          case measure => simp [intOf]; omega
end Go.Proofs.YtighfmgkoepfkaaGreat

namespace Go.Proofs.YtighfmgkoepfkaaGreat
open Go.RowKit

/-- What Through tells: the number and the error. -/
def thruL (hs : List Hd) (ms : List Mv) (way : Int) (s : List Int) : Int × Int := if tcheck hs ms ≠ 0 then (0, tcheck hs ms) else if formedL hs way s = false then (0, 1) else (thrL hs ms way s, 0)
set_option maxRecDepth 100000 in
set_option maxHeartbeats 3200000 in
theorem Through_any (t : TR) (way : Int) (As : Option Addr) (k cs : Nat) (s : List Int) (w : World) (h : t.Ok w) (hs' : SAt encI 1 w As k s) (hk : k ≤ 1000000) :
    Calls Tryz.prog 59 #[t.v, vCt way As k cs] w fun e w' => e = .returned (.tuple #[.int .i64 (thruL t.hs t.ms way s).1, .int .i64 (thruL t.hs t.ms way s).2]) ∧ Below w.heap.size w w' := by
  have hb0 := ((Below.refl w.heap.size w).alloc (Nat.le_refl _) (.cells #[.slice t.A t.n t.c, .slice t.B t.m t.d] 25)).alloc (by simp) (.cells #[.int .i64 way, .slice As k cs] 93)
  have HCk := Lib.hid (Check_any t _ (h.below hb0))
  have HFo := Lib.hid (fun (u : World) (hu : Below w.heap.size w u) => formed_any t way As k cs s u (h.below hu) (hs'.below hu) hk)
  have HTh := Lib.hid (fun (u : World) (hu : Below w.heap.size w u) => through_any t way As k cs s u (h.below hu) (hs'.below hu) hk)
  obtain ⟨A, n, c, B, m, d, hs, ms⟩ := t
  dsimp only [TR.v] at *
  have t0 := (Blk.new w 25 #[.slice A n c, .slice B m d]).alloc (.cells #[.int .i64 way, .slice As k cs] 93)
  have r0 := Blk.at_new (W := w.alloc (.cells #[.slice A n c, .slice B m d] 25)) (g := w.heap.size + 1) 93 #[.int .i64 way, .slice As k cs] (by simp)
  have HTc := Lib.hid (show thruL hs ms way s = if tcheck hs ms ≠ 0 then (0, tcheck hs ms) else if formedL hs way s = false then (0, 1) else (thrL hs ms way s, 0) from rfl)
  have HVv := Lib.hid (fun h : tcheck hs ms = 0 => tcheck_zero.1 h)
  generalize tcheck hs ms = ck at *
  generalize formedL hs way s = fo at *
  generalize thruL hs ms way s = res at *
  generalize thrL hs ms way s = th at *
  clear h hs'
  unfold vCt at *
  go_enter Tryz.func59, Tryz.ntmps59
  go_upto_region 1 with fail
  generalize hW : (w.alloc (.cells #[.slice A n c, .slice B m d] 25)).alloc (.cells #[.int .i64 way, .slice As k cs] 93) = W at *
  clear hW
  have HT := Lib.hid t0
  have HR := Lib.hid r0
  have HB0 := Lib.hid hb0
  have y0 := t0.cell 0
  have y1 := t0.cell 1
  simp only [List.getElem?_toArray, List.getElem?_cons_zero, List.getElem?_cons_succ] at y0 y1
  have yl := t0.lt
  clear t0 r0 hb0
  go_wp2_with fail
  refine HCk.out.mono ?_; rintro e w1 ⟨rfl, hb1⟩
  have HB1 := Lib.hid (HB0.out.trans (hb1.mono HB0.out.size))
  have HT1 := Lib.hid (HT.out.below hb1)
  have HR1 := Lib.hid (HR.out.below hb1)
  clear hb1 y0 y1 yl HT HR HB0 HCk
  by_cases hz : ck = 0
  case neg =>
    have hz1 : (ck != 0) = true := by simpa using hz
    go_wp2
    exact bodyPost_ret (v := .tuple #[.int .i64 0, .int .i64 ck]) (by simp [results, Tryz.results59, go_sem]) rfl ⟨by rw [HTc.out, if_pos hz], HB1.out⟩
  case pos =>
    subst hz
    have HVt := Lib.hid (HVv.out rfl)
    clear HVv
    have y0 := HT1.out.cell 0
    have y1 := HT1.out.cell 1
    have z0 := HR1.out.cell 0
    have z1 := HR1.out.cell 1
    simp only [List.getElem?_toArray, List.getElem?_cons_zero, List.getElem?_cons_succ] at y0 y1 z0 z1
    have yl := HT1.out.lt
    have zl := HR1.out.lt
    cases fo
    · go_wp2_with (go_at_call 103; refine (HFo.out _ HB1.out).mono ?_; rintro e w2 ⟨rfl, hb2⟩)
      exact bodyPost_ret (v := .tuple #[.int .i64 0, .int .i64 1]) (by simp [results, Tryz.results59, go_sem]) rfl ⟨by rw [HTc.out]; simp, HB1.out.trans (hb2.mono HB1.out.size)⟩
    · go_wp2_with (first | (go_at_call 103; refine (HFo.out _ HB1.out).mono ?_; rintro e w2 ⟨rfl, hb2⟩; have HT2 := HT1.out.below hb2; have HR2 := HR1.out.below hb2; have a0 := HT2.cell 0; have a1 := HT2.cell 1; have c0 := HR2.cell 0; have c1 := HR2.cell 1; have al := HT2.lt; have cl := HR2.lt; simp only [List.getElem?_toArray, List.getElem?_cons_zero, List.getElem?_cons_succ] at a0 a1 c0 c1; have HB2 := Lib.hid (HB1.out.trans (hb2.mono HB1.out.size))) | (go_at_call 104; refine (HTh.out _ HB2.out HVt.out).mono ?_; rintro e w3 ⟨rfl, hb3⟩))
      exact bodyPost_ret (v := .tuple #[.int .i64 th, .int .i64 0]) (by simp [results, Tryz.results59, go_sem]) rfl ⟨by rw [HTc.out]; simp, HB2.out.trans (hb3.mono HB2.out.size)⟩
end Go.Proofs.YtighfmgkoepfkaaGreat
