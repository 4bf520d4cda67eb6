/- The specification's add: a number put into a sorted list. -/
import Derived.Test.YtighfmgkoepfkaaGreatMS
import Derived.Test.YtighfmgkoepfkaaGreatMRb
namespace Go.Proofs.YtighfmgkoepfkaaGreat
open Go.RowKit

/-- A number put into a sorted list. -/
def insI (l : List Int) (x : Int) : List Int := l.takeWhile (fun y => decide (y < x)) ++ x :: l.dropWhile (fun y => decide (y < x))
theorem insI_perm (l : List Int) (x : Int) : (insI l x).Perm (l ++ [x]) := by
  unfold insI
  have h : l.takeWhile (fun y => decide (y < x)) ++ l.dropWhile (fun y => decide (y < x)) = l := List.takeWhile_append_dropWhile
  refine List.perm_middle.trans ?_
  rw [h]
  exact (List.perm_append_singleton x l).symm
theorem insI_sorted : ∀ {l : List Int} {x : Int}, l.Pairwise (· ≤ ·) → (insI l x).Pairwise (· ≤ ·)
  | [], x, _ => by simp [insI]
  | y :: l, x, h => by
    obtain ⟨h1, h2⟩ := List.pairwise_cons.1 h
    unfold insI
    by_cases c : y < x
    · rw [List.takeWhile_cons_of_pos (by simpa using c), List.dropWhile_cons_of_pos (by simpa using c), List.cons_append]
      refine List.pairwise_cons.2 ⟨fun z hz => ?_, insI_sorted h2⟩
      have := (insI_perm l x).mem_iff.1 hz
      rcases List.mem_append.1 this with m | m
      · exact h1 z m
      · have := List.mem_singleton.1 m; omega
    · rw [List.takeWhile_cons_of_neg (by simpa using c), List.dropWhile_cons_of_neg (by simpa using c), List.nil_append]
      refine List.pairwise_cons.2 ⟨fun z hz => ?_, h⟩
      rcases List.mem_cons.1 hz with rfl | m
      · omega
      · have := h1 z m; omega
theorem sorted_one : ∀ {l k : List Int}, l.Pairwise (· ≤ ·) → k.Pairwise (· ≤ ·) → l.Perm k → l = k
  | [], k, _, _, p => by rw [List.nil_perm.1 p]
  | x :: l, [], _, _, p => by cases List.perm_nil.1 p
  | x :: l, y :: k, hl, hk, p => by
    obtain ⟨a1, a2⟩ := List.pairwise_cons.1 hl
    obtain ⟨b1, b2⟩ := List.pairwise_cons.1 hk
    have e : x = y := by
      have h1 : x ≤ y := by
        rcases List.mem_cons.1 (p.mem_iff.2 (List.mem_cons_self (a := y) (l := k))) with q | q
        · omega
        · exact a1 _ q
      have h2 : y ≤ x := by
        rcases List.mem_cons.1 (p.mem_iff.1 (List.mem_cons_self (a := x) (l := l))) with q | q
        · omega
        · exact b1 _ q
      omega
    subst e
    rw [sorted_one a2 b2 ((List.perm_cons x).1 p)]
theorem sortI_sorted (l : List Int) : (sortI l).Pairwise (· ≤ ·) := by
  have := List.pairwise_mergeSort (le := fun x y : Int => decide (x ≤ y)) (fun a b c h1 h2 => by simp at *; omega) (fun a b => by simp; omega) l
  unfold sortI
  refine this.imp ?_
  intro a b h
  simpa using h
/-- To put one more into a sorted list is to sort the longer one. -/
theorem insI_sort (l : List Int) (x : Int) : insI (sortI l) x = sortI (l ++ [x]) := by
  refine sorted_one (insI_sorted (sortI_sorted l)) (sortI_sorted _) ?_
  refine (insI_perm _ _).trans ?_
  unfold sortI
  exact ((List.mergeSort_perm l _).append_right [x]).trans (List.mergeSort_perm _ _).symm
end Go.Proofs.YtighfmgkoepfkaaGreat

namespace Go.Proofs.YtighfmgkoepfkaaGreat
open Go.RowKit

/-- The joint invariant of add's region: slot 0 a new empty row, 4 the first k numbers, 6 the number, 7 both, 11 all. -/
structure AdP (L k n : Nat) (x : Int) (l : List Int) (ls : Nat → Bool) (vs : Nat → Value) (v : World) : Prop where
  q4 : ls 4 = true → ls 0 = true
  q7 : ls 7 = true → ls 4 = true ∧ ls 6 = true
  q11 : ls 11 = true → ls 7 = true
  b0 : ls 0 = true → ls 4 = false → v.ownsRow L 3 1 (vs 0) 0 []
  r4 : ls 4 = true → ls 7 = false → v.ownsRow L 3 1 (vs 4) k ((l.take k).flatMap encI)
  b6 : ls 6 = true → ls 7 = false → ∃ g, vs 6 = .slice (some ⟨g, 0, none⟩) 1 1 ∧ Blk v g 3 #[.int .i64 x] ∧ (ls 0 = true → ls 4 = false → (vs 0).ownBlock ≠ some g) ∧ (ls 4 = true → (vs 4).ownBlock ≠ some g)
  r7 : ls 7 = true → ls 11 = false → v.ownsRow L 3 1 (vs 7) (k + 1) ((l.take k ++ [x]).flatMap encI)
  r11 : ls 11 = true → v.ownsRow L 3 1 (vs 11) (n + 1) ((l.take k ++ x :: l.drop k).flatMap encI)
section
variable {L k n : Nat} {x : Int} {l : List Int} {ls : Nat → Bool} {vs : Nat → Value} {v v' : World}
theorem AdP.init : AdP L k n x l (fun _ => false) (fun _ => undef) v := ⟨fun h => (by cases h), fun h => (by cases h), fun h => (by cases h), fun h => (by cases h), fun h => (by cases h), fun h => (by cases h), fun h => (by cases h), fun h => (by cases h)⟩
theorem AdP.below (h : AdP L k n x l ls vs v) (hb : Below v.heap.size v v') : AdP L k n x l ls vs v' :=
  ⟨h.q4, h.q7, h.q11, fun a b => owns_below (h.b0 a b) hb, fun a b => owns_below (h.r4 a b) hb, fun a b => let ⟨g, p, q, r, s⟩ := h.b6 a b; ⟨g, p, q.below hb, r, s⟩, fun a b => owns_below (h.r7 a b) hb, fun a => owns_below (h.r11 a) hb⟩
theorem AdP.s0 (h : AdP L k n x l ls vs v) (_ : ls 4 = false) (hL : L ≤ v.heap.size) : AdP L k n x l (updB ls 0) (upd vs 0 (.slice (some ⟨v.heap.size, 0, none⟩) 0 0)) (v.alloc (.cells #[] 3)) := by
  have h2 := h.below (below_new v (.cells #[] 3))
  refine ⟨fun _ => by simp [updB], by simpa [updB] using h.q7, by simpa [updB] using h.q11, fun _ _ => by simpa [upd] using World.ownsRow_made (base := L) v #[] 0 hL (Nat.zero_le _) (by simp), fun a b => ?_, fun a b => ?_, fun a b => ?_, fun a => ?_⟩
  · simpa [updB, upd] using h2.r4 (by simpa [updB] using a) (by simpa [updB] using b)
  · obtain ⟨g, p, q, r, s⟩ := h.b6 (by simpa [updB] using a) (by simpa [updB] using b)
    refine ⟨g, by simpa [upd] using p, q.alloc _, fun _ _ e => ?_, fun c => by have := s (by simpa [updB] using c); simpa [upd] using this⟩
    have := q.lt
    simp [upd, Value.ownBlock] at e
    omega
  · simpa [updB, upd] using h2.r7 (by simpa [updB] using a) (by simpa [updB] using b)
  · simpa [updB, upd] using h2.r11 (by simpa [updB] using a)
theorem AdP.s6 (h : AdP L k n x l ls vs v) (h7 : ls 7 = false) : AdP L k n x l (updB ls 6) (upd vs 6 (.slice (some ⟨v.heap.size, 0, none⟩) 1 1)) (v.alloc (.cells #[.int .i64 x] 3)) := by
  have h2 := h.below (below_new v (.cells #[.int .i64 x] 3))
  refine ⟨by simpa [updB] using h.q4, fun a => ?_, by simpa [updB] using h.q11, fun a b => ?_, fun a b => ?_, fun _ _ => ⟨v.heap.size, by simp [upd], Blk.new _ _ _, fun a b e => ?_, fun a e => ?_⟩, fun a b => ?_, fun a => ?_⟩
  · have a2 : ls 7 = true := by simpa [updB] using a
    rw [h7] at a2; cases a2
  · simpa [updB, upd] using h2.b0 (by simpa [updB] using a) (by simpa [updB] using b)
  · simpa [updB, upd] using h2.r4 (by simpa [updB] using a) (by simpa [updB] using b)
  · have r := h.b0 (by simpa [updB] using a) (by simpa [updB] using b)
    have := own_lt r (by simpa [upd] using e)
    omega
  · have r := h.r4 (by simpa [updB] using a) h7
    have := own_lt r (by simpa [upd] using e)
    omega
  · simpa [updB, upd] using h2.r7 (by simpa [updB] using a) (by simpa [updB] using b)
  · simpa [updB, upd] using h2.r11 (by simpa [updB] using a)
theorem AdP.s4 (h : AdP L k n x l ls vs v) (h0 : ls 0 = true) (h4 : ls 4 = false) {u : Value} (hg : v.grownBy v' (vs 0).ownBlock) (hr : v'.ownsRow L 3 1 u k ((l.take k).flatMap encI)) (hat : u.ownBlock = (vs 0).ownBlock ∨ u.ownBlock = some v.heap.size) : AdP L k n x l (updB ls 4) (upd vs 4 u) v' := by
  have h7 : ls 7 = false := by
    cases q : ls 7 with
    | false => rfl
    | true => have := (h.q7 q).1; rw [h4] at this; cases this
  have h11 : ls 11 = false := by
    cases q : ls 11 with
    | false => rfl
    | true => have := h.q11 q; rw [h7] at this; cases this
  refine ⟨fun _ => by simpa [updB] using h0, fun a => ?_, fun a => ?_, fun _ b => by simp [updB] at b, fun _ _ => by simpa [upd] using hr, fun a b => ?_, fun a b => ?_, fun a => ?_⟩
  · have a2 : ls 7 = true := by simpa [updB] using a
    rw [h7] at a2; cases a2
  · have a2 : ls 11 = true := by simpa [updB] using a
    rw [h11] at a2; cases a2
  · obtain ⟨g, p, q, r, s⟩ := h.b6 (by simpa [updB] using a) h7
    have r := r h0 h4
    refine ⟨g, by simpa [upd] using p, q.grown hg r, fun _ b => by simp [updB] at b, fun _ => ?_⟩
    simp only [upd, if_true]
    rcases hat with e | e
    · rw [e]; exact r
    · rw [e]; intro e2; have := q.lt; have := Option.some.inj e2; omega
  · have a2 : ls 7 = true := by simpa [updB] using a
    rw [h7] at a2; cases a2
  · have a2 : ls 11 = true := by simpa [updB] using a
    rw [h11] at a2; cases a2
theorem AdP.s7 (h : AdP L k n x l ls vs v) (h4 : ls 4 = true) (h6 : ls 6 = true) (h7 : ls 7 = false) {u : Value} (hr : v'.ownsRow L 3 1 u (k + 1) ((l.take k ++ [x]).flatMap encI)) : AdP L k n x l (updB ls 7) (upd vs 7 u) v' := by
  have h11 : ls 11 = false := by
    cases q : ls 11 with
    | false => rfl
    | true => have := h.q11 q; rw [h7] at this; cases this
  refine ⟨fun _ => by simpa [updB] using h.q4 h4, fun _ => ⟨by simpa [updB] using h4, by simpa [updB] using h6⟩, fun _ => by simp [updB], fun _ b => ?_, fun _ b => by simp [updB] at b, fun _ b => by simp [updB] at b, fun _ _ => by simpa [upd] using hr, fun a => ?_⟩
  · have b2 : ls 4 = false := by simpa [updB] using b
    rw [h4] at b2; cases b2
  · have a2 : ls 11 = true := by simpa [updB] using a
    rw [h11] at a2; cases a2
theorem AdP.s11 (h : AdP L k n x l ls vs v) (h7 : ls 7 = true) {u : Value} (hr : v'.ownsRow L 3 1 u (n + 1) ((l.take k ++ x :: l.drop k).flatMap encI)) : AdP L k n x l (updB ls 11) (upd vs 11 u) v' := by
  obtain ⟨h4, h6⟩ := h.q7 h7
  refine ⟨fun _ => by simpa [updB] using h.q4 h4, fun _ => ⟨by simpa [updB] using h4, by simpa [updB] using h6⟩, fun _ => by simpa [updB] using h7, fun _ b => ?_, fun _ b => ?_, fun _ b => ?_, fun _ b => by simp [updB] at b, fun _ => by simpa [upd] using hr⟩
  · have b2 : ls 4 = false := by simpa [updB] using b
    rw [h4] at b2; cases b2
  · have b2 : ls 7 = false := by simpa [updB] using b
    rw [h7] at b2; cases b2
  · have b2 : ls 7 = false := by simpa [updB] using b
    rw [h7] at b2; cases b2
end
end Go.Proofs.YtighfmgkoepfkaaGreat

namespace Go.Proofs.YtighfmgkoepfkaaGreat
open Go.RowKit

theorem insI_at : ∀ (l : List Int) (k : Nat) (x : Int), k ≤ l.length → (∀ j (q : j < l.length), j < k → l[j] < x) → (∀ q : k < l.length, ¬ l[k] < x) → insI l x = l.take k ++ x :: l.drop k
  | [], k, x, h, _, _ => by simp [insI]
  | y :: l, 0, x, _, _, h2 => by
    have h2 : ¬ y < x := h2 (by simp)
    simp [insI, h2]
  | y :: l, k + 1, x, h, h1, h2 => by
    have h0 : y < x := h1 0 (by simp) (by omega)
    have := insI_at l k x (by simpa using h) (fun j q hj => by have := h1 (j + 1) (by simpa using q) (by omega); simpa using this) (fun q => by have := h2 (by simpa using q); simpa using this)
    unfold insI at this ⊢
    rw [List.takeWhile_cons_of_pos (by simpa using h0), List.dropWhile_cons_of_pos (by simpa using h0), List.cons_append, this]
    simp
theorem Ls.dropI {w : World} {b off : Nat} {l : List Int} (h : Ls encI 1 w b off l) (n : Nat) : Ls encI 1 w b (off + n) (l.drop n) :=
  ⟨h.lt, fun i x hi j v hv => by
    rw [List.getElem?_drop] at hi
    have := h.c (n + i) x hi j v hv
    rwa [show off + n + i * 1 + j = off + (n + i) * 1 + j by omega]⟩
theorem Ls.sat {w : World} {b off n : Nat} {l : List Int} (h : Ls encI 1 w b off l) (hn : l.length = n) : SAt encI 1 w (some ⟨b, off, none⟩) n l := ⟨hn, fun _ => ⟨b, off, rfl, h⟩⟩
/-- A list as add takes it: nothing, or a slice that reads as it. -/
def AdIn (w : World) (v : Value) (l : List Int) : Prop :=
  (v = .slice none 0 0 ∧ l = []) ∨ ∃ b off c, v = .slice (some ⟨b, off, none⟩) l.length c ∧ 0 < l.length ∧ l.length ≤ c ∧ Ls encI 1 w b off l
def AdOut (w : World) (l : List Int) (x : Int) (en : Ending) (w' : World) : Prop :=
  ∃ v, en = .returned v ∧ w'.ownsRow w.heap.size 3 1 v (l.length + 1) ((insI l x).flatMap encI) ∧ Below w.heap.size w w'
theorem AdIn.below {w w' : World} {v : Value} {l : List Int} (h : AdIn w v l) (hb : Below w.heap.size w w') : AdIn w' v l := by
  rcases h with h | ⟨b, off, c, e, h1, h2, h3⟩
  · exact .inl h
  · exact .inr ⟨b, off, c, e, h1, h2, h3.below hb⟩
theorem AdIn.row {w : World} {base n : Nat} {v : Value} {l : List Int} (h : w.ownsRow base 3 1 v n (l.flatMap encI)) (hn : l.length = n) (h0 : l = [] → v = .slice none 0 0) : AdIn w v l := by
  subst hn
  by_cases q : 0 < l.length
  · obtain ⟨g, cap, rfl⟩ := Joins.ownsRow_form h q
    exact .inr ⟨g, 0, cap, rfl, q, owns_cap h, Ls_of_row encI_len rfl h⟩
  · have e := List.eq_nil_of_length_eq_zero (Nat.eq_zero_of_not_pos q)
    exact .inl ⟨h0 e, e⟩

set_option maxRecDepth 100000 in
set_option maxHeartbeats 6400000 in
theorem add_some (b off n c : Nat) (l : List Int) (x : Int) (w : World) (h : Ls encI 1 w b off l) (hn : l.length = n) (hc : n ≤ c) (hm : n ≤ 1000) (h0 : 0 < n) :
    Calls Tryz.prog 70 #[.slice (some ⟨b, off, none⟩) n c, .int .i64 x] w (AdOut w l x) := by
  have HK := Lib.hid h
  have HN := Lib.hid hn
  obtain ⟨i0, hi0, hi1, hi2, hi3⟩ := info_parts info_int
  have HI := Lib.hid (And.intro hi0 (And.intro hi1 (And.intro hi2 hi3)))
  have HAt := Lib.hid (fun (k : Nat) h1 h2 h3 => insI_at l k x h1 h2 h3)
  clear h hn hi0 hi1 hi2 hi3
  go_enter Tryz.func70, Tryz.ntmps70
  go_wp2
  go_loopw [5] (fun i wx => ∃ k : Nat, k ≤ n ∧ i = .int .i64 (k : Int) ∧ (∀ j (q : j < l.length), j < k → l[j] < x) ∧ Below w.heap.size w wx) (fun i _ => n - (intOf i).toNat)
  case atStart => exact ⟨0, Nat.zero_le _, rfl, fun j _ hj => absurd hj (Nat.not_lt_zero j), Below.refl _ _⟩
  case round =>
    obtain ⟨k, hk, rfl, hall, hb⟩ := hrel
    have HAll := Lib.hid hall
    have HB := Lib.hid hb
    have HKn := Lib.hid hk
    have HLk := Lib.hid (fun (v : World) (hv : Below w.heap.size w v) => And.intro (((HK.out.below hv).take k).sat (n := k) (by rw [List.length_take]; have := HN.out; omega)) (((HK.out.below hv).dropI k).sat (n := n - k) (by rw [List.length_drop]; have := HN.out; omega)))
    clear hall hb
    by_cases hkn : k < n
    case pos =>
      have hkl : k < l.length := by rw [HN.out]; exact hkn
      have hK := HK.out.below HB.out
      have u0 := hK.c k _ (List.getElem?_eq_getElem hkl) 0 _ rfl
      rw [Nat.add_zero, Nat.mul_one] at u0
      have ul := hK.lt
      have HY := Lib.hid (fun (q : l[k] < x) j (hl : j < l.length) (hj : j < k + 1) => (show l[j] < x from if e : j = k then by subst e; exact q else HAll.out j hl (by omega)))
      have HZ := Lib.hid (fun (q : ¬ l[k] < x) => HAt.out k (by have := HN.out; omega) HAll.out (fun _ => by omega))
      clear hK
      generalize l[k] = y at *
      by_cases hy : y < x
      case pos =>
        have hyb : decide (y < x) = true := decide_eq_true hy
        go_wp2_with fail
        go_roundw
        case rel => exact ⟨k + 1, by omega, by go_num, HY.out hy, HB.out⟩
        case measure => simp [intOf]; omega
      case neg =>
        have hyb : decide (y < x) = false := decide_eq_false hy
        have HIn := Lib.hid (HZ.out hy)
        clear HY HZ hy
        have hck : ¬ c = k := by omega
        go_upto_region 4 with fail
        clear u0 ul
        have hbase : w.heap.size ≤ wr.heap.size := HB.out.size
        refine wp_region_preC 12 [(0, 20), (4, 24), (6, 26), (7, 27), (11, 31)] (fun v => Below w.heap.size w v) (AdP w.heap.size (k) (n) x l) (by kernel_rfl) (by kernel_rfl) HB.out (fun v v' h kk => h.trans (kk.mono h.size)) (fun v _ => AdP.init) (fun ls vs v v' _ h kk => h.below kk) ?_
        apply Exists.intro
        refine ⟨?walk, ?loud, ?last⟩
        case walk =>
          intro V hV
          obtain ⟨xc, xf'⟩ := xcell (W := V)
          simp only [List.take_succ_cons, List.take_zero, qOf, isLoud, List.any_cons, List.any_nil, Nat.reduceBEq, Bool.or_false, Bool.or_true, Nat.reduceAdd, Bool.false_eq_true, if_true, if_false, beq_self_eq_true, Nat.zero_add]
          repeat (first | go_big_quiet_step (fail) | quiet_step (fail))
          exact wpQuiet_nil rfl
        case loud =>
          rintro pp hpp vs v hC ls hI hls hw o ho
          simp only [List.mem_cons, List.not_mem_nil, or_false] at hpp
          rcases hpp with rfl | rfl | rfl | rfl | rfl
          · have h4 : ls 4 = false := by
              cases q : ls 4 with
              | false => rfl
              | true => exact absurd (hI.q4 q) (by rw [hls]; decide)
            simp only [List.getElem?_cons_zero, Option.some.injEq] at ho
            subst ho
            simp [loudAt, loudUpon, go_sem, execOp, putsL, Act.put]
            exact ⟨hC.alloc hC.size _, hI.s0 h4 hC.size⟩
          · have h0 := hw (0, 20) (by simp) (by kernel_rfl)
            have r0 := hI.b0 h0 hls
            simp only [List.getElem?_cons_succ, List.getElem?_cons_zero, Option.some.injEq] at ho
            subst ho
            have ht := HLk.out v (hC)
            refine loudAt_append (.tmp 20) (.tmp 23) 42 rfl w.heap.size 3 i0 (.int .i64 0) 1 8 Tryz.underlying42 HI.out.1 HI.out.2.1 HI.out.2.2.1 HI.out.2.2.2 rfl (by decide) (vs 0) 0 [] rfl r0 ⟨b, off, none⟩ (k) c ((l.take (k)).flatMap encI) rfl (by rw [flat_len encI_len, List.length_take, Nat.mul_one]; have := HN.out; omega) (ht.1.flat encI_len (by decide)) (encI_one _) (by unfold maxLen; omega) (by omega) hC.size ?_
            intro v' w3 hown hgrow hat
            exact ⟨hC.grown hgrow hC.size (fun r hr => (own_lt r0 hr).1), hI.s4 h0 hls hgrow (by simpa using hown) hat⟩
          · have h7 : ls 7 = false := by
              cases q : ls 7 with
              | false => rfl
              | true => exact absurd (hI.q7 q).2 (by rw [hls]; decide)
            simp only [List.getElem?_cons_succ, List.getElem?_cons_zero, Option.some.injEq] at ho
            subst ho
            simp [loudAt, loudUpon, go_sem, execOp, putsL, Act.put]
            exact ⟨hC.alloc hC.size _, hI.s6 h7⟩
          · have h4 := hw (4, 24) (by simp) (by kernel_rfl)
            have h6 := hw (6, 26) (by simp) (by kernel_rfl)
            have r4 := hI.r4 h4 hls
            obtain ⟨g6, e6, hb6, _, _⟩ := hI.b6 h6 hls
            simp only [List.getElem?_cons_succ, List.getElem?_cons_zero, Option.some.injEq] at ho
            subst ho
            refine loudAt_append (.tmp 24) (.tmp 26) 42 rfl w.heap.size 3 i0 (.int .i64 0) 1 8 Tryz.underlying42 HI.out.1 HI.out.2.1 HI.out.2.2.1 HI.out.2.2.2 rfl (by decide) (vs 4) (k) ((l.take (k)).flatMap encI) rfl r4 ⟨g6, 0, none⟩ 1 1 [.int .i64 x] e6 rfl (fun j u hj => ?_) (by simp [Value.oneCell']) (by unfold maxLen; omega) (by omega) hC.size ?_
            · have := hb6.cell j
              have hadd : (⟨g6, 0, none⟩ : Addr).add j = ⟨g6, j, none⟩ := by unfold Addr.add; split <;> simp_all
              rw [hadd, this]
              simpa using hj
            intro v' w3 hown hgrow hat
            exact ⟨hC.grown hgrow hC.size (fun r hr => (own_lt r4 hr).1), hI.s7 h4 h6 hls (by rw [List.flatMap_append]; exact hown)⟩
          · have h7 := hw (7, 27) (by simp) (by kernel_rfl)
            have r7 := hI.r7 h7 hls
            simp only [List.getElem?_cons_succ, List.getElem?_cons_zero, Option.some.injEq] at ho
            subst ho
            have ht := HLk.out v (hC)
            refine loudAt_append (.tmp 27) (.tmp 30) 42 rfl w.heap.size 3 i0 (.int .i64 0) 1 8 Tryz.underlying42 HI.out.1 HI.out.2.1 HI.out.2.2.1 HI.out.2.2.2 rfl (by decide) (vs 7) (k + 1) ((l.take (k) ++ [x]).flatMap encI) rfl r7 ⟨b, off + k, none⟩ (n - k) (c - k) ((l.drop (k)).flatMap encI) rfl (by rw [flat_len encI_len, List.length_drop, Nat.mul_one]; have := HN.out; omega) (ht.2.flat encI_len (by decide)) (encI_one _) (by unfold maxLen; omega) (by omega) hC.size ?_
            intro v' w3 hown hgrow hat
            exact ⟨hC.grown hgrow hC.size (fun r hr => (own_lt r7 hr).1), hI.s11 h7 (by have := HKn.out; rw [show n + 1 = k + 1 + (n - k) by omega, show l.take (k) ++ x :: l.drop (k) = (l.take (k) ++ [x]) ++ l.drop (k) by simp, List.flatMap_append]; exact hown)⟩
        case last =>
        rintro ls vs V hV hI hls
        have r11 := hI.r11 (hls (11, 31) (by simp))
        obtain ⟨A1, c1, e1⟩ := owns_slice r11
        rw [e1] at r11
        have HVb := Lib.hid hV
        have HVr := Lib.hid r11
        clear hI hls hV r11
        simp only [putsL, List.foldl_cons, List.foldl_nil, List.drop_succ_cons, List.drop_zero, Act.put, e1, List.setIfInBounds_toArray, List.set_cons_succ, List.set_cons_zero]
        generalize vs 0 = v0 at *
        generalize vs 4 = v4 at *
        generalize vs 6 = v6 at *
        generalize vs 7 = v7 at *
        clear e1
        go_wp2
        refine bodyPost_ret (v := .slice A1 (n + 1) c1) (by simp [results, Tryz.results70, go_sem]) rfl ⟨_, rfl, ?_, HVb.out⟩
        rw [HIn.out, HN.out]
        exact HVr.out
    case neg =>
      obtain rfl : k = n := by omega
      have HIn := Lib.hid (HAt.out k (by have := HN.out; omega) HAll.out (fun q => absurd q (by have := HN.out; omega)))
      by_cases hcn : c = k
      case pos =>
        subst hcn
        go_upto_region 4 with fail
        have hbase : w.heap.size ≤ wr.heap.size := HB.out.size
        refine wp_region_preC 12 [(0, 20), (4, 24), (6, 26), (7, 27), (11, 31)] (fun v => Below w.heap.size w v) (AdP w.heap.size (c) (c) x l) (by kernel_rfl) (by kernel_rfl) HB.out (fun v v' h kk => h.trans (kk.mono h.size)) (fun v _ => AdP.init) (fun ls vs v v' _ h kk => h.below kk) ?_
        apply Exists.intro
        refine ⟨?walk, ?loud, ?last⟩
        case walk =>
          intro V hV
          obtain ⟨xc, xf'⟩ := xcell (W := V)
          simp only [List.take_succ_cons, List.take_zero, qOf, isLoud, List.any_cons, List.any_nil, Nat.reduceBEq, Bool.or_false, Bool.or_true, Nat.reduceAdd, Bool.false_eq_true, if_true, if_false, beq_self_eq_true, Nat.zero_add]
          repeat (first | go_big_quiet_step (fail) | quiet_step (fail))
          exact wpQuiet_nil rfl
        case loud =>
          rintro pp hpp vs v hC ls hI hls hw o ho
          simp only [List.mem_cons, List.not_mem_nil, or_false] at hpp
          rcases hpp with rfl | rfl | rfl | rfl | rfl
          · have h4 : ls 4 = false := by
              cases q : ls 4 with
              | false => rfl
              | true => exact absurd (hI.q4 q) (by rw [hls]; decide)
            simp only [List.getElem?_cons_zero, Option.some.injEq] at ho
            subst ho
            simp [loudAt, loudUpon, go_sem, execOp, putsL, Act.put]
            exact ⟨hC.alloc hC.size _, hI.s0 h4 hC.size⟩
          · have h0 := hw (0, 20) (by simp) (by kernel_rfl)
            have r0 := hI.b0 h0 hls
            simp only [List.getElem?_cons_succ, List.getElem?_cons_zero, Option.some.injEq] at ho
            subst ho
            have ht := HLk.out v (hC)
            refine loudAt_append (.tmp 20) (.tmp 23) 42 rfl w.heap.size 3 i0 (.int .i64 0) 1 8 Tryz.underlying42 HI.out.1 HI.out.2.1 HI.out.2.2.1 HI.out.2.2.2 rfl (by decide) (vs 0) 0 [] rfl r0 ⟨b, off, none⟩ (c) c ((l.take (c)).flatMap encI) rfl (by rw [flat_len encI_len, List.length_take, Nat.mul_one]; have := HN.out; omega) (ht.1.flat encI_len (by decide)) (encI_one _) (by unfold maxLen; omega) (by omega) hC.size ?_
            intro v' w3 hown hgrow hat
            exact ⟨hC.grown hgrow hC.size (fun r hr => (own_lt r0 hr).1), hI.s4 h0 hls hgrow (by simpa using hown) hat⟩
          · have h7 : ls 7 = false := by
              cases q : ls 7 with
              | false => rfl
              | true => exact absurd (hI.q7 q).2 (by rw [hls]; decide)
            simp only [List.getElem?_cons_succ, List.getElem?_cons_zero, Option.some.injEq] at ho
            subst ho
            simp [loudAt, loudUpon, go_sem, execOp, putsL, Act.put]
            exact ⟨hC.alloc hC.size _, hI.s6 h7⟩
          · have h4 := hw (4, 24) (by simp) (by kernel_rfl)
            have h6 := hw (6, 26) (by simp) (by kernel_rfl)
            have r4 := hI.r4 h4 hls
            obtain ⟨g6, e6, hb6, _, _⟩ := hI.b6 h6 hls
            simp only [List.getElem?_cons_succ, List.getElem?_cons_zero, Option.some.injEq] at ho
            subst ho
            refine loudAt_append (.tmp 24) (.tmp 26) 42 rfl w.heap.size 3 i0 (.int .i64 0) 1 8 Tryz.underlying42 HI.out.1 HI.out.2.1 HI.out.2.2.1 HI.out.2.2.2 rfl (by decide) (vs 4) (c) ((l.take (c)).flatMap encI) rfl r4 ⟨g6, 0, none⟩ 1 1 [.int .i64 x] e6 rfl (fun j u hj => ?_) (by simp [Value.oneCell']) (by unfold maxLen; omega) (by omega) hC.size ?_
            · have := hb6.cell j
              have hadd : (⟨g6, 0, none⟩ : Addr).add j = ⟨g6, j, none⟩ := by unfold Addr.add; split <;> simp_all
              rw [hadd, this]
              simpa using hj
            intro v' w3 hown hgrow hat
            exact ⟨hC.grown hgrow hC.size (fun r hr => (own_lt r4 hr).1), hI.s7 h4 h6 hls (by rw [List.flatMap_append]; exact hown)⟩
          · have h7 := hw (7, 27) (by simp) (by kernel_rfl)
            have r7 := hI.r7 h7 hls
            simp only [List.getElem?_cons_succ, List.getElem?_cons_zero, Option.some.injEq] at ho
            subst ho
            have ht := HLk.out v (hC)
            refine loudAt_append (.tmp 27) (.tmp 30) 42 rfl w.heap.size 3 i0 (.int .i64 0) 1 8 Tryz.underlying42 HI.out.1 HI.out.2.1 HI.out.2.2.1 HI.out.2.2.2 rfl (by decide) (vs 7) (c + 1) ((l.take (c) ++ [x]).flatMap encI) rfl r7 ⟨b, off, none⟩ (0) (0) ((l.drop (c)).flatMap encI) rfl (by rw [flat_len encI_len, List.length_drop, Nat.mul_one]; have := HN.out; omega) (fun j u hu => by rw [List.drop_of_length_le (by have := HN.out; omega)] at hu; simp at hu) (encI_one _) (by unfold maxLen; omega) (by omega) hC.size ?_
            intro v' w3 hown hgrow hat
            exact ⟨hC.grown hgrow hC.size (fun r hr => (own_lt r7 hr).1), hI.s11 h7 (by have := HKn.out; rw [show c + 1 = c + 1 + (0) by omega, show l.take (c) ++ x :: l.drop (c) = (l.take (c) ++ [x]) ++ l.drop (c) by simp, List.flatMap_append]; exact hown)⟩
        case last =>
        rintro ls vs V hV hI hls
        have r11 := hI.r11 (hls (11, 31) (by simp))
        obtain ⟨A1, c1, e1⟩ := owns_slice r11
        rw [e1] at r11
        have HVb := Lib.hid hV
        have HVr := Lib.hid r11
        clear hI hls hV r11
        simp only [putsL, List.foldl_cons, List.foldl_nil, List.drop_succ_cons, List.drop_zero, Act.put, e1, List.setIfInBounds_toArray, List.set_cons_succ, List.set_cons_zero]
        generalize vs 0 = v0 at *
        generalize vs 4 = v4 at *
        generalize vs 6 = v6 at *
        generalize vs 7 = v7 at *
        clear e1
        go_wp2
        refine bodyPost_ret (v := .slice A1 (c + 1) c1) (by simp [results, Tryz.results70, go_sem]) rfl ⟨_, rfl, ?_, HVb.out⟩
        rw [HIn.out, HN.out]
        exact HVr.out
      case neg =>
        go_upto_region 4 with fail
        have hbase : w.heap.size ≤ wr.heap.size := HB.out.size
        refine wp_region_preC 12 [(0, 20), (4, 24), (6, 26), (7, 27), (11, 31)] (fun v => Below w.heap.size w v) (AdP w.heap.size (k) (k) x l) (by kernel_rfl) (by kernel_rfl) HB.out (fun v v' h kk => h.trans (kk.mono h.size)) (fun v _ => AdP.init) (fun ls vs v v' _ h kk => h.below kk) ?_
        apply Exists.intro
        refine ⟨?walk, ?loud, ?last⟩
        case walk =>
          intro V hV
          obtain ⟨xc, xf'⟩ := xcell (W := V)
          simp only [List.take_succ_cons, List.take_zero, qOf, isLoud, List.any_cons, List.any_nil, Nat.reduceBEq, Bool.or_false, Bool.or_true, Nat.reduceAdd, Bool.false_eq_true, if_true, if_false, beq_self_eq_true, Nat.zero_add]
          repeat (first | go_big_quiet_step (fail) | quiet_step (fail))
          exact wpQuiet_nil rfl
        case loud =>
          rintro pp hpp vs v hC ls hI hls hw o ho
          simp only [List.mem_cons, List.not_mem_nil, or_false] at hpp
          rcases hpp with rfl | rfl | rfl | rfl | rfl
          · have h4 : ls 4 = false := by
              cases q : ls 4 with
              | false => rfl
              | true => exact absurd (hI.q4 q) (by rw [hls]; decide)
            simp only [List.getElem?_cons_zero, Option.some.injEq] at ho
            subst ho
            simp [loudAt, loudUpon, go_sem, execOp, putsL, Act.put]
            exact ⟨hC.alloc hC.size _, hI.s0 h4 hC.size⟩
          · have h0 := hw (0, 20) (by simp) (by kernel_rfl)
            have r0 := hI.b0 h0 hls
            simp only [List.getElem?_cons_succ, List.getElem?_cons_zero, Option.some.injEq] at ho
            subst ho
            have ht := HLk.out v (hC)
            refine loudAt_append (.tmp 20) (.tmp 23) 42 rfl w.heap.size 3 i0 (.int .i64 0) 1 8 Tryz.underlying42 HI.out.1 HI.out.2.1 HI.out.2.2.1 HI.out.2.2.2 rfl (by decide) (vs 0) 0 [] rfl r0 ⟨b, off, none⟩ (k) c ((l.take (k)).flatMap encI) rfl (by rw [flat_len encI_len, List.length_take, Nat.mul_one]; have := HN.out; omega) (ht.1.flat encI_len (by decide)) (encI_one _) (by unfold maxLen; omega) (by omega) hC.size ?_
            intro v' w3 hown hgrow hat
            exact ⟨hC.grown hgrow hC.size (fun r hr => (own_lt r0 hr).1), hI.s4 h0 hls hgrow (by simpa using hown) hat⟩
          · have h7 : ls 7 = false := by
              cases q : ls 7 with
              | false => rfl
              | true => exact absurd (hI.q7 q).2 (by rw [hls]; decide)
            simp only [List.getElem?_cons_succ, List.getElem?_cons_zero, Option.some.injEq] at ho
            subst ho
            simp [loudAt, loudUpon, go_sem, execOp, putsL, Act.put]
            exact ⟨hC.alloc hC.size _, hI.s6 h7⟩
          · have h4 := hw (4, 24) (by simp) (by kernel_rfl)
            have h6 := hw (6, 26) (by simp) (by kernel_rfl)
            have r4 := hI.r4 h4 hls
            obtain ⟨g6, e6, hb6, _, _⟩ := hI.b6 h6 hls
            simp only [List.getElem?_cons_succ, List.getElem?_cons_zero, Option.some.injEq] at ho
            subst ho
            refine loudAt_append (.tmp 24) (.tmp 26) 42 rfl w.heap.size 3 i0 (.int .i64 0) 1 8 Tryz.underlying42 HI.out.1 HI.out.2.1 HI.out.2.2.1 HI.out.2.2.2 rfl (by decide) (vs 4) (k) ((l.take (k)).flatMap encI) rfl r4 ⟨g6, 0, none⟩ 1 1 [.int .i64 x] e6 rfl (fun j u hj => ?_) (by simp [Value.oneCell']) (by unfold maxLen; omega) (by omega) hC.size ?_
            · have := hb6.cell j
              have hadd : (⟨g6, 0, none⟩ : Addr).add j = ⟨g6, j, none⟩ := by unfold Addr.add; split <;> simp_all
              rw [hadd, this]
              simpa using hj
            intro v' w3 hown hgrow hat
            exact ⟨hC.grown hgrow hC.size (fun r hr => (own_lt r4 hr).1), hI.s7 h4 h6 hls (by rw [List.flatMap_append]; exact hown)⟩
          · have h7 := hw (7, 27) (by simp) (by kernel_rfl)
            have r7 := hI.r7 h7 hls
            simp only [List.getElem?_cons_succ, List.getElem?_cons_zero, Option.some.injEq] at ho
            subst ho
            have ht := HLk.out v (hC)
            refine loudAt_append (.tmp 27) (.tmp 30) 42 rfl w.heap.size 3 i0 (.int .i64 0) 1 8 Tryz.underlying42 HI.out.1 HI.out.2.1 HI.out.2.2.1 HI.out.2.2.2 rfl (by decide) (vs 7) (k + 1) ((l.take (k) ++ [x]).flatMap encI) rfl r7 ⟨b, off + k, none⟩ (0) (c - k) ((l.drop (k)).flatMap encI) rfl (by rw [flat_len encI_len, List.length_drop, Nat.mul_one]; have := HN.out; omega) (ht.2.flat encI_len (by decide)) (encI_one _) (by unfold maxLen; omega) (by omega) hC.size ?_
            intro v' w3 hown hgrow hat
            exact ⟨hC.grown hgrow hC.size (fun r hr => (own_lt r7 hr).1), hI.s11 h7 (by have := HKn.out; rw [show k + 1 = k + 1 + (0) by omega, show l.take (k) ++ x :: l.drop (k) = (l.take (k) ++ [x]) ++ l.drop (k) by simp, List.flatMap_append]; exact hown)⟩
        case last =>
        rintro ls vs V hV hI hls
        have r11 := hI.r11 (hls (11, 31) (by simp))
        obtain ⟨A1, c1, e1⟩ := owns_slice r11
        rw [e1] at r11
        have HVb := Lib.hid hV
        have HVr := Lib.hid r11
        clear hI hls hV r11
        simp only [putsL, List.foldl_cons, List.foldl_nil, List.drop_succ_cons, List.drop_zero, Act.put, e1, List.setIfInBounds_toArray, List.set_cons_succ, List.set_cons_zero]
        generalize vs 0 = v0 at *
        generalize vs 4 = v4 at *
        generalize vs 6 = v6 at *
        generalize vs 7 = v7 at *
        clear e1
        go_wp2
        refine bodyPost_ret (v := .slice A1 (k + 1) c1) (by simp [results, Tryz.results70, go_sem]) rfl ⟨_, rfl, ?_, HVb.out⟩
        rw [HIn.out, HN.out]
        exact HVr.out
set_option maxRecDepth 100000 in
set_option maxHeartbeats 6400000 in
theorem add_nil (x : Int) (w : World) : Calls Tryz.prog 70 #[.slice none 0 0, .int .i64 x] w (AdOut w [] x) := by
  obtain ⟨i0, hi0, hi1, hi2, hi3⟩ := info_parts info_int
  have HI := Lib.hid (And.intro hi0 (And.intro hi1 (And.intro hi2 hi3)))
  obtain ⟨l, hl⟩ : ∃ l : List Int, l = [] := ⟨_, rfl⟩
  have HIn := Lib.hid (show insI l x = l.take 0 ++ x :: l.drop 0 by rw [hl]; rfl)
  have HN := Lib.hid (show l.length = 0 by rw [hl]; rfl)
  rw [← hl]
  clear hi0 hi1 hi2 hi3
  go_enter Tryz.func70, Tryz.ntmps70
  go_wp2
  go_loopw [5] (fun i wx => i = .int .i64 0 ∧ Below w.heap.size w wx) (fun i _ => 0)
  case atStart => exact ⟨rfl, Below.refl _ _⟩
  case round =>
    obtain ⟨rfl, hb⟩ := hrel
    have HB := Lib.hid hb
    clear hb
    subst hl
    go_upto_region 4 with fail
    have hbase : w.heap.size ≤ wr.heap.size := HB.out.size
    refine wp_region_preC 12 [(0, 20), (4, 24), (6, 26), (7, 27), (11, 31)] (fun v => Below w.heap.size w v) (AdP w.heap.size (0) (0) x []) (by kernel_rfl) (by kernel_rfl) HB.out (fun v v' h kk => h.trans (kk.mono h.size)) (fun v _ => AdP.init) (fun ls vs v v' _ h kk => h.below kk) ?_
    apply Exists.intro
    refine ⟨?walk, ?loud, ?last⟩
    case walk =>
      intro V hV
      obtain ⟨xc, xf'⟩ := xcell (W := V)
      simp only [List.take_succ_cons, List.take_zero, qOf, isLoud, List.any_cons, List.any_nil, Nat.reduceBEq, Bool.or_false, Bool.or_true, Nat.reduceAdd, Bool.false_eq_true, if_true, if_false, beq_self_eq_true, Nat.zero_add]
      repeat (first | go_big_quiet_step (fail) | quiet_step (fail))
      exact wpQuiet_nil rfl
    case loud =>
      rintro pp hpp vs v hC ls hI hls hw o ho
      simp only [List.mem_cons, List.not_mem_nil, or_false] at hpp
      rcases hpp with rfl | rfl | rfl | rfl | rfl
      · have h4 : ls 4 = false := by
          cases q : ls 4 with
          | false => rfl
          | true => exact absurd (hI.q4 q) (by rw [hls]; decide)
        simp only [List.getElem?_cons_zero, Option.some.injEq] at ho
        subst ho
        simp [loudAt, loudUpon, go_sem, execOp, putsL, Act.put]
        exact ⟨hC.alloc hC.size _, hI.s0 h4 hC.size⟩
      · have h0 := hw (0, 20) (by simp) (by kernel_rfl)
        have r0 := hI.b0 h0 hls
        simp only [List.getElem?_cons_succ, List.getElem?_cons_zero, Option.some.injEq] at ho
        subst ho
        refine loudAt_append_nil (.tmp 20) (.tmp 23) 42 rfl w.heap.size 3 i0 1 Tryz.underlying42 HI.out.1 (vs 0) 0 [] rfl r0 0 rfl ⟨hC, hI.s4 h0 hls (grown_refl _ _) (by simpa using r0) (.inl rfl)⟩
      · have h7 : ls 7 = false := by
          cases q : ls 7 with
          | false => rfl
          | true => exact absurd (hI.q7 q).2 (by rw [hls]; decide)
        simp only [List.getElem?_cons_succ, List.getElem?_cons_zero, Option.some.injEq] at ho
        subst ho
        simp [loudAt, loudUpon, go_sem, execOp, putsL, Act.put]
        exact ⟨hC.alloc hC.size _, hI.s6 h7⟩
      · have h4 := hw (4, 24) (by simp) (by kernel_rfl)
        have h6 := hw (6, 26) (by simp) (by kernel_rfl)
        have r4 := hI.r4 h4 hls
        obtain ⟨g6, e6, hb6, _, _⟩ := hI.b6 h6 hls
        simp only [List.getElem?_cons_succ, List.getElem?_cons_zero, Option.some.injEq] at ho
        subst ho
        refine loudAt_append (.tmp 24) (.tmp 26) 42 rfl w.heap.size 3 i0 (.int .i64 0) 1 8 Tryz.underlying42 HI.out.1 HI.out.2.1 HI.out.2.2.1 HI.out.2.2.2 rfl (by decide) (vs 4) (0) ((([] : List Int).take 0).flatMap encI) rfl r4 ⟨g6, 0, none⟩ 1 1 [.int .i64 x] e6 rfl (fun j u hj => ?_) (by simp [Value.oneCell']) (by unfold maxLen; omega) (by omega) hC.size ?_
        · have := hb6.cell j
          have hadd : (⟨g6, 0, none⟩ : Addr).add j = ⟨g6, j, none⟩ := by unfold Addr.add; split <;> simp_all
          rw [hadd, this]
          simpa using hj
        intro v' w3 hown hgrow hat
        exact ⟨hC.grown hgrow hC.size (fun r hr => (own_lt r4 hr).1), hI.s7 h4 h6 hls (by rw [List.flatMap_append]; exact hown)⟩
      · have h7 := hw (7, 27) (by simp) (by kernel_rfl)
        have r7 := hI.r7 h7 hls
        simp only [List.getElem?_cons_succ, List.getElem?_cons_zero, Option.some.injEq] at ho
        subst ho
        refine loudAt_append_nil (.tmp 27) (.tmp 30) 42 rfl w.heap.size 3 i0 1 Tryz.underlying42 HI.out.1 (vs 7) 1 [.int .i64 x] rfl (by simpa [encI] using r7) 0 rfl ⟨hC, hI.s11 h7 (by simpa [encI] using r7)⟩
    case last =>
    rintro ls vs V hV hI hls
    have r11 := hI.r11 (hls (11, 31) (by simp))
    obtain ⟨A1, c1, e1⟩ := owns_slice r11
    rw [e1] at r11
    have HVb := Lib.hid hV
    have HVr := Lib.hid r11
    clear hI hls hV r11
    simp only [putsL, List.foldl_cons, List.foldl_nil, List.drop_succ_cons, List.drop_zero, Act.put, e1, List.setIfInBounds_toArray, List.set_cons_succ, List.set_cons_zero]
    generalize vs 0 = v0 at *
    generalize vs 4 = v4 at *
    generalize vs 6 = v6 at *
    generalize vs 7 = v7 at *
    clear e1
    go_wp2
    refine bodyPost_ret (v := .slice A1 (0 + 1) c1) (by simp [results, Tryz.results70, go_sem]) rfl ⟨_, rfl, ?_, HVb.out⟩
    rw [HIn.out, HN.out]
    exact HVr.out
theorem add_any {v : Value} {l : List Int} (x : Int) {w : World} (h : AdIn w v l) (hm : l.length ≤ 1000) : Calls Tryz.prog 70 #[v, .int .i64 x] w (AdOut w l x) := by
  rcases h with ⟨rfl, rfl⟩ | ⟨b, off, c, rfl, h1, h2, h3⟩
  · exact add_nil x w
  · exact add_some b off _ c l x w h3 rfl h2 hm h1
end Go.Proofs.YtighfmgkoepfkaaGreat
