/- The specification: a trade agrees. -/
import Derived.Test.YtighfmgkoepfkaaGreatMI
namespace Go.Proofs.YtighfmgkoepfkaaGreat
open Go.RowKit

theorem chosen_step {hs : List Hd} {k : Nat} (hk : k < hs.length) (s : Nat) : chosenL (hs.drop k) (s / 2 ^ k) = (if (s / 2 ^ k) % 2 = 1 then [(hs[k]).id] else []) ++ chosenL (hs.drop (k + 1)) (s / 2 ^ (k + 1)) := by
  rw [List.drop_eq_getElem_cons hk, chosenL, Nat.div_div_eq_div_mul, ← Nat.pow_succ]
  split <;> simp
theorem and_all : ((List.range 1025).all fun x => (bits BinOp.and IntKind.i64 (x : Int) 1 == 1) == decide (x % 2 = 1)) = true := by kernel_rfl
theorem and_bit {s k : Nat} (h : s ≤ 1024) : (bits BinOp.and IntKind.i64 ((s : Int) / 2 ^ k) 1 == 1) = decide (s / 2 ^ k % 2 = 1) := by
  have h1 := List.all_eq_true.1 and_all (s / 2 ^ k) (List.mem_range.2 (by have := Nat.div_le_self s (2 ^ k); omega))
  have e : ((s : Int) / 2 ^ k) = ((s / 2 ^ k : Nat) : Int) := by rw [Int.natCast_ediv]; simp
  rw [e]
  exact eq_of_beq h1
set_option maxRecDepth 100000 in
set_option maxHeartbeats 3200000 in
theorem chosen_any (t : TR) (s : Nat) (w : World) (h : t.Ok w) (hn : t.n ≤ 9) (hs' : s ≤ 1024) :
    Calls Tryz.prog 86 #[t.v, .int .i64 (s : Int)] w fun e w' => ∃ A n c, e = .returned (.slice A n c) ∧ SAt encI 1 w' A n (chosenL t.hs s) ∧ n ≤ 9 ∧ Below w.heap.size w w' := by
  have hb0 := (Below.refl w.heap.size w).alloc (Nat.le_refl _) (.cells #[.slice t.A t.n t.c, .slice t.B t.m t.d] 25)
  obtain ⟨A, n, c, B, m, d, hs, ms⟩ := t
  dsimp only [TR.v] at *
  have t0 := Blk.new w 25 #[.slice A n c, .slice B m d]
  have HOk := Lib.hid h
  have HLh := Lib.hid (show hs.length = n from h.h.len)
  clear h
  go_enter Tryz.func86, Tryz.ntmps86
  go_upto_region 1 with fail
  generalize hW : w.alloc (.cells #[.slice A n c, .slice B m d] 25) = W at *
  clear hW
  have HT := Lib.hid t0
  have HB0 := Lib.hid hb0
  clear t0 hb0
  go_wp2
  go_loopw [5, 6] (fun v i wx => ∃ (k : Nat) (acc : List Int), k ≤ n ∧ i = .int .i64 (k : Int) ∧ acc.length ≤ k ∧ chosenL hs s = acc ++ chosenL (hs.drop k) (s / 2 ^ k) ∧ wx.ownsRow W.heap.size 3 1 v acc.length (acc.flatMap encI) ∧ Below W.heap.size W wx) (fun _ i _ => n - (intOf i).toNat)
  case atStart => exact ⟨0, [], Nat.zero_le _, rfl, Nat.le_refl _, by simp, by simpa using World.ownsRow_nil _ _ _ _, Below.refl _ _⟩
  case round =>
    obtain ⟨k, acc, hk, rfl, hal, hq, ow, hb⟩ := hrel
    have HQ := Lib.hid hq
    have OW := Lib.hid ow
    have HB := Lib.hid (HB0.out.trans (hb.mono HB0.out.size))
    have HBW := Lib.hid hb
    have q1 := HT.out.below hb
    have y0 := q1.cell 0
    have y1 := q1.cell 1
    simp only [List.getElem?_toArray, List.getElem?_cons_zero, List.getElem?_cons_succ] at y0 y1
    have yl := q1.lt
    clear hq hb q1
    by_cases hkn : k < n
    case neg =>
      have hkk : k = n := by omega
      obtain ⟨A5, c5, e5, hs5, _, _⟩ := SAt_of_row (enc := encI) (k := 1) encI_len rfl ow
      subst e5
      have HS5 := Lib.hid hs5
      have HE := Lib.hid (show chosenL hs s = acc by rw [HQ.out, List.drop_of_length_le (by have := HLh.out; omega)]; simp [chosenL])
      clear ow hs5
      go_wp2
      exact bodyPost_ret (v := .slice A5 acc.length c5) (by simp [results, Tryz.results86, go_sem]) rfl ⟨A5, acc.length, c5, rfl, by rw [HE.out]; exact HS5.out, by omega, HB.out⟩
    case pos =>
      have hbit := and_bit (s := s) (k := k) hs'
      have hkl : k < hs.length := by rw [HLh.out]; exact hkn
      have HSt := Lib.hid (chosen_step hkl s)
      by_cases hc : s / 2 ^ k % 2 = 1
      case neg =>
        rw [decide_eq_false hc] at hbit
        have HC := Lib.hid hc
        clear hc
        go_wp2
        go_roundw
        case rel => exact ⟨k + 1, acc, by omega, by go_num, by omega, by rw [HQ.out, HSt.out, if_neg HC.out]; rfl, OW.out, HBW.out⟩
        case measure => simp [intOf]; omega
      case pos =>
        rw [decide_eq_true hc] at hbit
        have HC := Lib.hid hc
        clear hc
        obtain ⟨b, off, rfl, hl⟩ := HOk.out.h.at_ (by dsimp only; omega)
        have hl2 := hl.below HB.out
        obtain ⟨x0, -, -, -, -, -⟩ := Hds.at_ hl2 (List.getElem?_eq_getElem hkl)
        have hlt := hl2.lt
        obtain ⟨x, hx⟩ : ∃ x, (hs[k]).id = x := ⟨_, rfl⟩
        rw [hx] at x0 HSt
        clear hl hl2 hx
        have HLT := Lib.hid (fun (r : Nat) hr => own_lt (g := r) ow hr)
        obtain ⟨Ao, co, rfl⟩ := owns_slice ow
        obtain ⟨ii, hi0, hi1, hi2, hi3⟩ := info_parts info_int
        have hVs := HBW.out.size
        have HB3 := Lib.hid (HBW.out.trans ((below_new wr (.cells #[.int .i64 x] 3)).mono HBW.out.size))
        have OW2 := Lib.hid (ow.alloc (.cells #[.int .i64 x] 3))
        clear ow
        go_wp2_with (at_builtin; go_loud (refine wpList_append_own _ rfl (.tmp 19) (.tmp 26) 42 rfl W.heap.size 3 ii (.int .i64 0) 1 8 Tryz.underlying42 hi0 hi1 hi2 hi3 rfl (by decide) _ acc.length (acc.flatMap encI) rfl OW2.out ⟨wr.heap.size, 0, none⟩ 1 1 [.int .i64 x] rfl rfl (fun j u h => by match j, h with | 0, h => (simp at h; subst h; exact (Blk.new wr _ _).cell 0)) (one_intsL [x]) (by unfold maxLen; omega) (by omega) (by simp; omega) ?_))
        intro v' w4 ho hgr _
        obtain ⟨g5, c5, rfl⟩ := ownsRow_succ ho
        have HO := Lib.hid ho
        have HB4 := Lib.hid (HB3.out.grown hgr HB3.out.size (fun r hr => by have := HLT.out _ hr; omega))
        clear ho hgr
        go_wp2
        go_roundw
        case rel => exact ⟨k + 1, acc ++ [x], by omega, by go_num, by rw [List.length_append]; simp; omega, by rw [HQ.out, HSt.out, if_pos HC.out, List.append_assoc], by rw [List.length_append, List.flatMap_append]; exact HO.out, HB4.out⟩
        case measure => simp [intOf]; omega
end Go.Proofs.YtighfmgkoepfkaaGreat

namespace Go.Proofs.YtighfmgkoepfkaaGreat
open Go.RowKit

theorem agr_step {hs : List Hd} {ms : List Mv} {k : Nat} (h : ∀ i, i < k → okCut hs ms (chosenL hs (i + 1)) = true) (hk : 2 ^ hs.length - 1 ≤ k) : agrL hs ms = true := by
  unfold agrL
  rw [List.all_eq_true]
  exact fun i hi => h i (by have := List.mem_range.1 hi; omega)
theorem agr_not {hs : List Hd} {ms : List Mv} {k : Nat} (h : okCut hs ms (chosenL hs (k + 1)) = false) (hk : k < 2 ^ hs.length - 1) : agrL hs ms = false := by
  unfold agrL
  rw [Bool.eq_false_iff]
  intro c
  rw [List.all_eq_true.1 c k (List.mem_range.2 hk)] at h
  cases h
theorem wrap_pow : ∀ (n : Nat), n ≤ 9 → wrap64 ((2 : Int) ^ n) = ((2 ^ n : Nat) : Int)
  | 0, _ | 1, _ | 2, _ | 3, _ | 4, _ | 5, _ | 6, _ | 7, _ | 8, _ | 9, _ => by kernel_rfl
  | n + 10, h => by omega
set_option maxRecDepth 100000 in
set_option maxHeartbeats 6400000 in
theorem RAgrees_any (t : TR) (w : World) (h : t.Ok w) (hv : TV t.hs t.ms) :
    Calls Tryz.prog 40 #[t.v] w fun e w' => e = .returned (.bool (agrL t.hs t.ms)) ∧ Below w.heap.size w w' := by
  have hb0 := (Below.refl w.heap.size w).alloc (Nat.le_refl _) (.cells #[.slice t.A t.n t.c, .slice t.B t.m t.d] 25)
  have hn9 : t.n ≤ 9 := by have := h.h.len; have := hv.lenH; omega
  have HCh := Lib.hid (fun (s : Nat) (hs : s ≤ 1024) (u : World) (hu : Below w.heap.size w u) => chosen_any t s u (h.below hu) hn9 hs)
  have HFl := Lib.hid (fun (A : Option Addr) (k c : Nat) (s : List Int) (u : World) (hu : Below w.heap.size w u) (hs : SAt encI 1 u A k s) (hk : k ≤ 9) => flows_any t A k c s u (h.below hu) hs (by omega) hv)
  obtain ⟨A, n, c, B, m, d, hs, ms⟩ := t
  dsimp only [TR.v] at *
  have t0 := Blk.new w 25 #[.slice A n c, .slice B m d]
  have HLh := Lib.hid (show hs.length = n from h.h.len)
  have HV := Lib.hid hv
  clear h hv
  go_enter Tryz.func40, Tryz.ntmps40
  go_upto_region 1 with fail
  generalize hW : w.alloc (.cells #[.slice A n c, .slice B m d] 25) = W at *
  clear hW
  have HT := Lib.hid t0
  have HB0 := Lib.hid hb0
  clear t0 hb0
  go_wp2
  go_loopw [3, 4] (fun i _ wx => ∃ k : Nat, k ≤ 2 ^ n - 1 ∧ i = .int .i64 ((k : Int) + 1) ∧ (∀ i, i < k → okCut hs ms (chosenL hs (i + 1)) = true) ∧ Below W.heap.size W wx) (fun i _ _ => 2 ^ n - (intOf i).toNat)
  case atStart => exact ⟨0, Nat.zero_le _, rfl, fun i h => absurd h (Nat.not_lt_zero _), Below.refl _ _⟩
  case round =>
    obtain ⟨k, hk, rfl, hq, hb⟩ := hrel
    have HQ := Lib.hid hq
    have HB := Lib.hid (HB0.out.trans (hb.mono HB0.out.size))
    have HBW := Lib.hid hb
    have HT1 := Lib.hid (HT.out.below hb)
    clear hq hb
    have hp : 2 ^ n ≤ 512 := Nat.le_trans (Nat.pow_le_pow_right (by decide) hn9) (by decide)
    have hp1 : 1 ≤ 2 ^ n := Nat.one_le_two_pow
    have y0 := HT1.out.cell 0
    have y1 := HT1.out.cell 1
    simp only [List.getElem?_toArray, List.getElem?_cons_zero, List.getElem?_cons_succ] at y0 y1
    have yl := HT1.out.lt
    have hwr := wrap_pow n hn9
    obtain ⟨N, hN⟩ : ∃ N, 2 ^ n = N := ⟨_, rfl⟩
    have HN := Lib.hid (show 2 ^ hs.length = N by rw [HLh.out, hN])
    rw [hN] at hwr hk hp hp1 ⊢
    by_cases hkn : k < N - 1
    case neg =>
      have HF := Lib.hid (agr_step (hs := hs) (ms := ms) (k := k) HQ.out (by have := HN.out; omega))
      have hd : ¬ ((k : Int) + 1 < (N : Int)) := by omega
      clear hN
      go_wp2
      exact bodyPost_ret (v := .bool true) (by simp [results, Tryz.results40, go_sem]) rfl ⟨by rw [HF.out], HB.out⟩
    case pos =>
      have hd : (k : Int) + 1 < (N : Int) := by omega
      clear hN
      have HCk := Lib.hid (HCh.out (k + 1) (by omega))
      rw [show ((k + 1 : Nat) : Int) = (k : Int) + 1 by omega] at HCk
      go_upto_region 4 with fail
      obtain ⟨S, hS⟩ : ∃ S, S = chosenL hs (k + 1) := ⟨_, rfl⟩
      rw [← hS] at HCk
      have HSd := Lib.hid hS
      clear hS
      refine wp_region_preC 6 [(3, 16), (4, 17), (5, 4)] (fun v => Below wr.heap.size wr v) (fun ls vs v => (ls 3 = true → ∃ A q c, vs 3 = .slice A q c ∧ SAt encI 1 v A q S ∧ q ≤ 9) ∧ (ls 4 = true → vs 4 = vFl hs ms S) ∧ (ls 5 = true → ∃ g, vs 5 = .pointer (some ⟨g, 0, none⟩) ∧ Blk v g 149 #[.int .i64 0, .int .i64 0, .int .i64 0, .int .i64 0] ∧ wr.heap.size ≤ g)) (by kernel_rfl) (by kernel_rfl) (Below.refl _ _) (fun v v' h k => h.trans (k.mono h.size)) (fun v _ => ⟨fun h => (by cases h), fun h => (by cases h), fun h => (by cases h)⟩) (fun ls vs v v' _ h kk => ⟨fun hl => (let ⟨A, q, c, e, hs, hq⟩ := h.1 hl; ⟨A, q, c, e, hs.below kk, hq⟩), h.2.1, fun hl => (let ⟨g, e, b, hg⟩ := h.2.2 hl; ⟨g, e, b.below kk, hg⟩)⟩) ?_
      apply Exists.intro
      refine ⟨?walk, ?loud, ?last⟩
      case walk =>
        intro V hV
        have tt := HT1.out.below hV
        have y0 := tt.cell 0
        have y1 := tt.cell 1
        simp only [List.getElem?_toArray, List.getElem?_cons_zero, List.getElem?_cons_succ] at y0 y1
        have yl := tt.lt
        clear tt
        obtain ⟨xc, xf⟩ := xcell (W := V)
        simp only [List.take_succ_cons, List.take_zero, qOf, isLoud, List.any_cons, List.any_nil, Nat.reduceBEq, Bool.or_false, Bool.or_true, Nat.reduceAdd, Bool.false_eq_true, if_true, if_false, beq_self_eq_true, Nat.zero_add]
        repeat (first | go_big_quiet_step (fail) | quiet_step (fail))
        exact wpQuiet_nil rfl
      case loud =>
        rintro pp hpp vs v hC ls hI hls hw o ho
        simp only [List.mem_cons, List.not_mem_nil, or_false] at hpp
        rcases hpp with rfl | rfl | rfl
        · have u4 : updB ls 3 4 = ls 4 := by simp [updB]
          have u5 : updB ls 3 5 = ls 5 := by simp [updB]
          simp only [List.getElem?_cons_succ, List.getElem?_cons_zero, Option.some.injEq] at ho
          subst ho
          simp [loudAt, loudUpon, go_sem, putsL, Act.put]
          refine (HCk.out v (HB.out.trans (hC.mono HB.out.size))).mono ?_
          rintro e w' ⟨A5, q5, c5, rfl, hs5, hq5, hb5⟩
          refine ⟨_, rfl, hC.trans (hb5.mono hC.size), fun _ => ⟨A5, q5, ⟨c5, by simp [upd]⟩, hs5, hq5⟩, fun h6 => ?_, fun h6 => ?_⟩
          · rw [u4] at h6
            simpa [upd] using hI.2.1 h6
          · rw [u5] at h6
            obtain ⟨g, e, b, hg⟩ := hI.2.2 h6
            exact ⟨g, by simpa [upd] using e, b.below hb5, hg⟩
        · have u3 : updB ls 4 3 = ls 3 := by simp [updB]
          have u5 : updB ls 4 5 = ls 5 := by simp [updB]
          have h9 := hw (3, 16) (by simp) (by kernel_rfl)
          obtain ⟨A5, q5, c5, e5, hs5, hq5⟩ := hI.1 h9
          simp only [List.getElem?_cons_succ, List.getElem?_cons_zero, Option.some.injEq] at ho
          subst ho
          simp [loudAt, loudUpon, go_sem, putsL, Act.put, e5]
          refine (HFl.out A5 q5 c5 S v (HB.out.trans (hC.mono HB.out.size)) hs5 hq5).mono ?_
          rintro e w' ⟨rfl, hb5⟩
          refine ⟨_, rfl, hC.trans (hb5.mono hC.size), fun h6 => ?_, fun _ => by simp [upd], fun h6 => ?_⟩
          · rw [u3] at h6
            exact ⟨A5, q5, ⟨c5, by simpa [upd] using e5⟩, hs5.below hb5, hq5⟩
          · rw [u5] at h6
            obtain ⟨g, e, b, hg⟩ := hI.2.2 h6
            exact ⟨g, by simpa [upd] using e, b.below hb5, hg⟩
        · have u3 : updB ls 5 3 = ls 3 := by simp [updB]
          have u4 : updB ls 5 4 = ls 4 := by simp [updB]
          simp only [List.getElem?_cons_succ, List.getElem?_cons_zero, Option.some.injEq] at ho
          subst ho
          simp [loudAt, loudUpon, go_sem, execOp]
          refine ⟨hC.alloc hC.size _, fun h6 => ?_, fun h6 => ?_, fun _ => ⟨v.heap.size, by simp [upd], Blk.new _ _ _, hC.size⟩⟩
          · rw [u3] at h6
            obtain ⟨A5, q5, c5, e5, hs5, hq5⟩ := hI.1 h6
            exact ⟨A5, q5, ⟨c5, by simpa [upd] using e5⟩, hs5.below (below_new _ _), hq5⟩
          · rw [u4] at h6
            simpa [upd] using hI.2.1 h6
      case last =>
        rintro ls vs V hV hI hls
        have h4 := hI.2.1 (hls (4, 17) (by simp))
        obtain ⟨g, eg, hbk, hg⟩ := hI.2.2 (hls (5, 4) (by simp))
        have HBV := Lib.hid (HBW.out.trans (hV.mono HBW.out.size))
        have HBk := Lib.hid hbk
        have hws := HBW.out.size
        clear hI hls hV
        simp only [List.drop_succ_cons, List.drop_zero]
        simp only [putsL, List.foldl_cons, List.foldl_nil, Act.put, List.setIfInBounds_toArray, List.set_cons_succ, List.set_cons_zero]
        rw [h4, eg]
        generalize vs 3 = v3 at *
        clear h4 eg
        have HOk := Lib.hid (show okCut hs ms S = decide (outLo hs ms S ≤ inHi hs ms S ∧ inLo hs ms S ≤ outHi hs ms S) from rfl)
        unfold vFl
        generalize outLo hs ms S = ol at *
        generalize outHi hs ms S = oh at *
        generalize inLo hs ms S = il at *
        generalize inHi hs ms S = ih at *
        have x0 := hbk.cell 0
        have x1 := hbk.cell 1
        have x2 := hbk.cell 2
        have x3 := hbk.cell 3
        have f0 := hbk.frozen 0
        have f1 := hbk.frozen 1
        have f2 := hbk.frozen 2
        have f3 := hbk.frozen 3
        simp only [List.getElem?_toArray, List.getElem?_cons_zero, List.getElem?_cons_succ] at x0 x1 x2 x3
        have xl := hbk.lt
        by_cases h1 : ol ≤ ih
        · have h1b : decide (ih < ol) = false := decide_eq_false (by omega)
          by_cases h2 : il ≤ oh
          · have h2b : decide (oh < il) = false := decide_eq_false (by omega)
            have HY := Lib.hid (show okCut hs ms S = true by rw [HOk.out]; exact decide_eq_true ⟨h1, h2⟩)
            go_wp2
            go_roundw
            case rel => exact ⟨k + 1, by omega, by go_num, fun i h => by
              rcases Nat.lt_succ_iff_lt_or_eq.1 h with h | h
              · exact HQ.out i h
              · subst h; rw [← HSd.out]; exact HY.out, below_set4 HBV.out (by omega) _ _ _ _⟩
            case measure => simp [intOf]; omega
          · have h2b : decide (oh < il) = true := decide_eq_true (by omega)
            have HF := Lib.hid (show agrL hs ms = false from agr_not (k := k) (by rw [← HSd.out, HOk.out]; exact decide_eq_false (by omega)) (by rw [HN.out]; exact hkn))
            go_wp2
            exact bodyPost_ret (v := .bool false) (by simp [results, Tryz.results40, go_sem]) rfl ⟨by rw [HF.out], below_set4 (HB0.out.trans (HBV.out.mono HB0.out.size)) (by have := HB0.out.size; omega) _ _ _ _⟩
        · have h1b : decide (ih < ol) = true := decide_eq_true (by omega)
          have HF := Lib.hid (show agrL hs ms = false from agr_not (k := k) (by rw [← HSd.out, HOk.out]; exact decide_eq_false (by omega)) (by rw [HN.out]; exact hkn))
          go_wp2
          exact bodyPost_ret (v := .bool false) (by simp [results, Tryz.results40, go_sem]) rfl ⟨by rw [HF.out], below_set4 (HB0.out.trans (HBV.out.mono HB0.out.size)) (by have := HB0.out.size; omega) _ _ _ _⟩
end Go.Proofs.YtighfmgkoepfkaaGreat
