/- Plain laws of limits: what something can be is found by halving; each number between the ends is that of some course; what CheckLimit accepts is the end. -/
import Derived.Test.YtighfmgkoepfkaaGreatMI
import Derived.Test.YtighfmgkoepfkaaGreatMD
namespace Go.Proofs.YtighfmgkoepfkaaGreat

/-- A span put at something, by its ID. -/
def putIH (hs : List Hd) (kind id lo hi : Int) : List Hd := hs.map fun h => if kind = 2 ∧ h.id = id then setS lo hi h else if kind = 3 ∧ h.id = id then setE lo hi h else h
def putIM (ms : List Mv) (kind id lo hi : Int) : List Mv := ms.map fun m => if kind = 1 ∧ m.id = id then setM lo hi m else m
section
variable {hs : List Hd} {ms : List Mv} {kind id lo hi : Int}
theorem putH_id (hn : (hs.map Hd.id).Nodup) (hp : placeE hs ms kind id = 0) : putH hs (placeN hs ms kind id) lo hi = putIH hs kind id lo hi := by
  unfold placeE at hp
  have hid : ∀ i (hi : i < hs.length), (hs[i]).id = id → i = posN hs id := fun i hi e => by rw [← e]; exact (nodup_ids.1 hn i hi).symm
  have hle := posN_le hs id
  unfold putH placeN putIH
  by_cases c1 : kind = 1
  · rw [if_pos c1] at hp
    simp only [if_pos c1]
    rw [if_neg (by omega), if_neg (by omega)]
    rw [List.map_congr_left (g := fun h => h) (fun h _ => by rw [if_neg (by omega), if_neg (by omega)])]
    simp
  rw [if_neg c1] at hp
  by_cases c2 : kind = 2
  · rw [if_pos (.inl c2)] at hp
    have hlt : posN hs id < hs.length := by
      by_cases c : posN hs id < hs.length
      · exact c
      · rw [if_neg c] at hp; cases hp
    simp only [if_neg c1, if_pos c2]
    rw [if_pos hlt]
    apply List.ext_getElem (by simp)
    intro i h1 h2
    have hi' : i < hs.length := by simpa using h1
    rw [List.getElem_modify, List.getElem_map]
    by_cases e : (hs[i]).id = id
    · rw [if_pos (hid i hi' e).symm, if_pos ⟨c2, e⟩]
    · rw [if_neg (fun q => e (by subst q; exact posN_at hs id hlt)), if_neg (fun q => e q.2), if_neg (fun q => e q.2)]
  · by_cases c3 : kind = 3
    · rw [if_pos (.inr c3)] at hp
      have hlt : posN hs id < hs.length := by
        by_cases c : posN hs id < hs.length
        · exact c
        · rw [if_neg c] at hp; cases hp
      simp only [if_neg c1, if_neg c2]
      rw [if_neg (by omega), if_pos (by omega), Nat.add_sub_cancel_left]
      apply List.ext_getElem (by simp)
      intro i h1 h2
      have hi' : i < hs.length := by simpa using h1
      rw [List.getElem_modify, List.getElem_map]
      by_cases e : (hs[i]).id = id
      · rw [if_pos (hid i hi' e).symm, if_neg (fun q => c2 q.1), if_pos ⟨c3, e⟩]
      · rw [if_neg (fun q => e (by subst q; exact posN_at hs id hlt)), if_neg (fun q => e q.2), if_neg (fun q => e q.2)]
    · rw [if_neg (by omega)] at hp; cases hp
theorem posM_self (hn : (ms.map Mv.id).Nodup) {i : Nat} (hi : i < ms.length) : posM ms (ms[i]).id = i := by
  have h1 := posM_first ms (ms[i]).id i hi rfl
  have h2 : posM ms (ms[i]).id < ms.length := by omega
  have h3 := posM_at ms (ms[i]).id h2
  exact (List.getElem_inj (h₀ := by simpa using h2) (h₁ := by simpa using hi) hn).1 (by rw [List.getElem_map, List.getElem_map]; exact h3)
theorem putM_id (hn : (ms.map Mv.id).Nodup) (hp : placeE hs ms kind id = 0) : putM hs ms (placeN hs ms kind id) lo hi = putIM ms kind id lo hi := by
  unfold placeE at hp
  have hle := posN_le hs id
  unfold putM placeN putIM
  by_cases c1 : kind = 1
  · rw [if_pos c1] at hp
    have hlt : posM ms id < ms.length := by
      by_cases c : posM ms id < ms.length
      · exact c
      · rw [if_neg c] at hp; cases hp
    simp only [if_pos c1]
    rw [if_neg (by omega), Nat.add_sub_cancel_left]
    apply List.ext_getElem (by simp)
    intro i h1 h2
    have hi' : i < ms.length := by simpa using h1
    rw [List.getElem_modify, List.getElem_map]
    by_cases e : (ms[i]).id = id
    · rw [if_pos (by rw [← e]; exact posM_self hn hi'), if_pos ⟨c1, e⟩]
    · rw [if_neg (fun q => e (by subst q; exact posM_at ms id hlt)), if_neg (fun q => e q.2)]
  · rw [if_neg c1] at hp
    have hlt : (kind = 2 ∨ kind = 3) ∧ posN hs id < hs.length := by
      by_cases c : kind = 2 ∨ kind = 3
      · rw [if_pos c] at hp
        by_cases d : posN hs id < hs.length
        · exact ⟨c, d⟩
        · rw [if_neg d] at hp; cases hp
      · rw [if_neg c] at hp; cases hp
    simp only [if_neg c1]
    rw [if_pos (by split <;> omega), List.map_congr_left (g := fun h => h) (fun h _ => by rw [if_neg (by omega)])]
    simp
theorem putIH_ids : (putIH hs kind id lo hi).map Hd.id = hs.map Hd.id := by
  unfold putIH
  rw [List.map_map]
  refine List.map_congr_left fun h _ => ?_
  simp only [Function.comp]
  split
  · rfl
  · split <;> rfl
theorem hat_map {f : Hd → Hd} {i : Nat} (h : i < hs.length) : hat (hs.map f) i = f (hat hs i) := by
  rw [hat_eq h, hat_eq (by simpa using h), List.getElem_map]
end
end Go.Proofs.YtighfmgkoepfkaaGreat

namespace Go.Proofs.YtighfmgkoepfkaaGreat

section
variable {hs : List Hd} {ms : List Mv}
theorem lo_fits (h : TV hs ms) {at_ : Nat} (hat' : at_ < 2 * hs.length + ms.length) (ha : agrL hs ms = true) {mid : Int} (h1 : spanLo hs ms at_ ≤ mid) (h2 : mid ≤ spanHi hs ms at_) :
    agrL (putH hs at_ (spanLo hs ms at_) mid) (putM hs ms at_ (spanLo hs ms at_) mid) = decide (narLo hs ms at_ ≤ mid) := by
  rw [Bool.eq_iff_iff, agr_put h hat' (Int.le_refl _) h1 h2, decide_eq_true_iff]
  constructor
  · rintro ⟨st, en, ma, hf, _, q⟩
    have := (nar_course h hat' hf).1
    omega
  · intro q
    obtain ⟨r, st, en, ma, hf, e⟩ := nar_least h hat' ha
    exact ⟨st, en, ma, hf, by omega, by omega⟩
theorem hi_fits (h : TV hs ms) {at_ : Nat} (hat' : at_ < 2 * hs.length + ms.length) (ha : agrL hs ms = true) {mid : Int} (h1 : spanLo hs ms at_ ≤ mid) (h2 : mid ≤ spanHi hs ms at_) :
    agrL (putH hs at_ mid (spanHi hs ms at_)) (putM hs ms at_ mid (spanHi hs ms at_)) = decide (mid ≤ narHi hs ms at_) := by
  rw [Bool.eq_iff_iff, agr_put h hat' h1 h2 (Int.le_refl _), decide_eq_true_iff]
  constructor
  · rintro ⟨st, en, ma, hf, q, _⟩
    have := (nar_course h hat' hf).2
    omega
  · intro q
    obtain ⟨r, st, en, ma, hf, e⟩ := nar_most h hat' ha
    exact ⟨st, en, ma, hf, by omega, by omega⟩
theorem nar_ends (h : TV hs ms) {at_ : Nat} (hat' : at_ < 2 * hs.length + ms.length) (ha : agrL hs ms = true) : spanLo hs ms at_ ≤ narLo hs ms at_ ∧ narLo hs ms at_ ≤ narHi hs ms at_ ∧ narHi hs ms at_ ≤ spanHi hs ms at_ := by
  obtain ⟨q1, st, en, ma, hf, e⟩ := nar_least h hat' ha
  have q2 := (nar_course h hat' hf).2
  have q3 := (nar_most h hat' ha).1
  exact ⟨q1, by omega, q3⟩
theorem crossE_map (S : Nat → Bool) (g h : Eg → Int) : ∀ es : List Eg, crossE S g h es = isum (es.map fun e => (if S e.b = true ∧ S e.a = false then g e else 0) - (if S e.a = true ∧ S e.b = false then h e else 0))
  | [] => rfl
  | e :: es => by rw [List.map_cons, isum, ← crossE_map S g h es]; rfl
theorem nodeS_ids {hs hs' : List Hd} (h : hs'.map Hd.id = hs.map Hd.id) (s : List Int) (o : Bool) (v : Nat) : nodeS hs' s o v = nodeS hs s o v := by
  have e : ∀ l : List Hd, nodeS l s o v = match (l.map Hd.id)[v]? with | some x => s.contains x != o | none => o := fun l => by
    unfold nodeS
    rw [List.getElem?_map]
    cases l[v]? <;> rfl
  rw [e, e, h]
theorem edges_at3 {at_ : Nat} (lo hi : Int) {i : Nat} (hi' : i < (edges hs ms).length) : ∃ h' : i < (edges (putH hs at_ lo hi) (putM hs ms at_ lo hi)).length, ((edges (putH hs at_ lo hi) (putM hs ms at_ lo hi))[i]).a = ((edges hs ms)[i]).a ∧ ((edges (putH hs at_ lo hi) (putM hs ms at_ lo hi))[i]).b = ((edges hs ms)[i]).b ∧
    (i ≠ at_ → ((edges (putH hs at_ lo hi) (putM hs ms at_ lo hi))[i]).lo = ((edges hs ms)[i]).lo ∧ ((edges (putH hs at_ lo hi) (putM hs ms at_ lo hi))[i]).hi = ((edges hs ms)[i]).hi) ∧ (i = at_ → ((edges (putH hs at_ lo hi) (putM hs ms at_ lo hi))[i]).lo = lo ∧ ((edges (putH hs at_ lo hi) (putM hs ms at_ lo hi))[i]).hi = hi) := by
  have hl : i < (edges (putH hs at_ lo hi) (putM hs ms at_ lo hi)).length := by rw [edges_len, putH_len, putM_len, ← edges_len]; exact hi'
  refine ⟨hl, ?_⟩
  obtain ⟨g, hg, r⟩ := edges_put at_ lo hi i _ (List.getElem?_eq_getElem hl)
  rw [List.getElem?_eq_getElem hi'] at hg
  rw [Option.some.inj hg]
  exact r
/-- A cut goes through what is bounded in one way alone. -/
theorem thr_mid (h : TV hs ms) {at_ : Nat} {lo mid hi : Int} (h0 : 0 ≤ lo) (h1 : lo ≤ mid) (h2 : mid ≤ hi) (h3 : hi ≤ 65536) (hat' : at_ < 2 * hs.length + ms.length) (way : Int) (s : List Int) :
    thrL (putH hs at_ mid mid) (putM hs ms at_ mid mid) way s = thrL (putH hs at_ mid hi) (putM hs ms at_ mid hi) way s ∨ thrL (putH hs at_ mid mid) (putM hs ms at_ mid mid) way s = thrL (putH hs at_ lo mid) (putM hs ms at_ lo mid) way s := by
  have t1 : TV (putH hs at_ mid mid) (putM hs ms at_ mid mid) := h.put (by simp [okSp]; omega) _
  have t2 : TV (putH hs at_ mid hi) (putM hs ms at_ mid hi) := h.put (by simp [okSp]; omega) _
  have t3 : TV (putH hs at_ lo mid) (putM hs ms at_ lo mid) := h.put (by simp [okSp]; omega) _
  rw [thrL_cross t1, thrL_cross t2, thrL_cross t3]
  have e : ∀ lo hi, nodeS (putH hs at_ lo hi) s (decide (way = 1)) = nodeS hs s (decide (way = 1)) := fun lo hi => funext fun v => nodeS_ids (put_ids hs at_ lo hi) s _ v
  rw [e, e, e]
  generalize nodeS hs s (decide (way = 1)) = S
  rw [crossE_map, crossE_map, crossE_map]
  have hl : at_ < (edges hs ms).length := by rw [edges_len]; exact hat'
  by_cases c : S ((edges hs ms)[at_]).a = true ∧ S ((edges hs ms)[at_]).b = false
  · right
    congr 1
    apply List.ext_getElem (by simp only [List.length_map, edges_len, putH_len, putM_len])
    intro i g1 g2
    have hi' : i < (edges hs ms).length := by simpa only [List.length_map, edges_len, putH_len, putM_len] using g1
    rw [List.getElem_map, List.getElem_map]
    obtain ⟨_, a1, a2, a3, a4⟩ := edges_at3 (at_ := at_) mid mid hi'
    obtain ⟨_, b1, b2, b3, b4⟩ := edges_at3 (at_ := at_) lo mid hi'
    rw [a1, a2, b1, b2]
    by_cases d : i = at_
    · rw [(a4 d).2, (b4 d).2]
      subst d
      simp [c.1, c.2]
    · rw [(a3 d).1, (a3 d).2, (b3 d).1, (b3 d).2]
  · left
    congr 1
    apply List.ext_getElem (by simp only [List.length_map, edges_len, putH_len, putM_len])
    intro i g1 g2
    have hi' : i < (edges hs ms).length := by simpa only [List.length_map, edges_len, putH_len, putM_len] using g1
    rw [List.getElem_map, List.getElem_map]
    obtain ⟨_, a1, a2, a3, a4⟩ := edges_at3 (at_ := at_) mid mid hi'
    obtain ⟨_, b1, b2, b3, b4⟩ := edges_at3 (at_ := at_) mid hi hi'
    rw [a1, a2, b1, b2]
    by_cases d : i = at_
    · rw [(a4 d).1, (b4 d).1]
      subst d
      rw [if_neg c, if_neg c]
    · rw [(a3 d).1, (a3 d).2, (b3 d).1, (b3 d).2]
/-- Each number between the ends is that of some course. -/
theorem mid_fits (h : TV hs ms) {at_ : Nat} (hat' : at_ < 2 * hs.length + ms.length) (ha : agrL hs ms = true) {mid : Int} (h1 : narLo hs ms at_ ≤ mid) (h2 : mid ≤ narHi hs ms at_) :
    agrL (putH hs at_ mid mid) (putM hs ms at_ mid mid) = true := by
  obtain ⟨q1, q2, q3⟩ := nar_ends h hat' ha
  have q4 := span_ok h hat'
  have f1 := lo_fits h hat' ha (mid := mid) (by omega) (by omega)
  have f2 := hi_fits h hat' ha (mid := mid) (by omega) (by omega)
  rw [decide_eq_true h1] at f1
  rw [decide_eq_true h2] at f2
  have t2 : TV (putH hs at_ mid (spanHi hs ms at_)) (putM hs ms at_ mid (spanHi hs ms at_)) := h.put (by simp [okSp]; omega) _
  have t3 : TV (putH hs at_ (spanLo hs ms at_) mid) (putM hs ms at_ (spanLo hs ms at_) mid) := h.put (by simp [okSp]; omega) _
  obtain ⟨s1, e1, m1, g1⟩ := (agrL_course t3).1 f1
  obtain ⟨s2, e2, m2, g2⟩ := (agrL_course t2).1 f2
  have k : ∀ way s, thrL (putH hs at_ mid mid) (putM hs ms at_ mid mid) way s ≤ 0 := fun way s => by
    rcases thr_mid h (at_ := at_) (lo := spanLo hs ms at_) (mid := mid) (hi := spanHi hs ms at_) (by omega) (by omega) (by omega) (by omega) hat' way s with r | r
    · rw [r]; exact thrL_le t2 g2 way s
    · rw [r]; exact thrL_le t3 g1 way s
  exact agrL_iff.2 fun S b => okCut_iff.2 ⟨k 1 _, k 2 _⟩
/-- What CheckLimit answers. -/
def ckLi (hs : List Hd) (ms : List Mv) (kind id val : Int) (st en ma : List Int) (way : Int) (s : List Int) (gr : Bool) : Int :=
  if plE hs ms kind id ≠ 0 then plE hs ms kind id
  else if fitsL hs ms st en ma = false ∨ valAt st en ma (placeN hs ms kind id) ≠ val then 8
  else if val = (if gr = true then spanHi hs ms (placeN hs ms kind id) else spanLo hs ms (placeN hs ms kind id)) then (if way ≠ 0 ∨ s ≠ [] then 8 else 0)
  else if showsL (putH hs (placeN hs ms kind id) (if gr = true then val + 1 else spanLo hs ms (placeN hs ms kind id)) (if gr = true then spanHi hs ms (placeN hs ms kind id) else val - 1)) (putM hs ms (placeN hs ms kind id) (if gr = true then val + 1 else spanLo hs ms (placeN hs ms kind id)) (if gr = true then spanHi hs ms (placeN hs ms kind id) else val - 1)) way s = true then 0 else 8
theorem plE_tv {kind id : Int} (h : plE hs ms kind id = 0) : TV hs ms ∧ placeE hs ms kind id = 0 := by
  unfold plE at h
  by_cases c : tcheck hs ms ≠ 0
  · rw [if_pos c] at h; exact absurd h c
  · rw [if_neg c] at h; exact ⟨tcheck_zero.1 (Classical.byContradiction c), h⟩
theorem ckLi_ok {kind id val : Int} {st en ma : List Int} {way : Int} {s : List Int} {gr : Bool} (hp : plE hs ms kind id = 0) (hf : LimOk hs ms (placeN hs ms kind id) gr st en ma way s) (hform : valAt st en ma (placeN hs ms kind id) ≠ (if gr = true then spanHi hs ms (placeN hs ms kind id) else spanLo hs ms (placeN hs ms kind id)) → formedL hs way s = true) (hv : valAt st en ma (placeN hs ms kind id) = val) :
    ckLi hs ms kind id val st en ma way s gr = 0 := by
  unfold ckLi
  rw [if_neg (by simpa using hp), if_neg (by rw [hf.fits]; simpa using hv)]
  have h1 := hf.edge
  have h2 := hf.cut
  rw [hv] at h1 h2 hform
  by_cases c : val = (if gr = true then spanHi hs ms (placeN hs ms kind id) else spanLo hs ms (placeN hs ms kind id))
  · obtain ⟨e1, e2⟩ := h1 c
    rw [if_pos c, if_neg (by simp [e1, e2])]
  · rw [if_neg c, if_pos]
    unfold showsL
    rw [formedL_ids (put_ids _ _ _ _), hform c, Bool.true_and, decide_eq_true_iff]
    have := h2 c
    cases gr <;> simpa using this
theorem ckLi_lim {kind id val : Int} {st en ma : List Int} {way : Int} {s : List Int} {gr : Bool} (h : ckLi hs ms kind id val st en ma way s gr = 0) : plE hs ms kind id = 0 ∧ val = limN hs ms kind id gr := by
  unfold ckLi at h
  by_cases c1 : plE hs ms kind id ≠ 0
  · rw [if_pos c1] at h; exact absurd h c1
  rw [if_neg c1] at h
  have hp : plE hs ms kind id = 0 := Classical.byContradiction c1
  refine ⟨hp, ?_⟩
  obtain ⟨hv, hpl⟩ := plE_tv hp
  have hlt := placeN_lt hpl
  by_cases c2 : fitsL hs ms st en ma = false ∨ valAt st en ma (placeN hs ms kind id) ≠ val
  · rw [if_pos c2] at h; cases h
  rw [if_neg c2] at h
  have hf : fitsL hs ms st en ma = true := by
    cases q : fitsL hs ms st en ma
    · exact absurd (.inl q) c2
    · rfl
  have hval : valAt st en ma (placeN hs ms kind id) = val := Classical.byContradiction fun q => c2 (.inr q)
  have key : LimOk hs ms (placeN hs ms kind id) gr st en ma way s := by
    refine ⟨hf, fun q => ?_, fun q => ?_⟩
    · rw [hval] at q
      rw [if_pos q] at h
      by_cases c : way ≠ 0 ∨ s ≠ []
      · rw [if_pos c] at h; cases h
      · exact ⟨Classical.byContradiction fun r => c (.inl r), Classical.byContradiction fun r => c (.inr r)⟩
    · rw [hval] at q ⊢
      rw [if_neg q] at h
      cases gr with
      | true =>
        simp only [if_true] at h ⊢
        by_cases c : showsL (putH hs (placeN hs ms kind id) (val + 1) (spanHi hs ms (placeN hs ms kind id))) (putM hs ms (placeN hs ms kind id) (val + 1) (spanHi hs ms (placeN hs ms kind id))) way s = true
        · unfold showsL at c
          rw [Bool.and_eq_true, decide_eq_true_iff] at c
          exact c.2
        · rw [if_neg c] at h; cases h
      | false =>
        simp only [Bool.false_eq_true, if_false] at h ⊢
        by_cases c : showsL (putH hs (placeN hs ms kind id) (spanLo hs ms (placeN hs ms kind id)) (val - 1)) (putM hs ms (placeN hs ms kind id) (spanLo hs ms (placeN hs ms kind id)) (val - 1)) way s = true
        · unfold showsL at c
          rw [Bool.and_eq_true, decide_eq_true_iff] at c
          exact c.2
        · rw [if_neg c] at h; cases h
  unfold limN
  cases gr with
  | true => rw [if_pos rfl, (lim_hi hv hlt key).2, hval]
  | false => rw [if_neg (by decide), (lim_lo hv hlt key).2, hval]
/-- What something is in a course of the trade. -/
theorem told_val {kind id : Int} {st en ma : List Int} (hp : placeE hs ms kind id = 0) (l1 : st.length = hs.length) (l2 : en.length = hs.length) (l3 : ma.length = ms.length) : toldL hs ms kind id st en ma = (valAt st en ma (placeN hs ms kind id), true) := by
  rw [valAt_pos l1 l2]
  unfold placeE at hp
  unfold toldL placeN
  by_cases c1 : kind = 1
  · rw [if_pos c1] at hp
    have l : posM ms id < ms.length := by
      by_cases c : posM ms id < ms.length
      · exact c
      · rw [if_neg c] at hp; cases hp
    simp only [if_pos c1]
    rw [if_pos ⟨l, by omega⟩, if_neg (by omega), if_neg (by omega), Nat.add_sub_cancel_left]
  · rw [if_neg c1] at hp
    have hc : kind = 2 ∨ kind = 3 := by
      by_cases c : kind = 2 ∨ kind = 3
      · exact c
      · rw [if_neg c] at hp; cases hp
    rw [if_pos hc] at hp
    have l : posN hs id < hs.length := by
      by_cases c : posN hs id < hs.length
      · exact c
      · rw [if_neg c] at hp; cases hp
    rw [if_neg c1, if_pos hc, if_pos ⟨l, by omega, by omega⟩]
    simp only [if_neg c1]
    by_cases c2 : kind = 2
    · simp only [if_pos c2]
      rw [if_pos l]
    · simp only [if_neg c2]
      rw [if_neg (by omega), if_pos (by omega), Nat.add_sub_cancel_left]
/-- The trade with one number for something has a course, and in each of its courses it is that number. -/
theorem mid_told {kind id : Int} (hv : TV hs ms) (hp : placeE hs ms kind id = 0) (ha : agrL hs ms = true) {mid : Int} (h1 : limN hs ms kind id false ≤ mid) (h2 : mid ≤ limN hs ms kind id true) :
    agrL (putIH hs kind id mid mid) (putIM ms kind id mid mid) = true ∧ ∀ st en ma, fitsL (putIH hs kind id mid mid) (putIM ms kind id mid mid) st en ma = true → toldL hs ms kind id st en ma = (mid, true) := by
  have hlt := placeN_lt hp
  unfold limN at h1 h2
  rw [if_neg (by decide)] at h1
  rw [if_pos rfl] at h2
  obtain ⟨q1, q2, q3⟩ := nar_ends hv hlt ha
  rw [← putH_id hv.ids hp, ← putM_id hv.mids hp]
  refine ⟨mid_fits hv hlt ha h1 h2, fun st en ma hf => ?_⟩
  have := (fits_put hlt (by omega) (by omega)).1 hf
  obtain ⟨⟨l1, l2, l3⟩, _⟩ := fitsL_prop.1 this.1
  rw [told_val hp l1 l2 l3]
  have := this.2
  rw [show valAt st en ma (placeN hs ms kind id) = mid by omega]
end
end Go.Proofs.YtighfmgkoepfkaaGreat
