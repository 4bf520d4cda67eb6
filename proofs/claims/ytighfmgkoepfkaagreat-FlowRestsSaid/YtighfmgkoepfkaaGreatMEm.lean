/- The plain law of two holders as one: a trade that has a course has one with them as one, and what something else can be does not become less. -/
import Derived.Test.YtighfmgkoepfkaaGreatMI
import Derived.Test.YtighfmgkoepfkaaGreatME
namespace Go.Proofs.YtighfmgkoepfkaaGreat

def renM (a b : Int) (m : Mv) : Mv := ⟨m.id, if m.fr = b then a else m.fr, if m.to = b then a else m.to, m.lo, m.hi⟩
def addH (x y : Hd) : Hd := ⟨x.id, x.sl + y.sl, x.sh + y.sh, x.el + y.el, x.eh + y.eh, x.bk + y.bk⟩
def mgHs (hs : List Hd) (a b : Int) : List Hd := (hs.set (posN hs a) (addH (hat hs (posN hs a)) (hat hs (posN hs b)))).eraseIdx (posN hs b)
def mgMs (ms : List Mv) (a b : Int) : List Mv := (ms.map (renM a b)).filter fun m => !decide (m.fr = m.to)
def mgT (hs : List Hd) (a b : Int) : Hd := addH (hat hs (posN hs a)) (hat hs (posN hs b))
/-- The error of Merged. -/
def mgE (hs : List Hd) (ms : List Mv) (a b : Int) : Int :=
  if tcheck hs ms ≠ 0 then tcheck hs ms else if pos hs a < 0 ∨ pos hs b < 0 then 5 else if pos hs a = pos hs b then 1
  else if 65536 < (mgT hs a b).sh ∨ 65536 < (mgT hs a b).eh ∨ 65536 < (mgT hs a b).bk then 3 else 0
def mgH (hs : List Hd) (ms : List Mv) (a b : Int) : List Hd := if mgE hs ms a b = 0 then mgHs hs a b else []
def mgM (hs : List Hd) (ms : List Mv) (a b : Int) : List Mv := if mgE hs ms a b = 0 then mgMs ms a b else []

theorem erase_map {α β : Type} (f : α → β) : ∀ (l : List α) (k : Nat), (l.eraseIdx k).map f = (l.map f).eraseIdx k
  | [], _ => rfl
  | x :: t, 0 => rfl
  | x :: t, k + 1 => by simp [erase_map f t k]
theorem isum_erase : ∀ (l : List Int) (k : Nat) (h : k < l.length), isum (l.eraseIdx k) = isum l - l[k]
  | x :: t, 0, _ => by simp [isum]; omega
  | x :: t, k + 1, h => by
    have := isum_erase t k (by simpa using h)
    simp [isum, this]; omega
theorem isum_set : ∀ (l : List Int) (k : Nat) (h : k < l.length) (y : Int), isum (l.set k y) = isum l - l[k] + y
  | x :: t, 0, _, y => by simp [isum]; omega
  | x :: t, k + 1, h, y => by
    have := isum_set t k (by simpa using h) y
    simp [isum, this]; omega

section
variable {hs : List Hd} {ms : List Mv} {a b : Int}
structure TwoH (hs : List Hd) (a b : Int) : Prop where
  pa : posN hs a < hs.length
  pb : posN hs b < hs.length
  ne : a ≠ b
theorem TwoH.pos_ne (h : TwoH hs a b) : posN hs a ≠ posN hs b := fun e => h.ne (by
  have e1 : (hat hs (posN hs a)).id = a := by rw [hat_eq h.pa]; exact posN_at hs a h.pa
  have e2 : (hat hs (posN hs b)).id = b := by rw [hat_eq h.pb]; exact posN_at hs b h.pb
  rw [e] at e1
  exact e1.symm.trans e2)
theorem mgE_two (h : mgE hs ms a b = 0) : TV hs ms ∧ TwoH hs a b ∧ (mgT hs a b).sh ≤ 65536 ∧ (mgT hs a b).eh ≤ 65536 ∧ (mgT hs a b).bk ≤ 65536 := by
  unfold mgE at h
  by_cases c1 : tcheck hs ms ≠ 0
  · rw [if_pos c1] at h; exact absurd h c1
  rw [if_neg c1] at h
  by_cases c2 : pos hs a < 0 ∨ pos hs b < 0
  · rw [if_pos c2] at h; cases h
  rw [if_neg c2] at h
  by_cases c3 : pos hs a = pos hs b
  · rw [if_pos c3] at h; cases h
  rw [if_neg c3] at h
  by_cases c4 : 65536 < (mgT hs a b).sh ∨ 65536 < (mgT hs a b).eh ∨ 65536 < (mgT hs a b).bk
  · rw [if_pos c4] at h; cases h
  have p : ∀ x, ¬ pos hs x < 0 → posN hs x < hs.length := fun x q => by
    unfold pos at q
    by_cases r : posN hs x < hs.length
    · exact r
    · rw [if_neg r] at q; omega
  exact ⟨tcheck_zero.1 (Classical.byContradiction fun q => c1 q), ⟨p a (by omega), p b (by omega), fun e => c3 (by rw [e])⟩, by omega, by omega, by omega⟩
theorem mgHs_ids (h : TwoH hs a b) : (mgHs hs a b).map Hd.id = (hs.map Hd.id).eraseIdx (posN hs b) := by
  unfold mgHs
  rw [erase_map, List.map_set]
  congr 1
  apply List.ext_getElem (by simp)
  intro i h1 h2
  rw [List.getElem_set]
  split
  · rename_i e
    subst e
    simp [addH, hat_eq h.pa]
  · rfl
theorem mgHs_len (h : TwoH hs a b) : (mgHs hs a b).length + 1 = hs.length := by
  unfold mgHs
  rw [List.length_eraseIdx]
  have := h.pb
  simp [h.pb]
  omega
theorem mg_mem (hv : (hs.map Hd.id).Nodup) (h : TwoH hs a b) {x : Int} : (∃ y ∈ mgHs hs a b, y.id = x) ↔ x ≠ b ∧ ∃ y ∈ hs, y.id = x := by
  have e : (∃ y ∈ mgHs hs a b, y.id = x) ↔ x ∈ (mgHs hs a b).map Hd.id := by simp
  have e2 : (∃ y ∈ hs, y.id = x) ↔ x ∈ hs.map Hd.id := by simp
  rw [e, e2, mgHs_ids h, List.mem_eraseIdx_iff_getElem]
  have hb : (hs.map Hd.id)[posN hs b]'(by simpa using h.pb) = b := by rw [List.getElem_map]; exact posN_at hs b h.pb
  constructor
  · rintro ⟨i, hi, hne, rfl⟩
    refine ⟨fun q => hne ?_, List.getElem_mem hi⟩
    exact (List.getElem_inj (h₀ := hi) (h₁ := by simpa using h.pb) hv).1 (by rw [q, hb])
  · rintro ⟨hne, hm⟩
    obtain ⟨i, hi, rfl⟩ := List.getElem_of_mem hm
    exact ⟨i, hi, fun q => hne (by subst q; exact hb), rfl⟩
theorem addH_ok (hv : TV hs ms) (h : TwoH hs a b) (h1 : (mgT hs a b).sh ≤ 65536) (h2 : (mgT hs a b).eh ≤ 65536) (h3 : (mgT hs a b).bk ≤ 65536) : okHd (mgT hs a b) = true := by
  have ka := hv.hd _ (by rw [hat_eq h.pa]; exact List.getElem_mem h.pa : hat hs (posN hs a) ∈ hs)
  have kb := hv.hd _ (by rw [hat_eq h.pb]; exact List.getElem_mem h.pb : hat hs (posN hs b) ∈ hs)
  simp only [okHd, okId, okSp, mgT, addH, Bool.and_eq_true, decide_eq_true_eq] at *
  refine ⟨⟨⟨?_, ?_⟩, ?_⟩, ?_⟩
  all_goals (refine decide_eq_true ?_; omega)
theorem TV.mg (hv : TV hs ms) (h : TwoH hs a b) (h1 : (mgT hs a b).sh ≤ 65536) (h2 : (mgT hs a b).eh ≤ 65536) (h3 : (mgT hs a b).bk ≤ 65536) : TV (mgHs hs a b) (mgMs ms a b) := by
  refine ⟨?_, ?_, ?_, ?_, ?_, ?_⟩
  · have := hv.lenH; have := mgHs_len h; omega
  · refine Nat.le_trans (List.length_filter_le _ _) ?_
    rw [List.length_map]
    exact hv.lenM
  · intro x hx
    unfold mgHs at hx
    have := (List.eraseIdx_sublist _ _).subset hx
    rcases List.mem_or_eq_of_mem_set this with q | q
    · exact hv.hd x q
    · subst q; exact addH_ok hv h h1 h2 h3
  · rw [mgHs_ids h]
    exact hv.ids.sublist (List.eraseIdx_sublist _ _)
  · intro m hm
    unfold mgMs at hm
    rw [List.mem_filter] at hm
    obtain ⟨hm, hne⟩ := hm
    obtain ⟨x, hx, rfl⟩ := List.mem_map.1 hm
    obtain ⟨q1, q2, q3, q4, q5⟩ := hv.mv x hx
    have ha : ∃ y ∈ hs, y.id = a := ⟨_, List.getElem_mem h.pa, posN_at hs a h.pa⟩
    refine ⟨q1, q2, by simpa using hne, (mg_mem hv.ids h).2 ?_, (mg_mem hv.ids h).2 ?_⟩
    · show (if x.fr = b then a else x.fr) ≠ b ∧ _
      by_cases c : x.fr = b
      · simp only [renM, if_pos c]; exact ⟨h.ne, ha⟩
      · simp only [renM, if_neg c]; exact ⟨c, q4⟩
    · show (if x.to = b then a else x.to) ≠ b ∧ _
      by_cases c : x.to = b
      · simp only [renM, if_pos c]; exact ⟨h.ne, ha⟩
      · simp only [renM, if_neg c]; exact ⟨c, q5⟩
  · refine hv.mids.sublist ?_
    have e : ms.map Mv.id = (ms.map (renM a b)).map Mv.id := by rw [List.map_map]; rfl
    rw [e]
    exact (List.filter_sublist).map _
end
end Go.Proofs.YtighfmgkoepfkaaGreat
