/- Plain laws of limits: what something can be is found by halving; each number between the ends is that of some course; what CheckLimit accepts is the end. -/
import Derived.Test.YtighfmgkoepfkaaGreatMI
import Derived.Test.YtighfmgkoepfkaaGreatMD
namespace Go.Proofs.YtighfmgkoepfkaaGreat

def renM (a b : Int) (m : Mv) : Mv := ⟨m.id, if m.fr = b then a else m.fr, if m.to = b then a else m.to, m.lo, m.hi⟩
def addH (x y : Hd) : Hd := ⟨x.id, x.sl + y.sl, x.sh + y.sh, x.el + y.el, x.eh + y.eh, x.bk + y.bk⟩
def mgHs (hs : List Hd) (a b : Int) : List Hd := (hs.set (posN hs a) (addH (hat hs (posN hs a)) (hat hs (posN hs b)))).eraseIdx (posN hs b)
def mgMs (ms : List Mv) (a b : Int) : List Mv := (ms.map (renM a b)).filter fun m => !decide (m.fr = m.to)
def mgT (hs : List Hd) (a b : Int) : Hd := addH (hat hs (posN hs a)) (hat hs (posN hs b))
/-- The error of Merged. -/
def mgE (hs : List Hd) (ms : List Mv) (a b : Int) : Int :=
  if tcheck hs ms ≠ 0 then tcheck hs ms else if pos hs a < 0 ∨ pos hs b < 0 then 5 else if pos hs a = pos hs b then 1
  else if 65536 < (mgT hs a b).sh ∨ 65536 < (mgT hs a b).eh ∨ 65536 < (mgT hs a b).bk then 3 else 0
def mgH (hs : List Hd) (ms : List Mv) (a b : Int) : List Hd := if mgE hs ms a b = 0 then mgHs hs a b else []
def mgM (hs : List Hd) (ms : List Mv) (a b : Int) : List Mv := if mgE hs ms a b = 0 then mgMs ms a b else []

theorem erase_map {α β : Type} (f : α → β) : ∀ (l : List α) (k : Nat), (l.eraseIdx k).map f = (l.map f).eraseIdx k
  | [], _ => rfl
  | x :: t, 0 => rfl
  | x :: t, k + 1 => by simp [erase_map f t k]
theorem isum_erase : ∀ (l : List Int) (k : Nat) (h : k < l.length), isum (l.eraseIdx k) = isum l - l[k]
  | x :: t, 0, _ => by simp [isum]; omega
  | x :: t, k + 1, h => by
    have := isum_erase t k (by simpa using h)
    simp [isum, this]; omega
theorem isum_set : ∀ (l : List Int) (k : Nat) (h : k < l.length) (y : Int), isum (l.set k y) = isum l - l[k] + y
  | x :: t, 0, _, y => by simp [isum]; omega
  | x :: t, k + 1, h, y => by
    have := isum_set t k (by simpa using h) y
    simp [isum, this]; omega

section
variable {hs : List Hd} {ms : List Mv} {a b : Int}
structure TwoH (hs : List Hd) (a b : Int) : Prop where
  pa : posN hs a < hs.length
  pb : posN hs b < hs.length
  ne : a ≠ b
theorem TwoH.pos_ne (h : TwoH hs a b) : posN hs a ≠ posN hs b := fun e => h.ne (by
  have e1 : (hat hs (posN hs a)).id = a := by rw [hat_eq h.pa]; exact posN_at hs a h.pa
  have e2 : (hat hs (posN hs b)).id = b := by rw [hat_eq h.pb]; exact posN_at hs b h.pb
  rw [e] at e1
  exact e1.symm.trans e2)
theorem mgE_two (h : mgE hs ms a b = 0) : TV hs ms ∧ TwoH hs a b ∧ (mgT hs a b).sh ≤ 65536 ∧ (mgT hs a b).eh ≤ 65536 ∧ (mgT hs a b).bk ≤ 65536 := by
  unfold mgE at h
  by_cases c1 : tcheck hs ms ≠ 0
  · rw [if_pos c1] at h; exact absurd h c1
  rw [if_neg c1] at h
  by_cases c2 : pos hs a < 0 ∨ pos hs b < 0
  · rw [if_pos c2] at h; cases h
  rw [if_neg c2] at h
  by_cases c3 : pos hs a = pos hs b
  · rw [if_pos c3] at h; cases h
  rw [if_neg c3] at h
  by_cases c4 : 65536 < (mgT hs a b).sh ∨ 65536 < (mgT hs a b).eh ∨ 65536 < (mgT hs a b).bk
  · rw [if_pos c4] at h; cases h
  have p : ∀ x, ¬ pos hs x < 0 → posN hs x < hs.length := fun x q => by
    unfold pos at q
    by_cases r : posN hs x < hs.length
    · exact r
    · rw [if_neg r] at q; omega
  exact ⟨tcheck_zero.1 (Classical.byContradiction fun q => c1 q), ⟨p a (by omega), p b (by omega), fun e => c3 (by rw [e])⟩, by omega, by omega, by omega⟩
theorem mgHs_ids (h : TwoH hs a b) : (mgHs hs a b).map Hd.id = (hs.map Hd.id).eraseIdx (posN hs b) := by
  unfold mgHs
  rw [erase_map, List.map_set]
  congr 1
  apply List.ext_getElem (by simp)
  intro i h1 h2
  rw [List.getElem_set]
  split
  · rename_i e
    subst e
    simp [addH, hat_eq h.pa]
  · rfl
theorem mgHs_len (h : TwoH hs a b) : (mgHs hs a b).length + 1 = hs.length := by
  unfold mgHs
  rw [List.length_eraseIdx]
  have := h.pb
  simp [h.pb]
  omega
theorem mg_mem (hv : (hs.map Hd.id).Nodup) (h : TwoH hs a b) {x : Int} : (∃ y ∈ mgHs hs a b, y.id = x) ↔ x ≠ b ∧ ∃ y ∈ hs, y.id = x := by
  have e : (∃ y ∈ mgHs hs a b, y.id = x) ↔ x ∈ (mgHs hs a b).map Hd.id := by simp
  have e2 : (∃ y ∈ hs, y.id = x) ↔ x ∈ hs.map Hd.id := by simp
  rw [e, e2, mgHs_ids h, List.mem_eraseIdx_iff_getElem]
  have hb : (hs.map Hd.id)[posN hs b]'(by simpa using h.pb) = b := by rw [List.getElem_map]; exact posN_at hs b h.pb
  constructor
  · rintro ⟨i, hi, hne, rfl⟩
    refine ⟨fun q => hne ?_, List.getElem_mem hi⟩
    exact (List.getElem_inj (h₀ := hi) (h₁ := by simpa using h.pb) hv).1 (by rw [q, hb])
  · rintro ⟨hne, hm⟩
    obtain ⟨i, hi, rfl⟩ := List.getElem_of_mem hm
    exact ⟨i, hi, fun q => hne (by subst q; exact hb), rfl⟩
theorem addH_ok (hv : TV hs ms) (h : TwoH hs a b) (h1 : (mgT hs a b).sh ≤ 65536) (h2 : (mgT hs a b).eh ≤ 65536) (h3 : (mgT hs a b).bk ≤ 65536) : okHd (mgT hs a b) = true := by
  have ka := hv.hd _ (by rw [hat_eq h.pa]; exact List.getElem_mem h.pa : hat hs (posN hs a) ∈ hs)
  have kb := hv.hd _ (by rw [hat_eq h.pb]; exact List.getElem_mem h.pb : hat hs (posN hs b) ∈ hs)
  simp only [okHd, okId, okSp, mgT, addH, Bool.and_eq_true, decide_eq_true_eq] at *
  refine ⟨⟨⟨?_, ?_⟩, ?_⟩, ?_⟩
  all_goals (refine decide_eq_true ?_; omega)
theorem TV.mg (hv : TV hs ms) (h : TwoH hs a b) (h1 : (mgT hs a b).sh ≤ 65536) (h2 : (mgT hs a b).eh ≤ 65536) (h3 : (mgT hs a b).bk ≤ 65536) : TV (mgHs hs a b) (mgMs ms a b) := by
  refine ⟨?_, ?_, ?_, ?_, ?_, ?_⟩
  · have := hv.lenH; have := mgHs_len h; omega
  · refine Nat.le_trans (List.length_filter_le _ _) ?_
    rw [List.length_map]
    exact hv.lenM
  · intro x hx
    unfold mgHs at hx
    have := (List.eraseIdx_sublist _ _).subset hx
    rcases List.mem_or_eq_of_mem_set this with q | q
    · exact hv.hd x q
    · subst q; exact addH_ok hv h h1 h2 h3
  · rw [mgHs_ids h]
    exact hv.ids.sublist (List.eraseIdx_sublist _ _)
  · intro m hm
    unfold mgMs at hm
    rw [List.mem_filter] at hm
    obtain ⟨hm, hne⟩ := hm
    obtain ⟨x, hx, rfl⟩ := List.mem_map.1 hm
    obtain ⟨q1, q2, q3, q4, q5⟩ := hv.mv x hx
    have ha : ∃ y ∈ hs, y.id = a := ⟨_, List.getElem_mem h.pa, posN_at hs a h.pa⟩
    refine ⟨q1, q2, by simpa using hne, (mg_mem hv.ids h).2 ?_, (mg_mem hv.ids h).2 ?_⟩
    · show (if x.fr = b then a else x.fr) ≠ b ∧ _
      by_cases c : x.fr = b
      · simp only [renM, if_pos c]; exact ⟨h.ne, ha⟩
      · simp only [renM, if_neg c]; exact ⟨c, q4⟩
    · show (if x.to = b then a else x.to) ≠ b ∧ _
      by_cases c : x.to = b
      · simp only [renM, if_pos c]; exact ⟨h.ne, ha⟩
      · simp only [renM, if_neg c]; exact ⟨c, q5⟩
  · refine hv.mids.sublist ?_
    have e : ms.map Mv.id = (ms.map (renM a b)).map Mv.id := by rw [List.map_map]; rfl
    rw [e]
    exact (List.filter_sublist).map _
/-- The set of IDs in the trade before, of one behind it. -/
def unS (a b : Int) (s : List Int) : List Int := if s.contains a = true then b :: s else s.filter fun x => !decide (x = b)
theorem unS_b (s : List Int) : (unS a b s).contains b = s.contains a := by
  unfold unS
  split
  · rename_i c; rw [c, List.contains_cons]; simp
  · rename_i c; rw [Bool.eq_false_iff.2 c]; simp
theorem unS_ne (s : List Int) {x : Int} (h : x ≠ b) : (unS a b s).contains x = s.contains x := by
  unfold unS
  split
  · rw [List.contains_cons]; simp [h]
  · rw [Bool.eq_iff_iff]; simp [h]
theorem hsum_mg (hv : (hs.map Hd.id).Nodup) (h : TwoH hs a b) (s : List Int) (f : Hd → Int) (hf : ∀ x y, f (addH x y) = f x + f y) : hsum s f (mgHs hs a b) = hsum (unS a b s) f hs := by
  unfold hsum mgHs
  rw [erase_map, List.map_set, isum_erase _ _ (by simpa using h.pb), isum_set _ _ (by simpa using h.pa), List.getElem_set_ne h.pos_ne, List.getElem_map, List.getElem_map]
  have e : (hs.map fun x => if (unS a b s).contains x.id = true then f x else 0) = (hs.map fun x => if s.contains x.id = true then f x else 0).set (posN hs b) (if s.contains a = true then f (hat hs (posN hs b)) else 0) := by
    apply List.ext_getElem (by simp)
    intro i h1 h2
    have hi : i < hs.length := by simpa using h1
    rw [List.getElem_set, List.getElem_map]
    by_cases e : posN hs b = i
    · rw [if_pos e]
      subst e
      rw [posN_at hs b hi, unS_b, hat_eq hi]
    · rw [if_neg e, List.getElem_map, unS_ne]
      intro q
      exact e ((nodup_ids.1 hv i hi).symm.trans (by rw [q])).symm
  rw [e, isum_set _ _ (by simpa using h.pb), List.getElem_map]
  have ea : (hs[posN hs a]'h.pa).id = a := posN_at hs a h.pa
  have eb : (hs[posN hs b]'h.pb).id = b := posN_at hs b h.pb
  have ec : (addH (hat hs (posN hs a)) (hat hs (posN hs b))).id = a := by show (hat hs (posN hs a)).id = a; rw [hat_eq h.pa]; exact ea
  rw [ea, eb, ec, hf, hat_eq h.pa, hat_eq h.pb]
  split <;> split <;> omega
theorem msum_mg (s : List Int) (out : Bool) (f : Mv → Int) (hf : ∀ m, f (renM a b m) = f m) : ∀ ms : List Mv, msum s out f (mgMs ms a b) = msum (unS a b s) out f ms
  | [] => rfl
  | m :: t => by
    have ih := msum_mg s out f hf t
    have q : ∀ x : Int, (unS a b s).contains x = s.contains (if x = b then a else x) := fun x => by
      by_cases c : x = b
      · rw [if_pos c, c, unS_b]
      · rw [if_neg c, unS_ne _ c]
    unfold msum mgMs at ih ⊢
    rw [List.map_cons, List.map_cons, isum, ← ih, List.filter_cons]
    by_cases c : (renM a b m).fr = (renM a b m).to
    · rw [if_neg (by simpa using c)]
      have e : ¬ ((unS a b s).contains m.fr = out ∧ (unS a b s).contains m.to = !out) := by
        rw [q, q]
        rw [show (if m.fr = b then a else m.fr) = (if m.to = b then a else m.to) from c]
        rintro ⟨r1, r2⟩
        rw [r1] at r2
        cases out <;> cases r2
      rw [if_neg e]
      omega
    · rw [if_pos (by simpa using c), List.map_cons, isum]
      congr 1
      rw [hf, q, q]
      rfl
theorem okCut_any (hv : TV hs ms) (ha : agrL hs ms = true) (s : List Int) : okCut hs ms s = true := by
  obtain ⟨st, en, ma, hf⟩ := (agrL_course hv).1 ha
  exact okCut_iff.2 ⟨thrL_le hv hf 1 s, thrL_le hv hf 2 s⟩
theorem agr_mg (hv : TV hs ms) (h : TwoH hs a b) (ha : agrL hs ms = true) : agrL (mgHs hs a b) (mgMs ms a b) = true := by
  refine agrL_iff.2 fun S c => ?_
  have := okCut_any hv ha (unS a b (sideL (mgHs hs a b) S c))
  generalize sideL (mgHs hs a b) S c = s at *
  unfold okCut outLo outHi inLo inHi at this ⊢
  rw [hsum_mg hv.ids h s Hd.el (fun _ _ => rfl), hsum_mg hv.ids h s Hd.eh (fun _ _ => rfl), hsum_mg hv.ids h s Hd.sl (fun _ _ => rfl), hsum_mg hv.ids h s Hd.sh (fun _ _ => rfl),
    msum_mg s true Mv.lo (fun _ => rfl), msum_mg s true Mv.hi (fun _ => rfl), msum_mg s false Mv.lo (fun _ => rfl), msum_mg s false Mv.hi (fun _ => rfl)]
  exact this
end
/-- A span put at something, by its ID. -/
def putIH (hs : List Hd) (kind id lo hi : Int) : List Hd := hs.map fun h => if kind = 2 ∧ h.id = id then setS lo hi h else if kind = 3 ∧ h.id = id then setE lo hi h else h
def putIM (ms : List Mv) (kind id lo hi : Int) : List Mv := ms.map fun m => if kind = 1 ∧ m.id = id then setM lo hi m else m
section
variable {hs : List Hd} {ms : List Mv} {kind id lo hi : Int}
theorem putH_id (hn : (hs.map Hd.id).Nodup) (hp : placeE hs ms kind id = 0) : putH hs (placeN hs ms kind id) lo hi = putIH hs kind id lo hi := by
  unfold placeE at hp
  have hid : ∀ i (hi : i < hs.length), (hs[i]).id = id → i = posN hs id := fun i hi e => by rw [← e]; exact (nodup_ids.1 hn i hi).symm
  have hle := posN_le hs id
  unfold putH placeN putIH
  by_cases c1 : kind = 1
  · rw [if_pos c1] at hp
    simp only [if_pos c1]
    rw [if_neg (by omega), if_neg (by omega)]
    rw [List.map_congr_left (g := fun h => h) (fun h _ => by rw [if_neg (by omega), if_neg (by omega)])]
    simp
  rw [if_neg c1] at hp
  by_cases c2 : kind = 2
  · rw [if_pos (.inl c2)] at hp
    have hlt : posN hs id < hs.length := by
      by_cases c : posN hs id < hs.length
      · exact c
      · rw [if_neg c] at hp; cases hp
    simp only [if_neg c1, if_pos c2]
    rw [if_pos hlt]
    apply List.ext_getElem (by simp)
    intro i h1 h2
    have hi' : i < hs.length := by simpa using h1
    rw [List.getElem_modify, List.getElem_map]
    by_cases e : (hs[i]).id = id
    · rw [if_pos (hid i hi' e).symm, if_pos ⟨c2, e⟩]
    · rw [if_neg (fun q => e (by subst q; exact posN_at hs id hlt)), if_neg (fun q => e q.2), if_neg (fun q => e q.2)]
  · by_cases c3 : kind = 3
    · rw [if_pos (.inr c3)] at hp
      have hlt : posN hs id < hs.length := by
        by_cases c : posN hs id < hs.length
        · exact c
        · rw [if_neg c] at hp; cases hp
      simp only [if_neg c1, if_neg c2]
      rw [if_neg (by omega), if_pos (by omega), Nat.add_sub_cancel_left]
      apply List.ext_getElem (by simp)
      intro i h1 h2
      have hi' : i < hs.length := by simpa using h1
      rw [List.getElem_modify, List.getElem_map]
      by_cases e : (hs[i]).id = id
      · rw [if_pos (hid i hi' e).symm, if_neg (fun q => c2 q.1), if_pos ⟨c3, e⟩]
      · rw [if_neg (fun q => e (by subst q; exact posN_at hs id hlt)), if_neg (fun q => e q.2), if_neg (fun q => e q.2)]
    · rw [if_neg (by omega)] at hp; cases hp
theorem posM_self (hn : (ms.map Mv.id).Nodup) {i : Nat} (hi : i < ms.length) : posM ms (ms[i]).id = i := by
  have h1 := posM_first ms (ms[i]).id i hi rfl
  have h2 : posM ms (ms[i]).id < ms.length := by omega
  have h3 := posM_at ms (ms[i]).id h2
  exact (List.getElem_inj (h₀ := by simpa using h2) (h₁ := by simpa using hi) hn).1 (by rw [List.getElem_map, List.getElem_map]; exact h3)
theorem putM_id (hn : (ms.map Mv.id).Nodup) (hp : placeE hs ms kind id = 0) : putM hs ms (placeN hs ms kind id) lo hi = putIM ms kind id lo hi := by
  unfold placeE at hp
  have hle := posN_le hs id
  unfold putM placeN putIM
  by_cases c1 : kind = 1
  · rw [if_pos c1] at hp
    have hlt : posM ms id < ms.length := by
      by_cases c : posM ms id < ms.length
      · exact c
      · rw [if_neg c] at hp; cases hp
    simp only [if_pos c1]
    rw [if_neg (by omega), Nat.add_sub_cancel_left]
    apply List.ext_getElem (by simp)
    intro i h1 h2
    have hi' : i < ms.length := by simpa using h1
    rw [List.getElem_modify, List.getElem_map]
    by_cases e : (ms[i]).id = id
    · rw [if_pos (by rw [← e]; exact posM_self hn hi'), if_pos ⟨c1, e⟩]
    · rw [if_neg (fun q => e (by subst q; exact posM_at ms id hlt)), if_neg (fun q => e q.2)]
  · rw [if_neg c1] at hp
    have hlt : (kind = 2 ∨ kind = 3) ∧ posN hs id < hs.length := by
      by_cases c : kind = 2 ∨ kind = 3
      · rw [if_pos c] at hp
        by_cases d : posN hs id < hs.length
        · exact ⟨c, d⟩
        · rw [if_neg d] at hp; cases hp
      · rw [if_neg c] at hp; cases hp
    simp only [if_neg c1]
    rw [if_pos (by split <;> omega), List.map_congr_left (g := fun h => h) (fun h _ => by rw [if_neg (by omega)])]
    simp
variable {a b : Int}
theorem putIH_ids : (putIH hs kind id lo hi).map Hd.id = hs.map Hd.id := by
  unfold putIH
  rw [List.map_map]
  refine List.map_congr_left fun h _ => ?_
  simp only [Function.comp]
  split
  · rfl
  · split <;> rfl
theorem hat_map {f : Hd → Hd} {i : Nat} (h : i < hs.length) : hat (hs.map f) i = f (hat hs i) := by
  rw [hat_eq h, hat_eq (by simpa using h), List.getElem_map]
theorem mg_putH (h : TwoH hs a b) (hk : kind = 2 ∨ kind = 3 → id ≠ a ∧ id ≠ b) : mgHs (putIH hs kind id lo hi) a b = putIH (mgHs hs a b) kind id lo hi := by
  have e := fun x => posN_ids hs (putIH hs kind id lo hi) putIH_ids x
  unfold mgHs
  rw [e, e]
  unfold putIH
  rw [hat_map h.pa, hat_map h.pb, erase_map, List.map_set]
  have hia : (hat hs (posN hs a)).id = a := by rw [hat_eq h.pa]; exact posN_at hs a h.pa
  have hib : (hat hs (posN hs b)).id = b := by rw [hat_eq h.pb]; exact posN_at hs b h.pb
  have hn : ∀ x : Hd, x.id = a ∨ x.id = b → (if kind = 2 ∧ x.id = id then setS lo hi x else if kind = 3 ∧ x.id = id then setE lo hi x else x) = x := fun x hx => by
    rw [if_neg (fun q => by have := hk (.inl q.1); rcases hx with r | r <;> omega), if_neg (fun q => by have := hk (.inr q.1); rcases hx with r | r <;> omega)]
  rw [hn _ (.inl hia), hn _ (.inr hib), hn (addH _ _) (.inl hia)]
theorem mg_putM : mgMs (putIM ms kind id lo hi) a b = putIM (mgMs ms a b) kind id lo hi := by
  unfold mgMs putIM
  rw [List.map_map, List.filter_map, List.filter_map, List.map_map]
  have e1 : ∀ m : Mv, (renM a b ∘ fun m => if kind = 1 ∧ m.id = id then setM lo hi m else m) m = ((fun m => if kind = 1 ∧ m.id = id then setM lo hi m else m) ∘ renM a b) m := fun m => by
    show renM a b (if kind = 1 ∧ m.id = id then setM lo hi m else m) = if kind = 1 ∧ m.id = id then setM lo hi (renM a b m) else renM a b m
    split <;> rfl
  have e2 : (renM a b ∘ fun m => if kind = 1 ∧ m.id = id then setM lo hi m else m) = ((fun m => if kind = 1 ∧ m.id = id then setM lo hi m else m) ∘ renM a b) := funext e1
  rw [e2]
  congr 1
  refine List.filter_congr fun m _ => ?_
  simp only [Function.comp]
  split <;> rfl
theorem mgHs_mem (h : TwoH hs a b) {x : Hd} (hx : x ∈ mgHs hs a b) (hne : x.id ≠ a) : x ∈ hs := by
  unfold mgHs at hx
  rcases List.mem_or_eq_of_mem_set ((List.eraseIdx_sublist _ _).subset hx) with q | q
  · exact q
  · subst q
    exact absurd (show (hat hs (posN hs a)).id = a by rw [hat_eq h.pa]; exact posN_at hs a h.pa) hne
theorem hat_of {x : Hd} (hn : (hs.map Hd.id).Nodup) (hx : x ∈ hs) : hat hs (posN hs x.id) = x := by
  obtain ⟨i, hi, rfl⟩ := List.getElem_of_mem hx
  rw [nodup_ids.1 hn i hi, hat_eq hi]
theorem mat_of {x : Mv} (hn : (ms.map Mv.id).Nodup) (hx : x ∈ ms) : mat ms (posM ms x.id) = x := by
  obtain ⟨i, hi, rfl⟩ := List.getElem_of_mem hx
  rw [posM_self hn hi, mat_eq hi]
theorem mg_span (hv : TV hs ms) (h : TwoH hs a b) (_ : TV (mgHs hs a b) (mgMs ms a b)) (hp : placeE hs ms kind id = 0) (hp' : placeE (mgHs hs a b) (mgMs ms a b) kind id = 0) (hk : kind = 2 ∨ kind = 3 → id ≠ a ∧ id ≠ b) :
    spanLo (mgHs hs a b) (mgMs ms a b) (placeN (mgHs hs a b) (mgMs ms a b) kind id) = spanLo hs ms (placeN hs ms kind id) ∧ spanHi (mgHs hs a b) (mgMs ms a b) (placeN (mgHs hs a b) (mgMs ms a b) kind id) = spanHi hs ms (placeN hs ms kind id) := by
  have hh : ∀ hp'' : posN (mgHs hs a b) id < (mgHs hs a b).length, (kind = 2 ∨ kind = 3) → hat (mgHs hs a b) (posN (mgHs hs a b) id) = hat hs (posN hs id) := fun hq hc => by
    have e1 := posN_at _ _ hq
    have hm := mgHs_mem h (List.getElem_mem hq) (by rw [e1]; exact (hk hc).1)
    rw [hat_eq hq]
    have := hat_of hv.ids hm
    rw [e1] at this
    exact this.symm
  have hle := posN_le hs id
  have hle' := posN_le (mgHs hs a b) id
  unfold placeE at hp hp'
  unfold spanLo spanHi placeN
  by_cases c1 : kind = 1
  · rw [if_pos c1] at hp hp'
    have l1 : posM ms id < ms.length := by
      by_cases c : posM ms id < ms.length
      · exact c
      · rw [if_neg c] at hp; cases hp
    have l2 : posM (mgMs ms a b) id < (mgMs ms a b).length := by
      by_cases c : posM (mgMs ms a b) id < (mgMs ms a b).length
      · exact c
      · rw [if_neg c] at hp'; cases hp'
    have e1 := posM_at _ _ l2
    have hm := List.getElem_mem l2
    have e3 := mat_eq l2
    rw [← e3] at hm e1
    obtain ⟨hm, _⟩ := List.mem_filter.1 hm
    obtain ⟨x, hx, e2⟩ := List.mem_map.1 hm
    have e4 : x.id = id := by rw [← e1, ← e2]; rfl
    have e5 := mat_of hv.mids hx
    rw [e4] at e5
    simp only [if_pos c1]
    rw [if_neg (by omega), if_neg (by omega), if_neg (by omega), if_neg (by omega), if_neg (by omega), if_neg (by omega), if_neg (by omega), if_neg (by omega), Nat.add_sub_cancel_left, Nat.add_sub_cancel_left, e5, ← e2]
    exact ⟨rfl, rfl⟩
  · rw [if_neg c1] at hp hp'
    have hc : kind = 2 ∨ kind = 3 := by
      by_cases c : kind = 2 ∨ kind = 3
      · exact c
      · rw [if_neg c] at hp; cases hp
    rw [if_pos hc] at hp hp'
    have l1 : posN hs id < hs.length := by
      by_cases c : posN hs id < hs.length
      · exact c
      · rw [if_neg c] at hp; cases hp
    have l2 : posN (mgHs hs a b) id < (mgHs hs a b).length := by
      by_cases c : posN (mgHs hs a b) id < (mgHs hs a b).length
      · exact c
      · rw [if_neg c] at hp'; cases hp'
    have e := hh l2 hc
    simp only [if_neg c1]
    by_cases c2 : kind = 2
    · simp only [if_pos c2, if_pos l1, if_pos l2]
      rw [e]
      exact ⟨rfl, rfl⟩
    · simp only [if_neg c2]
      rw [if_neg (by omega), if_pos (by omega), if_neg (by omega), if_pos (by omega), if_neg (by omega), if_pos (by omega), if_neg (by omega), if_pos (by omega), Nat.add_sub_cancel_left, Nat.add_sub_cancel_left, e]
      exact ⟨rfl, rfl⟩
/-- What something else can be does not become less. -/
theorem mg_limits (hv : TV hs ms) (h : TwoH hs a b) (hv' : TV (mgHs hs a b) (mgMs ms a b)) (_ : agrL hs ms = true) (hp : placeE hs ms kind id = 0) (hp' : placeE (mgHs hs a b) (mgMs ms a b) kind id = 0) (hk : kind = 2 ∨ kind = 3 → id ≠ a ∧ id ≠ b)
    {st en ma : List Int} (hf : fitsL hs ms st en ma = true) :
    narLo (mgHs hs a b) (mgMs ms a b) (placeN (mgHs hs a b) (mgMs ms a b) kind id) ≤ valAt st en ma (placeN hs ms kind id) ∧ valAt st en ma (placeN hs ms kind id) ≤ narHi (mgHs hs a b) (mgMs ms a b) (placeN (mgHs hs a b) (mgMs ms a b) kind id) := by
  have hlt := placeN_lt hp
  have hlt' := placeN_lt hp'
  have hb := fits_val hf hlt
  have hs1 := span_ok hv hlt
  obtain ⟨v, hvv⟩ : ∃ v, valAt st en ma (placeN hs ms kind id) = v := ⟨_, rfl⟩
  rw [hvv] at hb ⊢
  have h1 : agrL (putH hs (placeN hs ms kind id) v v) (putM hs ms (placeN hs ms kind id) v v) = true := (agr_put hv hlt hb.1 (Int.le_refl _) hb.2).2 ⟨st, en, ma, hf, by omega, by omega⟩
  have hvp : TV (putH hs (placeN hs ms kind id) v v) (putM hs ms (placeN hs ms kind id) v v) := hv.put (by simp [okSp]; omega) _
  rw [putH_id hv.ids hp, putM_id hv.mids hp] at h1 hvp
  have h2 : TwoH (putIH hs kind id v v) a b := ⟨by rw [posN_ids hs _ putIH_ids]; simpa [putIH] using h.pa, by rw [posN_ids hs _ putIH_ids]; simpa [putIH] using h.pb, h.ne⟩
  have h3 := agr_mg hvp h2 h1
  rw [mg_putH h hk, mg_putM, ← putH_id hv'.ids hp', ← putM_id hv'.mids hp'] at h3
  obtain ⟨q1, q2⟩ := mg_span hv h hv' hp hp' hk
  obtain ⟨st', en', ma', hf', r1, r2⟩ := (agr_put hv' hlt' (by rw [q1]; exact hb.1) (Int.le_refl _) (by rw [q2]; exact hb.2)).1 h3
  have := nar_course hv' hlt' hf'
  omega
end
end Go.Proofs.YtighfmgkoepfkaaGreat

namespace Go.Proofs.YtighfmgkoepfkaaGreat

section
variable {hs : List Hd} {ms : List Mv}
theorem lo_fits (h : TV hs ms) {at_ : Nat} (hat' : at_ < 2 * hs.length + ms.length) (ha : agrL hs ms = true) {mid : Int} (h1 : spanLo hs ms at_ ≤ mid) (h2 : mid ≤ spanHi hs ms at_) :
    agrL (putH hs at_ (spanLo hs ms at_) mid) (putM hs ms at_ (spanLo hs ms at_) mid) = decide (narLo hs ms at_ ≤ mid) := by
  rw [Bool.eq_iff_iff, agr_put h hat' (Int.le_refl _) h1 h2, decide_eq_true_iff]
  constructor
  · rintro ⟨st, en, ma, hf, _, q⟩
    have := (nar_course h hat' hf).1
    omega
  · intro q
    obtain ⟨r, st, en, ma, hf, e⟩ := nar_least h hat' ha
    exact ⟨st, en, ma, hf, by omega, by omega⟩
theorem hi_fits (h : TV hs ms) {at_ : Nat} (hat' : at_ < 2 * hs.length + ms.length) (ha : agrL hs ms = true) {mid : Int} (h1 : spanLo hs ms at_ ≤ mid) (h2 : mid ≤ spanHi hs ms at_) :
    agrL (putH hs at_ mid (spanHi hs ms at_)) (putM hs ms at_ mid (spanHi hs ms at_)) = decide (mid ≤ narHi hs ms at_) := by
  rw [Bool.eq_iff_iff, agr_put h hat' h1 h2 (Int.le_refl _), decide_eq_true_iff]
  constructor
  · rintro ⟨st, en, ma, hf, q, _⟩
    have := (nar_course h hat' hf).2
    omega
  · intro q
    obtain ⟨r, st, en, ma, hf, e⟩ := nar_most h hat' ha
    exact ⟨st, en, ma, hf, by omega, by omega⟩
theorem nar_ends (h : TV hs ms) {at_ : Nat} (hat' : at_ < 2 * hs.length + ms.length) (ha : agrL hs ms = true) : spanLo hs ms at_ ≤ narLo hs ms at_ ∧ narLo hs ms at_ ≤ narHi hs ms at_ ∧ narHi hs ms at_ ≤ spanHi hs ms at_ := by
  obtain ⟨q1, st, en, ma, hf, e⟩ := nar_least h hat' ha
  have q2 := (nar_course h hat' hf).2
  have q3 := (nar_most h hat' ha).1
  exact ⟨q1, by omega, q3⟩
theorem crossE_map (S : Nat → Bool) (g h : Eg → Int) : ∀ es : List Eg, crossE S g h es = isum (es.map fun e => (if S e.b = true ∧ S e.a = false then g e else 0) - (if S e.a = true ∧ S e.b = false then h e else 0))
  | [] => rfl
  | e :: es => by rw [List.map_cons, isum, ← crossE_map S g h es]; rfl
theorem nodeS_ids {hs hs' : List Hd} (h : hs'.map Hd.id = hs.map Hd.id) (s : List Int) (o : Bool) (v : Nat) : nodeS hs' s o v = nodeS hs s o v := by
  have e : ∀ l : List Hd, nodeS l s o v = match (l.map Hd.id)[v]? with | some x => s.contains x != o | none => o := fun l => by
    unfold nodeS
    rw [List.getElem?_map]
    cases l[v]? <;> rfl
  rw [e, e, h]
theorem edges_at3 {at_ : Nat} (lo hi : Int) {i : Nat} (hi' : i < (edges hs ms).length) : ∃ h' : i < (edges (putH hs at_ lo hi) (putM hs ms at_ lo hi)).length, ((edges (putH hs at_ lo hi) (putM hs ms at_ lo hi))[i]).a = ((edges hs ms)[i]).a ∧ ((edges (putH hs at_ lo hi) (putM hs ms at_ lo hi))[i]).b = ((edges hs ms)[i]).b ∧
    (i ≠ at_ → ((edges (putH hs at_ lo hi) (putM hs ms at_ lo hi))[i]).lo = ((edges hs ms)[i]).lo ∧ ((edges (putH hs at_ lo hi) (putM hs ms at_ lo hi))[i]).hi = ((edges hs ms)[i]).hi) ∧ (i = at_ → ((edges (putH hs at_ lo hi) (putM hs ms at_ lo hi))[i]).lo = lo ∧ ((edges (putH hs at_ lo hi) (putM hs ms at_ lo hi))[i]).hi = hi) := by
  have hl : i < (edges (putH hs at_ lo hi) (putM hs ms at_ lo hi)).length := by rw [edges_len, putH_len, putM_len, ← edges_len]; exact hi'
  refine ⟨hl, ?_⟩
  obtain ⟨g, hg, r⟩ := edges_put at_ lo hi i _ (List.getElem?_eq_getElem hl)
  rw [List.getElem?_eq_getElem hi'] at hg
  rw [Option.some.inj hg]
  exact r
/-- A cut goes through what is bounded in one way alone. -/
theorem thr_mid (h : TV hs ms) {at_ : Nat} {lo mid hi : Int} (h0 : 0 ≤ lo) (h1 : lo ≤ mid) (h2 : mid ≤ hi) (h3 : hi ≤ 65536) (hat' : at_ < 2 * hs.length + ms.length) (way : Int) (s : List Int) :
    thrL (putH hs at_ mid mid) (putM hs ms at_ mid mid) way s = thrL (putH hs at_ mid hi) (putM hs ms at_ mid hi) way s ∨ thrL (putH hs at_ mid mid) (putM hs ms at_ mid mid) way s = thrL (putH hs at_ lo mid) (putM hs ms at_ lo mid) way s := by
  have t1 : TV (putH hs at_ mid mid) (putM hs ms at_ mid mid) := h.put (by simp [okSp]; omega) _
  have t2 : TV (putH hs at_ mid hi) (putM hs ms at_ mid hi) := h.put (by simp [okSp]; omega) _
  have t3 : TV (putH hs at_ lo mid) (putM hs ms at_ lo mid) := h.put (by simp [okSp]; omega) _
  rw [thrL_cross t1, thrL_cross t2, thrL_cross t3]
  have e : ∀ lo hi, nodeS (putH hs at_ lo hi) s (decide (way = 1)) = nodeS hs s (decide (way = 1)) := fun lo hi => funext fun v => nodeS_ids (put_ids hs at_ lo hi) s _ v
  rw [e, e, e]
  generalize nodeS hs s (decide (way = 1)) = S
  rw [crossE_map, crossE_map, crossE_map]
  have hl : at_ < (edges hs ms).length := by rw [edges_len]; exact hat'
  by_cases c : S ((edges hs ms)[at_]).a = true ∧ S ((edges hs ms)[at_]).b = false
  · right
    congr 1
    apply List.ext_getElem (by simp only [List.length_map, edges_len, putH_len, putM_len])
    intro i g1 g2
    have hi' : i < (edges hs ms).length := by simpa only [List.length_map, edges_len, putH_len, putM_len] using g1
    rw [List.getElem_map, List.getElem_map]
    obtain ⟨_, a1, a2, a3, a4⟩ := edges_at3 (at_ := at_) mid mid hi'
    obtain ⟨_, b1, b2, b3, b4⟩ := edges_at3 (at_ := at_) lo mid hi'
    rw [a1, a2, b1, b2]
    by_cases d : i = at_
    · rw [(a4 d).2, (b4 d).2]
      subst d
      simp [c.1, c.2]
    · rw [(a3 d).1, (a3 d).2, (b3 d).1, (b3 d).2]
  · left
    congr 1
    apply List.ext_getElem (by simp only [List.length_map, edges_len, putH_len, putM_len])
    intro i g1 g2
    have hi' : i < (edges hs ms).length := by simpa only [List.length_map, edges_len, putH_len, putM_len] using g1
    rw [List.getElem_map, List.getElem_map]
    obtain ⟨_, a1, a2, a3, a4⟩ := edges_at3 (at_ := at_) mid mid hi'
    obtain ⟨_, b1, b2, b3, b4⟩ := edges_at3 (at_ := at_) mid hi hi'
    rw [a1, a2, b1, b2]
    by_cases d : i = at_
    · rw [(a4 d).1, (b4 d).1]
      subst d
      rw [if_neg c, if_neg c]
    · rw [(a3 d).1, (a3 d).2, (b3 d).1, (b3 d).2]
/-- Each number between the ends is that of some course. -/
theorem mid_fits (h : TV hs ms) {at_ : Nat} (hat' : at_ < 2 * hs.length + ms.length) (ha : agrL hs ms = true) {mid : Int} (h1 : narLo hs ms at_ ≤ mid) (h2 : mid ≤ narHi hs ms at_) :
    agrL (putH hs at_ mid mid) (putM hs ms at_ mid mid) = true := by
  obtain ⟨q1, q2, q3⟩ := nar_ends h hat' ha
  have q4 := span_ok h hat'
  have f1 := lo_fits h hat' ha (mid := mid) (by omega) (by omega)
  have f2 := hi_fits h hat' ha (mid := mid) (by omega) (by omega)
  rw [decide_eq_true h1] at f1
  rw [decide_eq_true h2] at f2
  have t2 : TV (putH hs at_ mid (spanHi hs ms at_)) (putM hs ms at_ mid (spanHi hs ms at_)) := h.put (by simp [okSp]; omega) _
  have t3 : TV (putH hs at_ (spanLo hs ms at_) mid) (putM hs ms at_ (spanLo hs ms at_) mid) := h.put (by simp [okSp]; omega) _
  obtain ⟨s1, e1, m1, g1⟩ := (agrL_course t3).1 f1
  obtain ⟨s2, e2, m2, g2⟩ := (agrL_course t2).1 f2
  have k : ∀ way s, thrL (putH hs at_ mid mid) (putM hs ms at_ mid mid) way s ≤ 0 := fun way s => by
    rcases thr_mid h (at_ := at_) (lo := spanLo hs ms at_) (mid := mid) (hi := spanHi hs ms at_) (by omega) (by omega) (by omega) (by omega) hat' way s with r | r
    · rw [r]; exact thrL_le t2 g2 way s
    · rw [r]; exact thrL_le t3 g1 way s
  exact agrL_iff.2 fun S b => okCut_iff.2 ⟨k 1 _, k 2 _⟩
/-- What CheckLimit answers. -/
def ckLi (hs : List Hd) (ms : List Mv) (kind id val : Int) (st en ma : List Int) (way : Int) (s : List Int) (gr : Bool) : Int :=
  if plE hs ms kind id ≠ 0 then plE hs ms kind id
  else if fitsL hs ms st en ma = false ∨ valAt st en ma (placeN hs ms kind id) ≠ val then 8
  else if val = (if gr = true then spanHi hs ms (placeN hs ms kind id) else spanLo hs ms (placeN hs ms kind id)) then (if way ≠ 0 ∨ s ≠ [] then 8 else 0)
  else if showsL (putH hs (placeN hs ms kind id) (if gr = true then val + 1 else spanLo hs ms (placeN hs ms kind id)) (if gr = true then spanHi hs ms (placeN hs ms kind id) else val - 1)) (putM hs ms (placeN hs ms kind id) (if gr = true then val + 1 else spanLo hs ms (placeN hs ms kind id)) (if gr = true then spanHi hs ms (placeN hs ms kind id) else val - 1)) way s = true then 0 else 8
theorem plE_tv {kind id : Int} (h : plE hs ms kind id = 0) : TV hs ms ∧ placeE hs ms kind id = 0 := by
  unfold plE at h
  by_cases c : tcheck hs ms ≠ 0
  · rw [if_pos c] at h; exact absurd h c
  · rw [if_neg c] at h; exact ⟨tcheck_zero.1 (Classical.byContradiction c), h⟩
theorem ckLi_ok {kind id val : Int} {st en ma : List Int} {way : Int} {s : List Int} {gr : Bool} (hp : plE hs ms kind id = 0) (hf : LimOk hs ms (placeN hs ms kind id) gr st en ma way s) (hform : valAt st en ma (placeN hs ms kind id) ≠ (if gr = true then spanHi hs ms (placeN hs ms kind id) else spanLo hs ms (placeN hs ms kind id)) → formedL hs way s = true) (hv : valAt st en ma (placeN hs ms kind id) = val) :
    ckLi hs ms kind id val st en ma way s gr = 0 := by
  unfold ckLi
  rw [if_neg (by simpa using hp), if_neg (by rw [hf.fits]; simpa using hv)]
  have h1 := hf.edge
  have h2 := hf.cut
  rw [hv] at h1 h2 hform
  by_cases c : val = (if gr = true then spanHi hs ms (placeN hs ms kind id) else spanLo hs ms (placeN hs ms kind id))
  · obtain ⟨e1, e2⟩ := h1 c
    rw [if_pos c, if_neg (by simp [e1, e2])]
  · rw [if_neg c, if_pos]
    unfold showsL
    rw [formedL_ids (put_ids _ _ _ _), hform c, Bool.true_and, decide_eq_true_iff]
    have := h2 c
    cases gr <;> simpa using this
theorem ckLi_lim {kind id val : Int} {st en ma : List Int} {way : Int} {s : List Int} {gr : Bool} (h : ckLi hs ms kind id val st en ma way s gr = 0) : plE hs ms kind id = 0 ∧ val = limN hs ms kind id gr := by
  unfold ckLi at h
  by_cases c1 : plE hs ms kind id ≠ 0
  · rw [if_pos c1] at h; exact absurd h c1
  rw [if_neg c1] at h
  have hp : plE hs ms kind id = 0 := Classical.byContradiction c1
  refine ⟨hp, ?_⟩
  obtain ⟨hv, hpl⟩ := plE_tv hp
  have hlt := placeN_lt hpl
  by_cases c2 : fitsL hs ms st en ma = false ∨ valAt st en ma (placeN hs ms kind id) ≠ val
  · rw [if_pos c2] at h; cases h
  rw [if_neg c2] at h
  have hf : fitsL hs ms st en ma = true := by
    cases q : fitsL hs ms st en ma
    · exact absurd (.inl q) c2
    · rfl
  have hval : valAt st en ma (placeN hs ms kind id) = val := Classical.byContradiction fun q => c2 (.inr q)
  have key : LimOk hs ms (placeN hs ms kind id) gr st en ma way s := by
    refine ⟨hf, fun q => ?_, fun q => ?_⟩
    · rw [hval] at q
      rw [if_pos q] at h
      by_cases c : way ≠ 0 ∨ s ≠ []
      · rw [if_pos c] at h; cases h
      · exact ⟨Classical.byContradiction fun r => c (.inl r), Classical.byContradiction fun r => c (.inr r)⟩
    · rw [hval] at q ⊢
      rw [if_neg q] at h
      cases gr with
      | true =>
        simp only [if_true] at h ⊢
        by_cases c : showsL (putH hs (placeN hs ms kind id) (val + 1) (spanHi hs ms (placeN hs ms kind id))) (putM hs ms (placeN hs ms kind id) (val + 1) (spanHi hs ms (placeN hs ms kind id))) way s = true
        · unfold showsL at c
          rw [Bool.and_eq_true, decide_eq_true_iff] at c
          exact c.2
        · rw [if_neg c] at h; cases h
      | false =>
        simp only [Bool.false_eq_true, if_false] at h ⊢
        by_cases c : showsL (putH hs (placeN hs ms kind id) (spanLo hs ms (placeN hs ms kind id)) (val - 1)) (putM hs ms (placeN hs ms kind id) (spanLo hs ms (placeN hs ms kind id)) (val - 1)) way s = true
        · unfold showsL at c
          rw [Bool.and_eq_true, decide_eq_true_iff] at c
          exact c.2
        · rw [if_neg c] at h; cases h
  unfold limN
  cases gr with
  | true => rw [if_pos rfl, (lim_hi hv hlt key).2, hval]
  | false => rw [if_neg (by decide), (lim_lo hv hlt key).2, hval]
/-- What something is in a course of the trade. -/
theorem told_val {kind id : Int} {st en ma : List Int} (hp : placeE hs ms kind id = 0) (l1 : st.length = hs.length) (l2 : en.length = hs.length) (l3 : ma.length = ms.length) : toldL hs ms kind id st en ma = (valAt st en ma (placeN hs ms kind id), true) := by
  rw [valAt_pos l1 l2]
  unfold placeE at hp
  unfold toldL placeN
  by_cases c1 : kind = 1
  · rw [if_pos c1] at hp
    have l : posM ms id < ms.length := by
      by_cases c : posM ms id < ms.length
      · exact c
      · rw [if_neg c] at hp; cases hp
    simp only [if_pos c1]
    rw [if_pos ⟨l, by omega⟩, if_neg (by omega), if_neg (by omega), Nat.add_sub_cancel_left]
  · rw [if_neg c1] at hp
    have hc : kind = 2 ∨ kind = 3 := by
      by_cases c : kind = 2 ∨ kind = 3
      · exact c
      · rw [if_neg c] at hp; cases hp
    rw [if_pos hc] at hp
    have l : posN hs id < hs.length := by
      by_cases c : posN hs id < hs.length
      · exact c
      · rw [if_neg c] at hp; cases hp
    rw [if_neg c1, if_pos hc, if_pos ⟨l, by omega, by omega⟩]
    simp only [if_neg c1]
    by_cases c2 : kind = 2
    · simp only [if_pos c2]
      rw [if_pos l]
    · simp only [if_neg c2]
      rw [if_neg (by omega), if_pos (by omega), Nat.add_sub_cancel_left]
/-- The trade with one number for something has a course, and in each of its courses it is that number. -/
theorem mid_told {kind id : Int} (hv : TV hs ms) (hp : placeE hs ms kind id = 0) (ha : agrL hs ms = true) {mid : Int} (h1 : limN hs ms kind id false ≤ mid) (h2 : mid ≤ limN hs ms kind id true) :
    agrL (putIH hs kind id mid mid) (putIM ms kind id mid mid) = true ∧ ∀ st en ma, fitsL (putIH hs kind id mid mid) (putIM ms kind id mid mid) st en ma = true → toldL hs ms kind id st en ma = (mid, true) := by
  have hlt := placeN_lt hp
  unfold limN at h1 h2
  rw [if_neg (by decide)] at h1
  rw [if_pos rfl] at h2
  obtain ⟨q1, q2, q3⟩ := nar_ends hv hlt ha
  rw [← putH_id hv.ids hp, ← putM_id hv.mids hp]
  refine ⟨mid_fits hv hlt ha h1 h2, fun st en ma hf => ?_⟩
  have := (fits_put hlt (by omega) (by omega)).1 hf
  obtain ⟨⟨l1, l2, l3⟩, _⟩ := fitsL_prop.1 this.1
  rw [told_val hp l1 l2 l3]
  have := this.2
  rw [show valAt st en ma (placeN hs ms kind id) = mid by omega]
end
end Go.Proofs.YtighfmgkoepfkaaGreat
