/- The movements of a trade, put one by one. -/
import Derived.Test.YtighfmgkoepfkaaGreatMOb
namespace Go.Proofs.YtighfmgkoepfkaaGreat
open Go.RowKit

theorem isum_perm {a b : List Int} (h : a.Perm b) : isum a = isum b := by
  induction h with
  | nil => rfl
  | cons x _ ih => show x + _ = x + _; rw [ih]
  | swap x y l => show y + (x + _) = x + (y + _); omega
  | trans _ _ ih1 ih2 => exact ih1.trans ih2
theorem msum_perm {a b : List Mv} (h : a.Perm b) (s : List Int) (o : Bool) (f : Mv → Int) : msum s o f a = msum s o f b := isum_perm (h.map _)
theorem agr_perm {hs : List Hd} {a b : List Mv} (h : a.Perm b) : agrL hs a = agrL hs b := by
  unfold agrL okCut outLo outHi inLo inHi
  simp only [fun s o f => msum_perm h s o f]
/-- The first movements, beginning with any one of them. -/
def rotL (ms : List Mv) (f k : Nat) : List Mv := (List.range k).map fun i => mat ms ((f + i) % ms.length)
theorem rot_zero {ms : List Mv} {f : Nat} : rotL ms f 0 = [] := rfl
theorem rot_len {ms : List Mv} {f k : Nat} : (rotL ms f k).length = k := by simp [rotL]
theorem rot_succ (ms : List Mv) (f k : Nat) : rotL ms f (k + 1) = rotL ms f k ++ [mat ms ((f + k) % ms.length)] := by
  simp [rotL, List.range_succ]
theorem rot_at {ms : List Mv} {f n k : Nat} (h : k < n) : (rotL ms f n)[k]? = some (mat ms ((f + k) % ms.length)) := by
  simp [rotL, List.getElem?_map, List.getElem?_range h]
theorem rot_all (ms : List Mv) (f : Nat) : rotL ms f ms.length = ms.drop (f % ms.length) ++ ms.take (f % ms.length) := by
  by_cases h0 : ms.length = 0
  · have : ms = [] := List.eq_nil_of_length_eq_zero h0
    subst this; simp [rotL]
  have hq : f % ms.length < ms.length := Nat.mod_lt _ (Nat.pos_of_ne_zero h0)
  refine List.ext_getElem? fun i => ?_
  by_cases hi : i < ms.length
  · rw [rot_at hi, ← Nat.mod_add_mod]
    by_cases hl : f % ms.length + i < ms.length
    · rw [Nat.mod_eq_of_lt hl, List.getElem?_append_left (by rw [List.length_drop]; omega), List.getElem?_drop, List.getElem?_eq_getElem hl, mat_eq hl]
    · rw [Nat.mod_eq_sub_mod (by omega), Nat.mod_eq_of_lt (by omega), List.getElem?_append_right (by rw [List.length_drop]; omega), List.length_drop, List.getElem?_take_of_lt (by omega),
        show i - (ms.length - f % ms.length) = f % ms.length + i - ms.length by omega, List.getElem?_eq_getElem (by omega), mat_eq (by omega)]
  · rw [List.getElem?_eq_none (by rw [rot_len]; omega), List.getElem?_eq_none (by rw [List.length_append, List.length_drop, List.length_take]; omega)]
theorem rot_perm (ms : List Mv) (f : Nat) : (rotL ms f ms.length).Perm ms := by
  rw [rot_all]
  exact List.perm_append_comm.trans (by rw [List.take_append_drop])
theorem rot_mem {ms : List Mv} {f k : Nat} (hk : k ≤ ms.length) {m : Mv} (h : m ∈ rotL ms f k) : m ∈ ms := by
  obtain ⟨i, hi, rfl⟩ := List.mem_map.1 h
  have hi := List.mem_range.1 hi
  have hl : (f + i) % ms.length < ms.length := Nat.mod_lt _ (by omega)
  rw [mat_eq hl]
  exact List.getElem_mem hl
/-- A movement that was not yet put has an ID of its own. -/
theorem rot_new {ms : List Mv} {f k : Nat} (hd : (ms.map Mv.id).Nodup) (hk : k < ms.length) : dupB (rotL ms f k) (mat ms ((f + k) % ms.length)).id = false := by
  unfold dupB
  refine List.any_eq_false.2 fun m hm => ?_
  obtain ⟨i, hi, rfl⟩ := List.mem_map.1 hm
  have hi := List.mem_range.1 hi
  intro e
  have e : (mat ms ((f + i) % ms.length)).id = (mat ms ((f + k) % ms.length)).id := by simpa using e
  have h1 : (f + i) % ms.length < ms.length := Nat.mod_lt _ (by omega)
  have h2 : (f + k) % ms.length < ms.length := Nat.mod_lt _ (by omega)
  rw [mat_eq h1, mat_eq h2] at e
  have e2 : (ms.map Mv.id)[(f + i) % ms.length]'(by simpa using h1) = (ms.map Mv.id)[(f + k) % ms.length]'(by simpa using h2) := by simpa using e
  have hp := List.pairwise_iff_getElem.1 hd
  have e3 : (f + i) % ms.length = (f + k) % ms.length := by
    rcases Nat.lt_trichotomy ((f + i) % ms.length) ((f + k) % ms.length) with c | c | c
    · exact absurd e2 (hp _ _ _ _ c)
    · exact c
    · exact absurd e2.symm (hp _ _ _ _ c)
  have a1 := Nat.div_add_mod (f + i) ms.length
  have a2 := Nat.div_add_mod (f + k) ms.length
  rw [e3] at a1
  have a3 : (f + k) / ms.length ≤ (f + i) / ms.length + 0 := by
    refine Classical.byContradiction fun c => ?_
    have : ms.length * ((f + i) / ms.length + 1) ≤ ms.length * ((f + k) / ms.length) := Nat.mul_le_mul_left _ (by omega)
    rw [Nat.mul_add] at this
    omega
  have : ms.length * ((f + k) / ms.length) ≤ ms.length * ((f + i) / ms.length) := Nat.mul_le_mul_left _ a3
  omega
theorem mvE_of {hs : List Hd} {ms : List Mv} (h : TV hs ms) {m : Mv} (hm : m ∈ ms) : mvE hs m = 0 := by
  obtain ⟨a, b, c, d, e⟩ := h.mv m hm
  have d := pos_id.2 d
  have e := pos_id.2 e
  unfold mvE
  rw [if_neg (by simpa using ⟨a, b, c⟩), if_neg (by omega)]
/-- It is put. -/
theorem rot_put {hs : List Hd} {ms : List Mv} (h : TV hs ms) (f : Nat) {k : Nat} (hk : k < ms.length) : poE hs (rotL ms f k) (mat ms ((f + k) % ms.length)) = 0 ∧ poM hs (rotL ms f k) (mat ms ((f + k) % ms.length)) = rotL ms f (k + 1) := by
  have hl : (f + k) % ms.length < ms.length := Nat.mod_lt _ (by omega)
  have e : poE hs (rotL ms f k) (mat ms ((f + k) % ms.length)) = 0 := by
    unfold poE mvE2
    rw [if_neg (by rw [rot_len]; have := h.lenM; omega), mvE_of h (by rw [mat_eq hl]; exact List.getElem_mem hl), if_neg (by decide), rot_new h.mids hk, if_neg (by decide)]
  exact ⟨e, by unfold poM; rw [if_pos e, rot_succ]⟩
theorem TV.rot {hs : List Hd} {ms : List Mv} (h : TV hs ms) (f : Nat) : ∀ k, k ≤ ms.length → TV hs (rotL ms f k)
  | 0, _ => ⟨h.lenH, Nat.zero_le _, h.hd, h.ids, fun m hm => absurd hm (by rw [rot_zero]; simp), by rw [rot_zero]; simp⟩
  | k + 1, hk => by
    rw [rot_succ]
    exact (TV.rot h f k (by omega)).add (rot_put h f (by omega)).1
/-- One that is put and taken again. -/
theorem put_take {hs : List Hd} {ms : List Mv} {x : Mv} (h : poE hs ms x = 0) : poM hs ms x = ms ++ [x] ∧ toE (ms ++ [x]) x.id = 0 ∧ dropL (ms ++ [x]) [x.id] = ms := by
  refine ⟨by unfold poM; rw [if_pos h], ?_, ?_⟩
  · unfold toE
    rw [if_pos (List.any_eq_true.2 ⟨x, by simp, by simp⟩)]
  · have hi : ∀ y ∈ ms, y.id ≠ x.id := by
      unfold poE at h
      split at h
      · cases h
      · exact (mvE2_id h).2
    unfold dropL
    rw [List.filter_append, List.filter_eq_self.2 (fun y hy => by simpa using hi y hy)]
    simp
end Go.Proofs.YtighfmgkoepfkaaGreat
