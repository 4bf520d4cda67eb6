/- The plain law of the spans of Cross. -/
import Derived.Test.YtipablcbkoedbaaF2
namespace Go.Proofs.Ytipablcbkoedbaa
open Go.RowKit

/-- What a span of Cross is. -/
structure SpOk (o : Int → Int) (lo hi : Int) (z : Int × Int) : Prop where
  lo_ : lo ≤ z.1
  le : z.1 ≤ z.2
  hi_ : z.2 ≤ hi
  or_ : (∀ x, z.1 ≤ x → x ≤ z.2 → o x = 0) ∨ (z.2 = z.1 + 1 ∧ o z.1 ≠ 0 ∧ o z.2 = -(o z.1))
structure CrInv (o : Int → Int) (lo : Int) (m : Nat) (l : List (Int × Int)) : Prop where
  ok : ∀ z ∈ l, SpOk o lo (lo + m - 1) z
  last : 0 < m → o (lo + m - 1) = 0 → ∃ q z, l = q ++ [z] ∧ z.2 = lo + m - 1 ∧ (∀ x, z.1 ≤ x → x ≤ z.2 → o x = 0)
  zero : ∀ x, lo ≤ x → x ≤ lo + m - 1 → o x = 0 → ∃ z ∈ l, z.1 ≤ x ∧ x ≤ z.2
  pair : ∀ x, lo ≤ x → x + 1 ≤ lo + m - 1 → o x ≠ 0 → o (x + 1) = -(o x) → ∃ z ∈ l, z.1 ≤ x ∧ x < z.2

theorem SpOk.mono {o : Int → Int} {lo hi hi' : Int} {z : Int × Int} (h : SpOk o lo hi z) (k : hi ≤ hi') : SpOk o lo hi' z := ⟨h.lo_, h.le, by have := h.hi_; omega, h.or_⟩

theorem crB_eq (lo : Int) (o : Int → Int) (m : Nat) (h : 0 < m) : crB lo o m = o (lo + m - 1) := by
  cases m with
  | zero => omega
  | succ m => show o (lo + m) = _; congr 1; omega

theorem cr_inv (lo : Int) (o : Int → Int) : ∀ m, CrInv o lo m (crL lo o m)
  | 0 => ⟨fun z hz => by simp [crL] at hz, fun h => absurd h (by omega), fun x h1 h2 => by omega, fun x h1 h2 => by omega⟩
  | m + 1 => by
    have ih := cr_inv lo o m
    have hX : lo + ((m + 1 : Nat) : Int) - 1 = lo + m := by omega
    show CrInv o lo (m + 1) (crStep lo o (crB lo o m) (lo + m) (crL lo o m))
    generalize crL lo o m = l at *
    have hB : 0 < m → crB lo o m = o (lo + m - 1) := crB_eq lo o m
    generalize crB lo o m = b at *
    unfold crStep
    split
    · rename_i h
      obtain ⟨h1, h2, h3⟩ := h
      have hm : 0 < m := by omega
      have h4 : o (lo + m - 1) = 0 := by rw [← hB hm]; exact h3
      obtain ⟨q, z, rfl, hz2, hz0⟩ := ih.last hm h4
      rw [lastHi_at]
      have hz := ih.ok z (by simp)
      have hzz : ∀ x, z.1 ≤ x → x ≤ lo + m → o x = 0 := fun x a c => by
        by_cases e : x = lo + m
        · rw [e]; exact h1
        · exact hz0 x a (by omega)
      have sp : SpOk o lo (lo + m) (z.1, lo + m) := ⟨hz.lo_, by have := hz.le; show z.1 ≤ lo + m; omega, Int.le_refl _, .inl hzz⟩
      have up : ∀ x y, (∃ w ∈ q ++ [z], w.1 ≤ x ∧ y ≤ w.2) → y ≤ lo + m - 1 → ∃ w ∈ q ++ [(z.1, lo + (m : Int))], w.1 ≤ x ∧ y ≤ w.2 := fun x y ⟨w, hw, a, c⟩ hy => by
        rcases List.mem_append.1 hw with hw | hw
        · exact ⟨w, by simp [hw], a, c⟩
        · have : w = z := by simpa using hw
          subst this
          exact ⟨(w.1, lo + m), by simp, a, by show y ≤ lo + m; omega⟩
      refine ⟨fun w hw => ?_, fun _ _ => ⟨q, _, rfl, hX.symm, fun x a c => hzz x a c⟩, fun x a c e => ?_, fun x a c e f => ?_⟩
      · rw [hX]
        rcases List.mem_append.1 hw with hw | hw
        · exact (ih.ok w (by simp [hw])).mono (by omega)
        · have : w = (z.1, lo + (m : Int)) := by simpa using hw
          rw [this]; exact sp
      · by_cases hx : x = lo + m
        · exact ⟨(z.1, lo + m), by simp, by have := hz.le; show z.1 ≤ x; omega, by show x ≤ lo + m; omega⟩
        · exact up x x (ih.zero x a (by omega) e) (by omega)
      · by_cases hx : x + 1 = lo + m
        · rw [hx, h1] at f; omega
        · obtain ⟨w, hw, p, r⟩ := up x (x + 1) (by obtain ⟨w, hw, p, r⟩ := ih.pair x a (by omega) e f; exact ⟨w, hw, p, by omega⟩) (by omega)
          exact ⟨w, hw, p, by omega⟩
    · rename_i hn1
      split
      · rename_i h1
        have sp : SpOk o lo (lo + m) (lo + m, lo + m) := ⟨by show lo ≤ lo + (m : Int); omega, Int.le_refl _, Int.le_refl _, .inl fun x a c => by have : x = lo + m := by dsimp only at a c; omega
                                                                                                                                                 rw [this]; exact h1⟩
        refine ⟨fun w hw => ?_, fun _ _ => ⟨l, _, rfl, hX.symm, fun x a c => ?_⟩, fun x a c e => ?_, fun x a c e f => ?_⟩
        · rw [hX]
          rcases List.mem_append.1 hw with hw | hw
          · exact (ih.ok w hw).mono (by omega)
          · have : w = (lo + (m : Int), lo + (m : Int)) := by simpa using hw
            rw [this]; exact sp
        · have : x = lo + m := by dsimp only at a c; omega
          rw [this]; exact h1
        · by_cases hx : x = lo + m
          · exact ⟨(lo + m, lo + m), by simp, by show lo + (m : Int) ≤ x; omega, by show x ≤ lo + (m : Int); omega⟩
          · obtain ⟨w, hw, p, r⟩ := ih.zero x a (by omega) e
            exact ⟨w, by simp [hw], p, r⟩
        · by_cases hx : x + 1 = lo + m
          · rw [hx, h1] at f; omega
          · obtain ⟨w, hw, p, r⟩ := ih.pair x a (by omega) e f
            exact ⟨w, by simp [hw], p, r⟩
      · rename_i hn2
        split
        · rename_i h
          obtain ⟨h1, h2⟩ := h
          have hm : 0 < m := by omega
          rw [hB hm] at h2
          have sp : SpOk o lo (lo + m) (lo + m - 1, lo + m) := ⟨by show lo ≤ lo + (m : Int) - 1; omega, by show lo + (m : Int) - 1 ≤ lo + m; omega, Int.le_refl _, .inr ⟨by show lo + (m : Int) = lo + m - 1 + 1; omega, by show o (lo + (m : Int) - 1) ≠ 0; omega, h2⟩⟩
          refine ⟨fun w hw => ?_, fun _ h => ?_, fun x a c e => ?_, fun x a c e f => ?_⟩
          · rw [hX]
            rcases List.mem_append.1 hw with hw | hw
            · exact (ih.ok w hw).mono (by omega)
            · have : w = (lo + (m : Int) - 1, lo + (m : Int)) := by simpa using hw
              rw [this]; exact sp
          · rw [hX] at h; exact absurd h hn2
          · by_cases hx : x = lo + m
            · rw [hx] at e; exact absurd e hn2
            · obtain ⟨w, hw, p, r⟩ := ih.zero x a (by omega) e
              exact ⟨w, by simp [hw], p, r⟩
          · by_cases hx : x + 1 = lo + m
            · exact ⟨(lo + m - 1, lo + m), by simp, by show lo + (m : Int) - 1 ≤ x; omega, by show x < lo + (m : Int); omega⟩
            · obtain ⟨w, hw, p, r⟩ := ih.pair x a (by omega) e f
              exact ⟨w, by simp [hw], p, r⟩
        · rename_i hn3
          refine ⟨fun w hw => by rw [hX]; exact (ih.ok w hw).mono (by omega), fun _ h => ?_, fun x a c e => ?_, fun x a c e f => ?_⟩
          · rw [hX] at h; exact absurd h hn2
          · by_cases hx : x = lo + m
            · rw [hx] at e; exact absurd e hn2
            · exact ih.zero x a (by omega) e
          · by_cases hx : x + 1 = lo + m
            · refine absurd ⟨?_, ?_⟩ hn3
              · omega
              · rw [hB (by omega), ← hx, f]; congr 2; omega
            · exact ih.pair x a (by omega) e f

/-- Whether a number lies in a span, with the next one. -/
def tog (l : List (Int × Int)) (x : Int) : Bool := l.any fun z => decide (z.1 ≤ x ∧ x < z.2)
def aln (l : List (Int × Int)) (x : Int) : Bool := l.any fun z => decide (z.1 ≤ x ∧ x ≤ z.2)
theorem tog_iff (l : List (Int × Int)) (x : Int) : tog l x = true ↔ ∃ z ∈ l, z.1 ≤ x ∧ x < z.2 := by simp [tog]
theorem aln_iff (l : List (Int × Int)) (x : Int) : aln l x = true ↔ ∃ z ∈ l, z.1 ≤ x ∧ x ≤ z.2 := by simp [aln]

/-- What the first loop asks. -/
theorem cr_first {lo hi x : Int} {o : Int → Int} (ho : ∀ z, -1 ≤ o z ∧ o z ≤ 1) {l : List (Int × Int)} {m : Nat} (hl : CrInv o lo m l) (hm : lo + m - 1 = hi) (h1 : lo ≤ x) (h2 : x < hi) :
    ¬ (o x = 0 ∧ aln l x = false) ∧ ¬ (tog l x = false ∧ (o x < 0 ∧ 0 < o (x + 1) ∨ 0 < o x ∧ o (x + 1) < 0)) ∧ ¬ (tog l x = true ∧ ¬ (o x ≤ 0 ∧ 0 ≤ o (x + 1) ∨ 0 ≤ o x ∧ o (x + 1) ≤ 0)) := by
  obtain ⟨p1, p2⟩ := ho x
  obtain ⟨q1, q2⟩ := ho (x + 1)
  refine ⟨fun ⟨a, b⟩ => ?_, fun ⟨a, b⟩ => ?_, fun ⟨a, b⟩ => ?_⟩
  · rw [(aln_iff l x).2 (hl.zero x h1 (by omega) a)] at b; cases b
  · rw [(tog_iff l x).2 (hl.pair x h1 (by omega) (by omega) (by omega))] at a; cases a
  · obtain ⟨z, hz, r, s⟩ := (tog_iff l x).1 a
    rcases (hl.ok z hz).or_ with h | ⟨h, k, j⟩
    · have e1 := h x r (by omega)
      have e2 := h (x + 1) (by omega) (by omega)
      omega
    · have e : z.1 = x := by omega
      have e' : z.2 = x + 1 := by omega
      rw [e'] at j; rw [e] at j k
      omega
/-- What the second loop asks. -/
theorem cr_second {lo hi : Int} {o : Int → Int} {l : List (Int × Int)} {m : Nat} (hl : CrInv o lo m l) (hm : lo + m - 1 = hi) {z : Int × Int} (hz : z ∈ l) :
    lo ≤ z.1 ∧ z.1 ≤ hi ∧ lo ≤ z.2 ∧ z.2 ≤ hi ∧ ¬ (o z.1 < 0 ∧ o z.2 ≤ 0 ∧ o z.2 ≠ 0) ∧ ¬ (0 < o z.1 ∧ 0 ≤ o z.2 ∧ o z.2 ≠ 0) := by
  have h := hl.ok z hz
  have a := h.lo_
  have b := h.le
  have c := h.hi_
  refine ⟨by omega, by omega, by omega, by omega, fun ⟨x, y, w⟩ => ?_, fun ⟨x, y, w⟩ => ?_⟩
  · rcases h.or_ with k | ⟨k, k1, k2⟩
    · have := k z.1 (Int.le_refl _) b; omega
    · omega
  · rcases h.or_ with k | ⟨k, k1, k2⟩
    · have := k z.1 (Int.le_refl _) b; omega
    · omega
end Go.Proofs.Ytipablcbkoedbaa
