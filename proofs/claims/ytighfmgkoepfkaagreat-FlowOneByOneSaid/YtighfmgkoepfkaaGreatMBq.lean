/- What the laws need of Find, Least and Greatest: one form for all cases. -/
import Derived.Test.YtighfmgkoepfkaaGreatMB
namespace Go.Proofs.YtighfmgkoepfkaaGreat
open Go.RowKit

theorem ask_all {w w' : World} {hs : List Hd} {ms : List Mv} {kind id : Int} {gr : Bool} {e : Ending} (h : AskOut w hs ms kind id gr e w') :
    ∃ (A1 : Option Addr) (n1 c1 : Nat) (A2 : Option Addr) (n2 c2 : Nat) (A3 : Option Addr) (n3 c3 : Nat) (way : Int) (A4 : Option Addr) (n4 c4 : Nat) (st ed ma s : List Int),
      e = .returned (.tuple #[vLi (asV hs ms kind id gr) A1 n1 c1 A2 n2 c2 A3 n3 c3 way A4 n4 c4, .int .i64 (asE hs ms kind id)]) ∧ SAt encI 1 w' A1 n1 st ∧ SAt encI 1 w' A2 n2 ed ∧ SAt encI 1 w' A3 n3 ma ∧ SAt encI 1 w' A4 n4 s ∧
      (n1 ≤ 9 ∧ n2 ≤ 9 ∧ n3 ≤ 24 ∧ n4 ≤ 9) ∧ (n1 ≤ c1 ∧ n2 ≤ c2 ∧ n3 ≤ c3 ∧ n4 ≤ c4) ∧ (asE hs ms kind id = 0 → LimF hs ms (placeN hs ms kind id) gr st ed ma way s ∧ valAt st ed ma (placeN hs ms kind id) = asV hs ms kind id gr) ∧ (asE hs ms kind id ≠ 0 → (n1 = 0 ∧ n2 = 0 ∧ n3 = 0 ∧ n4 = 0) ∧ way = 0 ∧ asV hs ms kind id gr = 0) ∧ Below w.heap.size w w' := by
  obtain ⟨hb, ⟨h1, rfl⟩ | ⟨h1, h2, rfl⟩ | ⟨h1, h2, v, st, ed, ma, way, s, rfl, hl, hf⟩⟩ := h
  · have e1 : asE hs ms kind id = plE hs ms kind id := by unfold asE; rw [if_pos h1]
    have e2 : asV hs ms kind id gr = 0 := by unfold asV; rw [e1, if_neg h1]
    exact ⟨none, 0, 0, none, 0, 0, none, 0, 0, 0, none, 0, 0, [], [], [], [], by rw [e1, e2], SAt.nil _ _ _ _, SAt.nil _ _ _ _, SAt.nil _ _ _ _, SAt.nil _ _ _ _, by omega, by omega, fun q => absurd (e1.symm.trans q) h1, fun _ => ⟨by omega, rfl, e2⟩, hb⟩
  · have e1 : asE hs ms kind id = 9 := by unfold asE; rw [if_neg (by simpa using h1), if_neg (by rw [h2]; decide)]
    have e2 : asV hs ms kind id gr = 0 := by unfold asV; rw [e1, if_neg (by decide)]
    exact ⟨none, 0, 0, none, 0, 0, none, 0, 0, 0, none, 0, 0, [], [], [], [], by rw [e1, e2], SAt.nil _ _ _ _, SAt.nil _ _ _ _, SAt.nil _ _ _ _, SAt.nil _ _ _ _, by omega, by omega, fun q => (by rw [e1] at q; cases q), fun _ => ⟨by omega, rfl, e2⟩, hb⟩
  · have e1 : asE hs ms kind id = 0 := by unfold asE; rw [if_neg (by simpa using h1), if_pos h2]
    obtain ⟨hv, hpl⟩ := plE_tv h1
    have hlt := placeN_lt hpl
    have e2 : valAt st ed ma (placeN hs ms kind id) = asV hs ms kind id gr := by
      unfold asV limN
      rw [if_pos e1]
      cases gr with
      | true => rw [if_pos rfl, (lim_hi hv hlt hf.ok).2]
      | false => rw [if_neg (by decide), (lim_lo hv hlt hf.ok).2]
    obtain ⟨A1, n1, c1, A2, n2, c2, A3, n3, c3, A4, n4, c4, rfl, hc, hu⟩ := hl
    obtain ⟨B1, m1, d1, B2, m2, d2, B3, m3, d3, e3, k1, k2, k3, ⟨k4, k5, k6⟩, _⟩ := hc
    obtain ⟨B4, m4, d4, e4, k7, k8, _⟩ := hu
    cases e3
    cases e4
    obtain ⟨l1, l2, l3⟩ := fits_len hf.ok.fits
    have := hv.lenH
    have := hv.lenM
    have := hf.len
    have q1 := k1.len
    have q2 := k2.len
    have q3 := k3.len
    have q4 := k7.len
    exact ⟨A1, n1, c1, A2, n2, c2, A3, n3, c3, way, A4, n4, c4, st, ed, ma, s, by rw [e1, e2], k1, k2, k3, k7, ⟨by omega, by omega, by omega, by omega⟩, ⟨k4, k5, k6, k8⟩, fun _ => ⟨hf, e2⟩, fun q => absurd e1 q, hb⟩
theorem fi_all {t : TR} {w : World} (h : t.Ok w) : Calls Tryz.prog 35 #[t.v] w fun e w' => ∃ A1 n1 c1 A2 n2 c2 A3 n3 c3 st en ma, e = .returned (.tuple #[vCo A1 n1 c1 A2 n2 c2 A3 n3 c3, .int .i64 (nwE t.hs t.ms)]) ∧ SAt encI 1 w' A1 n1 st ∧ SAt encI 1 w' A2 n2 en ∧ SAt encI 1 w' A3 n3 ma ∧ (nwE t.hs t.ms = 0 → fitsL t.hs t.ms st en ma = true) ∧ Below w.heap.size w w' := by
  by_cases hn : nwE t.hs t.ms = 0
  · obtain ⟨hv, ha⟩ := nwE_zero hn
    refine (fi_yes h (tcheck_zero.2 hv) ha).mono ?_
    rintro e w' ⟨A1, n1, c1, A2, n2, c2, A3, n3, c3, st, en, ma, rfl, k1, k2, k3, hf, hb⟩
    exact ⟨A1, n1, c1, A2, n2, c2, A3, n3, c3, st, en, ma, by rw [hn], k1, k2, k3, fun _ => hf, hb⟩
  · refine (fi_bad h hn).mono ?_
    rintro e w' ⟨rfl, hb⟩
    exact ⟨none, 0, 0, none, 0, 0, none, 0, 0, [], [], [], rfl, SAt.nil _ _ _ _, SAt.nil _ _ _ _, SAt.nil _ _ _ _, fun q => absurd q hn, hb⟩
end Go.Proofs.YtighfmgkoepfkaaGreat
