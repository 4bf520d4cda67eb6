/- over. -/
import Derived.WalkKit
import Derived.WalkLawsBesides
import Derived.Deep.QuietTactic
import Derived.BigQuiet
import Derived.RegionTactic
import Derived.Lib.Hide
import Derived.Outline
import Derived.WalkSmall
import Derived.OwnWalk
import Derived.Test.YtipablcbkoedbaaProg
import Derived.Test.YtipablcbkoedbaaReg
import Derived.Test.YtipablcbkoedbaaA1
import Derived.Test.YtipablcbkoedbaaA2
import Derived.Test.YtipablcbkoedbaaB1
import Derived.Test.YtipablcbkoedbaaB2
import Derived.Test.YtipablcbkoedbaaB3
import Derived.Test.YtipablcbkoedbaaB4
import Derived.Test.YtipablcbkoedbaaC1
import Derived.Test.YtipablcbkoedbaaC2
import Derived.Test.YtipablcbkoedbaaC3
import Derived.Test.YtipablcbkoedbaaC4
namespace Go.Proofs.Ytipablcbkoedbaa
open Go.RowKit

theorem info_spot : (Try.prog.info? 156).map (fun i => (i.zero, i.size, i.bytes)) = some (some (vSpot 0 0 0), 3, 24) := by kernel_rfl
theorem info_frac : (Try.prog.info? 30).map (fun i => (i.zero, i.size, i.bytes)) = some (some (vFrac 0 0), 2, 16) := by kernel_rfl

/-- What is asked of a function from numbers to fractions. -/
def ValAt (g : Nat) (lb : Array Value) (f : Int → Int × Int) (xs : List Int) (w : World) : Prop :=
  ∀ (W : World) (x : Int), x ∈ xs → Below w.heap.size w W → Calls Try.prog g (#[.int .i64 x] ++ lb) W fun e w' => e = .returned (vFrac (f x).1 (f x).2) ∧ Below W.heap.size W w'

/-- A row of numbers in memory. -/
structure Is (w : World) (b off : Nat) (xs : List Int) : Prop where
  c : ∀ j, j < xs.length → w.cell? ⟨b, off + j, none⟩ = some (.int .i64 (xs.getD j 0))
  lt : b < w.heap.size
theorem Is.below {w W : World} {b off : Nat} {xs : List Int} (h : Is w b off xs) {n : Nat} (hn : b < n) (hb : Below n w W) : Is W b off xs :=
  ⟨fun j hj => (hb.cell (p := ⟨b, off + j, none⟩) hn).trans (h.c j hj), Nat.lt_of_lt_of_le h.lt hb.size⟩

def encS (z : Int × Int × Int) : List Value := [.int .i64 z.1, .int .i64 z.2.1, .int .i64 z.2.2]
theorem flat_at {α : Type} (k : Nat) (enc : α → List Value) (hk : ∀ x, (enc x).length = k) : ∀ (zs : List α) (j i : Nat) (d : α), j < zs.length → i < k → (zs.flatMap enc)[j * k + i]? = (enc (zs.getD j d))[i]?
  | [], j, i, d, h, _ => absurd h (by simp)
  | z :: zs, 0, i, d, _, hi => by
    rw [List.flatMap_cons, List.getElem?_append_left (by rw [hk]; omega)]
    simp
  | z :: zs, j + 1, i, d, h, hi => by
    rw [List.flatMap_cons, List.getElem?_append_right (by rw [hk, Nat.add_mul]; omega), hk, show (j + 1) * k + i - k = j * k + i from by rw [Nat.add_mul]; omega, flat_at k enc hk zs j i d (by simpa using h) hi]
    simp
theorem flat_len {α : Type} (k : Nat) (enc : α → List Value) (hk : ∀ x, (enc x).length = k) : ∀ (zs : List α), (zs.flatMap enc).length = zs.length * k
  | [] => by simp
  | z :: zs => by rw [List.flatMap_cons, List.length_append, hk, flat_len k enc hk zs, List.length_cons, Nat.add_mul]; omega

theorem Ss_of_own {W : World} {base g c : Nat} {zs : List (Int × Int × Int)} (h : W.ownsRow base 156 3 (.slice (some ⟨g, 0, none⟩) zs.length c) zs.length (zs.flatMap encS)) : Ss W g 0 zs := by
  have hf := flat_at 3 encS (fun _ => rfl) zs
  refine ⟨fun j hj => ?_, fun j hj => ?_, fun j hj => ?_, ?_⟩
  · rw [Nat.zero_add, h.cellAt (j * 3) (by omega)]
    have := hf j 0 (0, 0, 0) hj (by omega)
    simpa [encS] using this
  · rw [Nat.zero_add, h.cellAt (j * 3 + 1) (by omega)]
    have := hf j 1 (0, 0, 0) hj (by omega)
    simpa [encS] using this
  · rw [Nat.zero_add, h.cellAt (j * 3 + 2) (by omega)]
    have := hf j 2 (0, 0, 0) hj (by omega)
    simpa [encS] using this
  · exact (h.lt g rfl).2

def spots (f : Int → Int × Int) (xs : List Int) : List (Int × Int × Int) := xs.map fun x => (x, f x)
theorem spots_drop (f : Int → Int × Int) (xs : List Int) (k : Nat) (hk : k < xs.length) : (xs.drop k).map (fun x => (x, f x)) = (xs.getD k 0, f (xs.getD k 0)) :: (xs.drop (k + 1)).map (fun x => (x, f x)) := by
  rw [List.drop_eq_getElem_cons hk, List.map_cons, List.getD_eq_getElem?_getD, List.getElem?_eq_getElem hk]
  rfl

set_option maxHeartbeats 1600000 in
theorem over_any (g : Nat) (lb : Array Value) (eg : ∀ args w, (callFunc g args).run Try.prog w = .ok (.enter g args) w) (f : Int → Int × Int) (b off cap : Nat) (xs : List Int) (w : World) (hp : ValAt g lb f xs w) (hF : Is w b off xs) (hf : ∀ x ∈ xs, FrB (f x)) (hx0 : 0 < xs.length) (hx1 : xs.length ≤ 1000000) :
    Calls Try.prog 80 #[.slice (some ⟨b, off, none⟩) xs.length cap, .func (.func g) #[] lb] w fun e w' => e = .returned (vPk (spots f xs)) ∧ Below w.heap.size w w' := by
  have hlt := hF.lt
  have HF := Lib.hid hF
  have HP := Lib.hid hp
  have HFf := Lib.hid hf
  clear hF hp hf
  generalize hnn : xs.length = nn at *
  have HNN := Lib.hid hnn
  clear hnn
  obtain ⟨i0, hi0, hz0, hz1, hz2⟩ := info_parts info_spot
  have HI := Lib.hid (show Try.prog.info? 156 = some i0 ∧ i0.zero = some (vSpot 0 0 0) ∧ i0.size = 3 ∧ i0.bytes = 24 from ⟨hi0, hz0, hz1, hz2⟩)
  clear hi0 hz0 hz1 hz2
  go_enter Try.func80, Try.ntmps80
  go_wp2
  go_loopw [5, 10] (fun v i wr => ∃ (k : Nat) (acc : List (Int × Int × Int)), k ≤ nn ∧ i = .int .i64 k ∧ acc.length = k ∧ spots f xs = acc ++ (xs.drop k).map (fun x => (x, f x)) ∧ wr.ownsRow (w.heap.size + 1) 156 3 v k (acc.flatMap encS) ∧ (0 < k → v ≠ .slice none 0 0) ∧ Blk wr w.heap.size 40 #[.int .i64 0, .int .i64 0, .int .i64 0, .int .i64 0, .int .i64 0, .int .i64 0] ∧ Below w.heap.size w wr) (fun _ i _ => nn - (intOf i).toNat)
  case atStart => exact ⟨0, [], Nat.zero_le _, rfl, rfl, rfl, World.ownsRow_nil _ _ _ _, fun h => absurd h (by omega), Blk.new _ _ _, (Below.refl _ _).alloc (Nat.le_refl _) _⟩
  case round =>
    obtain ⟨k, acc, hk, rfl, hal, hacc, hown, hvn, hs0, hb⟩ := hrel
    have HO := Lib.hid hacc
    have HAl := Lib.hid hal
    have HOwn := Lib.hid hown
    have HVn := Lib.hid hvn
    clear hacc hown hvn hal
    have hs1 := hs0.lt
    by_cases hkn : k < nn
    · have hkl : k < xs.length := by rw [HNN.out]; exact hkn
      have hxk := (HF.out.below hlt hb).c k hkl
      have HMem := Lib.hid (getD_mem xs k 0 hkl)
      have HD := Lib.hid (spots_drop f xs k hkl)
      clear hkl
      generalize hxe : xs.getD k 0 = x at *
      clear hxe
      have hltr : b < wr.heap.size := by have := hb.size; omega
      have hcall := HP.out wr x HMem.out hb
      generalize hfx : f x = y at *
      have HFx := Lib.hid hfx
      clear hfx
      obtain ⟨yn, yd⟩ := y
      dsimp only at hcall
      have HC := Lib.hid hcall
      clear hcall
      go_wp2_with (first
        | (go_at_fn g; refine HC.out.mono ?_; rintro e w1 ⟨rfl, hb1⟩; have hown1 := owns_below HOwn.out hb1; have hs2 := hs0.below hb1; have hbb := hb.trans (hb1.mono hb.size))
        | (at_builtin; go_loud (refine wpList_append_own _ rfl (.tmp 14) (.tmp 20) 154 rfl (w.heap.size + 1) 156 i0 (vSpot 0 0 0) 3 24 Try.underlying154 HI.out.1 HI.out.2.1 HI.out.2.2.1 HI.out.2.2.2 rfl (by decide) _ k (acc.flatMap encS) rfl (hown1.alloc _) ⟨w1.heap.size, 0, none⟩ 1 1 [.int .i64 x, .int .i64 yn, .int .i64 yd] rfl rfl ?c1 ?c2 ?c3 ?c4 ?c5 ?_)))
      case c1 =>
        intro j' u hj'
        match j', hj' with
        | 0, hj' => simp at hj'; subst hj'; simp [Addr.add]
        | 1, hj' => simp at hj'; subst hj'; simp [Addr.add]
        | 2, hj' => simp at hj'; subst hj'; simp [Addr.add]
      case c2 => intro u hu; simp at hu; rcases hu with rfl | rfl | rfl <;> rfl
      case c3 => unfold maxLen; omega
      case c4 => omega
      case c5 => have := hs2.lt; simp; omega
      intro v' w2 hown' hgrow hnn
      have hlast := app_step (hbb.alloc hbb.size _) (by simp; have := hbb.size; omega) (hs2.alloc _) (hown1.alloc _) hgrow
      have HN := Lib.hid hown'
      have HL2 := Lib.hid hlast
      have HNN2 := Lib.hid hnn
      clear hown' hgrow hlast hnn hown1 hs0 hb hs2 hbb hxk
      go_wp2
      go_roundw
      case rel =>
        refine ⟨k + 1, acc ++ [(x, yn, yd)], by omega, by go_num, by simp [HAl.out], ?_, ?_, fun _ e => ?_, HL2.out.2, HL2.out.1⟩
        · rw [HO.out, HD.out, List.append_assoc]; rfl
        · have := HN.out
          simpa [encS] using this
        · exact HNN2.out e
      case measure => simp [intOf]; omega
    · have hkk : k = nn := by omega
      subst hkk
      have hsp : spots f xs = acc := by rw [HO.out, List.drop_eq_nil_of_le (by rw [HNN.out]; omega)]; simp
      have hown := HOwn.out
      rcases hown.2 with ⟨h0, _⟩ | ⟨g', c, cur, hv, hg, _⟩
      · exact absurd h0 (HVn.out hx0)
      subst hv
      have hal := HAl.out
      subst hal
      have hss := Ss_of_own hown
      have hfr : ∀ z ∈ acc, FrB z.2 := by
        rw [← hsp]
        intro z hz
        obtain ⟨x, hx, rfl⟩ := List.mem_map.1 hz
        exact HFf.out x hx
      have HPk := Lib.hid (peak_any g' 0 c acc wr hss hfr (by omega))
      clear hss hfr hown
      have HSp := Lib.hid hsp
      clear hsp
      unfold vPk at *
      generalize hpl : pkLo acc = pl at *
      generalize hph : pkHi acc = ph at *
      obtain ⟨pa, pn, pd⟩ := pl
      obtain ⟨qa, qn, qd⟩ := ph
      have HPl := Lib.hid hpl
      have HPh := Lib.hid hph
      clear hpl hph
      go_wp2_with (go_at_call 132; refine HPk.out.mono ?_; rintro e w1 ⟨rfl, hb1⟩; have hr := hs0.below hb1; have hf0 := hr.frozen 0; have hf1 := hr.frozen 1; have hf2 := hr.frozen 2; have hf3 := hr.frozen 3; have hf4 := hr.frozen 4; have hf5 := hr.frozen 5; have hc0 := hr.cell 0; have hc1 := hr.cell 1; have hc2 := hr.cell 2; have hc3 := hr.cell 3; have hc4 := hr.cell 4; have hc5 := hr.cell 5; simp only [List.getElem?_toArray, List.getElem?_cons_zero, List.getElem?_cons_succ] at hc0 hc1 hc2 hc3 hc4 hc5; have hrl := hr.lt)
      have hbb := hb.trans (hb1.mono hb.size)
      have hF := (((((hr.set_ 0 (.int .i64 pn)).set_ 1 (.int .i64 pd)).set_ 2 (.int .i64 qn)).set_ 3 (.int .i64 qd)).set_ 4 (.int .i64 pa)).set_ 5 (.int .i64 qa)
      have hW := (((((hbb.setCell (p := ⟨w.heap.size, 0, none⟩) (Nat.le_refl _) (.int .i64 pn)).setCell (p := ⟨w.heap.size, 1, none⟩) (Nat.le_refl _) (.int .i64 pd)).setCell (p := ⟨w.heap.size, 2, none⟩) (Nat.le_refl _) (.int .i64 qn)).setCell (p := ⟨w.heap.size, 3, none⟩) (Nat.le_refl _) (.int .i64 qd)).setCell (p := ⟨w.heap.size, 4, none⟩) (Nat.le_refl _) (.int .i64 pa)).setCell (p := ⟨w.heap.size, 5, none⟩) (Nat.le_refl _) (.int .i64 qa)
      have g0 := hF.cell 0
      have g1 := hF.cell 1
      have g2 := hF.cell 2
      have g3 := hF.cell 3
      have g4 := hF.cell 4
      have g5 := hF.cell 5
      simp only [List.setIfInBounds_toArray, List.set_cons_zero, List.set_cons_succ, List.getElem?_toArray, List.getElem?_cons_zero, List.getElem?_cons_succ] at g0 g1 g2 g3 g4 g5
      exact bodyPost_ret (v := vPeak pn pd qn qd pa qa) (by simp [results, Try.results80, go_sem, g0, g1, g2, g3, g4, g5]) rfl ⟨by rw [HSp.out]; unfold vPk; rw [HPl.out, HPh.out], hW⟩
end Go.Proofs.Ytipablcbkoedbaa
