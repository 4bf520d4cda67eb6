/- shared, spanned; Value, Domain, Values. -/
import Derived.WalkKit
import Derived.WalkLawsBesides
import Derived.Deep.QuietTactic
import Derived.BigQuiet
import Derived.RegionTactic
import Derived.Lib.Hide
import Derived.Outline
import Derived.WalkSmall
import Derived.Test.YtipablcbkoedbaaProg
import Derived.Test.YtipablcbkoedbaaReg
import Derived.Test.YtipablcbkoedbaaA1
import Derived.Test.YtipablcbkoedbaaA2
import Derived.Test.YtipablcbkoedbaaB1
import Derived.Test.YtipablcbkoedbaaB2
import Derived.Test.YtipablcbkoedbaaB3
namespace Go.Proofs.Ytipablcbkoedbaa
open Go.RowKit



def sharedFrom (lo hi : Int) : List CV → Int × Int
  | [] => (lo, hi)
  | c :: cs => sharedFrom (max lo (domLo c.ks)) (min hi (domHi c.ks)) cs
def shLo (cs : List CV) : Int := (sharedFrom 0 2000 cs).1
def shHi (cs : List CV) : Int := (sharedFrom 0 2000 cs).2
theorem sharedFrom_drop (lo hi : Int) (cs : List CV) (k : Nat) (hk : k < cs.length) :
    sharedFrom lo hi (cs.drop k) = sharedFrom (max lo (domLo (cvks cs k))) (min hi (domHi (cvks cs k))) (cs.drop (k + 1)) := by
  rw [List.drop_eq_getElem_cons hk]
  have e : cs.getD k ⟨none, 0, 0, 0, []⟩ = cs[k] := by simp [List.getD_eq_getElem?_getD, hk]
  unfold cvks
  rw [e]
  rfl

/-- All curves are valid. -/
def AllValid (cs : List CV) : Prop := ∀ i, i < cs.length → Valid (cvks cs i) ∧ 0 ≤ cverr cs i ∧ cverr cs i ≤ 4000
theorem checkAll_zero : ∀ (cs : List CV), checkAll cs = 0 → AllValid cs
  | [], _ => fun i h => absurd h (by simp)
  | c :: cs, h => by
    unfold checkAll at h
    split at h
    · rename_i h0
      intro i hi
      cases i with
      | zero => exact check_zero h0
      | succ i => exact checkAll_zero cs h i (by simpa using hi)
    · rename_i h0
      exact absurd h h0

theorem shared_any (A : Option Addr) (n cap : Nat) (cs : List CV) (w : World) (h : LAt w A n cs) (hm : n ≤ 9223372036854775807) (hv : AllValid cs) :
    Calls Try.prog 105 #[.slice A n cap] w fun e w' => e = .returned (vSpan (shLo cs) (shHi cs)) ∧ Below w.heap.size w w' := by
  have HL := Lib.hid h.len
  have HA := Lib.hid h
  have HV := Lib.hid hv
  clear h hv
  go_enter Try.func105, Try.ntmps105
  go_wp2
  go_loopw [10] (fun i wr => ∃ (k : Nat) (lo hi : Int), k ≤ n ∧ i = .int .i64 k ∧ sharedFrom 0 2000 cs = sharedFrom lo hi (cs.drop k) ∧ 0 ≤ lo ∧ lo ≤ 2000 ∧ 0 ≤ hi ∧ hi ≤ 2000 ∧ Blk wr w.heap.size 26 #[.int .i64 0, .int .i64 0] ∧ Blk wr (w.heap.size + 1) 26 #[.int .i64 lo, .int .i64 hi] ∧ Below w.heap.size w wr) (fun i _ => n - (intOf i).toNat)
  case atStart => exact ⟨0, 0, 2000, Nat.zero_le _, rfl, rfl, by omega, by omega, by omega, by omega, (Blk.at_new _ _ rfl).alloc _, Blk.at_new _ _ (by simp), ((Below.refl _ _).alloc (Nat.le_refl _) _).alloc (by simp) _⟩
  case round =>
    obtain ⟨k, lo, hi, hk, rfl, hok, hl1, hl2, hh1, hh2, hr0, hs0, hb⟩ := hrel
    have HO := Lib.hid hok
    clear hok
    have hs1 := hs0.lt
    by_cases hkn : k < n
    · obtain ⟨b, off, hAe, hcs⟩ := HA.out.at_ (by omega)
      subst hAe
      have hlt := hcs.lt
      have hcs' := hcs.below hb
      have hkl : k < cs.length := by rw [HL.out]; exact hkn
      have hs := hcs'.s k hkl
      have he := hcs'.e k hkl
      have hat := hcs'.at_ k hkl
      have hd := sharedFrom_drop lo hi cs k hkl
      obtain ⟨hvk, _, _⟩ := HV.out k hkl
      have HD := Lib.hid hd
      clear hd hcs hcs'
      generalize hcA : cvA cs k = cA at *
      generalize hcn : cvn cs k = cn at *
      generalize hcc : cvcap cs k = cc at *
      generalize hce : cverr cs k = ce at *
      generalize hck : cvks cs k = ck at *
      clear hcA hcn hcc hce hck hkl
      have hpos := hvk.pos
      have hvle := hvk.le
      have hlen := hat.len
      obtain ⟨b', off', hAe', hkn'⟩ := hat.at_ (by omega)
      subst hAe'
      have hx0 := hvk.x0 0 hpos
      have hx1 := hvk.x0 (ck.length - 1) (by omega)
      obtain ⟨hx0a, hx0b⟩ := hx0
      obtain ⟨hx1a, hx1b⟩ := hx1
      have HT := Lib.hid hkn'
      have HLn := Lib.hid hlen
      have hcn1 : 0 < cn := by omega
      have hcn2 : cn ≤ 1000 := by omega
      clear hkn' hlen hat hvk
      have hC := fun W (hW2 : Kn W b' off' ck) => domain_any b' off' cn cc ce ck W hW2 HLn.out hcn1 hcn2
      have HC := Lib.hid hC
      clear hC
      go_wp2_with fail
      refine (HC.out _ (HT.out.below ((Below.refl _ _).alloc (Nat.le_refl _) _))).mono ?_; rintro e w1 ⟨rfl, hb1⟩
      unfold domLo domHi at *
      generalize hdl : kx ck 0 = dl at *
      generalize hdh : kx ck (ck.length - 1) = dh at *
      clear hdl hdh
      have hr1 := (hr0.alloc (.cells #[.slice (some ⟨b', off', none⟩) cn cc, .int .i64 ce] 24)).below hb1
      have hs1 := (hs0.alloc (.cells #[.slice (some ⟨b', off', none⟩) cn cc, .int .i64 ce] 24)).below hb1
      have hs1lt := hs1.lt
      have hc0 := hs1.cell 0
      have hc1 := hs1.cell 1
      have hf0 := hs1.frozen 0
      have hf1 := hs1.frozen 1
      simp only [List.getElem?_toArray, List.getElem?_cons_zero, List.getElem?_cons_succ] at hc0 hc1
      have hb2 := (hb.alloc hb.size (.cells #[.slice (some ⟨b', off', none⟩) cn cc, .int .i64 ce] 24)).trans (hb1.mono (by simp; have := hb.size; omega))
      go_wp2
      have e1 : max lo dl = if lo < dl then dl else lo := by rw [Int.max_def]; split <;> split <;> omega
      have e2 : min hi dh = if dh < hi then dh else hi := by rw [Int.min_def]; split <;> split <;> omega
      have E1 := Lib.hid e1
      have E2 := Lib.hid e2
      clear e1 e2
      go_roundw
      case rel =>
        refine ⟨k + 1, if lo < dl then dl else lo, if dh < hi then dh else hi, by omega, by go_num, by rw [HO.out, HD.out, E1.out, E2.out], by split <;> omega, by split <;> omega, by split <;> omega, by split <;> omega, ?_, ?_, ?_⟩
        · exact ((hr1.far (p := ⟨w.heap.size + 1, 0, none⟩) (by simp) _).far (p := ⟨w.heap.size + 1, 1, none⟩) (by simp) _).alloc _
        · exact ((hs1.set_ 0 _).set_ 1 _).alloc _
        · exact ((hb2.setCell (p := ⟨w.heap.size + 1, 0, none⟩) (by simp) _).setCell (p := ⟨w.heap.size + 1, 1, none⟩) (by simp) _).alloc (by simp [World.setCell]; have := hb2.size; omega) _
      case measure => simp [intOf]; omega
    · have HN : sharedFrom lo hi (cs.drop k) = (lo, hi) := by rw [List.drop_eq_nil_of_le (by rw [HL.out]; omega)]; rfl
      have HN' := Lib.hid HN
      clear HN
      have hc0 := hs0.cell 0
      have hc1 := hs0.cell 1
      have hrc := hr0.cell 0
      have hrd := hr0.cell 1
      have hrf := hr0.frozen 0
      have hrg := hr0.frozen 1
      simp only [List.getElem?_toArray, List.getElem?_cons_zero, List.getElem?_cons_succ] at hc0 hc1 hrc hrd
      go_wp2
      refine bodyPost_ret (v := vSpan lo hi) (by simp [results, Try.results105, go_sem, hrc, hrd]) rfl ⟨by unfold shLo shHi; rw [HO.out, HN'.out], (hb.setCell (p := ⟨w.heap.size, 0, none⟩) (Nat.le_refl _) _).setCell (p := ⟨w.heap.size, 1, none⟩) (Nat.le_refl _) _⟩

/-- The error of curves, and of a span of their domains. -/
def spanErr (cs : List CV) (lo hi : Int) : Int :=
  if checkAll cs ≠ 0 then checkAll cs else if hi < lo then 1 else if lo < shLo cs ∨ shHi cs < hi then 3 else 0

theorem spanned_any (A : Option Addr) (n cap : Nat) (cs : List CV) (lo hi : Int) (w : World) (h : LAt w A n cs) (hm : n ≤ 9223372036854775807) :
    Calls Try.prog 79 #[vSpan lo hi, .slice A n cap] w fun e w' => e = .returned (.int .i64 (spanErr cs lo hi)) ∧ Below w.heap.size w w' := by
  have hC := fun W (hW : LAt W A n cs) => checked_any A n cap cs W hW hm
  have HC := Lib.hid hC
  clear hC
  have hw1 := h.below ((Below.refl _ w).alloc (Nat.le_refl _) (.cells #[.int .i64 lo, .int .i64 hi] 26))
  have HA := Lib.hid hw1
  clear hw1 h
  by_cases hz : checkAll cs = 0
  case neg =>
    have hz1 : (checkAll cs != 0) = true := by simpa using hz
    have hs : spanErr cs lo hi = checkAll cs := by unfold spanErr; rw [if_pos hz]
    have HS := Lib.hid hs
    clear hs hz
    go_enter Try.func79, Try.ntmps79
    go_wp2_with fail
    refine (HC.out _ HA.out).mono ?_; rintro e w1 ⟨rfl, hb1⟩
    go_wp2
    go_ret
    exact ⟨ret_int HS.out.symm, ((Below.refl _ _).alloc (Nat.le_refl _) _).trans (hb1.mono (by simp))⟩
  have hz1 : (checkAll cs != 0) = false := by simp [hz]
  have hD := fun W (hW : LAt W A n cs) => shared_any A n cap cs W hW hm (checkAll_zero cs hz)
  have HD := Lib.hid hD
  clear hD
  have HZ := Lib.hid hz
  clear hz
  by_cases h1 : hi < lo
  · have hs : spanErr cs lo hi = 1 := by unfold spanErr; rw [if_neg (by simp [HZ.out]), if_pos h1]
    have HS := Lib.hid hs
    clear hs
    go_enter Try.func79, Try.ntmps79
    go_wp2_with fail
    refine (HC.out _ HA.out).mono ?_; rintro e w1 ⟨rfl, hb1⟩
    obtain ⟨hc, hf⟩ := bcell hb1
    go_wp2
    go_ret
    exact ⟨ret_int HS.out.symm, ((Below.refl _ _).alloc (Nat.le_refl _) _).trans (hb1.mono (by simp))⟩
  · generalize hsl : shLo cs = sl at *
    generalize hsh : shHi cs = sh at *
    by_cases h2 : lo < sl
    · have hs : spanErr cs lo hi = 3 := by unfold spanErr; rw [if_neg (by simp [HZ.out]), if_neg h1, if_pos (by omega)]
      have HS := Lib.hid hs
      clear hs hsl hsh
      go_enter Try.func79, Try.ntmps79
      go_wp2_with fail
      refine (HC.out _ HA.out).mono ?_; rintro e w1 ⟨rfl, hb1⟩
      obtain ⟨hc, hf⟩ := bcell hb1
      go_wp2_with fail
      refine (HD.out _ (HA.out.below hb1)).mono ?_; rintro e w2 ⟨rfl, hb2⟩
      have hb3 := hb1.trans (hb2.mono hb1.size)
      obtain ⟨hc, hf⟩ := bcell hb3
      have hsz : w.heap.size < w2.heap.size := by have := hb3.size; simp only [World.size_alloc] at this; omega
      go_wp2
      go_ret
      exact ⟨ret_int HS.out.symm, (((Below.refl _ _).alloc (Nat.le_refl _) _).trans (hb3.mono (by simp))).alloc (by omega) _⟩
    · by_cases h3 : sh < hi
      · have hs : spanErr cs lo hi = 3 := by unfold spanErr; rw [if_neg (by simp [HZ.out]), if_neg h1, if_pos (by omega)]
        have HS := Lib.hid hs
        clear hs hsl hsh
        go_enter Try.func79, Try.ntmps79
        go_wp2_with fail
        refine (HC.out _ HA.out).mono ?_; rintro e w1 ⟨rfl, hb1⟩
        obtain ⟨hc, hf⟩ := bcell hb1
        go_wp2_with fail
        refine (HD.out _ (HA.out.below hb1)).mono ?_; rintro e w2 ⟨rfl, hb2⟩
        have hb3 := hb1.trans (hb2.mono hb1.size)
        obtain ⟨hc, hf⟩ := bcell hb3
        have hsz : w.heap.size < w2.heap.size := by have := hb3.size; simp only [World.size_alloc] at this; omega
        go_wp2
        go_ret
        exact ⟨ret_int HS.out.symm, (((Below.refl _ _).alloc (Nat.le_refl _) _).trans (hb3.mono (by simp))).alloc (by omega) _⟩
      · have hs : spanErr cs lo hi = 0 := by unfold spanErr; rw [if_neg (by simp [HZ.out]), if_neg h1, if_neg (by omega)]
        have HS := Lib.hid hs
        clear hs hsl hsh
        go_enter Try.func79, Try.ntmps79
        go_wp2_with fail
        refine (HC.out _ HA.out).mono ?_; rintro e w1 ⟨rfl, hb1⟩
        obtain ⟨hc, hf⟩ := bcell hb1
        go_wp2_with fail
        refine (HD.out _ (HA.out.below hb1)).mono ?_; rintro e w2 ⟨rfl, hb2⟩
        have hb3 := hb1.trans (hb2.mono hb1.size)
        obtain ⟨hc, hf⟩ := bcell hb3
        have hsz : w.heap.size < w2.heap.size := by have := hb3.size; simp only [World.size_alloc] at this; omega
        go_wp2
        go_ret
        exact ⟨ret_int HS.out.symm, (((Below.refl _ _).alloc (Nat.le_refl _) _).trans (hb3.mono (by simp))).alloc (by omega) _⟩
end Go.Proofs.Ytipablcbkoedbaa
