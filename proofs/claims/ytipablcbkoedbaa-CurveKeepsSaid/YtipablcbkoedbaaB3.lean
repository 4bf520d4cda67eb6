/- Lists of curves; checked, shared, spanned; Value, Domain. -/
import Derived.WalkKit
import Derived.WalkLawsBesides
import Derived.Deep.QuietTactic
import Derived.BigQuiet
import Derived.RegionTactic
import Derived.Lib.Hide
import Derived.Outline
import Derived.WalkSmall
import Derived.Test.YtipablcbkoedbaaProg
import Derived.Test.YtipablcbkoedbaaReg
import Derived.Test.YtipablcbkoedbaaA1
import Derived.Test.YtipablcbkoedbaaA2
import Derived.Test.YtipablcbkoedbaaB1
import Derived.Test.YtipablcbkoedbaaB2
namespace Go.Proofs.Ytipablcbkoedbaa
open Go.RowKit


theorem Check_any (A : Option Addr) (n cap : Nat) (err : Int) (ks : List (Int × Int)) (w : World) (h : CAt w A n ks) (hm : n ≤ 9223372036854775807) :
    Calls Try.prog 38 #[vCv A n cap err] w fun e w' => e = .returned (.int .i64 (check ks err)) ∧ Below w.heap.size w w' := by
  by_cases h1 : 40 < n
  · exact Check_long A n cap err ks w h h1 hm
  · by_cases h2 : n = 0 ∨ ¬ (0 ≤ err ∧ err ≤ 4000)
    · exact Check_arg A n cap err ks w h (by omega) h2
    · obtain ⟨b, off, rfl, hk⟩ := h.at_ (by omega)
      exact Check_loop b off n cap err ks w hk h.len (by omega) (by omega) (by omega)

theorem okK_spec : ∀ (ks : List (Int × Int)) (last : Int), okK last ks = true →
    (∀ i, i < ks.length → last + 1 ≤ kx ks i ∧ kx ks i ≤ 2000 ∧ -65536 ≤ ky ks i ∧ ky ks i ≤ 65536) ∧ ∀ i, i + 1 < ks.length → kx ks i + 1 ≤ kx ks (i + 1)
  | [], _, _ => ⟨fun i h => absurd h (by simp), fun i h => absurd h (by simp)⟩
  | (x, y) :: t, last, h => by
    simp only [okK, Bool.and_eq_true, decide_eq_true_eq] at h
    obtain ⟨h1, h2⟩ := h
    obtain ⟨h3, h4⟩ := okK_spec t x h2
    have e0x : kx ((x, y) :: t) 0 = x := rfl
    have e0y : ky ((x, y) :: t) 0 = y := rfl
    have ex : ∀ i, kx ((x, y) :: t) (i + 1) = kx t i := fun i => rfl
    have ey : ∀ i, ky ((x, y) :: t) (i + 1) = ky t i := fun i => rfl
    refine ⟨fun i hi => ?_, fun i hi => ?_⟩
    · cases i with
      | zero => rw [e0x, e0y]; exact h1
      | succ i =>
        rw [ex, ey]
        have := h3 i (by simpa using hi)
        omega
    · cases i with
      | zero =>
        rw [ex, e0x]
        exact (h3 0 (by simpa using hi)).1
      | succ i =>
        rw [ex, ex]
        exact h4 i (by simpa using hi)
theorem check_zero {ks : List (Int × Int)} {err : Int} (h : check ks err = 0) : Valid ks ∧ 0 ≤ err ∧ err ≤ 4000 := by
  unfold check at h
  split at h
  · cases h
  · split at h
    · cases h
    · split at h
      · rename_i h1 h2 h3
        have h2' := not_or.1 h2
        obtain ⟨h4, h5⟩ := okK_spec ks (-1) h3
        exact ⟨⟨by omega, by omega, fun i hi => by have := h4 i hi; omega, fun i hi => by have := h4 i hi; omega, h5⟩, by omega, by omega⟩
      · cases h

abbrev domLo (ks : List (Int × Int)) : Int := kx ks 0
abbrev domHi (ks : List (Int × Int)) : Int := kx ks (ks.length - 1)

theorem domain_any (b off n cap : Nat) (err : Int) (ks : List (Int × Int)) (w : World) (h : Kn w b off ks) (hl : ks.length = n) (h0 : 0 < n) (hn : n ≤ 1000) :
    Calls Try.prog 97 #[vCv (some ⟨b, off, none⟩) n cap err] w fun e w' => e = .returned (vSpan (domLo ks) (domHi ks)) ∧ Below w.heap.size w w' := by
  subst hl
  have hlt := h.lt
  have hx := h.x 0 (by omega)
  have hy := h.x (ks.length - 1) (by omega)
  have hlen : ks.length - 1 < ks.length := by omega
  simp only [Nat.zero_mul, Nat.add_zero] at hx
  unfold domLo domHi
  go_enter Try.func97, Try.ntmps97
  go_wp2
  generalize hW0 : (w.alloc (.cells #[.slice (some ⟨b, off, none⟩) ks.length cap, .int .i64 err] 24)).alloc (.cells #[.int .i64 0, .int .i64 0] 26) = W0
  have hbw : Below w.heap.size w W0 := by rw [← hW0]; exact ((Below.refl _ _).alloc (Nat.le_refl _) _).alloc (by simp) _
  have hc0 : Blk W0 w.heap.size 24 #[.slice (some ⟨b, off, none⟩) ks.length cap, .int .i64 err] := by rw [← hW0]; exact (Blk.at_new _ _ rfl).alloc _
  have hr0 : Blk W0 (w.heap.size + 1) 26 #[.int .i64 0, .int .i64 0] := by rw [← hW0]; exact Blk.at_new _ _ (by simp)
  clear hW0
  have hlt1 := hc0.lt
  have hlt2 := hr0.lt
  have hlt3 : b < W0.heap.size := by omega
  have hcc := hc0.cell 0
  simp only [List.getElem?_toArray, List.getElem?_cons_zero] at hcc
  have hx' := (hbw.cell (p := ⟨b, off, none⟩) hlt).trans hx
  have hy' := (hbw.cell (p := ⟨b, off + (ks.length - 1) * 2, none⟩) hlt).trans hy
  clear hx hy
  obtain ⟨xc, xf⟩ := xcell (W := W0)
  refine wp_region_quiet_tail 15 (by kernel_rfl) (by kernel_rfl) ?_
  simp only [List.take_succ_cons, List.take_zero, List.drop_succ_cons, List.drop_zero]
  repeat (first | go_big_quiet_step (fail) | quiet_step (fail))
  refine wpQuiet_nil ?_
  intro w2 hb2
  have hr2 := hr0.below hb2
  have hrc := hr2.cell 0
  have hrd := hr2.cell 1
  have hrf := hr2.frozen 0
  have hrg := hr2.frozen 1
  simp only [List.getElem?_toArray, List.getElem?_cons_zero, List.getElem?_cons_succ] at hrc hrd
  have hb5 := hbw.trans (hb2.mono hbw.size)
  go_wp2
  exact bodyPost_ret (v := vSpan (kx ks 0) (kx ks (ks.length - 1))) (by simp [results, Try.results97, go_sem, hrc, hrd]) rfl ⟨rfl, (hb5.setCell (p := ⟨w.heap.size + 1, 0, none⟩) (by simp) _).setCell (p := ⟨w.heap.size + 1, 1, none⟩) (by simp) _⟩

/-! ### Lists of curves -/
structure CV where
  A : Option Addr
  n : Nat
  cap : Nat
  err : Int
  ks : List (Int × Int)
def CV.v (c : CV) : Value := vCv c.A c.n c.cap c.err
def cvA (cs : List CV) (i : Nat) : Option Addr := (cs.getD i ⟨none, 0, 0, 0, []⟩).A
def cvn (cs : List CV) (i : Nat) : Nat := (cs.getD i ⟨none, 0, 0, 0, []⟩).n
def cvcap (cs : List CV) (i : Nat) : Nat := (cs.getD i ⟨none, 0, 0, 0, []⟩).cap
def cverr (cs : List CV) (i : Nat) : Int := (cs.getD i ⟨none, 0, 0, 0, []⟩).err
def cvks (cs : List CV) (i : Nat) : List (Int × Int) := (cs.getD i ⟨none, 0, 0, 0, []⟩).ks
/-- The curves cs lie in block b, from off on. -/
structure Cvs (w : World) (b off : Nat) (cs : List CV) : Prop where
  lt : b < w.heap.size
  s : ∀ i, i < cs.length → w.cell? ⟨b, off + i * 2, none⟩ = some (.slice (cvA cs i) (cvn cs i) (cvcap cs i))
  e : ∀ i, i < cs.length → w.cell? ⟨b, off + i * 2 + 1, none⟩ = some (.int .i64 (cverr cs i))
  at_ : ∀ i, i < cs.length → CAt w (cvA cs i) (cvn cs i) (cvks cs i)
  le : ∀ i, i < cs.length → cvn cs i ≤ 9223372036854775807
theorem Cvs.below {w w' : World} {b off : Nat} {cs : List CV} (h : Cvs w b off cs) (hb : Below w.heap.size w w') : Cvs w' b off cs :=
  ⟨Nat.lt_of_lt_of_le h.lt hb.size, fun i hi => (hb.cell (p := ⟨b, _, none⟩) h.lt).trans (h.s i hi), fun i hi => (hb.cell (p := ⟨b, _, none⟩) h.lt).trans (h.e i hi), fun i hi => (h.at_ i hi).below hb, h.le⟩
structure LAt (w : World) (A : Option Addr) (n : Nat) (cs : List CV) : Prop where
  len : cs.length = n
  at_ : 0 < n → ∃ b off, A = some ⟨b, off, none⟩ ∧ Cvs w b off cs
theorem LAt.below {w w' : World} {A : Option Addr} {n : Nat} {cs : List CV} (h : LAt w A n cs) (hb : Below w.heap.size w w') : LAt w' A n cs :=
  ⟨h.len, fun hn => let ⟨b, off, e, hk⟩ := h.at_ hn; ⟨b, off, e, hk.below hb⟩⟩

/-- The first error of some curves. -/
def checkAll : List CV → Int
  | [] => 0
  | c :: cs => if check c.ks c.err = 0 then checkAll cs else check c.ks c.err
theorem checkAll_drop (cs : List CV) (k : Nat) (hk : k < cs.length) : checkAll (cs.drop k) = if check (cvks cs k) (cverr cs k) = 0 then checkAll (cs.drop (k + 1)) else check (cvks cs k) (cverr cs k) := by
  rw [List.drop_eq_getElem_cons hk]
  have e : cs.getD k ⟨none, 0, 0, 0, []⟩ = cs[k] := by simp [List.getD_eq_getElem?_getD, hk]
  unfold cvks cverr
  rw [e]
  rfl

theorem checked_any (A : Option Addr) (n cap : Nat) (cs : List CV) (w : World) (h : LAt w A n cs) (hm : n ≤ 9223372036854775807) :
    Calls Try.prog 104 #[.slice A n cap] w fun e w' => e = .returned (.int .i64 (checkAll cs)) ∧ Below w.heap.size w w' := by
  have HL := Lib.hid h.len
  have HA := Lib.hid h
  clear h
  go_enter Try.func104, Try.ntmps104
  go_wp2
  go_loopw [8] (fun i wr => ∃ k : Nat, k ≤ n ∧ i = .int .i64 k ∧ checkAll cs = checkAll (cs.drop k) ∧ Below w.heap.size w wr) (fun i _ => n - (intOf i).toNat)
  case atStart => exact ⟨0, Nat.zero_le _, rfl, rfl, Below.refl _ _⟩
  case round =>
    obtain ⟨k, hk, rfl, hok, hb⟩ := hrel
    have HO := Lib.hid hok
    clear hok
    by_cases hkn : k < n
    · obtain ⟨b, off, hAe, hcs⟩ := HA.out.at_ (by omega)
      subst hAe
      have hlt := hcs.lt
      have hcs' := hcs.below hb
      have hkl : k < cs.length := by rw [HL.out]; exact hkn
      have hs := hcs'.s k hkl
      have he := hcs'.e k hkl
      have hat := hcs'.at_ k hkl
      have hle := hcs'.le k hkl
      have hd := checkAll_drop cs k hkl
      have HD := Lib.hid hd
      have HT := Lib.hid hat
      clear hd hat hcs hcs'
      generalize hcA : cvA cs k = cA at *
      generalize hcn : cvn cs k = cn at *
      generalize hcc : cvcap cs k = cc at *
      generalize hce : cverr cs k = ce at *
      generalize hck : cvks cs k = ck at *
      clear hcA hcn hcc hce hck hkl
      have hC := fun W (hW : Below w.heap.size w W) (hW2 : CAt W cA cn ck) => Check_any cA cn cc ce ck W hW2 hle
      have HC := Lib.hid hC
      clear hC
      by_cases hz : check ck ce = 0
      · have hz1 : (check ck ce != 0) = false := by simp [hz]
        have HZ := Lib.hid hz
        clear hz
        go_wp2_with fail
        refine (HC.out _ (hb.alloc hb.size _) (HT.out.below ((Below.refl _ _).alloc (Nat.le_refl _) _))).mono ?_; rintro e w1 ⟨rfl, hb1⟩
        go_wp2
        go_roundw
        case rel => exact ⟨k + 1, by omega, by go_num, by rw [HO.out, HD.out, if_pos HZ.out], (hb.alloc hb.size _).trans (hb1.mono (by simp; have := hb.size; omega))⟩
        case measure => simp [intOf]; omega
      · have hz1 : (check ck ce != 0) = true := by simpa using hz
        have HZ := Lib.hid hz
        clear hz
        go_wp2_with fail
        refine (HC.out _ (hb.alloc hb.size _) (HT.out.below ((Below.refl _ _).alloc (Nat.le_refl _) _))).mono ?_; rintro e w1 ⟨rfl, hb1⟩
        go_wp2
        go_ret
        exact ⟨ret_int (by rw [HO.out, HD.out, if_neg HZ.out]), (hb.alloc hb.size _).trans (hb1.mono (by simp; have := hb.size; omega))⟩
    · have HN : checkAll (cs.drop k) = 0 := by rw [List.drop_eq_nil_of_le (by rw [HL.out]; omega)]; rfl
      have HN' := Lib.hid HN
      clear HN
      go_wp2
      go_ret
      exact ⟨ret_int (by rw [HO.out, HN'.out]), hb⟩
end Go.Proofs.Ytipablcbkoedbaa
