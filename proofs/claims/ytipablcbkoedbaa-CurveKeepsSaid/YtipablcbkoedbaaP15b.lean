/- valued and matters, where they tell true. -/
import Derived.WalkKit
import Derived.WalkLawsBesides
import Derived.Deep.QuietTactic
import Derived.BigQuiet
import Derived.RegionTactic
import Derived.OwnWalk
import Derived.RangeFuncBox
import Derived.Lib.Hide
import Derived.Outline
import Derived.WalkSmall
import Derived.IntWalk
import Derived.Laws.AppendOwnNone
import Derived.Below
import Derived.Test.YtipablcbkoedbaaP13a
import Derived.Test.YtipablcbkoedbaaProg
import Derived.Test.YtipablcbkoedbaaReg4
import Derived.Test.YtipablcbkoedbaaC4
import Derived.Test.YtipablcbkoedbaaS3
import Derived.Test.YtipablcbkoedbaaC7
import Derived.Test.YtipablcbkoedbaaK1
import Derived.Test.YtipablcbkoedbaaRow2
import Derived.Test.YtipablcbkoedbaaS2
namespace Go.Proofs.Ytipablcbkoedbaa
open Go.RowKit

/-- A slice of numbers, nil let in. -/
structure IAt (w : World) (A : Option Addr) (n : Nat) (xs : List Int) : Prop where
  len : xs.length = n
  at_ : 0 < n → ∃ b off, A = some ⟨b, off, none⟩ ∧ Is w b off xs
theorem IAt.below {w W : World} {A : Option Addr} {n : Nat} {xs : List Int} (h : IAt w A n xs) (hb : Below w.heap.size w W) : IAt W A n xs :=
  ⟨h.len, fun hn => by obtain ⟨b, off, e, hi⟩ := h.at_ hn; exact ⟨b, off, e, hi.below hi.lt hb⟩⟩
theorem IAt_of_row {W : World} {base g c n : Nat} {xs : List Int} (hn : xs.length = n) (h : W.ownsRow base 3 1 (.slice (some ⟨g, 0, none⟩) n c) n (xs.map (Value.int .i64))) : Is W g 0 xs := by
  subst hn
  refine ⟨fun j hj => ?_, (h.lt g rfl).2⟩
  rw [Nat.zero_add, h.cellAt j (by simpa using hj)]
  simp [List.getD_eq_getElem?_getD, hj]
theorem new_cells1 (W : World) (a : Value) (t : TypeId) : ∀ j u, [a][j]? = some u → (W.alloc (.cells #[a] t)).cell? ((⟨W.heap.size, 0, none⟩ : Addr).add j) = some u := by
  intro j u h
  have hB : Blk (W.alloc (.cells #[a] t)) W.heap.size t #[a] := Blk.new _ _ _
  match j, h with
  | 0, h => simp at h; subst h; exact hB.cell 0
theorem one_ints1 (a : Int) : ∀ u ∈ [Value.int .i64 a], u.oneCell' = true := by
  intro u h
  simp at h
  subst h
  rfl
/-- slices.Clone of any numbers. -/
theorem clone_any (A : Option Addr) (n c : Nat) (xs : List Int) (w : World) (h : IAt w A n xs) (hm : n ≤ 1000000) :
    Calls Try.prog 125 #[.slice A n c] w fun e w' => ∃ v', e = .returned v' ∧ w'.ownsRow w.heap.size 3 1 v' n (xs.map (Value.int .i64)) ∧ Below w.heap.size w w' := by
  rcases Nat.eq_zero_or_pos n with h0 | h0
  · subst h0
    have hx : xs = [] := List.eq_nil_of_length_eq_zero h.len
    subst hx
    cases A with
    | none => exact (Try.slices_Clone_int_nil 0 c w).mono fun e w' ⟨e1, e2⟩ => ⟨_, e1, by subst e2; exact World.ownsRow_nil _ _ _ _, by subst e2; exact Below.refl _ _⟩
    | some a => exact (Try.slices_Clone_int_zero a c w).mono fun e w' ⟨v', e1, e2, _, e3⟩ => ⟨v', e1, e2, e3⟩
  · obtain ⟨b, off, rfl, hi⟩ := h.at_ h0
    refine (Try.slices_Clone_int b off n c xs w (by rw [h.len]; exact Nat.le_refl _) (by omega) hi.c).mono fun e w' ⟨v', e1, e2, _, e3⟩ => ⟨v', e1, ?_, e3⟩
    rw [List.take_of_length_le (by rw [h.len]; exact Nat.le_refl _)] at e2
    exact e2
def rfErr (ks : List (Int × Int)) (err : Int) (xs : List Int) : Int := if check ks err ≠ 0 then check ks err else if (rfX ks xs).all (whB ks) = false then 3 else if 40 < (rfX ks xs).length then 2 else 0
def rfR (ks : List (Int × Int)) (err : Int) (xs : List Int) : List (Int × Int) := if rfErr ks err xs = 0 then atL ks (rfX ks xs) else []
def rfF (ks : List (Int × Int)) (err : Int) (xs : List Int) : Int := if rfErr ks err xs = 0 then err else 0
theorem rf_no {ks : List (Int × Int)} {err : Int} {xs : List Int} {e : Int} (h : rfErr ks err xs = e) (he : e ≠ 0) : rfR ks err xs = [] ∧ rfF ks err xs = 0 := by
  unfold rfR rfF; rw [h, if_neg he, if_neg he]; exact ⟨rfl, rfl⟩
/-- The row while region 11 draws its order. -/
structure RwI (base g c m : Nat) (zs : List Int) (ls : Nat → Bool) (vs : Nat → Value) (v : World) : Prop where
  no : ls 2 = false → v.ownsRow base 3 1 (.slice (some ⟨g, 0, none⟩) m c) m (zs.map (Value.int .i64))
  yes : ls 2 = true → vs 2 = .slice (some ⟨g, 0, none⟩) (Lib.compact zs).length c ∧ v.ownsRow base 3 1 (.slice (some ⟨g, 0, none⟩) (Lib.compact zs).length c) (Lib.compact zs).length ((Lib.compact zs).map (Value.int .i64))
theorem RwI.below {base g c m : Nat} {zs : List Int} {ls : Nat → Bool} {vs : Nat → Value} {v v' : World} (h : RwI base g c m zs ls vs v) (k : Below v.heap.size v v') : RwI base g c m zs ls vs v' :=
  ⟨fun a => owns_below (h.no a) k, fun a => ⟨(h.yes a).1, owns_below (h.yes a).2 k⟩⟩
theorem RwI.up {base g c m : Nat} {zs : List Int} {ls : Nat → Bool} {vs : Nat → Value} {v : World} (h : RwI base g c m zs ls vs v) {q : Nat} (hq : 2 ≠ q) (u : Value) : RwI base g c m zs (updB ls q) (upd vs q u) v := by
  have n2 : updB ls q 2 = ls 2 := upB_ne hq
  have m2 : upd vs q u 2 = vs 2 := up_ne hq
  constructor
  · rw [n2]; exact h.no
  · rw [n2, m2]; exact h.yes
theorem RwI.set_ {base g c m : Nat} {zs : List Int} {ls : Nat → Bool} {vs : Nat → Value} {v : World} (h : RwI base g c m zs ls vs v) {g' : Nat} (hg : g ≠ g') (o : Nat) (u : Value) : RwI base g c m zs ls vs (v.setCell ⟨g', o, none⟩ u) := by
  have one : ∀ {n k : Nat} {l : List Value}, v.ownsRow base 3 1 (.slice (some ⟨g, 0, none⟩) k c) n l → (v.setCell ⟨g', o, none⟩ u).ownsRow base 3 1 (.slice (some ⟨g, 0, none⟩) k c) n l := fun {n k l} h => by
    refine ⟨h.1, ?_⟩
    rcases h.2 with h0 | ⟨gg, cap, cur, e, hg0, hgg, rest⟩
    · exact .inl h0
    · have : g = gg := by simp at e; exact e.1
      subst this
      exact .inr ⟨g, cap, cur, e, hg0, (Below.heap_setCell v ⟨g', o, none⟩ u g hg).trans hgg, rest⟩
  exact ⟨fun a => one (h.no a), fun a => ⟨(h.yes a).1, one (h.yes a).2⟩⟩
def rfI (base b0 g c m : Nat) (zs : List Int) (R : List (Int × Int)) (fe : Int) (ok : Bool) (ls : Nat → Bool) (vs : Nat → Value) (v : World) : Prop :=
  RwI base g c m zs ls vs v ∧ AtI 3 b0 24 R fe ok ls vs v ∧ (ls 3 = true → ls 2 = true)

set_option maxRecDepth 100000 in
set_option maxHeartbeats 6400000 in
theorem Refine_any (A : Option Addr) (n cap : Nat) (err : Int) (ks : List (Int × Int)) (B : Option Addr) (m bc : Nat) (xs : List Int) (w : World) (h : CAt w A n ks) (hm : n ≤ 9223372036854775807) (hi : IAt w B m xs) (hmm : m ≤ 900) :
    Calls Try.prog 64 #[vCv A n cap err, .slice B m bc] w (cvOut w (rfR ks err xs) (rfF ks err xs) (rfErr ks err xs)) := by
  have hC := fun W (hW : CAt W A n ks) => Check_any A n cap err ks W hW hm
  have HA := Lib.hid h
  have HI0 := Lib.hid hi
  have hrd : rfErr ks err xs = if check ks err ≠ 0 then check ks err else if (rfX ks xs).all (whB ks) = false then 3 else if 40 < (rfX ks xs).length then 2 else 0 := rfl
  have hrn : ∀ e, rfErr ks err xs = e → e ≠ 0 → rfR ks err xs = [] ∧ rfF ks err xs = 0 := fun e h0 h1 => rf_no h0 h1
  by_cases hz : check ks err = 0
  case neg =>
    rw [if_pos hz] at hrd
    obtain ⟨hR, hFz⟩ := hrn _ hrd hz
    rw [hrd, hR, hFz]
    have hz1 : (check ks err != 0) = true := by simpa using hz
    have HC := Lib.hid hC
    clear hrd hrn hR hFz h hz hC hi
    generalize check ks err = te at *
    generalize hW : (w.alloc (.cells #[.slice A n cap, .int .i64 err] 24)).alloc (.cells #[.slice none 0 0, .int .i64 0] 24) = W
    have B0 : Below w.heap.size w W := by rw [← hW]; exact (((Below.refl w.heap.size w).alloc (Nat.le_refl _) _).alloc (by simp) _)
    have x0_0 : Blk W w.heap.size 24 #[.slice A n cap, .int .i64 err] := by rw [← hW]; exact ((Blk.at_new _ _ rfl).alloc _)
    have r_0 : Blk W (w.heap.size + 1) 24 #[.slice none 0 0, .int .i64 0] := by rw [← hW]; exact (Blk.at_new _ _ (by simp))
    have HWE := Lib.hid hW
    clear hW
    go_enter Try.func64, Try.ntmps64
    have B1 := B0
    go_wp2_with fail
    rw [HWE.out]
    refine (HC.out _ (HA.out.below B1)).mono ?_; rintro e w1 ⟨rfl, hb1⟩
    have x0_1 := x0_0.below hb1
    have r_1 := r_0.below hb1
    clear x0_0 r_0
    have x0_1c0 := x0_1.cell 0
    have x0_1c1 := x0_1.cell 1
    simp only [List.getElem?_toArray, List.getElem?_cons_zero, List.getElem?_cons_succ] at x0_1c0 x0_1c1
    have x0_1l := x0_1.lt
    have r_1c0 := r_1.cell 0
    have r_1c1 := r_1.cell 1
    simp only [List.getElem?_toArray, List.getElem?_cons_zero, List.getElem?_cons_succ] at r_1c0 r_1c1
    have r_1l := r_1.lt
    have hr := r_1
    have hf0 := r_1.frozen 0
    have hf1 := r_1.frozen 1
    have hl := r_1.lt
    have BZ := B1.trans (hb1.mono B1.size)
    go_wp2
    have hF := ((hr.set_ 0 (.slice none 0 0)).set_ 1 (.int .i64 0))
    have k0 := hF.cell 0
    have k1 := hF.cell 1
    simp only [List.setIfInBounds_toArray, List.set_cons_zero, List.set_cons_succ, List.getElem?_toArray, List.getElem?_cons_zero, List.getElem?_cons_succ] at k0 k1
    exact bodyPost_ret (v := .tuple #[.agg #[.slice none 0 0, .int .i64 0], .int .i64 te]) (by simp [results, Try.results64, go_sem, k0, k1]) rfl (cvOut_nil rfl ((BZ.setCell (p := ⟨(w.heap.size + 1), 0, none⟩) (by simp <;> omega) _).setCell (p := ⟨(w.heap.size + 1), 1, none⟩) (by simp <;> omega) _))
  rw [if_neg (by simp [hz])] at hrd
  rw [hz] at hC
  have HC := Lib.hid hC
  obtain ⟨hv, he⟩ := check_zero hz
  have hpos := hv.pos
  have hle := hv.le
  have hn := h.len
  obtain ⟨b, off, rfl, hk⟩ := h.at_ (by omega)
  have HK := Lib.hid hk
  have HCl := Lib.hid (fun W (hW : IAt W B m xs) => clone_any B m bc xs W hW (by omega))
  have HX := Lib.hid (show rfX ks xs = Lib.compact ((xs ++ ks.map Prod.fst).mergeSort fun x y => decide (x ≤ y)) from rfl)
  have HXl := Lib.hid (show (rfX ks xs).length ≤ 940 from by
    have h1 := Lib.compact_length_le ((xs ++ ks.map Prod.fst).mergeSort fun x y => decide (x ≤ y))
    rw [List.length_mergeSort, List.length_append, List.length_map, hi.len] at h1
    show (Lib.compact _).length ≤ 940
    omega)
  have hAt := (fun W (q qc l : Nat) (hW : Kn W b off ks) (hI : Is W q 0 (rfX ks xs)) (hl : (rfX ks xs).length = l) (hl2 : l ≤ 1000) => at_any b off cap err ks q 0 l qc (rfX ks xs) W hW hv hI hl hl2)
  simp only [hn] at hAt
  have HAt := Lib.hid hAt
  clear hAt
  have HML := Lib.hid (show (xs ++ ks.map Prod.fst).length = m + n by rw [List.length_append, List.length_map, hi.len, hn])
  have HMs := Lib.hid (show ∀ k, k < n → xs ++ (ks.take (k + 1)).map Prod.fst = (xs ++ (ks.take k).map Prod.fst) ++ [kx ks k] from fun k hk => by
    rw [List.take_succ_eq_append_getElem (by omega), List.map_append, List.append_assoc]
    congr 2
    simp [(knot_get (show k < ks.length by omega)).1])
  have HMn := Lib.hid (show ks.take n = ks by rw [← hn, List.take_length])
  have HM0 := Lib.hid (show (xs ++ (ks.take 0).map Prod.fst) = xs by simp)
  have HN := Lib.hid hn
  have HRd := Lib.hid hrd
  have HRn := Lib.hid hrn
  have HR0 := Lib.hid (show rfErr ks err xs = 0 → rfR ks err xs = atL ks (rfX ks xs) ∧ rfF ks err xs = err from fun h => ⟨if_pos h, if_pos h⟩)
  have hn0 : 0 < n := by omega
  have hn40 : n ≤ 40 := by omega
  obtain ⟨i0, hi0, hi1, hi2, hi3⟩ := info_parts info_int
  have HI := Lib.hid (show Try.prog.info? 3 = some i0 ∧ i0.zero = some (.int .i64 0) ∧ i0.size = 1 ∧ i0.bytes = 8 from ⟨hi0, hi1, hi2, hi3⟩)
  clear hi0 hi1 hi2 hi3 hrd hrn h hz hC hi hk hn hpos hle he hv
  generalize rfErr ks err xs = re at *
  generalize rfR ks err xs = rr at *
  generalize rfF ks err xs = rf at *
  generalize hW : (w.alloc (.cells #[.slice (some ⟨b, off, none⟩) n cap, .int .i64 err] 24)).alloc (.cells #[.slice none 0 0, .int .i64 0] 24) = W
  have B0 : Below w.heap.size w W := by rw [← hW]; exact (((Below.refl w.heap.size w).alloc (Nat.le_refl _) _).alloc (by simp) _)
  have x0_0 : Blk W w.heap.size 24 #[.slice (some ⟨b, off, none⟩) n cap, .int .i64 err] := by rw [← hW]; exact ((Blk.at_new _ _ rfl).alloc _)
  have r_0 : Blk W (w.heap.size + 1) 24 #[.slice none 0 0, .int .i64 0] := by rw [← hW]; exact (Blk.at_new _ _ (by simp))
  have HWE := Lib.hid hW
  clear hW
  go_enter Try.func64, Try.ntmps64
  have B1 := B0
  go_wp2_with fail
  rw [HWE.out]
  refine (HC.out _ (HA.out.below B1)).mono ?_; rintro e w1 ⟨rfl, hb1⟩
  have x0_1 := x0_0.below hb1
  have r_1 := r_0.below hb1
  clear x0_0 r_0
  have x0_1c0 := x0_1.cell 0
  have x0_1c1 := x0_1.cell 1
  simp only [List.getElem?_toArray, List.getElem?_cons_zero, List.getElem?_cons_succ] at x0_1c0 x0_1c1
  have x0_1l := x0_1.lt
  have r_1c0 := r_1.cell 0
  have r_1c1 := r_1.cell 1
  simp only [List.getElem?_toArray, List.getElem?_cons_zero, List.getElem?_cons_succ] at r_1c0 r_1c1
  have r_1l := r_1.lt
  have B2 := B1.trans (hb1.mono B1.size)
  have HR1 := Lib.hid (show w.heap.size + 1 < w1.heap.size from r_1l)
  go_wp2_with fail
  refine (HCl.out _ (HI0.out.below B2)).mono ?_; rintro e w2 ⟨v', rfl, ow, hb2⟩
  clear x0_1c0 x0_1c1 x0_1l r_1c0 r_1c1 r_1l
  have x0_2 := x0_1.below hb2
  have r_2 := r_1.below hb2
  clear x0_1 r_1
  have x0_2c0 := x0_2.cell 0
  have x0_2c1 := x0_2.cell 1
  simp only [List.getElem?_toArray, List.getElem?_cons_zero, List.getElem?_cons_succ] at x0_2c0 x0_2c1
  have x0_2l := x0_2.lt
  have r_2c0 := r_2.cell 0
  have r_2c1 := r_2.cell 1
  simp only [List.getElem?_toArray, List.getElem?_cons_zero, List.getElem?_cons_succ] at r_2c0 r_2c1
  have r_2l := r_2.lt
  have HBs := Lib.hid (show w1.heap.size ≤ w2.heap.size from hb2.size)
  have hbs : w1.heap.size ≤ w2.heap.size := HBs.out
  have hx0l : w.heap.size + 1 < w1.heap.size := HR1.out
  obtain ⟨A0, c0, hv1⟩ : ∃ A0 c0, v' = .slice A0 m c0 := by
    rcases ow.2 with ⟨e, h0⟩ | ⟨gg, cp, cur, e, _⟩
    · exact ⟨none, 0, by rw [e, h0]⟩
    · exact ⟨_, _, e⟩
  have OW0 := Lib.hid ow
  clear ow
  subst hv1
  have BL := B2.trans (hb2.mono B2.size)
  generalize hgb : w1.heap.size = gb at *
  clear hgb
  go_wp2_with fail
  go_loopw [7, 23] (fun v i wx => ∃ (k : Nat) (A1 : Option Addr) (c1 : Nat), k ≤ n ∧ v = .slice A1 (m + k) c1 ∧ i = .int .i64 k ∧ wx.ownsRow gb 3 1 (.slice A1 (m + k) c1) (m + k) ((xs ++ (ks.take k).map Prod.fst).map (Value.int .i64)) ∧ gb ≤ wx.heap.size ∧ Below w.heap.size w wx ∧ Blk wx w.heap.size 24 #[.slice (some ⟨b, off, none⟩) n cap, .int .i64 err] ∧ Blk wx (w.heap.size + 1) 24 #[.slice none 0 0, .int .i64 0]) (fun _ i _ => n - (intOf i).toNat)
  case atStart => exact ⟨0, A0, c0, Nat.zero_le _, rfl, rfl, by rw [HM0.out]; exact OW0.out, hbs, (BL), x0_2, r_2⟩
  case round =>
    clear x0_2c0 x0_2c1 x0_2l r_2c0 r_2c1 r_2l
    clear OW0
    obtain ⟨wo, hwo⟩ : ∃ wo : World, wo = wr := ⟨_, rfl⟩
    subst hwo
    obtain ⟨k, A1, c1, hk, rfl, rfl, ow, hbr, Br, x0_20, r_20⟩ := hrel
    have OW := Lib.hid ow
    clear ow
    have HLT0 := Lib.hid (fun (q : Nat) hq => own_lt (g := q) OW.out hq)
    have x0_20c0 := x0_20.cell 0
    have x0_20c1 := x0_20.cell 1
    simp only [List.getElem?_toArray, List.getElem?_cons_zero, List.getElem?_cons_succ] at x0_20c0 x0_20c1
    have x0_20l := x0_20.lt
    have r_20c0 := r_20.cell 0
    have r_20c1 := r_20.cell 1
    simp only [List.getElem?_toArray, List.getElem?_cons_zero, List.getElem?_cons_succ] at r_20c0 r_20c1
    have r_20l := r_20.lt
    by_cases hkn : k < n
    case pos =>
      have hkl : k < ks.length := by rw [HN.out]; exact hkn
      have hK := HK.out.below Br
      have lt1 := hK.lt
      have xx := hK.x k hkl
      have xy := hK.y k hkl
      have HSk := Lib.hid (HMs.out k hkn)
      clear hK
      generalize kx ks k = ax at *
      generalize ky ks k = ay at *
      generalize hP : xs ++ (ks.take k).map Prod.fst = P at *
      clear hP
      have ow_20 := OW.out
      have B21 := Br
      have B21a := B21.alloc B21.size (.cells #[.int .i64 ax, .int .i64 ay] 108)
      go_upto_region 8 with fail
      clear x0_20c0 x0_20c1 x0_20l r_20c0 r_20c1 r_20l
      have x0_21 := (x0_20.alloc (.cells #[.int .i64 ax, .int .i64 ay] 108))
      have r_21 := (r_20.alloc (.cells #[.int .i64 ax, .int .i64 ay] 108))
      have ow_21 := (ow_20.alloc (.cells #[.int .i64 ax, .int .i64 ay] 108))
      clear x0_20 r_20
      have kn_21 := (Blk.new wo 108 #[.int .i64 ax, .int .i64 ay])
      generalize hV21 : wo.alloc (.cells #[.int .i64 ax, .int .i64 ay] 108) = V21 at *
      generalize hg21 : wo.heap.size = g21 at *
      clear hV21 hg21
      have x0_21c0 := x0_21.cell 0
      have x0_21c1 := x0_21.cell 1
      simp only [List.getElem?_toArray, List.getElem?_cons_zero, List.getElem?_cons_succ] at x0_21c0 x0_21c1
      have x0_21l := x0_21.lt
      have r_21c0 := r_21.cell 0
      have r_21c1 := r_21.cell 1
      simp only [List.getElem?_toArray, List.getElem?_cons_zero, List.getElem?_cons_succ] at r_21c0 r_21c1
      have r_21l := r_21.lt
      have kn_21c0 := kn_21.cell 0
      have kn_21c1 := kn_21.cell 1
      simp only [List.getElem?_toArray, List.getElem?_cons_zero, List.getElem?_cons_succ] at kn_21c0 kn_21c1
      have kn_21l := kn_21.lt
      clear xx xy lt1
      have OW1 := Lib.hid ow_21
      clear ow_21
      have HLT := Lib.hid (fun (q : Nat) hq => (⟨(HLT0.out q hq).1, (HLT0.out q hq).2⟩ : gb ≤ q ∧ q < g21))
      have hbq : gb ≤ V21.heap.size := by omega
      go_wp2_with (at_builtin; go_loud (refine wpList_append_own _ rfl (.tmp 27) (.tmp 30) 93 rfl (gb) 3 i0 (.int .i64 0) 1 8 Try.underlying93 HI.out.1 HI.out.2.1 HI.out.2.2.1 HI.out.2.2.2 rfl (by decide) _ ((m + k)) (P.map (Value.int .i64)) rfl (OW1.out.alloc _) ⟨V21.heap.size, 0, none⟩ 1 1 [.int .i64 ax] rfl rfl (new_cells1 _ _ _) (one_ints1 _) (by unfold maxLen; omega) (by omega) (by simp; omega) ?_))
      intro v' w22 hown22 hgrow22 hnn22
      clear x0_21c0 x0_21c1 x0_21l r_21c0 r_21c1 r_21l kn_21c0 kn_21c1 kn_21l
      have x0_22 := Blk.grown (x0_21.alloc _) hgrow22 (fun h => by have := HLT.out _ h; omega)
      have r_22 := Blk.grown (r_21.alloc _) hgrow22 (fun h => by have := HLT.out _ h; omega)
      have kn_22 := Blk.grown (kn_21.alloc _) hgrow22 (fun h => by have := HLT.out _ h; omega)
      have B22 := ((B21a).alloc (B21a).size _).grown hgrow22 (Nat.le_trans (B21a).size (by simp)) (fun kk hk => by have := HLT.out _ hk; omega)
      have hbase22 : gb ≤ w22.heap.size := Nat.le_trans hbq (Nat.le_trans (by simp) hgrow22.size)
      have HNw := Lib.hid hown22
      clear hown22 hgrow22 hnn22
      have x0_22c0 := x0_22.cell 0
      have x0_22c1 := x0_22.cell 1
      simp only [List.getElem?_toArray, List.getElem?_cons_zero, List.getElem?_cons_succ] at x0_22c0 x0_22c1
      have x0_22l := x0_22.lt
      have r_22c0 := r_22.cell 0
      have r_22c1 := r_22.cell 1
      simp only [List.getElem?_toArray, List.getElem?_cons_zero, List.getElem?_cons_succ] at r_22c0 r_22c1
      have r_22l := r_22.lt
      have kn_22c0 := kn_22.cell 0
      have kn_22c1 := kn_22.cell 1
      simp only [List.getElem?_toArray, List.getElem?_cons_zero, List.getElem?_cons_succ] at kn_22c0 kn_22c1
      have kn_22l := kn_22.lt
      obtain ⟨g2, c2, rfl⟩ := ownsRow_succ HNw.out
      go_wp2
      go_roundw
      case rel => exact ⟨k + 1, _, _, by omega, rfl, by go_num, by rw [HSk.out, List.map_append]; have := HNw.out; simpa [Nat.add_assoc] using this, hbase22, B22, x0_22, r_22⟩
      case measure => simp [intOf]; omega
    have hkk : n = k := by omega
    subst hkk
    have ho := OW.out
    rw [HMn.out] at ho
    clear OW
    obtain ⟨gs, cs, he⟩ := Joins.ownsRow_form ho (by omega)
    have he2 : A1 = some ⟨gs, 0, none⟩ ∧ c1 = cs := by simpa using he
    clear he
    obtain ⟨rfl, rfl⟩ := he2
    have HLTs := Lib.hid (HLT0.out gs rfl)
    have hgs0 := HLTs.out.1
    have hgs1 := HLTs.out.2
    have HSo := Lib.hid (fun (hc : 0 < 1) => sort_owned (zs := xs ++ ks.map Prod.fst) (by rw [HML.out]; exact ho) (by rw [HML.out]; omega))
    rw [HML.out] at HSo
    clear ho HLT0
    go_wp2_with fail
    refine (HSo.out (by omega)).mono ?_; rintro e w30 ⟨rfl, ho30, hg30⟩
    clear x0_20c0 x0_20c1 x0_20l r_20c0 r_20c1 r_20l
    have x0_30 := Blk.grown x0_20 hg30 (fun h => by have e2 := Option.some.inj h; omega)
    have r_30 := Blk.grown r_20 hg30 (fun h => by have e2 := Option.some.inj h; omega)
    have B30 := Br.grown hg30 Br.size (fun kk hk => by have e2 := Option.some.inj hk; omega)
    have hz30 := hg30.size
    have hgs2 : gs < w30.heap.size := by omega
    have HO30 := Lib.hid ho30
    clear ho30 hg30 HSo
    generalize hzs : (xs ++ ks.map Prod.fst).mergeSort (fun x y => decide (x ≤ y)) = zs at *
    have HX2 := Lib.hid (show rfX ks xs = Lib.compact zs from HX.out)
    clear hzs HX
    have HLz := Lib.hid (show (Lib.compact zs).length ≤ 940 by rw [← HX2.out]; exact HXl.out)
    have HZl := Lib.hid (show zs.length = m + n by have := HO30.out.1; simpa using this)
    have x0_30c0 := x0_30.cell 0
    have x0_30c1 := x0_30.cell 1
    simp only [List.getElem?_toArray, List.getElem?_cons_zero, List.getElem?_cons_succ] at x0_30c0 x0_30c1
    have x0_30l := x0_30.lt
    have r_30c0 := r_30.cell 0
    have r_30c1 := r_30.cell 1
    simp only [List.getElem?_toArray, List.getElem?_cons_zero, List.getElem?_cons_succ] at r_30c0 r_30c1
    have r_30l := r_30.lt
    rw [HX2.out] at HAt HRd HR0
    generalize hok : (Lib.compact zs).all (whB ks) = ok at *
    have HOk := Lib.hid hok
    clear hok
    generalize hRl : (if ok = true then atL ks (Lib.compact zs) else []) = R at *
    have HRl := Lib.hid hRl
    generalize hfe : (if ok = true then err else 0) = fe at *
    have HFe := Lib.hid hfe
    clear hRl hfe
    go_upto_region 11 with fail
    refine wp_region_preC 9 [(2, 38), (3, 39), (4, 35), (5, 40), (6, 41), (7, 10), (8, 1000)] (fun v' => Below w.heap.size w v' ∧ w30.heap.size ≤ v'.heap.size ∧ Blk v' w.heap.size 24 #[.slice (some ⟨b, off, none⟩) n cap, .int .i64 err] ∧ Blk v' (w.heap.size + 1) 24 #[.slice none 0 0, .int .i64 0]) (rfI gb w30.heap.size gs c1 (m + n) zs R fe ok) (by kernel_rfl) (by kernel_rfl) ?hw ?hC ?h0 ?hP ?ex
    case hw => exact ⟨B30, Nat.le_refl _, x0_30, r_30⟩
    case hC =>
      rintro v1 v2 ⟨h0, hb0, qx0, qr⟩ kk
      exact ⟨h0.trans (kk.mono h0.size), Nat.le_trans hb0 kk.size, qx0.below kk, qr.below kk⟩
    case h0 =>
      intro v' hv'
      exact ⟨⟨fun _ => owns_below HO30.out hv', nof⟩, AtI.start, nof⟩
    case hP => exact fun ls vs v v' _ h kk => ⟨h.1.below kk, h.2.1.below kk, h.2.2⟩
    case ex =>
      apply Exists.intro
      refine ⟨?walk, ?loud⟩
      case walk =>
        rintro V ⟨h0, hb0, qx0, qr⟩
        have x0_vc0 := qx0.cell 0
        have x0_vc1 := qx0.cell 1
        simp only [List.getElem?_toArray, List.getElem?_cons_zero, List.getElem?_cons_succ] at x0_vc0 x0_vc1
        have x0_vl := qx0.lt
        have r_vc0 := qr.cell 0
        have r_vc1 := qr.cell 1
        simp only [List.getElem?_toArray, List.getElem?_cons_zero, List.getElem?_cons_succ] at r_vc0 r_vc1
        have r_vl := qr.lt
        obtain ⟨xc, xf⟩ := xcell (W := V)
        simp only [List.take_succ_cons, List.take_zero, qOf, isLoud, List.any_cons, List.any_nil, Nat.reduceBEq, Bool.or_false, Bool.or_true, Nat.reduceAdd, Bool.false_eq_true, if_true, if_false, beq_self_eq_true, Nat.zero_add]
        repeat (first | go_big_quiet_step (fail) | quiet_step (fail))
        exact wpQuiet_nil rfl
      case loud =>
        simp only [List.drop_succ_cons, List.drop_zero]
        refine ⟨?_, ?_⟩
        · rintro p hp vs V ⟨h0, hb0, qx0, qr⟩ ls hI hls hw o ho
          simp only [List.mem_cons, List.not_mem_nil, or_false] at hp
          rcases hp with rfl | rfl | rfl | rfl | rfl | rfl | rfl
          · have hs : ls 2 = false := hls
            have hs3 : ls 3 = false := up_false hI.2.2 hs
            simp only [List.getElem?_cons_succ, List.getElem?_cons_zero, Option.some.injEq] at ho
            subst ho
            simp [loudAt, loudUpon, go_sem, putsL, Act.put]
            refine (compact_owned HZl.out (hI.1.no hs) (by omega)).mono ?_
            rintro e w40 ⟨rfl, ho40, hg40⟩
            exact ⟨_, rfl, ⟨h0.grown hg40 h0.size (fun kk hk => by have e2 := Option.some.inj hk; omega), Nat.le_trans hb0 hg40.size, Blk.grown qx0 hg40 (fun h => by have e2 := Option.some.inj h; omega), Blk.grown qr hg40 (fun h => by have e2 := Option.some.inj h; omega)⟩,
              ⟨fun a => nof (a.symm.trans upB_at), fun _ => ⟨up_at, ho40⟩⟩, (hI.2.1.grown hs3 hg40 hgs2).pre (by omega), fun _ => upB_at⟩
          · have hs : ls 3 = false := hls
            have h02 := hw (2, 38) (by simp) (by kernel_rfl)
            obtain ⟨e2, ho2⟩ := hI.1.yes h02
            simp only [List.getElem?_cons_succ, List.getElem?_cons_zero, Option.some.injEq] at ho
            subst ho
            simp [loudAt, loudUpon, go_sem, putsL, Act.put, e2]
            with_reducible refine (HAt.out V gs c1 _ (HK.out.below h0) (IAt_of_row rfl ho2) rfl (by have := HLz.out; omega)).mono ?_
            rintro e w41 ⟨A5, n5, cap5, rfl, hc5, hn5, hf5, hb5⟩
            rw [HOk.out, HRl.out] at hc5
            rw [HOk.out, HFe.out]
            exact ⟨_, rfl, ⟨h0.trans (hb5.mono h0.size), Nat.le_trans hb0 hb5.size, qx0.below hb5, qr.below hb5⟩, (hI.1.below hb5).up (by omega) _, hI.2.1.did hs hc5 hn5 hf5 hb0 hb5, fun _ => h02⟩
          · have h03 := hw (3, 39) (by simp) (by kernel_rfl)
            simp only [List.getElem?_cons_succ, List.getElem?_cons_zero, Option.some.injEq] at ho
            subst ho
            simp [loudAt, loudUpon, go_sem, execOp, putsL, Act.put]
            exact ⟨⟨h0, hb0, qx0, qr⟩, hI.1.up (by omega) _, hI.2.1.moved h03, hI.2.2⟩
          · have h04 := hw (4, 35) (by simp) (by kernel_rfl)
            refine AtI.part0E (p := 3) hI.2.1 h04 fun A5 n5 cap5 e4 h9 => ?_
            replace e4 : vs 4 = .tuple #[vCv A5 n5 cap5 fe, .bool ok] := e4
            have h9' := Lib.hid h9
            clear h9
            simp only [List.getElem?_cons_succ, List.getElem?_cons_zero, Option.some.injEq] at ho
            subst ho
            simp [loudAt, loudUpon, go_sem, execOp, putsL, Act.put, e4]
            exact ⟨⟨h0, hb0, qx0, qr⟩, hI.1.up (by omega) _, h9'.out, hI.2.2⟩
          · have h04 := hw (4, 35) (by simp) (by kernel_rfl)
            refine AtI.part1E (p := 3) hI.2.1 h04 fun A5 n5 cap5 e4 h9 => ?_
            replace e4 : vs 4 = .tuple #[vCv A5 n5 cap5 fe, .bool ok] := e4
            have h9' := Lib.hid h9
            clear h9
            simp only [List.getElem?_cons_succ, List.getElem?_cons_zero, Option.some.injEq] at ho
            subst ho
            simp [loudAt, loudUpon, go_sem, execOp, putsL, Act.put, e4]
            exact ⟨⟨h0, hb0, qx0, qr⟩, hI.1.up (by omega) _, h9'.out, hI.2.2⟩
          · have hs : ls 7 = false := hls
            simp only [List.getElem?_cons_succ, List.getElem?_cons_zero, Option.some.injEq] at ho
            subst ho
            simp [loudAt, loudUpon, go_sem, execOp]
            exact ⟨⟨h0.alloc h0.size _, by have := hb0; omega, qx0.alloc _, qr.alloc _⟩, (hI.1.below ((Below.refl V.heap.size V).alloc (Nat.le_refl _) _)).up (by omega) _, hI.2.1.laid hs hb0, hI.2.2⟩
          · have hs : ls 8 = false := hls
            have h05 := hw (5, 40) (by simp) (by kernel_rfl)
            have h07 := hw (7, 10) (by simp) (by kernel_rfl)
            refine AtI.storedE (p := 3) hI.2.1 hs h05 h07 fun A5 n5 cap5 g5 e5 e7 hg5 hl5 hb5 h9 => ?_
            replace e5 : vs 5 = vCv A5 n5 cap5 fe := e5
            replace e7 : vs 7 = .pointer (some ⟨g5, 0, none⟩) := e7
            have h9' := Lib.hid h9
            clear h9
            have c0 := hb5.cell 0
            have c1 := hb5.cell 1
            have f0 := hb5.frozen 0
            have f1 := hb5.frozen 1
            simp only [List.getElem?_toArray, List.getElem?_cons_zero, List.getElem?_cons_succ] at c0 c1
            simp only [List.getElem?_cons_succ, List.getElem?_cons_zero, Option.some.injEq] at ho
            subst ho
            simp [loudAt, loudUpon, go_sem, execOp, putsL, Act.put, e5, e7, c0, c1, f0, f1]
            exact ⟨⟨((h0.setCell (p := ⟨g5, 0, none⟩) (by simp; omega) _).setCell (p := ⟨g5, 1, none⟩) (by simp; omega) _), by simpa [World.setCell] using hb0, (qx0.far (p := ⟨g5, 0, none⟩) (by simp; omega) _).far (p := ⟨g5, 1, none⟩) (by simp; omega) _, (qr.far (p := ⟨g5, 0, none⟩) (by simp; omega) _).far (p := ⟨g5, 1, none⟩) (by simp; omega) _⟩, ((hI.1.set_ (g' := g5) (by omega) 0 _).set_ (g' := g5) (by omega) 1 _).up (by omega) _, h9'.out _, hI.2.2⟩
        · rintro ls vs V50 ⟨B50, hbase50, x0_50, r_50⟩ hI hls
          refine AtI.doneE (p := 3) hI.2.1 (hls (6, 41) (by simp)) (hls (8, 1000) (by simp)) fun A5 n5 cap5 g5 e3 e4 e5 e6 e7 hc5 hn5 hf5 hg5 hl5 o_50 => ?_
          replace e4 : vs 4 = .tuple #[vCv A5 n5 cap5 fe, .bool ok] := e4
          replace e5 : vs 5 = vCv A5 n5 cap5 fe := e5
          replace e6 : vs 6 = .bool ok := e6
          replace e7 : vs 7 = .pointer (some ⟨g5, 0, none⟩) := e7
          have e2 := (hI.1.yes (hls (2, 38) (by simp))).1
          clear hI hls
          simp only [putsL, List.foldl_cons, List.foldl_nil, Act.put, e2, e3, e4, e5, e6, e7, List.setIfInBounds_toArray, List.set_cons_succ, List.set_cons_zero, List.set_nil]
          clear e2 e3 e4 e5 e6 e7
          have HC5 := Lib.hid hc5
          have HF5 := Lib.hid hf5
          clear hc5 hf5
          generalize vs 8 = v8 at *
          cases ok with
          | false =>
            have x0_50c0 := x0_50.cell 0
            have x0_50c1 := x0_50.cell 1
            simp only [List.getElem?_toArray, List.getElem?_cons_zero, List.getElem?_cons_succ] at x0_50c0 x0_50c1
            have x0_50l := x0_50.lt
            have r_50c0 := r_50.cell 0
            have r_50c1 := r_50.cell 1
            simp only [List.getElem?_toArray, List.getElem?_cons_zero, List.getElem?_cons_succ] at r_50c0 r_50c1
            have r_50l := r_50.lt
            have o_50c0 := o_50.cell 0
            have o_50c1 := o_50.cell 1
            simp only [List.getElem?_toArray, List.getElem?_cons_zero, List.getElem?_cons_succ] at o_50c0 o_50c1
            have o_50l := o_50.lt
            have hre : re = 3 := by have := HRd.out; simpa using this
            obtain ⟨hR, hFz⟩ := HRn.out _ hre (by omega)
            have HRe := Lib.hid hre
            have HRR := Lib.hid hR
            have HFz := Lib.hid hFz
            clear hre hR hFz
            have hr := r_50
            have hf0 := r_50.frozen 0
            have hf1 := r_50.frozen 1
            have hl := r_50.lt
            have BZ := B50
            go_wp2
            have hF := ((hr.set_ 0 (.slice none 0 0)).set_ 1 (.int .i64 0))
            have k0 := hF.cell 0
            have k1 := hF.cell 1
            simp only [List.setIfInBounds_toArray, List.set_cons_zero, List.set_cons_succ, List.getElem?_toArray, List.getElem?_cons_zero, List.getElem?_cons_succ] at k0 k1
            exact bodyPost_ret (v := .tuple #[.agg #[.slice none 0 0, .int .i64 0], .int .i64 3]) (by simp [results, Try.results64, go_sem, k0, k1]) rfl (by rw [HRR.out, HFz.out, HRe.out]; exact cvOut_nil rfl ((BZ.setCell (p := ⟨(w.heap.size + 1), 0, none⟩) (by simp <;> omega) _).setCell (p := ⟨(w.heap.size + 1), 1, none⟩) (by simp <;> omega) _))
          | true =>
            have hln : (Lib.compact zs).length = n5 := by
              have h1 := HC5.out.len
              have h2 := HRl.out
              simp only [if_true] at h2
              rw [← h2, atL_len] at h1
              exact h1
            have HLn := Lib.hid hln
            clear hln
            by_cases h40 : 40 < n5
            case pos =>
              have x0_50c0 := x0_50.cell 0
              have x0_50c1 := x0_50.cell 1
              simp only [List.getElem?_toArray, List.getElem?_cons_zero, List.getElem?_cons_succ] at x0_50c0 x0_50c1
              have x0_50l := x0_50.lt
              have r_50c0 := r_50.cell 0
              have r_50c1 := r_50.cell 1
              simp only [List.getElem?_toArray, List.getElem?_cons_zero, List.getElem?_cons_succ] at r_50c0 r_50c1
              have r_50l := r_50.lt
              have o_50c0 := o_50.cell 0
              have o_50c1 := o_50.cell 1
              simp only [List.getElem?_toArray, List.getElem?_cons_zero, List.getElem?_cons_succ] at o_50c0 o_50c1
              have o_50l := o_50.lt
              have hre : re = 2 := by have := HRd.out; rw [HLn.out] at this; simpa [h40] using this
              obtain ⟨hR, hFz⟩ := HRn.out _ hre (by omega)
              have HRe := Lib.hid hre
              have HRR := Lib.hid hR
              have HFz := Lib.hid hFz
              clear hre hR hFz
              have hr := r_50
              have hf0 := r_50.frozen 0
              have hf1 := r_50.frozen 1
              have hl := r_50.lt
              have BZ := B50
              go_wp2
              have hF := ((hr.set_ 0 (.slice none 0 0)).set_ 1 (.int .i64 0))
              have k0 := hF.cell 0
              have k1 := hF.cell 1
              simp only [List.setIfInBounds_toArray, List.set_cons_zero, List.set_cons_succ, List.getElem?_toArray, List.getElem?_cons_zero, List.getElem?_cons_succ] at k0 k1
              exact bodyPost_ret (v := .tuple #[.agg #[.slice none 0 0, .int .i64 0], .int .i64 2]) (by simp [results, Try.results64, go_sem, k0, k1]) rfl (by rw [HRR.out, HFz.out, HRe.out]; exact cvOut_nil rfl ((BZ.setCell (p := ⟨(w.heap.size + 1), 0, none⟩) (by simp <;> omega) _).setCell (p := ⟨(w.heap.size + 1), 1, none⟩) (by simp <;> omega) _))
            case neg =>
              have x0_50c0 := x0_50.cell 0
              have x0_50c1 := x0_50.cell 1
              simp only [List.getElem?_toArray, List.getElem?_cons_zero, List.getElem?_cons_succ] at x0_50c0 x0_50c1
              have x0_50l := x0_50.lt
              have r_50c0 := r_50.cell 0
              have r_50c1 := r_50.cell 1
              simp only [List.getElem?_toArray, List.getElem?_cons_zero, List.getElem?_cons_succ] at r_50c0 r_50c1
              have r_50l := r_50.lt
              have o_50c0 := o_50.cell 0
              have o_50c1 := o_50.cell 1
              simp only [List.getElem?_toArray, List.getElem?_cons_zero, List.getElem?_cons_succ] at o_50c0 o_50c1
              have o_50l := o_50.lt
              have hre : re = 0 := by have := HRd.out; rw [HLn.out] at this; simpa [h40] using this
              obtain ⟨hR, hFz⟩ := HR0.out hre
              have HRe := Lib.hid hre
              have HRR := Lib.hid (show rr = R from by rw [hR, ← HRl.out, if_pos rfl])
              have HFz := Lib.hid (show rf = fe from by rw [hFz, ← HFe.out, if_pos rfl])
              clear hre hR hFz
              have hr := r_50
              have hf0 := r_50.frozen 0
              have hf1 := r_50.frozen 1
              have hl := r_50.lt
              have BZ := B50
              go_wp2
              have hF := ((hr.set_ 0 ((.slice A5 n5 cap5))).set_ 1 ((.int .i64 fe)))
              have k0 := hF.cell 0
              have k1 := hF.cell 1
              simp only [List.setIfInBounds_toArray, List.set_cons_zero, List.set_cons_succ, List.getElem?_toArray, List.getElem?_cons_zero, List.getElem?_cons_succ] at k0 k1
              exact bodyPost_ret (v := .tuple #[.agg #[(.slice A5 n5 cap5), (.int .i64 fe)], .int .i64 0]) (by simp [results, Try.results64, go_sem, k0, k1]) rfl (by rw [HRR.out, HFz.out, HRe.out]; exact ⟨A5, n5, cap5, rfl, CAt.sets HC5.out (r := (w.heap.size + 1)) (fun a h => by have := HF5.out a h; omega) _ _, hn5, (fun a h => by have := HF5.out a h; omega), ((BZ.setCell (p := ⟨(w.heap.size + 1), 0, none⟩) (by simp <;> omega) _).setCell (p := ⟨(w.heap.size + 1), 1, none⟩) (by simp <;> omega) _)⟩)
end Go.Proofs.Ytipablcbkoedbaa

namespace Go.Proofs.Ytipablcbkoedbaa
open Go.RowKit

theorem putL_keep : ∀ (ks : List (Int × Int)) (i : Nat) (k : Int × Int), i < ks.length → (∀ j, j < i → kx ks j < k.1) → kx ks i = k.1 → putL ks k = ks
  | [], i, k, h, _, _ => absurd h (by simp)
  | q :: l, 0, k, _, _, he => by
    have he : q.1 = k.1 := by simpa [kx] using he
    unfold putL
    rw [if_neg (by omega), if_pos he]
  | q :: l, i + 1, k, h, hj, he => by
    have h0 : q.1 < k.1 := by simpa [kx] using hj 0 (by omega)
    unfold putL
    rw [if_pos h0, putL_keep l i k (by simpa using h) (fun j h => by have := hj (j + 1) (by omega); simpa [kx] using this) (by simpa [kx] using he)]
theorem putL_ins : ∀ (ks : List (Int × Int)) (i : Nat) (k : Int × Int), i ≤ ks.length → (∀ j, j < i → kx ks j < k.1) → (i < ks.length → k.1 < kx ks i) → putL ks k = ks.take i ++ [k] ++ ks.drop i
  | [], i, k, h, _, _ => by simp [putL]
  | q :: l, 0, k, _, _, he => by
    have he : k.1 < q.1 := by simpa [kx] using he (by simp)
    unfold putL
    rw [if_neg (by omega), if_neg (by omega)]
    simp
  | q :: l, i + 1, k, h, hj, he => by
    have h0 : q.1 < k.1 := by simpa [kx] using hj 0 (by omega)
    unfold putL
    rw [if_pos h0, putL_ins l i k (by simpa using h) (fun j h => by have := hj (j + 1) (by omega); simpa [kx] using this) (fun h => by simpa [kx] using he (by simpa using h))]
    simp
theorem Kn.flat {w : World} {b off : Nat} {ks : List (Int × Int)} (h : Kn w b off ks) : ∀ j u, (ks.flatMap encF)[j]? = some u → w.cell? ⟨b, off + j, none⟩ = some u := by
  intro j u hu
  have hl : (ks.flatMap encF).length = ks.length * 2 := flat_len 2 encF (fun _ => rfl) ks
  have hj : j < ks.length * 2 := by
    rcases Nat.lt_or_ge j (ks.length * 2) with h | h
    · exact h
    · rw [List.getElem?_eq_none (by omega)] at hu; cases hu
  have e : j = j / 2 * 2 + j % 2 := by omega
  have hf := flat_at 2 encF (fun _ => rfl) ks (j / 2) (j % 2) (0, 0) (by omega) (by omega)
  rw [← e, hu] at hf
  rcases Nat.mod_two_eq_zero_or_one j with h0 | h0
  · rw [h0] at hf
    have hx := h.x (j / 2) (by omega)
    rw [show off + j = off + j / 2 * 2 by omega, hx]
    rw [hf]; rfl
  · rw [h0] at hf
    have hy := h.y (j / 2) (by omega)
    rw [show off + j = off + j / 2 * 2 + 1 by omega, hy]
    rw [hf]; rfl
theorem add_flat (b o j : Nat) : (⟨b, o, none⟩ : Addr).add j = ⟨b, o + j, none⟩ := by
  unfold Addr.add
  by_cases h : j = 0
  · rw [if_pos h, h]; rfl
  · rw [if_neg h]
theorem Kn.flat_take {w : World} {b off : Nat} {ks : List (Int × Int)} (h : Kn w b off ks) (i : Nat) (_ : i ≤ ks.length) : ∀ j u, ((ks.take i).flatMap encF)[j]? = some u → w.cell? ((⟨b, off, none⟩ : Addr).add j) = some u := by
  intro j u hu
  have e : ks.flatMap encF = (ks.take i).flatMap encF ++ (ks.drop i).flatMap encF := by rw [← List.flatMap_append, List.take_append_drop]
  have hj : j < ((ks.take i).flatMap encF).length := (List.getElem?_eq_some_iff.1 hu).1
  have := h.flat j u (by rw [e, List.getElem?_append_left hj]; exact hu)
  rw [add_flat]
  exact this
theorem Kn.flat_drop {w : World} {b off : Nat} {ks : List (Int × Int)} (h : Kn w b off ks) (i : Nat) (hi : i ≤ ks.length) : ∀ j u, ((ks.drop i).flatMap encF)[j]? = some u → w.cell? ((⟨b, off + i * 2, none⟩ : Addr).add j) = some u := by
  intro j u hu
  have e : ks.flatMap encF = (ks.take i).flatMap encF ++ (ks.drop i).flatMap encF := by rw [← List.flatMap_append, List.take_append_drop]
  have hl : ((ks.take i).flatMap encF).length = i * 2 := by rw [flat_len 2 encF (fun _ => rfl), List.length_take]; omega
  have := h.flat (i * 2 + j) u (by rw [e, List.getElem?_append_right (by omega), hl, Nat.add_sub_cancel_left]; exact hu)
  rw [add_flat, Nat.add_assoc]
  exact this
theorem one_encF (ks : List (Int × Int)) : ∀ u ∈ ks.flatMap encF, u.oneCell' = true := by
  intro u hu
  obtain ⟨z, _, hz⟩ := List.mem_flatMap.1 hu
  simp [encF] at hz
  rcases hz with rfl | rfl <;> rfl
/-- What put returns: the slice that came in, or a new one. -/
def ptOut (w : World) (A0 : Option Addr) (R : List (Int × Int)) (en : Ending) (w' : World) : Prop :=
  ∃ A n cap, en = .returned (.slice A n cap) ∧ CAt w' A n R ∧ n ≤ cap ∧ (∀ a, A = some a → A0 = A ∨ w.heap.size ≤ a.block) ∧ Below w.heap.size w w'
theorem ptOut_row {w W : World} {base n : Nat} {v : Value} {A0 : Option Addr} {R : List (Int × Int)} (hr : W.ownsRow base 108 2 v n (R.flatMap encF)) (hl : R.length = n) (hn : 0 < n) (hb : w.heap.size ≤ base) (k : Below w.heap.size w W) : ptOut w A0 R (.returned v) W := by
  obtain ⟨g, cap, e⟩ := Joins.ownsRow_form hr hn
  subst e
  refine ⟨_, n, cap, rfl, ⟨hl, fun _ => ⟨g, 0, rfl, Kn_of_row hl hr⟩⟩, ?_, fun a h => .inr ?_, k⟩
  · rcases hr.2 with ⟨e, _⟩ | ⟨g', cap', cur, e, _, _, hc, _⟩
    · cases e
    · have : cap = cap' := by simp at e; exact e.2
      subst this; exact hc
  · have e2 := Option.some.inj h
    subst e2
    have := (own_lt hr (g := g) rfl).1
    show w.heap.size ≤ g
    omega

set_option maxRecDepth 100000 in
set_option maxHeartbeats 6400000 in
theorem put_any (b off n cap : Nat) (ks : List (Int × Int)) (x y : Int) (w : World) (h : Kn w b off ks) (hn : ks.length = n) (hcap : n ≤ cap) (hm : n ≤ 1000) (hn0 : 0 < n) :
    Calls Try.prog 130 #[.slice (some ⟨b, off, none⟩) n cap, .agg #[.int .i64 x, .int .i64 y]] w (ptOut w (some ⟨b, off, none⟩) (putL ks (x, y))) := by
  have HK := Lib.hid h
  have HN := Lib.hid hn
  have hbl := h.lt
  have HKe := Lib.hid (fun (i : Nat) h1 h2 h3 => putL_keep ks i (x, y) h1 h2 h3)
  have HIn := Lib.hid (fun (i : Nat) h1 h2 h3 => putL_ins ks i (x, y) h1 h2 h3)
  obtain ⟨i0, hi0, hi1, hi2, hi3⟩ := info_parts info_knot
  have HI := Lib.hid (show Try.prog.info? 108 = some i0 ∧ i0.zero = some (.agg #[.int .i64 0, .int .i64 0]) ∧ i0.size = 2 ∧ i0.bytes = 16 from ⟨hi0, hi1, hi2, hi3⟩)
  clear h hn hi0 hi1 hi2 hi3
  have x0_0 : Blk (w.alloc (.cells #[.int .i64 x, .int .i64 y] 108)) w.heap.size 108 #[.int .i64 x, .int .i64 y] := Blk.at_new _ _ rfl
  have B0 : Below w.heap.size w (w.alloc (.cells #[.int .i64 x, .int .i64 y] 108)) := (Below.refl w.heap.size w).alloc (Nat.le_refl _) _
  go_enter Try.func130, Try.ntmps130
  go_wp2_with fail
  go_loopw [5] (fun i wx => ∃ k : Nat, k ≤ n ∧ i = .int .i64 k ∧ (∀ j, j < k → kx ks j < x) ∧ Below w.heap.size w wx ∧ Blk wx w.heap.size 108 #[.int .i64 x, .int .i64 y]) (fun i _ => n - (intOf i).toNat)
  case atStart => exact ⟨0, Nat.zero_le _, rfl, fun j hj => absurd hj (by omega), B0, x0_0⟩
  case round =>
    clear B0 x0_0
    obtain ⟨wo, hwo⟩ : ∃ wo : World, wo = wr := ⟨_, rfl⟩
    subst hwo
    obtain ⟨k, hk, rfl, hall, Br, x0_1⟩ := hrel
    have HAll := Lib.hid hall
    clear hall
    have xc0 := x0_1.cell 0
    have xc1 := x0_1.cell 1
    simp only [List.getElem?_toArray, List.getElem?_cons_zero, List.getElem?_cons_succ] at xc0 xc1
    have xl := x0_1.lt
    have hbo : b < wo.heap.size := Nat.lt_of_lt_of_le hbl Br.size
    by_cases hkn : k < n
    case pos =>
      have hkl : k < ks.length := by rw [HN.out]; exact hkn
      have hK := HK.out.below Br
      have kc0 := hK.x k hkl
      clear hK
      have HKk := Lib.hid (HKe.out k hkl HAll.out)
      have HNx := Lib.hid (fun (h : kx ks k < x) j (hj : j < k + 1) => (show kx ks j < x from if e : j = k then by subst e; exact h else HAll.out j (by omega)))
      have HLk := Lib.hid (show ∀ a, kx ks k = a → x < a → x < kx ks k from fun a e h => by rw [e]; exact h)
      generalize hax : kx ks k = ax at *
      have HAx := Lib.hid hax
      clear hax HLk
      go_wp2_with fail
      by_cases hx : ax < x
      case pos =>
        obtain ⟨xc, xf⟩ := xcell (W := wo)
        refine wp_region_quiet_tail 14 (by kernel_rfl) (by kernel_rfl) ?_
        simp only [List.take_succ_cons, List.take_zero, List.drop_succ_cons, List.drop_zero]
        repeat (first | go_big_quiet_step (fail) | quiet_step (fail))
        refine wpQuiet_nil ?_
        intro w4 hb4
        clear xc xf
        have x0_4 := x0_1.below hb4
        have B4 := Br.trans (hb4.mono Br.size)
        go_wp2
        go_roundw
        case rel => exact ⟨k + 1, by omega, by go_num, HNx.out hx, B4, x0_4⟩
        case measure => simp [intOf]; omega
      case neg =>
        have hd2 : decide (ax < x) = false := by simpa using hx
        obtain ⟨xc, xf⟩ := xcell (W := wo)
        refine wp_region_quiet_tail 14 (by kernel_rfl) (by kernel_rfl) ?_
        simp only [List.take_succ_cons, List.take_zero, List.drop_succ_cons, List.drop_zero]
        repeat (first | go_big_quiet_step (fail) | quiet_step (fail))
        refine wpQuiet_nil ?_
        intro w4 hb4
        clear xc xf
        have x0_4 := x0_1.below hb4
        have B4 := Br.trans (hb4.mono Br.size)
        have kc4 := (HK.out.below B4).x k hkl
        rw [HAx.out] at kc4
        have xe0 := x0_4.cell 0
        have xe1 := x0_4.cell 1
        simp only [List.getElem?_toArray, List.getElem?_cons_zero, List.getElem?_cons_succ] at xe0 xe1
        have xel := x0_4.lt
        have hbo4 : b < w4.heap.size := Nat.lt_of_lt_of_le hbl B4.size
        clear kc0 xc0 xc1 xl hbo
        go_wp2_with fail
        by_cases he : ax = x
        case pos =>
          have he1 : (ax == x) = true := by simpa using he
          have HE := Lib.hid he
          clear he hx
          obtain ⟨xc, xf⟩ := xcell (W := w4)
          refine wp_region_quiet_tail 14 (by kernel_rfl) (by kernel_rfl) ?_
          simp only [List.take_succ_cons, List.take_zero, List.drop_succ_cons, List.drop_zero]
          repeat (first | go_big_quiet_step (fail) | quiet_step (fail))
          refine wpQuiet_nil ?_
          intro w5 hb5
          clear xc xf
          have B5 := B4.trans (hb5.mono B4.size)
          have HPu := Lib.hid (HKk.out HE.out)
          go_wp2
          go_ret
          exact ⟨some ⟨b, off, none⟩, n, cap, rfl, ⟨by rw [HPu.out, HN.out], fun _ => ⟨b, off, rfl, by rw [HPu.out]; exact HK.out.below B5⟩⟩, hcap, fun a h => .inl rfl, B5⟩
        case neg =>
          have he1 : (ax == x) = false := by simpa using he
          have HLt := Lib.hid (show x < kx ks k by rw [HAx.out]; omega)
          clear he hx
          obtain ⟨xc, xf⟩ := xcell (W := w4)
          refine wp_region_quiet_tail 14 (by kernel_rfl) (by kernel_rfl) ?_
          simp only [List.take_succ_cons, List.take_zero, List.drop_succ_cons, List.drop_zero]
          repeat (first | go_big_quiet_step (fail) | quiet_step (fail))
          refine wpQuiet_nil ?_
          intro w5 hb5
          clear xc xf
          have B5 := B4.trans (hb5.mono B4.size)
          have x0_5 := x0_4.below hb5
          clear xe0 xe1 xel hbo4 kc4
          have hck : ¬ cap = k := by omega
          have HKn := Lib.hid (HK.out.below B5)
          have hbase : w.heap.size ≤ w5.heap.size := B5.size
          have HR0 := Lib.hid (World.ownsRow_lit (base := w5.heap.size) (e := 108) (size := 2) w5 #[] 0 (Nat.le_refl _) (by unfold maxLen; omega) rfl)
          have BL := (B5).alloc (B5).size (.cells #[] 108)
          have HK1 := Lib.hid (HK.out.below BL)
          have x0l := x0_5.lt
          have x0_9 := x0_5.alloc (.cells #[] 108)
          have HT := Lib.hid (HK1.out.flat_take k (by have := HN.out; omega))
          have HTl := Lib.hid (show ((ks.take k).flatMap encF).length = k * 2 by rw [flat_len 2 encF (fun _ => rfl), List.length_take]; have := HN.out; omega)
          have HO1 := Lib.hid (one_encF (ks.take k))
          go_wp2_with (at_builtin; go_loud (refine wpList_append_own _ rfl (.tmp 38) (.tmp 41) 22 rfl (w5.heap.size) 108 i0 (.agg #[.int .i64 0, .int .i64 0]) 2 16 Try.underlying22 HI.out.1 HI.out.2.1 HI.out.2.2.1 HI.out.2.2.2 rfl (by decide) _ (0) ([]) rfl (HR0.out) ⟨b, off, none⟩ (k) (cap) ((ks.take k).flatMap encF) rfl HTl.out HT.out HO1.out (by unfold maxLen; omega) (by omega) (by simp) ?_))
          intro v1 w11 hown1 hgrow1 hnn1
          have HGl := Lib.hid (fun q (hq : (Value.slice (some ⟨w5.heap.size, 0, none⟩) 0 0).ownBlock = some q) => (show q = w5.heap.size from by have := hq; simp [Value.ownBlock] at this; omega))
          have x0_11 := x0_9.grown hgrow1 (fun h => by have := HGl.out _ h; omega)
          have B11 := BL.grown hgrow1 BL.size (fun kk hk => by have := HGl.out _ hk; omega)
          have hb11 : w5.heap.size ≤ w11.heap.size := Nat.le_trans (by simp) hgrow1.size
          replace hown1 : w11.ownsRow w5.heap.size 108 2 v1 k ((ks.take k).flatMap encF) := by have := hown1; simpa using this
          have HA := Lib.hid hown1
          clear hown1 hgrow1 hnn1 HGl HR0 HT HK1 x0_9
          have HLA := Lib.hid (fun (q : Nat) hq => own_lt (g := q) HA.out hq)
          have xa0 := x0_11.cell 0
          have xa1 := x0_11.cell 1
          simp only [List.getElem?_toArray, List.getElem?_cons_zero, List.getElem?_cons_succ] at xa0 xa1
          have xal := x0_11.lt
          go_wp2_with (at_builtin; go_loud (refine wpList_append_own _ rfl (.tmp 43) (.tmp 45) 22 rfl (w5.heap.size) 108 i0 (.agg #[.int .i64 0, .int .i64 0]) 2 16 Try.underlying22 HI.out.1 HI.out.2.1 HI.out.2.2.1 HI.out.2.2.2 rfl (by decide) _ (k) ((ks.take k).flatMap encF) rfl (HA.out.alloc _) ⟨w11.heap.size, 0, none⟩ 1 1 [.int .i64 x, .int .i64 y] rfl rfl (new_cells2 _ _ _ _) (one_ints2 _ _) (by unfold maxLen; omega) (by omega) (by simp; omega) ?_))
          intro v2 w12 hown2 hgrow2 hnn2
          have B12 := (B11.alloc B11.size _).grown hgrow2 (Nat.le_trans B11.size (by simp)) (fun kk hk => by have := HLA.out _ hk; omega)
          have hb12 : w5.heap.size ≤ w12.heap.size := Nat.le_trans hb11 (Nat.le_trans (by simp) hgrow2.size)
          have HB := Lib.hid hown2
          clear hown2 hgrow2 hnn2 HLA
          obtain ⟨g2, c2, rfl⟩ := ownsRow_succ HB.out
          have HLB := Lib.hid (fun (q : Nat) hq => own_lt (g := q) HB.out hq)
          clear xa0 xa1 xal
          have HK2 := Lib.hid (HK.out.below B12)
          have HD := Lib.hid (HK2.out.flat_drop k (by have := HN.out; omega))
          have HDl := Lib.hid (show ((ks.drop k).flatMap encF).length = (n - k) * 2 by rw [flat_len 2 encF (fun _ => rfl), List.length_drop]; have := HN.out; omega)
          have HO2 := Lib.hid (one_encF (ks.drop k))
          go_wp2_with (at_builtin; go_loud (refine wpList_append_own _ rfl (.tmp 47) (.tmp 50) 22 rfl (w5.heap.size) 108 i0 (.agg #[.int .i64 0, .int .i64 0]) 2 16 Try.underlying22 HI.out.1 HI.out.2.1 HI.out.2.2.1 HI.out.2.2.2 rfl (by decide) _ ((k + 1)) ((ks.take k).flatMap encF ++ [Value.int .i64 x, Value.int .i64 y]) rfl (HB.out) ⟨b, off + k * 2, none⟩ (n - k) (cap - k) ((ks.drop k).flatMap encF) rfl HDl.out HD.out HO2.out (by unfold maxLen; omega) (by omega) (hb12) ?_))
          intro v3 w13 hown3 hgrow3 hnn3
          obtain ⟨g3, c3, rfl⟩ := Joins.ownsRow_form hown3 (by omega)
          have B13 := B12.grown hgrow3 B12.size (fun kk hk => by have := HLB.out _ hk; omega)
          have HPu := Lib.hid (HIn.out k (by have := HN.out; omega) HAll.out (fun _ => HLt.out))
          have HRo := Lib.hid (show w13.ownsRow w5.heap.size 108 2 (.slice (some ⟨g3, 0, none⟩) (k + 1 + (n - k)) c3) (k + 1 + (n - k)) ((putL ks (x, y)).flatMap encF) by
            rw [HPu.out, List.flatMap_append, List.flatMap_append]
            have := hown3; simpa [encF, List.append_assoc] using this)
          have HRl := Lib.hid (show (putL ks (x, y)).length = k + 1 + (n - k) by rw [HPu.out]; simp only [List.length_append, List.length_take, List.length_drop, List.length_cons, List.length_nil]; have := HN.out; omega)
          clear hown3 hgrow3 hnn3
          go_wp2
          go_ret
          exact ptOut_row HRo.out HRl.out (by omega) hbase B13
    case neg =>
      have hkk : n = k := by omega
      subst hkk
      have hd : decide (n < n) = false := by simp
      go_wp2_with fail
      obtain ⟨xc, xf⟩ := xcell (W := wo)
      refine wp_region_quiet_tail 14 (by kernel_rfl) (by kernel_rfl) ?_
      simp only [List.take_succ_cons, List.take_zero, List.drop_succ_cons, List.drop_zero]
      repeat (first | go_big_quiet_step (fail) | quiet_step (fail))
      refine wpQuiet_nil ?_
      intro w4 hb4
      clear xc xf
      have x0_4 := x0_1.below hb4
      have B4 := Br.trans (hb4.mono Br.size)
      have xe0 := x0_4.cell 0
      have xe1 := x0_4.cell 1
      simp only [List.getElem?_toArray, List.getElem?_cons_zero, List.getElem?_cons_succ] at xe0 xe1
      have xel := x0_4.lt
      clear xc0 xc1 xl hbo
      go_wp2_with fail
      obtain ⟨xc, xf⟩ := xcell (W := w4)
      refine wp_region_quiet_tail 14 (by kernel_rfl) (by kernel_rfl) ?_
      simp only [List.take_succ_cons, List.take_zero, List.drop_succ_cons, List.drop_zero]
      repeat (first | go_big_quiet_step (fail) | quiet_step (fail))
      refine wpQuiet_nil ?_
      intro w5 hb5
      clear xc xf
      have B5 := B4.trans (hb5.mono B4.size)
      have x0_5 := x0_4.below hb5
      clear xe0 xe1 xel
      by_cases hcn : cap = n
      case pos =>
        have HKn := Lib.hid (HK.out.below B5)
        have hbase : w.heap.size ≤ w5.heap.size := B5.size
        have HR0 := Lib.hid (World.ownsRow_lit (base := w5.heap.size) (e := 108) (size := 2) w5 #[] 0 (Nat.le_refl _) (by unfold maxLen; omega) rfl)
        have BL := (B5).alloc (B5).size (.cells #[] 108)
        have HK1 := Lib.hid (HK.out.below BL)
        have x0l := x0_5.lt
        have x0_9 := x0_5.alloc (.cells #[] 108)
        have HT := Lib.hid (HK1.out.flat_take n (by have := HN.out; omega))
        have HTl := Lib.hid (show ((ks.take n).flatMap encF).length = n * 2 by rw [flat_len 2 encF (fun _ => rfl), List.length_take]; have := HN.out; omega)
        have HO1 := Lib.hid (one_encF (ks.take n))
        go_wp2_with (at_builtin; go_loud (refine wpList_append_own _ rfl (.tmp 38) (.tmp 41) 22 rfl (w5.heap.size) 108 i0 (.agg #[.int .i64 0, .int .i64 0]) 2 16 Try.underlying22 HI.out.1 HI.out.2.1 HI.out.2.2.1 HI.out.2.2.2 rfl (by decide) _ (0) ([]) rfl (HR0.out) ⟨b, off, none⟩ (n) (n) ((ks.take n).flatMap encF) rfl HTl.out HT.out HO1.out (by unfold maxLen; omega) (by omega) (by simp) ?_))
        intro v1 w11 hown1 hgrow1 hnn1
        have HGl := Lib.hid (fun q (hq : (Value.slice (some ⟨w5.heap.size, 0, none⟩) 0 0).ownBlock = some q) => (show q = w5.heap.size from by have := hq; simp [Value.ownBlock] at this; omega))
        have x0_11 := x0_9.grown hgrow1 (fun h => by have := HGl.out _ h; omega)
        have B11 := BL.grown hgrow1 BL.size (fun kk hk => by have := HGl.out _ hk; omega)
        have hb11 : w5.heap.size ≤ w11.heap.size := Nat.le_trans (by simp) hgrow1.size
        replace hown1 : w11.ownsRow w5.heap.size 108 2 v1 n ((ks.take n).flatMap encF) := by have := hown1; simpa using this
        have HA := Lib.hid hown1
        clear hown1 hgrow1 hnn1 HGl HR0 HT HK1 x0_9
        have HLA := Lib.hid (fun (q : Nat) hq => own_lt (g := q) HA.out hq)
        have xa0 := x0_11.cell 0
        have xa1 := x0_11.cell 1
        simp only [List.getElem?_toArray, List.getElem?_cons_zero, List.getElem?_cons_succ] at xa0 xa1
        have xal := x0_11.lt
        go_wp2_with (at_builtin; go_loud (refine wpList_append_own _ rfl (.tmp 43) (.tmp 45) 22 rfl (w5.heap.size) 108 i0 (.agg #[.int .i64 0, .int .i64 0]) 2 16 Try.underlying22 HI.out.1 HI.out.2.1 HI.out.2.2.1 HI.out.2.2.2 rfl (by decide) _ (n) ((ks.take n).flatMap encF) rfl (HA.out.alloc _) ⟨w11.heap.size, 0, none⟩ 1 1 [.int .i64 x, .int .i64 y] rfl rfl (new_cells2 _ _ _ _) (one_ints2 _ _) (by unfold maxLen; omega) (by omega) (by simp; omega) ?_))
        intro v2 w12 hown2 hgrow2 hnn2
        have B12 := (B11.alloc B11.size _).grown hgrow2 (Nat.le_trans B11.size (by simp)) (fun kk hk => by have := HLA.out _ hk; omega)
        have hb12 : w5.heap.size ≤ w12.heap.size := Nat.le_trans hb11 (Nat.le_trans (by simp) hgrow2.size)
        have HB := Lib.hid hown2
        clear hown2 hgrow2 hnn2 HLA
        obtain ⟨g2, c2, rfl⟩ := ownsRow_succ HB.out
        have HLB := Lib.hid (fun (q : Nat) hq => own_lt (g := q) HB.out hq)
        clear xa0 xa1 xal
        have HK2 := Lib.hid (HK.out.below B12)
        have HD := Lib.hid (HK2.out.flat_drop n (by have := HN.out; omega))
        have HDl := Lib.hid (show ((ks.drop n).flatMap encF).length = (0) * 2 by rw [flat_len 2 encF (fun _ => rfl), List.length_drop]; have := HN.out; omega)
        have HD' := Lib.hid (show ∀ j u, ((ks.drop n).flatMap encF)[j]? = some u → w12.cell? ((⟨b, off, none⟩ : Addr).add j) = some u from fun j u hu => by rw [List.getElem?_eq_none (by rw [HDl.out]; omega)] at hu; cases hu)
        have HO2 := Lib.hid (one_encF (ks.drop n))
        go_wp2_with (at_builtin; go_loud (refine wpList_append_own _ rfl (.tmp 47) (.tmp 50) 22 rfl (w5.heap.size) 108 i0 (.agg #[.int .i64 0, .int .i64 0]) 2 16 Try.underlying22 HI.out.1 HI.out.2.1 HI.out.2.2.1 HI.out.2.2.2 rfl (by decide) _ ((n + 1)) ((ks.take n).flatMap encF ++ [Value.int .i64 x, Value.int .i64 y]) rfl (HB.out) ⟨b, off, none⟩ (0) (0) ((ks.drop n).flatMap encF) rfl HDl.out HD'.out HO2.out (by unfold maxLen; omega) (by omega) (hb12) ?_))
        intro v3 w13 hown3 hgrow3 hnn3
        obtain ⟨g3, c3, rfl⟩ := Joins.ownsRow_form hown3 (by omega)
        have B13 := B12.grown hgrow3 B12.size (fun kk hk => by have := HLB.out _ hk; omega)
        have HPu := Lib.hid (HIn.out n (by have := HN.out; omega) HAll.out (fun h => absurd h (by have := HN.out; omega)))
        have HRo := Lib.hid (show w13.ownsRow w5.heap.size 108 2 (.slice (some ⟨g3, 0, none⟩) (n + 1 + (0)) c3) (n + 1 + (0)) ((putL ks (x, y)).flatMap encF) by
          rw [HPu.out, List.flatMap_append, List.flatMap_append]
          have := hown3; simpa [encF, List.append_assoc] using this)
        have HRl := Lib.hid (show (putL ks (x, y)).length = n + 1 + (0) by rw [HPu.out]; simp only [List.length_append, List.length_take, List.length_drop, List.length_cons, List.length_nil]; have := HN.out; omega)
        clear hown3 hgrow3 hnn3
        go_wp2
        go_ret
        exact ptOut_row HRo.out HRl.out (by omega) hbase B13
      case neg =>
        have HKn := Lib.hid (HK.out.below B5)
        have hbase : w.heap.size ≤ w5.heap.size := B5.size
        have HR0 := Lib.hid (World.ownsRow_lit (base := w5.heap.size) (e := 108) (size := 2) w5 #[] 0 (Nat.le_refl _) (by unfold maxLen; omega) rfl)
        have BL := (B5).alloc (B5).size (.cells #[] 108)
        have HK1 := Lib.hid (HK.out.below BL)
        have x0l := x0_5.lt
        have x0_9 := x0_5.alloc (.cells #[] 108)
        have HT := Lib.hid (HK1.out.flat_take n (by have := HN.out; omega))
        have HTl := Lib.hid (show ((ks.take n).flatMap encF).length = n * 2 by rw [flat_len 2 encF (fun _ => rfl), List.length_take]; have := HN.out; omega)
        have HO1 := Lib.hid (one_encF (ks.take n))
        go_wp2_with (at_builtin; go_loud (refine wpList_append_own _ rfl (.tmp 38) (.tmp 41) 22 rfl (w5.heap.size) 108 i0 (.agg #[.int .i64 0, .int .i64 0]) 2 16 Try.underlying22 HI.out.1 HI.out.2.1 HI.out.2.2.1 HI.out.2.2.2 rfl (by decide) _ (0) ([]) rfl (HR0.out) ⟨b, off, none⟩ (n) (cap) ((ks.take n).flatMap encF) rfl HTl.out HT.out HO1.out (by unfold maxLen; omega) (by omega) (by simp) ?_))
        intro v1 w11 hown1 hgrow1 hnn1
        have HGl := Lib.hid (fun q (hq : (Value.slice (some ⟨w5.heap.size, 0, none⟩) 0 0).ownBlock = some q) => (show q = w5.heap.size from by have := hq; simp [Value.ownBlock] at this; omega))
        have x0_11 := x0_9.grown hgrow1 (fun h => by have := HGl.out _ h; omega)
        have B11 := BL.grown hgrow1 BL.size (fun kk hk => by have := HGl.out _ hk; omega)
        have hb11 : w5.heap.size ≤ w11.heap.size := Nat.le_trans (by simp) hgrow1.size
        replace hown1 : w11.ownsRow w5.heap.size 108 2 v1 n ((ks.take n).flatMap encF) := by have := hown1; simpa using this
        have HA := Lib.hid hown1
        clear hown1 hgrow1 hnn1 HGl HR0 HT HK1 x0_9
        have HLA := Lib.hid (fun (q : Nat) hq => own_lt (g := q) HA.out hq)
        have xa0 := x0_11.cell 0
        have xa1 := x0_11.cell 1
        simp only [List.getElem?_toArray, List.getElem?_cons_zero, List.getElem?_cons_succ] at xa0 xa1
        have xal := x0_11.lt
        go_wp2_with (at_builtin; go_loud (refine wpList_append_own _ rfl (.tmp 43) (.tmp 45) 22 rfl (w5.heap.size) 108 i0 (.agg #[.int .i64 0, .int .i64 0]) 2 16 Try.underlying22 HI.out.1 HI.out.2.1 HI.out.2.2.1 HI.out.2.2.2 rfl (by decide) _ (n) ((ks.take n).flatMap encF) rfl (HA.out.alloc _) ⟨w11.heap.size, 0, none⟩ 1 1 [.int .i64 x, .int .i64 y] rfl rfl (new_cells2 _ _ _ _) (one_ints2 _ _) (by unfold maxLen; omega) (by omega) (by simp; omega) ?_))
        intro v2 w12 hown2 hgrow2 hnn2
        have B12 := (B11.alloc B11.size _).grown hgrow2 (Nat.le_trans B11.size (by simp)) (fun kk hk => by have := HLA.out _ hk; omega)
        have hb12 : w5.heap.size ≤ w12.heap.size := Nat.le_trans hb11 (Nat.le_trans (by simp) hgrow2.size)
        have HB := Lib.hid hown2
        clear hown2 hgrow2 hnn2 HLA
        obtain ⟨g2, c2, rfl⟩ := ownsRow_succ HB.out
        have HLB := Lib.hid (fun (q : Nat) hq => own_lt (g := q) HB.out hq)
        clear xa0 xa1 xal
        have HK2 := Lib.hid (HK.out.below B12)
        have HD := Lib.hid (HK2.out.flat_drop n (by have := HN.out; omega))
        have HDl := Lib.hid (show ((ks.drop n).flatMap encF).length = (0) * 2 by rw [flat_len 2 encF (fun _ => rfl), List.length_drop]; have := HN.out; omega)
        have HO2 := Lib.hid (one_encF (ks.drop n))
        go_wp2_with (at_builtin; go_loud (refine wpList_append_own _ rfl (.tmp 47) (.tmp 50) 22 rfl (w5.heap.size) 108 i0 (.agg #[.int .i64 0, .int .i64 0]) 2 16 Try.underlying22 HI.out.1 HI.out.2.1 HI.out.2.2.1 HI.out.2.2.2 rfl (by decide) _ ((n + 1)) ((ks.take n).flatMap encF ++ [Value.int .i64 x, Value.int .i64 y]) rfl (HB.out) ⟨b, off + n * 2, none⟩ (0) (cap - n) ((ks.drop n).flatMap encF) rfl HDl.out HD.out HO2.out (by unfold maxLen; omega) (by omega) (hb12) ?_))
        intro v3 w13 hown3 hgrow3 hnn3
        obtain ⟨g3, c3, rfl⟩ := Joins.ownsRow_form hown3 (by omega)
        have B13 := B12.grown hgrow3 B12.size (fun kk hk => by have := HLB.out _ hk; omega)
        have HPu := Lib.hid (HIn.out n (by have := HN.out; omega) HAll.out (fun h => absurd h (by have := HN.out; omega)))
        have HRo := Lib.hid (show w13.ownsRow w5.heap.size 108 2 (.slice (some ⟨g3, 0, none⟩) (n + 1 + (0)) c3) (n + 1 + (0)) ((putL ks (x, y)).flatMap encF) by
          rw [HPu.out, List.flatMap_append, List.flatMap_append]
          have := hown3; simpa [encF, List.append_assoc] using this)
        have HRl := Lib.hid (show (putL ks (x, y)).length = n + 1 + (0) by rw [HPu.out]; simp only [List.length_append, List.length_take, List.length_drop, List.length_cons, List.length_nil]; have := HN.out; omega)
        clear hown3 hgrow3 hnn3
        go_wp2
        go_ret
        exact ptOut_row HRo.out HRl.out (by omega) hbase B13

set_option maxRecDepth 100000 in
set_option maxHeartbeats 6400000 in
theorem put_nil (x y : Int) (w : World) :
    Calls Try.prog 130 #[.slice none 0 0, .agg #[.int .i64 x, .int .i64 y]] w (ptOut w none [(x, y)]) := by
  obtain ⟨i0, hi0, hi1, hi2, hi3⟩ := info_parts info_knot
  have HI := Lib.hid (show Try.prog.info? 108 = some i0 ∧ i0.zero = some (.agg #[.int .i64 0, .int .i64 0]) ∧ i0.size = 2 ∧ i0.bytes = 16 from ⟨hi0, hi1, hi2, hi3⟩)
  clear hi0 hi1 hi2 hi3
  have x0_0 : Blk (w.alloc (.cells #[.int .i64 x, .int .i64 y] 108)) w.heap.size 108 #[.int .i64 x, .int .i64 y] := Blk.at_new _ _ rfl
  have B0 : Below w.heap.size w (w.alloc (.cells #[.int .i64 x, .int .i64 y] 108)) := (Below.refl w.heap.size w).alloc (Nat.le_refl _) _
  go_enter Try.func130, Try.ntmps130
  go_wp2_with fail
  go_loopw [5] (fun i wx => i = .int .i64 0 ∧ Below w.heap.size w wx ∧ Blk wx w.heap.size 108 #[.int .i64 x, .int .i64 y]) (fun i _ => 0)
  case atStart => exact ⟨rfl, B0, x0_0⟩
  case round =>
    clear B0 x0_0
    obtain ⟨wo, hwo⟩ : ∃ wo : World, wo = wr := ⟨_, rfl⟩
    subst hwo
    obtain ⟨rfl, Br, x0_1⟩ := hrel
    have xc0 := x0_1.cell 0
    have xc1 := x0_1.cell 1
    simp only [List.getElem?_toArray, List.getElem?_cons_zero, List.getElem?_cons_succ] at xc0 xc1
    have xl := x0_1.lt
    go_wp2_with fail
    obtain ⟨xc, xf⟩ := xcell (W := wo)
    refine wp_region_quiet_tail 14 (by kernel_rfl) (by kernel_rfl) ?_
    simp only [List.take_succ_cons, List.take_zero, List.drop_succ_cons, List.drop_zero]
    repeat (first | go_big_quiet_step (fail) | quiet_step (fail))
    refine wpQuiet_nil ?_
    intro w4 hb4
    clear xc xf
    have x0_4 := x0_1.below hb4
    have B4 := Br.trans (hb4.mono Br.size)
    have xe0 := x0_4.cell 0
    have xe1 := x0_4.cell 1
    simp only [List.getElem?_toArray, List.getElem?_cons_zero, List.getElem?_cons_succ] at xe0 xe1
    have xel := x0_4.lt
    clear xc0 xc1 xl
    go_wp2_with fail
    obtain ⟨xc, xf⟩ := xcell (W := w4)
    refine wp_region_quiet_tail 14 (by kernel_rfl) (by kernel_rfl) ?_
    simp only [List.take_succ_cons, List.take_zero, List.drop_succ_cons, List.drop_zero]
    repeat (first | go_big_quiet_step (fail) | quiet_step (fail))
    refine wpQuiet_nil ?_
    intro w5 hb5
    clear xc xf
    have B5 := B4.trans (hb5.mono B4.size)
    have x0_5 := x0_4.below hb5
    clear xe0 xe1 xel
    have hbase : w.heap.size ≤ w5.heap.size := B5.size
    have HR0 := Lib.hid (World.ownsRow_lit (base := w5.heap.size) (e := 108) (size := 2) w5 #[] 0 (Nat.le_refl _) (by unfold maxLen; omega) rfl)
    have BL := B5.alloc B5.size (.cells #[] 108)
    have x0_9 := x0_5.alloc (.cells #[] 108)
    have xa0 := x0_9.cell 0
    have xa1 := x0_9.cell 1
    simp only [List.getElem?_toArray, List.getElem?_cons_zero, List.getElem?_cons_succ] at xa0 xa1
    have xal := x0_9.lt
    go_wp2_with (at_builtin; go_loud (refine wpList_append_own _ rfl (.tmp 43) (.tmp 45) 22 rfl (w5.heap.size) 108 i0 (.agg #[.int .i64 0, .int .i64 0]) 2 16 Try.underlying22 HI.out.1 HI.out.2.1 HI.out.2.2.1 HI.out.2.2.2 rfl (by decide) _ 0 ([]) rfl (HR0.out.alloc _) ⟨w5.heap.size + 1, 0, none⟩ 1 1 [.int .i64 x, .int .i64 y] rfl rfl (by have := new_cells2 (w5.alloc (.cells #[] 108)) (.int .i64 x) (.int .i64 y) 108; simpa using this) (one_ints2 _ _) (by unfold maxLen; omega) (by omega) (by simp; omega) ?_))
    intro v2 w12 hown2 hgrow2 hnn2
    have HGl := Lib.hid (fun q (hq : (Value.slice (some ⟨w5.heap.size, 0, none⟩) 0 0).ownBlock = some q) => (show q = w5.heap.size from by have := hq; simp [Value.ownBlock] at this; omega))
    have B12 := (BL.alloc BL.size _).grown hgrow2 (Nat.le_trans BL.size (by simp)) (fun kk hk => by have := HGl.out _ hk; omega)
    have HB := Lib.hid (show w12.ownsRow w5.heap.size 108 2 v2 1 ([(x, y)].flatMap encF) from by have := hown2; simpa [encF] using this)
    clear hown2 hgrow2 hnn2 HGl
    obtain ⟨g2, c2, rfl⟩ := ownsRow_succ HB.out
    go_wp2_with (at_builtin; go_loud (refine wpList_append_own_none rfl (.tmp 47) (.tmp 50) 22 rfl (w5.heap.size) 108 i0 2 Try.underlying22 HI.out.1 _ 1 _ rfl HB.out rfl ?_))
    go_ret
    exact ptOut_row HB.out rfl (by omega) hbase B12

end Go.Proofs.Ytipablcbkoedbaa

namespace Go.Proofs.Ytipablcbkoedbaa
open Go.RowKit

theorem putL_ge : ∀ (l : List (Int × Int)) (k : Int × Int), l.length ≤ (putL l k).length
  | [], k => by simp
  | q :: l, k => by
    have := putL_ge l k
    unfold putL
    split
    · simp; omega
    · split <;> simp
theorem putAll_take {f : Int → Int} {l : List (Int × Int)} {xs : List Int} {k : Nat} (hk : k < xs.length) : putAll f l (xs.take (k + 1)) = putL (putAll f l (xs.take k)) (xs.getD k 0, f (xs.getD k 0)) := by
  rw [List.take_succ_eq_append_getElem hk]
  unfold putAll
  rw [List.foldl_append]
  have e : xs.getD k 0 = xs[k] := by simp [List.getD_eq_getElem?_getD, hk]
  rw [e]; rfl
theorem wh_knot {ks : List (Int × Int)} (hv : Valid ks) {z : Int} (h : z ∈ ks.map Prod.fst) : whB ks z = true := by
  obtain ⟨q, hq, rfl⟩ := List.mem_map.1 h
  obtain ⟨i, hi, rfl⟩ := List.mem_iff_getElem.1 hq
  rw [(knot_get hi).1]
  have hp := hv.pos
  unfold whB
  have h1 : domLo ks ≤ kx ks i := kx_mono hv i 0 (by omega) (by omega)
  have h2 : kx ks i ≤ domHi ks := kx_mono hv (ks.length - 1) i (by omega) (by omega)
  rw [if_pos ⟨h1, h2⟩, (val_knot hv hi).2]
  rfl
theorem rf_all {ks : List (Int × Int)} (hv : Valid ks) (xs : List Int) : (rfX ks xs).all (whB ks) = xs.all (whB ks) := by
  rw [Bool.eq_iff_iff, List.all_eq_true, List.all_eq_true]
  unfold rfX
  constructor
  · intro h x hx
    exact h x ((sort_mem _ x).2 (List.mem_append_left _ hx))
  · intro h x hx
    rcases List.mem_append.1 ((sort_mem _ x).1 hx) with hx | hx
    · exact h x hx
    · exact wh_knot hv hx

set_option maxRecDepth 100000 in
set_option maxHeartbeats 6400000 in
theorem RRefine_any (A : Option Addr) (n cap : Nat) (err : Int) (ks : List (Int × Int)) (B : Option Addr) (m bc : Nat) (xs : List Int) (w : World) (h : CAt w A n ks) (hm : n ≤ 9223372036854775807) (hi : IAt w B m xs) (hmm : m ≤ 900) :
    Calls Try.prog 65 #[vCv A n cap err, .slice B m bc] w (cvdOut w (rfR ks err xs) (rfF ks err xs) (rfErr ks err xs)) := by
  have hC := fun W (hW : CAt W A n ks) => RCheck_any A n cap err ks W hW hm
  have HA := Lib.hid h
  have HI0 := Lib.hid hi
  have hrd : rfErr ks err xs = if check ks err ≠ 0 then check ks err else if (rfX ks xs).all (whB ks) = false then 3 else if 40 < (rfX ks xs).length then 2 else 0 := rfl
  have hrn : ∀ e, rfErr ks err xs = e → e ≠ 0 → rfR ks err xs = [] ∧ rfF ks err xs = 0 := fun e h0 h1 => rf_no h0 h1
  by_cases hz : check ks err = 0
  case neg =>
    rw [if_pos hz] at hrd
    obtain ⟨hR, hFz⟩ := hrn _ hrd hz
    rw [hrd, hR, hFz]
    have hz1 : (check ks err != 0) = true := by simpa using hz
    have HC := Lib.hid hC
    clear hrd hrn hR hFz h hz hC hi
    generalize check ks err = te at *
    generalize hW : (w.alloc (.cells #[.slice A n cap, .int .i64 err] 24)).alloc (.cells #[.slice none 0 0, .int .i64 0, .int .i64 0] 78) = W
    have B0 : Below w.heap.size w W := by rw [← hW]; exact (((Below.refl w.heap.size w).alloc (Nat.le_refl _) _).alloc (by simp) _)
    have x0_0 : Blk W w.heap.size 24 #[.slice A n cap, .int .i64 err] := by rw [← hW]; exact ((Blk.at_new _ _ rfl).alloc _)
    have r_0 : Blk W (w.heap.size + 1) 78 #[.slice none 0 0, .int .i64 0, .int .i64 0] := by rw [← hW]; exact (Blk.at_new _ _ (by simp))
    have HWE := Lib.hid hW
    clear hW
    go_enter Try.func65, Try.ntmps65
    have B1 := B0
    go_wp2_with fail
    rw [HWE.out]
    refine (HC.out _ (HA.out.below B1)).mono ?_; rintro e w1 ⟨rfl, hb1⟩
    have x0_1 := x0_0.below hb1
    have r_1 := r_0.below hb1
    clear x0_0 r_0
    have x0_1c0 := x0_1.cell 0
    have x0_1c1 := x0_1.cell 1
    simp only [List.getElem?_toArray, List.getElem?_cons_zero, List.getElem?_cons_succ] at x0_1c0 x0_1c1
    have x0_1l := x0_1.lt
    have r_1c0 := r_1.cell 0
    have r_1c1 := r_1.cell 1
    have r_1c2 := r_1.cell 2
    simp only [List.getElem?_toArray, List.getElem?_cons_zero, List.getElem?_cons_succ] at r_1c0 r_1c1 r_1c2
    have r_1l := r_1.lt
    have hr := r_1
    have hf0 := r_1.frozen 0
    have hf1 := r_1.frozen 1
    have hf2 := r_1.frozen 2
    have hl := r_1.lt
    have BZ := B1.trans (hb1.mono B1.size)
    go_wp2
    have hF := (((hr.set_ 0 (.slice none 0 0)).set_ 1 (.int .i64 0)).set_ 2 (.int .i64 te))
    have k0 := hF.cell 0
    have k1 := hF.cell 1
    have k2 := hF.cell 2
    simp only [List.setIfInBounds_toArray, List.set_cons_zero, List.set_cons_succ, List.getElem?_toArray, List.getElem?_cons_zero, List.getElem?_cons_succ] at k0 k1 k2
    exact bodyPost_ret (v := .agg #[.slice none 0 0, .int .i64 0, .int .i64 te]) (by simp [results, Try.results65, go_sem, k0, k1, k2]) rfl (cvdOut_nil rfl (((BZ.setCell (p := ⟨(w.heap.size + 1), 0, none⟩) (by simp <;> omega) _).setCell (p := ⟨(w.heap.size + 1), 1, none⟩) (by simp <;> omega) _).setCell (p := ⟨(w.heap.size + 1), 2, none⟩) (by simp <;> omega) _))
  rw [if_neg (by simp [hz])] at hrd
  rw [hz] at hC
  have HC := Lib.hid hC
  obtain ⟨hv, he⟩ := check_zero hz
  have hpos := hv.pos
  have hle := hv.le
  have hn := h.len
  obtain ⟨b, off, rfl, hk⟩ := h.at_ (by omega)
  have HK := Lib.hid hk
  have hbl := hk.lt
  rw [rf_all hv] at hrd
  have hln : (rfX ks xs).length = (putAll (valN ks) ks xs).length := by rw [rf_eq hv, atL_len]
  rw [hln] at hrd
  have HR0 := Lib.hid (show rfErr ks err xs = 0 → rfR ks err xs = putAll (valN ks) ks xs ∧ rfF ks err xs = err from fun h => ⟨(if_pos h).trans (rf_eq hv xs).symm, if_pos h⟩)
  have hW0 := fun x W (hW : Kn W b off ks) => Rwhole_any b off cap err ks x W hW hv
  rw [hn] at hW0
  have HW0 := Lib.hid hW0
  generalize hS : (fun k => putAll (valN ks) ks (xs.take k)) = S at *
  have HS0 := Lib.hid (show S 0 = ks by rw [← hS]; rfl)
  have HSm := Lib.hid (show S m = putAll (valN ks) ks xs by rw [← hS]; show putAll _ _ (xs.take m) = _; rw [← hi.len, List.take_length])
  have HSs := Lib.hid (show ∀ k, k < m → S (k + 1) = putL (S k) (xs.getD k 0, valN ks (xs.getD k 0)) by rw [← hS]; exact fun k hk => putAll_take (by rw [hi.len]; exact hk))
  have HSl := Lib.hid (show ∀ k, k ≤ m → 0 < (S k).length ∧ (S k).length ≤ 40 + k by
    rw [← hS]
    intro k hk
    have h1 := putAll_spec (f := valN ks) (xs.take k) ks (valid_inc hv) (valid_val hv)
    have h2 := h1.2.2.2
    rw [List.length_take, hi.len] at h2
    refine ⟨?_, by show (putAll _ _ _).length ≤ _; omega⟩
    obtain ⟨q, hq⟩ := List.exists_mem_of_length_pos hpos
    have h3 := (h1.2.2.1 q.1).2 (.inl (List.mem_map_of_mem hq))
    obtain ⟨z, hz, _⟩ := List.mem_map.1 h3
    exact List.length_pos_of_mem hz)
  have HAll := Lib.hid (show (∀ j, j < m → whB ks (xs.getD j 0) = true) → xs.all (whB ks) = true from fun h => List.all_eq_true.2 fun x hx => by
    obtain ⟨j, hj, rfl⟩ := List.mem_iff_getElem.1 hx
    have := h j (by rw [← hi.len]; exact hj)
    simpa [List.getD_eq_getElem?_getD, hj] using this)
  have HNo := Lib.hid (show ∀ j, j < m → whB ks (xs.getD j 0) = false → xs.all (whB ks) = false from fun j hj h => by
    have hj' : j < xs.length := by rw [hi.len]; exact hj
    refine Bool.eq_false_iff.2 fun c => ?_
    have := List.all_eq_true.1 c _ (List.getElem_mem hj')
    rw [show xs.getD j 0 = xs[j] by simp [List.getD_eq_getElem?_getD, hj']] at h
    rw [h] at this; cases this)
  have HN := Lib.hid hn
  have HRd := Lib.hid hrd
  have HRn := Lib.hid hrn
  have hn0 : 0 < n := by omega
  have hn40 : n ≤ 40 := by omega
  obtain ⟨i0, hi0, hi1, hi2, hi3⟩ := info_parts info_knot
  have HI := Lib.hid (show Try.prog.info? 108 = some i0 ∧ i0.zero = some (.agg #[.int .i64 0, .int .i64 0]) ∧ i0.size = 2 ∧ i0.bytes = 16 from ⟨hi0, hi1, hi2, hi3⟩)
  clear hi0 hi1 hi2 hi3 hrd hrn h hz hC hi hk hn hpos hle he hv hW0 hS hln
  generalize rfErr ks err xs = re at *
  generalize rfR ks err xs = rr at *
  generalize rfF ks err xs = rf at *
  generalize putAll (valN ks) ks xs = SS at *
  generalize hall : xs.all (whB ks) = al at *
  clear hall
  generalize hW : (w.alloc (.cells #[.slice (some ⟨b, off, none⟩) n cap, .int .i64 err] 24)).alloc (.cells #[.slice none 0 0, .int .i64 0, .int .i64 0] 78) = W
  have B0 : Below w.heap.size w W := by rw [← hW]; exact (((Below.refl w.heap.size w).alloc (Nat.le_refl _) _).alloc (by simp) _)
  have x0_0 : Blk W w.heap.size 24 #[.slice (some ⟨b, off, none⟩) n cap, .int .i64 err] := by rw [← hW]; exact ((Blk.at_new _ _ rfl).alloc _)
  have r_0 : Blk W (w.heap.size + 1) 78 #[.slice none 0 0, .int .i64 0, .int .i64 0] := by rw [← hW]; exact (Blk.at_new _ _ (by simp))
  have HWE := Lib.hid hW
  clear hW
  go_enter Try.func65, Try.ntmps65
  have B1 := B0
  go_wp2_with fail
  rw [HWE.out]
  refine (HC.out _ (HA.out.below B1)).mono ?_; rintro e w1 ⟨rfl, hb1⟩
  have x0_1 := x0_0.below hb1
  have r_1 := r_0.below hb1
  clear x0_0 r_0
  have x0_1c0 := x0_1.cell 0
  have x0_1c1 := x0_1.cell 1
  simp only [List.getElem?_toArray, List.getElem?_cons_zero, List.getElem?_cons_succ] at x0_1c0 x0_1c1
  have x0_1l := x0_1.lt
  have r_1c0 := r_1.cell 0
  have r_1c1 := r_1.cell 1
  have r_1c2 := r_1.cell 2
  simp only [List.getElem?_toArray, List.getElem?_cons_zero, List.getElem?_cons_succ] at r_1c0 r_1c1 r_1c2
  have r_1l := r_1.lt
  have hws := r_1l
  have HR1 := Lib.hid (World.ownsRow_lit (base := w1.heap.size) (e := 108) (size := 2) w1 #[] 0 (Nat.le_refl _) (by unfold maxLen; omega) rfl)
  have BL0 := B1.trans (hb1.mono B1.size)
  have BL := BL0.alloc BL0.size (.cells #[] 108)
  have HK1 := Lib.hid (HK.out.below BL)
  have HT := Lib.hid (show ∀ j u, (ks.flatMap encF)[j]? = some u → (w1.alloc (.cells #[] 108)).cell? ((⟨b, off, none⟩ : Addr).add j) = some u from fun j u hu => by rw [add_flat]; exact HK1.out.flat j u hu)
  have HTl := Lib.hid (show (ks.flatMap encF).length = n * 2 by rw [flat_len 2 encF (fun _ => rfl), HN.out])
  have HO1 := Lib.hid (one_encF ks)
  have x0_9 := x0_1.alloc (.cells #[] 108)
  have r_9 := r_1.alloc (.cells #[] 108)
  go_wp2_with (at_builtin; go_loud (refine wpList_append_own _ rfl (.tmp 16) (.tmp 18) 22 rfl (w1.heap.size) 108 i0 (.agg #[.int .i64 0, .int .i64 0]) 2 16 Try.underlying22 HI.out.1 HI.out.2.1 HI.out.2.2.1 HI.out.2.2.2 rfl (by decide) _ 0 ([]) rfl HR1.out ⟨b, off, none⟩ n cap (ks.flatMap encF) rfl HTl.out HT.out HO1.out (by unfold maxLen; omega) (by omega) (by simp) ?_))
  intro v1 w11 hown1 hgrow1 hnn1
  clear x0_1c0 x0_1c1 x0_1l r_1c0 r_1c1 r_1c2 r_1l
  have HGl := Lib.hid (fun q (hq : (Value.slice (some ⟨w1.heap.size, 0, none⟩) 0 0).ownBlock = some q) => (show q = w1.heap.size from by have := hq; simp [Value.ownBlock] at this; omega))
  have x0_11 := x0_9.grown hgrow1 (fun h => by have := HGl.out _ h; omega)
  have r_11 := r_9.grown hgrow1 (fun h => by have := HGl.out _ h; omega)
  have B11 := BL.grown hgrow1 BL.size (fun kk hk => by have := HGl.out _ hk; have := BL0.size; omega)
  have hb11 : w1.heap.size ≤ w11.heap.size := Nat.le_trans (by simp) hgrow1.size
  replace hown1 : w11.ownsRow w1.heap.size 108 2 v1 n (ks.flatMap encF) := by have := hown1; simpa using this
  have HA1 := Lib.hid hown1
  clear hown1 hgrow1 hnn1 HGl HR1 HT HK1 x0_9 r_9
  obtain ⟨g1, c1, hv1⟩ := Joins.ownsRow_form HA1.out hn0
  subst hv1
  have hg1 := own_lt HA1.out (g := g1) rfl
  have hnc : n ≤ c1 := by
    rcases HA1.out.2 with ⟨e, _⟩ | ⟨g', cap', cur, e, _, _, hc, _⟩
    · cases e
    · have e2 : c1 = cap' := by simp at e; exact e.2
      rw [e2]; exact hc
  have HC1 := Lib.hid (show CAt w11 (some ⟨g1, 0, none⟩) n ks from ⟨HN.out, fun _ => ⟨g1, 0, rfl, Kn_of_row HN.out HA1.out⟩⟩)
  clear HA1
  have x0_11c0 := x0_11.cell 0
  have x0_11c1 := x0_11.cell 1
  simp only [List.getElem?_toArray, List.getElem?_cons_zero, List.getElem?_cons_succ] at x0_11c0 x0_11c1
  have x0_11l := x0_11.lt
  have r_11c0 := r_11.cell 0
  have r_11c1 := r_11.cell 1
  have r_11c2 := r_11.cell 2
  simp only [List.getElem?_toArray, List.getElem?_cons_zero, List.getElem?_cons_succ] at r_11c0 r_11c1 r_11c2
  have r_11l := r_11.lt
  have hgb : w.heap.size + 1 < w1.heap.size := hws
  generalize hgbe : w1.heap.size = gb at *
  clear hgbe
  go_wp2_with fail
  go_loopw [6, 7] (fun v i wx => ∃ (k : Nat) (A1 : Option Addr) (t c1 : Nat), k ≤ m ∧ v = .slice A1 t c1 ∧ i = .int .i64 k ∧ CAt wx A1 t (S k) ∧ t ≤ c1 ∧ (∀ a, A1 = some a → gb ≤ a.block) ∧ (∀ j, j < k → whB ks (xs.getD j 0) = true) ∧ Below w.heap.size w wx ∧ Blk wx w.heap.size 24 #[.slice (some ⟨b, off, none⟩) n cap, .int .i64 err] ∧ Blk wx (w.heap.size + 1) 78 #[.slice none 0 0, .int .i64 0, .int .i64 0]) (fun _ i _ => m - (intOf i).toNat)
  case atStart => exact ⟨0, _, n, c1, Nat.zero_le _, rfl, rfl, by rw [HS0.out]; exact HC1.out, hnc, (fun a h => by have e := Option.some.inj h; subst e; exact hg1.1), fun j hj => absurd hj (by omega), (B11), x0_11, r_11⟩
  case round =>
    clear x0_11c0 x0_11c1 x0_11l r_11c0 r_11c1 r_11c2 r_11l
    obtain ⟨wo, hwo⟩ : ∃ wo : World, wo = wr := ⟨_, rfl⟩
    subst hwo
    obtain ⟨k, A1, t, c2, hk, rfl, rfl, hct, htc, hbk, hjs, Br, x0_20, r_20⟩ := hrel
    have HCt := Lib.hid hct
    have HBk := Lib.hid hbk
    have HJs := Lib.hid hjs
    have hsl := HSl.out k hk
    have hlt : (S k).length = t := hct.len
    rw [hlt] at hsl
    have HLt := Lib.hid hlt
    obtain ⟨ht0, ht1⟩ := hsl
    clear hct hbk hjs hlt BL0 BL
    have x0_20c0 := x0_20.cell 0
    have x0_20c1 := x0_20.cell 1
    simp only [List.getElem?_toArray, List.getElem?_cons_zero, List.getElem?_cons_succ] at x0_20c0 x0_20c1
    have x0_20l := x0_20.lt
    have r_20c0 := r_20.cell 0
    have r_20c1 := r_20.cell 1
    have r_20c2 := r_20.cell 2
    simp only [List.getElem?_toArray, List.getElem?_cons_zero, List.getElem?_cons_succ] at r_20c0 r_20c1 r_20c2
    have r_20l := r_20.lt
    by_cases hkm : k < m
    case pos =>
      obtain ⟨bi, oi, hBe, hIk⟩ := (HI0.out.below Br).at_ (by omega)
      subst hBe
      have hii := hIk.c k (by rw [HI0.out.len]; exact hkm)
      have hil := hIk.lt
      have HIk := Lib.hid hIk
      have hkx : k < xs.length := by rw [HI0.out.len]; exact hkm
      have HKo := Lib.hid (HK.out.below Br)
      have HSk := Lib.hid (HSs.out k hkm)
      have HNok := Lib.hid (HNo.out k hkm)
      have HJk := Lib.hid (fun (h : whB ks (xs.getD k 0) = true) j (hj : j < k + 1) => (show whB ks (xs.getD j 0) = true from by
        by_cases e : j = k
        · rw [e]; exact h
        · exact HJs.out j (by omega)))
      have HYes := Lib.hid (fun (h : whB ks (xs.getD k 0) = true) => (wh_yes h).2)
      have HWk := Lib.hid (fun W hW => HW0.out (xs.getD k 0) W hW)
      have HXk := Lib.hid (fun W (hb : Below wo.heap.size wo W) => (HIk.out.below HIk.out.lt hb).c k hkx)
      clear hIk
      generalize xs.getD k 0 = x at *
      generalize hbw : whB ks x = bw at *
      clear hbw
      generalize whY ks x = ay at *
      go_wp2_with fail
      obtain ⟨xc, xf⟩ := xcell (W := wo)
      refine wp_region_quiet_tail 10 (by kernel_rfl) (by kernel_rfl) ?_
      simp only [List.take_succ_cons, List.take_zero, List.drop_succ_cons, List.drop_zero]
      repeat (first | go_big_quiet_step ((go_at_call 129; with_reducible refine calls_ext (HWk.out _ ?_); exact HKo.out.below (Ext.below _))) | quiet_step ((go_at_call 129; with_reducible refine calls_ext (HWk.out _ ?_); exact HKo.out.below (Ext.below _))))
      refine wpQuiet_nil ?_
      intro w21 hb21
      clear xc xf
      clear x0_20c0 x0_20c1 x0_20l r_20c0 r_20c1 r_20c2 r_20l
      have x0_21 := x0_20.below hb21
      have r_21 := r_20.below hb21
      have B21 := Br.trans (hb21.mono Br.size)
      have hi21 := HXk.out _ hb21
      have hl21 := Nat.lt_of_lt_of_le hil hb21.size
      clear hii
      have x0_21c0 := x0_21.cell 0
      have x0_21c1 := x0_21.cell 1
      simp only [List.getElem?_toArray, List.getElem?_cons_zero, List.getElem?_cons_succ] at x0_21c0 x0_21c1
      have x0_21l := x0_21.lt
      have r_21c0 := r_21.cell 0
      have r_21c1 := r_21.cell 1
      have r_21c2 := r_21.cell 2
      simp only [List.getElem?_toArray, List.getElem?_cons_zero, List.getElem?_cons_succ] at r_21c0 r_21c1 r_21c2
      have r_21l := r_21.lt
      cases bw with
      | false =>
        have hal := HNok.out (by simp)
        have hre : re = 3 := by have := HRd.out; rw [hal] at this; simpa using this
        obtain ⟨hR, hFz⟩ := HRn.out _ hre (by omega)
        have HRe := Lib.hid hre
        have HRR := Lib.hid hR
        have HFz := Lib.hid hFz
        clear hal hre hR hFz
        have hr := r_21
        have hf0 := r_21.frozen 0
        have hf1 := r_21.frozen 1
        have hf2 := r_21.frozen 2
        have hl := r_21.lt
        have BZ := B21
        go_wp2
        have hF := (((hr.set_ 0 (.slice none 0 0)).set_ 1 (.int .i64 0)).set_ 2 (.int .i64 3))
        have k0 := hF.cell 0
        have k1 := hF.cell 1
        have k2 := hF.cell 2
        simp only [List.setIfInBounds_toArray, List.set_cons_zero, List.set_cons_succ, List.getElem?_toArray, List.getElem?_cons_zero, List.getElem?_cons_succ] at k0 k1 k2
        exact bodyPost_ret (v := .agg #[.slice none 0 0, .int .i64 0, .int .i64 3]) (by simp [results, Try.results65, go_sem, k0, k1, k2]) rfl (by rw [HRR.out, HFz.out, HRe.out]; exact cvdOut_nil rfl (((BZ.setCell (p := ⟨(w.heap.size + 1), 0, none⟩) (by simp <;> omega) _).setCell (p := ⟨(w.heap.size + 1), 1, none⟩) (by simp <;> omega) _).setCell (p := ⟨(w.heap.size + 1), 2, none⟩) (by simp <;> omega) _))
      | true =>
        have hay := HYes.out (by simp)
        obtain ⟨bp, op, hAe, hKp⟩ := (HCt.out.below hb21).at_ ht0
        subst hAe
        have HPt := Lib.hid (put_any bp op t c2 (S k) x ay w21 hKp HLt.out htc (by omega) ht0)
        have HAy := Lib.hid hay
        have HJn := Lib.hid (HJk.out (by simp))
        clear hay hKp
        go_wp2_with fail
        refine HPt.out.mono ?_; rintro e w22 ⟨A3, n3, c3, rfl, hc3, hn3, hf3, hb22⟩
        clear x0_21c0 x0_21c1 x0_21l r_21c0 r_21c1 r_21c2 r_21l
        have x0_22 := x0_21.below hb22
        have r_22 := r_21.below hb22
        have B22 := B21.trans (hb22.mono B21.size)
        have HC3 := Lib.hid hc3
        have HF3 := Lib.hid hf3
        clear hc3 hf3 hi21
        have hgw : gb ≤ w21.heap.size := by
          have := HBk.out _ rfl
          have h2 := HCt.out.at_ ht0
          obtain ⟨b5, o5, e5, h5⟩ := h2
          have e6 := Option.some.inj e5
          have h6 := h5.lt
          have h7 := hb21.size
          have : bp = b5 := congrArg Addr.block e6
          have h8 : gb ≤ bp := HBk.out _ rfl
          omega
        go_wp2
        go_roundw
        case rel =>
          refine ⟨k + 1, A3, n3, c3, by omega, rfl, by go_num, by rw [HSk.out, ← HAy.out]; exact HC3.out, hn3, fun a h => ?_, HJn.out, B22, x0_22, r_22⟩
          rcases HF3.out a h with e | e
          · exact HBk.out a (e.trans h)
          · exact Nat.le_trans hgw e
        case measure => simp [intOf]; omega
    case neg =>
      have hkk : m = k := by omega
      subst hkk
      have HAl := Lib.hid (HAll.out HJs.out)
      have hss : S m = SS := HSm.out
      have HSS := Lib.hid hss
      clear hss
      have HTs := Lib.hid (show SS.length = t by rw [← HSS.out]; exact HLt.out)
      by_cases h40 : 40 < t
      case pos =>
        have hre : re = 2 := by have := HRd.out; rw [HAl.out, HTs.out] at this; simpa [h40] using this
        obtain ⟨hR, hFz⟩ := HRn.out _ hre (by omega)
        have HRe := Lib.hid hre
        have HRR := Lib.hid hR
        have HFz := Lib.hid hFz
        clear hre hR hFz
        have hr := r_20
        have hf0 := r_20.frozen 0
        have hf1 := r_20.frozen 1
        have hf2 := r_20.frozen 2
        have hl := r_20.lt
        have BZ := Br
        go_wp2
        have hF := (((hr.set_ 0 (.slice none 0 0)).set_ 1 (.int .i64 0)).set_ 2 (.int .i64 2))
        have k0 := hF.cell 0
        have k1 := hF.cell 1
        have k2 := hF.cell 2
        simp only [List.setIfInBounds_toArray, List.set_cons_zero, List.set_cons_succ, List.getElem?_toArray, List.getElem?_cons_zero, List.getElem?_cons_succ] at k0 k1 k2
        exact bodyPost_ret (v := .agg #[.slice none 0 0, .int .i64 0, .int .i64 2]) (by simp [results, Try.results65, go_sem, k0, k1, k2]) rfl (by rw [HRR.out, HFz.out, HRe.out]; exact cvdOut_nil rfl (((BZ.setCell (p := ⟨(w.heap.size + 1), 0, none⟩) (by simp <;> omega) _).setCell (p := ⟨(w.heap.size + 1), 1, none⟩) (by simp <;> omega) _).setCell (p := ⟨(w.heap.size + 1), 2, none⟩) (by simp <;> omega) _))
      case neg =>
        have hre : re = 0 := by have := HRd.out; rw [HAl.out, HTs.out] at this; simpa [h40] using this
        obtain ⟨hR, hFz⟩ := HR0.out hre
        have HRe := Lib.hid hre
        have HRR := Lib.hid (show rr = S m from hR.trans HSS.out.symm)
        have HFz := Lib.hid hFz
        clear hre hR hFz
        have hr := r_20
        have hf0 := r_20.frozen 0
        have hf1 := r_20.frozen 1
        have hf2 := r_20.frozen 2
        have hl := r_20.lt
        have BZ := Br
        go_wp2
        have hF := (((hr.set_ 0 ((.slice A1 t c2))).set_ 1 (.int .i64 err)).set_ 2 (.int .i64 0))
        have k0 := hF.cell 0
        have k1 := hF.cell 1
        have k2 := hF.cell 2
        simp only [List.setIfInBounds_toArray, List.set_cons_zero, List.set_cons_succ, List.getElem?_toArray, List.getElem?_cons_zero, List.getElem?_cons_succ] at k0 k1 k2
        exact bodyPost_ret (v := .agg #[(.slice A1 t c2), .int .i64 err, .int .i64 0]) (by simp [results, Try.results65, go_sem, k0, k1, k2]) rfl (by rw [HRR.out, HFz.out, HRe.out]; exact ⟨A1, t, c2, rfl, HCt.out.sets3 (r := (w.heap.size + 1)) (fun a h => by have := HBk.out a h; omega) _ _ _, by omega, (fun a h => by have := HBk.out a h; omega), (((BZ.setCell (p := ⟨(w.heap.size + 1), 0, none⟩) (by simp <;> omega) _).setCell (p := ⟨(w.heap.size + 1), 1, none⟩) (by simp <;> omega) _).setCell (p := ⟨(w.heap.size + 1), 2, none⟩) (by simp <;> omega) _)⟩)
end Go.Proofs.Ytipablcbkoedbaa

namespace Go.Proofs.Ytipablcbkoedbaa
open Go.RowKit

def ctErr (ks : List (Int × Int)) (err lo hi : Int) : Int := if ovErr ks err lo hi ≠ 0 then ovErr ks err lo hi else if (ovXs ks lo hi).all (whB ks) = false then 3 else 0
def ctR (ks : List (Int × Int)) (err lo hi : Int) : List (Int × Int) := if ctErr ks err lo hi = 0 then atL ks (ovXs ks lo hi) else []
def ctF (ks : List (Int × Int)) (err lo hi : Int) : Int := if ctErr ks err lo hi = 0 then err else 0
theorem ct_no {ks : List (Int × Int)} {err lo hi : Int} {e : Int} (h : ctErr ks err lo hi = e) (he : e ≠ 0) : ctR ks err lo hi = [] ∧ ctF ks err lo hi = 0 := by
  unfold ctR ctF; rw [h, if_neg he, if_neg he]; exact ⟨rfl, rfl⟩
theorem ov_len (ks : List (Int × Int)) (lo hi : Int) : (ovXs ks lo hi).length ≤ ks.length + 2 := by
  have h1 := cornerL_le lo hi [cv0 ks 0]
  have h2 := inXs_len lo hi ks
  unfold ovXs
  have h3 : (cornerXs lo hi [cv0 ks 0]).length = (inXs lo hi ks).length + 2 := by
    show (lo :: hi :: (inXs lo hi ks ++ [])).length = _
    simp
  omega
/-- The list of one curve (3) and the corners (4) while the region draws its order. -/
structure CtI (A : Option Addr) (n cap : Nat) (err : Int) (t : TypeId) (xs : List Int) (ls : Nat → Bool) (vs : Nat → Value) (v : World) : Prop where
  l3 : ls 3 = true → ls 4 = false → ∃ g, vs 3 = .slice (some ⟨g, 0, none⟩) 1 1 ∧ Blk v g t #[.slice A n cap, .int .i64 err]
  l4 : ls 4 = true → ls 5 = false → ∃ g l c, vs 4 = .slice (some ⟨g, 0, none⟩) l c ∧ xs.length = l ∧ Is v g 0 xs
  l5 : ls 5 = true → ls 4 = true
  l43 : ls 4 = true → ls 3 = true
section
variable {A : Option Addr} {n cap : Nat} {err : Int} {t : TypeId} {xs : List Int} {ls : Nat → Bool} {vs : Nat → Value} {v v' : World}
theorem CtI.below (h : CtI A n cap err t xs ls vs v) (k : Below v.heap.size v v') : CtI A n cap err t xs ls vs v' :=
  ⟨fun a b => by obtain ⟨g, e, hb⟩ := h.l3 a b; exact ⟨g, e, hb.below k⟩, fun a b => by obtain ⟨g, l, c, e, hl, hi⟩ := h.l4 a b; exact ⟨g, l, c, e, hl, hi.below hi.lt k⟩, h.l5, h.l43⟩
theorem CtI.up (h : CtI A n cap err t xs ls vs v) {q : Nat} (hq : 5 < q) (u : Value) : CtI A n cap err t xs (updB ls q) (upd vs q u) v := by
  have n3 : updB ls q 3 = ls 3 := upB_ne (by omega)
  have n4 : updB ls q 4 = ls 4 := upB_ne (by omega)
  have n5 : updB ls q 5 = ls 5 := upB_ne (by omega)
  have m3 : upd vs q u 3 = vs 3 := up_ne (by omega)
  have m4 : upd vs q u 4 = vs 4 := up_ne (by omega)
  constructor
  · rw [n3, n4, m3]; exact h.l3
  · rw [n4, n5, m4]; exact h.l4
  · rw [n4, n5]; exact h.l5
  · rw [n3, n4]; exact h.l43
theorem CtI.late (h : CtI A n cap err t xs ls vs v) (h5 : ls 5 = true) : CtI A n cap err t xs ls vs v' :=
  ⟨fun _ b => absurd (h.l5 h5) (by rw [b]; exact Bool.false_ne_true), fun _ b => absurd h5 (by rw [b]; exact Bool.false_ne_true), h.l5, h.l43⟩
theorem CtI.do3 (h : CtI A n cap err t xs ls vs v) (h4 : ls 4 = false) {g : Nat} (hb : Blk v g t #[.slice A n cap, .int .i64 err]) : CtI A n cap err t xs (updB ls 3) (upd vs 3 (.slice (some ⟨g, 0, none⟩) 1 1)) v := by
  have n4 : updB ls 3 4 = false := (upB_ne (by omega)).trans h4
  have n5 : updB ls 3 5 = false := (upB_ne (by omega)).trans (up_false h.l5 h4)
  constructor
  · exact fun _ _ => ⟨g, up_at, hb⟩
  · rw [n4]; exact nof
  · rw [n5]; exact nof
  · rw [n4]; exact nof
theorem CtI.do4 (h : CtI A n cap err t xs ls vs v) (h3 : ls 3 = true) (h4 : ls 4 = false) {g l c : Nat} (hl : xs.length = l) (hi : Is v' g 0 xs) : CtI A n cap err t xs (updB ls 4) (upd vs 4 (.slice (some ⟨g, 0, none⟩) l c)) v' := by
  have n5 : updB ls 4 5 = false := (upB_ne (by omega)).trans (up_false h.l5 h4)
  constructor
  · rw [upB_at]; exact fun _ a => Bool.noConfusion a
  · exact fun _ _ => ⟨g, l, c, up_at, hl, hi⟩
  · rw [n5]; exact nof
  · exact fun _ => (upB_ne (by omega)).trans h3
theorem CtI.l3E {K : Prop} (h : CtI A n cap err t xs ls vs v) (h3 : ls 3 = true) (h4 : ls 4 = false) (k : ∀ g, vs 3 = .slice (some ⟨g, 0, none⟩) 1 1 → Blk v g t #[.slice A n cap, .int .i64 err] → K) : K := by
  obtain ⟨g, e, hb⟩ := h.l3 h3 h4
  exact k g e hb
theorem CtI.l4E {K : Prop} (h : CtI A n cap err t xs ls vs v) (h3 : ls 4 = true) (h4 : ls 5 = false) (k : ∀ g l c, vs 4 = .slice (some ⟨g, 0, none⟩) l c → xs.length = l → Is v g 0 xs → K) : K := by
  obtain ⟨g, l, c, e, hl, hi⟩ := h.l4 h3 h4
  exact k g l c e hl hi
theorem CtI.do5 (h : CtI A n cap err t xs ls vs v) (h4 : ls 4 = true) (u : Value) : CtI A n cap err t xs (updB ls 5) (upd vs 5 u) v' := by
  have n4 : updB ls 5 4 = true := (upB_ne (by omega)).trans h4
  have n3 : updB ls 5 3 = true := (upB_ne (by omega)).trans (h.l43 h4)
  constructor
  · rw [n4]; exact fun _ a => Bool.noConfusion a
  · rw [upB_at]; exact fun _ a => Bool.noConfusion a
  · rw [n4]; exact fun _ => rfl
  · rw [n3]; exact fun _ => rfl
end
def ctI (A : Option Addr) (n cap : Nat) (err : Int) (b0 : Nat) (xs : List Int) (R : List (Int × Int)) (fe : Int) (ok : Bool) (ls : Nat → Bool) (vs : Nat → Value) (v : World) : Prop :=
  CtI A n cap err 24 xs ls vs v ∧ AtI 5 b0 24 R fe ok ls vs v

set_option maxRecDepth 100000 in
set_option maxHeartbeats 6400000 in
theorem Cut_any (A : Option Addr) (n cap : Nat) (err : Int) (ks : List (Int × Int)) (lo hi : Int) (w : World) (h : CAt w A n ks) (hm : n ≤ 9223372036854775807) :
    Calls Try.prog 68 #[vCv A n cap err, vSpan lo hi] w (cvOut w (ctR ks err lo hi) (ctF ks err lo hi) (ctErr ks err lo hi)) := by
  have hS := fun W (q : Nat) (hW : LAt W (some ⟨q, 0, none⟩) 1 [⟨A, n, cap, err, ks⟩]) => spanned_any (some ⟨q, 0, none⟩) 1 1 [⟨A, n, cap, err, ks⟩] lo hi W hW (by omega)
  have hSe : spanErr [⟨A, n, cap, err, ks⟩] lo hi = ovErr ks err lo hi := rfl
  rw [hSe] at hS
  have HA := Lib.hid h
  have hrd : ctErr ks err lo hi = if ovErr ks err lo hi ≠ 0 then ovErr ks err lo hi else if (ovXs ks lo hi).all (whB ks) = false then 3 else 0 := rfl
  have hrn : ∀ e, ctErr ks err lo hi = e → e ≠ 0 → ctR ks err lo hi = [] ∧ ctF ks err lo hi = 0 := fun e h0 h1 => ct_no h0 h1
  by_cases hz : ovErr ks err lo hi = 0
  case neg =>
    rw [if_pos hz] at hrd
    obtain ⟨hR, hFz⟩ := hrn _ hrd hz
    rw [hrd, hR, hFz]
    have hz1 : (ovErr ks err lo hi != 0) = true := by simpa using hz
    have HS := Lib.hid hS
    clear hrd hrn hR hFz h hz hS hSe
    generalize ovErr ks err lo hi = te at *
    generalize hW : ((w.alloc (.cells #[.slice A n cap, .int .i64 err] 24)).alloc (.cells #[.int .i64 lo, .int .i64 hi] 26)).alloc (.cells #[.slice none 0 0, .int .i64 0] 24) = W
    have B0 : Below w.heap.size w W := by rw [← hW]; exact ((((Below.refl w.heap.size w).alloc (Nat.le_refl _) _).alloc (by simp) _).alloc (by simp; omega) _)
    have x0_0 : Blk W w.heap.size 24 #[.slice A n cap, .int .i64 err] := by rw [← hW]; exact (((Blk.at_new _ _ rfl).alloc _).alloc _)
    have x1_0 : Blk W (w.heap.size + 1) 26 #[.int .i64 lo, .int .i64 hi] := by rw [← hW]; exact ((Blk.at_new _ _ (by simp)).alloc _)
    have r_0 : Blk W (w.heap.size + 2) 24 #[.slice none 0 0, .int .i64 0] := by rw [← hW]; exact (Blk.at_new _ _ (by simp))
    have HWE := Lib.hid hW
    clear hW
    have HLb := Lib.hid (fun q V (hV : Blk V q 24 #[.slice A n cap, .int .i64 err]) (hb : Below w.heap.size w V) => lat_one (cap := cap) hV (HA.out.below hb) hm)
    go_enter Try.func68, Try.ntmps68
    have B1 := B0
    have B1a := B1.alloc B1.size (.cells #[.slice A n cap, .int .i64 err] 24)
    go_wp2_with fail
    rw [HWE.out]
    refine (HS.out _ _ (HLb.out _ _ (Blk.at_new (g := w.heap.size + 1 + 1 + 1) _ _ (by rw [← HWE.out]; simp)) B1a)).mono ?_; rintro e w1 ⟨rfl, hb1⟩
    have x0_1 := (x0_0.alloc (.cells #[.slice A n cap, .int .i64 err] 24)).below hb1
    have x1_1 := (x1_0.alloc (.cells #[.slice A n cap, .int .i64 err] 24)).below hb1
    have r_1 := (r_0.alloc (.cells #[.slice A n cap, .int .i64 err] 24)).below hb1
    clear x0_0 x1_0 r_0
    have x0_1c0 := x0_1.cell 0
    have x0_1c1 := x0_1.cell 1
    simp only [List.getElem?_toArray, List.getElem?_cons_zero, List.getElem?_cons_succ] at x0_1c0 x0_1c1
    have x0_1l := x0_1.lt
    have x1_1c0 := x1_1.cell 0
    have x1_1c1 := x1_1.cell 1
    simp only [List.getElem?_toArray, List.getElem?_cons_zero, List.getElem?_cons_succ] at x1_1c0 x1_1c1
    have x1_1l := x1_1.lt
    have r_1c0 := r_1.cell 0
    have r_1c1 := r_1.cell 1
    simp only [List.getElem?_toArray, List.getElem?_cons_zero, List.getElem?_cons_succ] at r_1c0 r_1c1
    have r_1l := r_1.lt
    have hr := r_1
    have hf0 := r_1.frozen 0
    have hf1 := r_1.frozen 1
    have hl := r_1.lt
    have BZ := B1a.trans (hb1.mono B1a.size)
    go_wp2
    have hF := ((hr.set_ 0 (.slice none 0 0)).set_ 1 (.int .i64 0))
    have k0 := hF.cell 0
    have k1 := hF.cell 1
    simp only [List.setIfInBounds_toArray, List.set_cons_zero, List.set_cons_succ, List.getElem?_toArray, List.getElem?_cons_zero, List.getElem?_cons_succ] at k0 k1
    exact bodyPost_ret (v := .tuple #[.agg #[.slice none 0 0, .int .i64 0], .int .i64 te]) (by simp [results, Try.results68, go_sem, k0, k1]) rfl (cvOut_nil rfl ((BZ.setCell (p := ⟨(w.heap.size + 2), 0, none⟩) (by simp <;> omega) _).setCell (p := ⟨(w.heap.size + 2), 1, none⟩) (by simp <;> omega) _))
  rw [if_neg (by simp [hz])] at hrd
  rw [hz] at hS
  have HS := Lib.hid hS
  obtain ⟨hv, he1, he2, hlh, hlo, hhi⟩ := ov_valid hz
  have hpos := hv.pos
  have hle := hv.le
  have hn := h.len
  obtain ⟨b, off, rfl, hk⟩ := h.at_ (by omega)
  have HK := Lib.hid hk
  have hbl := hk.lt
  have hAll : AllValid [⟨some ⟨b, off, none⟩, n, cap, err, ks⟩] := by
    intro i hi
    have : i = 0 := by simpa using hi
    subst this
    exact ⟨hv, he1, he2⟩
  have hTl : (cornerXs lo hi [⟨some ⟨b, off, none⟩, n, cap, err, ks⟩]).length ≤ 1000000 := by
    have := inXs_len lo hi ks
    simp [cornerXs, inXss]
    omega
  have hC := fun V (g : Nat) (hV : LAt V (some ⟨g, 0, none⟩) 1 [⟨some ⟨b, off, none⟩, n, cap, err, ks⟩]) => corners_any (some ⟨g, 0, none⟩) 1 1 [⟨some ⟨b, off, none⟩, n, cap, err, ks⟩] lo hi V hV (by omega) hAll hTl
  have hXe : cornerL lo hi [⟨some ⟨b, off, none⟩, n, cap, err, ks⟩] = ovXs ks lo hi := rfl
  rw [hXe] at hC
  have HCo := Lib.hid hC
  have hXl : (ovXs ks lo hi).length ≤ 42 := by have := ov_len ks lo hi; omega
  have hAt := (fun W (q qc l : Nat) (hW : Kn W b off ks) (hI : Is W q 0 (ovXs ks lo hi)) (hl : (ovXs ks lo hi).length = l) (hl2 : l ≤ 1000) => at_any b off cap err ks q 0 l qc (ovXs ks lo hi) W hW hv hI hl hl2)
  simp only [hn] at hAt
  have HAt := Lib.hid hAt
  have HRd := Lib.hid hrd
  have HRn := Lib.hid hrn
  have HR0 := Lib.hid (show ctErr ks err lo hi = 0 → ctR ks err lo hi = atL ks (ovXs ks lo hi) ∧ ctF ks err lo hi = err from fun h => ⟨if_pos h, if_pos h⟩)
  have HXl := Lib.hid hXl
  have hn0 : 0 < n := by omega
  clear hAt hrd hrn h hz hS hSe hk hn hpos hle hv hAll hTl hC hXe hXl he1 he2 hlh hlo hhi
  generalize ctErr ks err lo hi = re at *
  generalize ctR ks err lo hi = rr at *
  generalize ctF ks err lo hi = rf at *
  generalize ovXs ks lo hi = zs at *
  generalize hok : zs.all (whB ks) = ok at *
  have HOk := Lib.hid hok
  clear hok
  generalize hRl : (if ok = true then atL ks zs else []) = R at *
  have HRl := Lib.hid hRl
  generalize hfe : (if ok = true then err else 0) = fe at *
  have HFe := Lib.hid hfe
  clear hRl hfe
  generalize hW : ((w.alloc (.cells #[.slice (some ⟨b, off, none⟩) n cap, .int .i64 err] 24)).alloc (.cells #[.int .i64 lo, .int .i64 hi] 26)).alloc (.cells #[.slice none 0 0, .int .i64 0] 24) = W
  have B0 : Below w.heap.size w W := by rw [← hW]; exact ((((Below.refl w.heap.size w).alloc (Nat.le_refl _) _).alloc (by simp) _).alloc (by simp; omega) _)
  have x0_0 : Blk W w.heap.size 24 #[.slice (some ⟨b, off, none⟩) n cap, .int .i64 err] := by rw [← hW]; exact (((Blk.at_new _ _ rfl).alloc _).alloc _)
  have x1_0 : Blk W (w.heap.size + 1) 26 #[.int .i64 lo, .int .i64 hi] := by rw [← hW]; exact ((Blk.at_new _ _ (by simp)).alloc _)
  have r_0 : Blk W (w.heap.size + 2) 24 #[.slice none 0 0, .int .i64 0] := by rw [← hW]; exact (Blk.at_new _ _ (by simp))
  have HWE := Lib.hid hW
  clear hW
  have HLb := Lib.hid (fun q V (hV : Blk V q 24 #[.slice (some ⟨b, off, none⟩) n cap, .int .i64 err]) (hb : Below w.heap.size w V) => lat_one (cap := cap) hV (HA.out.below hb) hm)
  go_enter Try.func68, Try.ntmps68
  have B1 := B0
  have B1a := B1.alloc B1.size (.cells #[.slice (some ⟨b, off, none⟩) n cap, .int .i64 err] 24)
  go_wp2_with fail
  rw [HWE.out]
  refine (HS.out _ _ (HLb.out _ _ (Blk.at_new (g := w.heap.size + 1 + 1 + 1) _ _ (by rw [← HWE.out]; simp)) B1a)).mono ?_; rintro e w1 ⟨rfl, hb1⟩
  have x0_1 := (x0_0.alloc (.cells #[.slice (some ⟨b, off, none⟩) n cap, .int .i64 err] 24)).below hb1
  have x1_1 := (x1_0.alloc (.cells #[.slice (some ⟨b, off, none⟩) n cap, .int .i64 err] 24)).below hb1
  have r_1 := (r_0.alloc (.cells #[.slice (some ⟨b, off, none⟩) n cap, .int .i64 err] 24)).below hb1
  clear x0_0 x1_0 r_0
  have x0_1c0 := x0_1.cell 0
  have x0_1c1 := x0_1.cell 1
  simp only [List.getElem?_toArray, List.getElem?_cons_zero, List.getElem?_cons_succ] at x0_1c0 x0_1c1
  have x0_1l := x0_1.lt
  have x1_1c0 := x1_1.cell 0
  have x1_1c1 := x1_1.cell 1
  simp only [List.getElem?_toArray, List.getElem?_cons_zero, List.getElem?_cons_succ] at x1_1c0 x1_1c1
  have x1_1l := x1_1.lt
  have r_1c0 := r_1.cell 0
  have r_1c1 := r_1.cell 1
  simp only [List.getElem?_toArray, List.getElem?_cons_zero, List.getElem?_cons_succ] at r_1c0 r_1c1
  have r_1l := r_1.lt
  go_upto_region 4 with fail
  have hrl : w.heap.size + 2 < w1.heap.size := r_1l
  refine wp_region_preC 11 [(3, 21), (4, 22), (5, 23), (6, 17), (7, 24), (8, 25), (9, 7), (10, 1000)] (fun v' => Below w.heap.size w v' ∧ w1.heap.size ≤ v'.heap.size ∧ Blk v' w.heap.size 24 #[.slice (some ⟨b, off, none⟩) n cap, .int .i64 err] ∧ Blk v' (w.heap.size + 1) 26 #[.int .i64 lo, .int .i64 hi] ∧ Blk v' (w.heap.size + 2) 24 #[.slice none 0 0, .int .i64 0]) (ctI (some ⟨b, off, none⟩) n cap err w1.heap.size zs R fe ok) (by kernel_rfl) (by kernel_rfl) ?hw ?hC ?h0 ?hP ?ex
  case hw => exact ⟨B1a.trans (hb1.mono B1a.size), Nat.le_refl _, x0_1, x1_1, r_1⟩
  case hC =>
    rintro v1 v2 ⟨h0, hb0, qx0, qx1, qr⟩ kk
    exact ⟨h0.trans (kk.mono h0.size), Nat.le_trans hb0 kk.size, qx0.below kk, qx1.below kk, qr.below kk⟩
  case h0 =>
    intro v' hv'
    exact ⟨⟨nof, nof, nof, nof⟩, AtI.start⟩
  case hP => exact fun ls vs v v' _ h kk => ⟨h.1.below kk, h.2.below kk⟩
  case ex =>
    apply Exists.intro
    refine ⟨?walk, ?loud⟩
    case walk =>
      rintro V ⟨h0, hb0, qx0, qx1, qr⟩
      have x0_vc0 := qx0.cell 0
      have x0_vc1 := qx0.cell 1
      simp only [List.getElem?_toArray, List.getElem?_cons_zero, List.getElem?_cons_succ] at x0_vc0 x0_vc1
      have x0_vl := qx0.lt
      have x1_vc0 := qx1.cell 0
      have x1_vc1 := qx1.cell 1
      simp only [List.getElem?_toArray, List.getElem?_cons_zero, List.getElem?_cons_succ] at x1_vc0 x1_vc1
      have x1_vl := qx1.lt
      have r_vc0 := qr.cell 0
      have r_vc1 := qr.cell 1
      simp only [List.getElem?_toArray, List.getElem?_cons_zero, List.getElem?_cons_succ] at r_vc0 r_vc1
      have r_vl := qr.lt
      obtain ⟨xc, xf⟩ := xcell (W := V)
      simp only [List.take_succ_cons, List.take_zero, qOf, isLoud, List.any_cons, List.any_nil, Nat.reduceBEq, Bool.or_false, Bool.or_true, Nat.reduceAdd, Bool.false_eq_true, if_true, if_false, beq_self_eq_true, Nat.zero_add]
      repeat (first | go_big_quiet_step (fail) | quiet_step (fail))
      exact wpQuiet_nil rfl
    case loud =>
      simp only [List.drop_succ_cons, List.drop_zero]
      refine ⟨?_, ?_⟩
      · rintro p hp vs V ⟨h0, hb0, qx0, qx1, qr⟩ ls hI hls hw o ho
        simp only [List.mem_cons, List.not_mem_nil, or_false] at hp
        rcases hp with rfl | rfl | rfl | rfl | rfl | rfl | rfl | rfl
        · have hs : ls 3 = false := hls
          have h34 : ls 4 = false := up_false hI.1.l43 hs
          simp only [List.getElem?_cons_succ, List.getElem?_cons_zero, Option.some.injEq] at ho
          subst ho
          simp [loudAt, loudUpon, go_sem, execOp, putsL, Act.put]
          exact ⟨⟨h0.alloc h0.size _, by have := hb0; omega, qx0.alloc _, qx1.alloc _, qr.alloc _⟩, (hI.1.below ((Below.refl V.heap.size V).alloc (Nat.le_refl _) _)).do3 h34 (Blk.new _ _ _), (hI.2.below ((Below.refl V.heap.size V).alloc (Nat.le_refl _) _)).pre (by omega)⟩
        · have hs : ls 4 = false := hls
          have h03 := hw (3, 21) (by simp) (by kernel_rfl)
          refine CtI.l3E hI.1 h03 hs fun g3 e3 hb3 => ?_
          simp only [List.getElem?_cons_succ, List.getElem?_cons_zero, Option.some.injEq] at ho
          subst ho
          simp [loudAt, loudUpon, go_sem, putsL, Act.put, e3]
          refine (HCo.out V g3 (lat_one (cap := cap) hb3 (HA.out.below h0) hm)).mono ?_
          rintro e w41 ⟨⟨g4, c4, rfl, ho4⟩, hb41⟩
          exact ⟨_, rfl, ⟨h0.trans (hb41.mono h0.size), Nat.le_trans hb0 hb41.size, qx0.below hb41, qx1.below hb41, qr.below hb41⟩, hI.1.do4 h03 hs rfl (IAt_of_row rfl ho4), (hI.2.below hb41).pre (by omega)⟩
        · have hs : ls 5 = false := hls
          have h04 := hw (4, 22) (by simp) (by kernel_rfl)
          refine CtI.l4E hI.1 h04 hs fun g4 l4 c4 e4 hl4 hi4 => ?_
          simp only [List.getElem?_cons_succ, List.getElem?_cons_zero, Option.some.injEq] at ho
          subst ho
          simp [loudAt, loudUpon, go_sem, putsL, Act.put, e4]
          with_reducible refine (HAt.out V g4 c4 _ (HK.out.below h0) hi4 hl4 (by have := HXl.out; omega)).mono ?_
          rintro e w42 ⟨A5, n5, cap5, rfl, hc5, hn5, hf5, hb5⟩
          rw [HOk.out, HRl.out] at hc5
          rw [HOk.out, HFe.out]
          exact ⟨_, rfl, ⟨h0.trans (hb5.mono h0.size), Nat.le_trans hb0 hb5.size, qx0.below hb5, qx1.below hb5, qr.below hb5⟩, hI.1.do5 h04 _, hI.2.did hs hc5 hn5 hf5 hb0 hb5⟩
        · have h05 := hw (5, 23) (by simp) (by kernel_rfl)
          simp only [List.getElem?_cons_succ, List.getElem?_cons_zero, Option.some.injEq] at ho
          subst ho
          simp [loudAt, loudUpon, go_sem, execOp, putsL, Act.put]
          exact ⟨⟨h0, hb0, qx0, qx1, qr⟩, hI.1.up (by omega) _, hI.2.moved h05⟩
        · have h06 := hw (6, 17) (by simp) (by kernel_rfl)
          refine AtI.part0E (p := 5) hI.2 h06 fun A5 n5 cap5 e4 h9 => ?_
          replace e4 : vs 6 = .tuple #[vCv A5 n5 cap5 fe, .bool ok] := e4
          have h9' := Lib.hid h9
          clear h9
          simp only [List.getElem?_cons_succ, List.getElem?_cons_zero, Option.some.injEq] at ho
          subst ho
          simp [loudAt, loudUpon, go_sem, execOp, putsL, Act.put, e4]
          exact ⟨⟨h0, hb0, qx0, qx1, qr⟩, hI.1.up (by omega) _, h9'.out⟩
        · have h06 := hw (6, 17) (by simp) (by kernel_rfl)
          refine AtI.part1E (p := 5) hI.2 h06 fun A5 n5 cap5 e4 h9 => ?_
          replace e4 : vs 6 = .tuple #[vCv A5 n5 cap5 fe, .bool ok] := e4
          have h9' := Lib.hid h9
          clear h9
          simp only [List.getElem?_cons_succ, List.getElem?_cons_zero, Option.some.injEq] at ho
          subst ho
          simp [loudAt, loudUpon, go_sem, execOp, putsL, Act.put, e4]
          exact ⟨⟨h0, hb0, qx0, qx1, qr⟩, hI.1.up (by omega) _, h9'.out⟩
        · have hs : ls 9 = false := hls
          simp only [List.getElem?_cons_succ, List.getElem?_cons_zero, Option.some.injEq] at ho
          subst ho
          simp [loudAt, loudUpon, go_sem, execOp]
          exact ⟨⟨h0.alloc h0.size _, by have := hb0; omega, qx0.alloc _, qx1.alloc _, qr.alloc _⟩, (hI.1.below ((Below.refl V.heap.size V).alloc (Nat.le_refl _) _)).up (by omega) _, hI.2.laid hs hb0⟩
        · have hs : ls 10 = false := hls
          have h07 := hw (7, 24) (by simp) (by kernel_rfl)
          have h09 := hw (9, 7) (by simp) (by kernel_rfl)
          have h05 : ls 5 = true := hI.2.l1 (hI.2.l2 h07)
          refine AtI.storedE (p := 5) hI.2 hs h07 h09 fun A5 n5 cap5 g5 e5 e7 hg5 hl5 hb5 h9 => ?_
          replace e5 : vs 7 = vCv A5 n5 cap5 fe := e5
          replace e7 : vs 9 = .pointer (some ⟨g5, 0, none⟩) := e7
          have h9' := Lib.hid h9
          clear h9
          have c0 := hb5.cell 0
          have c1 := hb5.cell 1
          have f0 := hb5.frozen 0
          have f1 := hb5.frozen 1
          simp only [List.getElem?_toArray, List.getElem?_cons_zero, List.getElem?_cons_succ] at c0 c1
          simp only [List.getElem?_cons_succ, List.getElem?_cons_zero, Option.some.injEq] at ho
          subst ho
          simp [loudAt, loudUpon, go_sem, execOp, putsL, Act.put, e5, e7, c0, c1, f0, f1]
          exact ⟨⟨((h0.setCell (p := ⟨g5, 0, none⟩) (by simp; omega) _).setCell (p := ⟨g5, 1, none⟩) (by simp; omega) _), by simpa [World.setCell] using hb0, (qx0.far (p := ⟨g5, 0, none⟩) (by simp; omega) _).far (p := ⟨g5, 1, none⟩) (by simp; omega) _, (qx1.far (p := ⟨g5, 0, none⟩) (by simp; omega) _).far (p := ⟨g5, 1, none⟩) (by simp; omega) _, (qr.far (p := ⟨g5, 0, none⟩) (by simp; omega) _).far (p := ⟨g5, 1, none⟩) (by simp; omega) _⟩, (hI.1.late h05).up (by omega) _, h9'.out _⟩
      · rintro ls vs V50 ⟨B50, hbase50, x0_50, x1_50, r_50⟩ hI hls
        refine AtI.doneE (p := 5) hI.2 (hls (8, 25) (by simp)) (hls (10, 1000) (by simp)) fun A5 n5 cap5 g5 e3 e4 e5 e6 e7 hc5 hn5 hf5 hg5 hl5 o_50 => ?_
        replace e4 : vs 6 = .tuple #[vCv A5 n5 cap5 fe, .bool ok] := e4
        replace e5 : vs 7 = vCv A5 n5 cap5 fe := e5
        replace e6 : vs 8 = .bool ok := e6
        replace e7 : vs 9 = .pointer (some ⟨g5, 0, none⟩) := e7
        clear hI hls
        simp only [putsL, List.foldl_cons, List.foldl_nil, Act.put, e3, e4, e5, e6, e7, List.setIfInBounds_toArray, List.set_cons_succ, List.set_cons_zero, List.set_nil]
        clear e3 e4 e5 e6 e7
        have HC5 := Lib.hid hc5
        have HF5 := Lib.hid hf5
        clear hc5 hf5
        generalize vs 10 = v10 at *
        generalize vs 3 = v3 at *
        generalize vs 4 = v4 at *
        cases ok with
        | false =>
          have x0_50c0 := x0_50.cell 0
          have x0_50c1 := x0_50.cell 1
          simp only [List.getElem?_toArray, List.getElem?_cons_zero, List.getElem?_cons_succ] at x0_50c0 x0_50c1
          have x0_50l := x0_50.lt
          have x1_50c0 := x1_50.cell 0
          have x1_50c1 := x1_50.cell 1
          simp only [List.getElem?_toArray, List.getElem?_cons_zero, List.getElem?_cons_succ] at x1_50c0 x1_50c1
          have x1_50l := x1_50.lt
          have r_50c0 := r_50.cell 0
          have r_50c1 := r_50.cell 1
          simp only [List.getElem?_toArray, List.getElem?_cons_zero, List.getElem?_cons_succ] at r_50c0 r_50c1
          have r_50l := r_50.lt
          have o_50c0 := o_50.cell 0
          have o_50c1 := o_50.cell 1
          simp only [List.getElem?_toArray, List.getElem?_cons_zero, List.getElem?_cons_succ] at o_50c0 o_50c1
          have o_50l := o_50.lt
          have hre : re = 3 := by have := HRd.out; simpa using this
          obtain ⟨hR, hFz⟩ := HRn.out _ hre (by omega)
          have HRe := Lib.hid hre
          have HRR := Lib.hid hR
          have HFz := Lib.hid hFz
          clear hre hR hFz
          have hr := r_50
          have hf0 := r_50.frozen 0
          have hf1 := r_50.frozen 1
          have hl := r_50.lt
          have BZ := B50
          go_wp2
          have hF := ((hr.set_ 0 (.slice none 0 0)).set_ 1 (.int .i64 0))
          have k0 := hF.cell 0
          have k1 := hF.cell 1
          simp only [List.setIfInBounds_toArray, List.set_cons_zero, List.set_cons_succ, List.getElem?_toArray, List.getElem?_cons_zero, List.getElem?_cons_succ] at k0 k1
          exact bodyPost_ret (v := .tuple #[.agg #[.slice none 0 0, .int .i64 0], .int .i64 3]) (by simp [results, Try.results68, go_sem, k0, k1]) rfl (by rw [HRR.out, HFz.out, HRe.out]; exact cvOut_nil rfl ((BZ.setCell (p := ⟨(w.heap.size + 2), 0, none⟩) (by simp <;> omega) _).setCell (p := ⟨(w.heap.size + 2), 1, none⟩) (by simp <;> omega) _))
        | true =>
          have x0_50c0 := x0_50.cell 0
          have x0_50c1 := x0_50.cell 1
          simp only [List.getElem?_toArray, List.getElem?_cons_zero, List.getElem?_cons_succ] at x0_50c0 x0_50c1
          have x0_50l := x0_50.lt
          have x1_50c0 := x1_50.cell 0
          have x1_50c1 := x1_50.cell 1
          simp only [List.getElem?_toArray, List.getElem?_cons_zero, List.getElem?_cons_succ] at x1_50c0 x1_50c1
          have x1_50l := x1_50.lt
          have r_50c0 := r_50.cell 0
          have r_50c1 := r_50.cell 1
          simp only [List.getElem?_toArray, List.getElem?_cons_zero, List.getElem?_cons_succ] at r_50c0 r_50c1
          have r_50l := r_50.lt
          have o_50c0 := o_50.cell 0
          have o_50c1 := o_50.cell 1
          simp only [List.getElem?_toArray, List.getElem?_cons_zero, List.getElem?_cons_succ] at o_50c0 o_50c1
          have o_50l := o_50.lt
          have hre : re = 0 := by have := HRd.out; simpa using this
          obtain ⟨hR, hFz⟩ := HR0.out hre
          have HRe := Lib.hid hre
          have HRR := Lib.hid (show rr = R from by rw [hR, ← HRl.out, if_pos rfl])
          have HFz := Lib.hid (show rf = fe from by rw [hFz, ← HFe.out, if_pos rfl])
          clear hre hR hFz
          have hr := r_50
          have hf0 := r_50.frozen 0
          have hf1 := r_50.frozen 1
          have hl := r_50.lt
          have BZ := B50
          go_wp2
          have hF := ((hr.set_ 0 ((.slice A5 n5 cap5))).set_ 1 ((.int .i64 fe)))
          have k0 := hF.cell 0
          have k1 := hF.cell 1
          simp only [List.setIfInBounds_toArray, List.set_cons_zero, List.set_cons_succ, List.getElem?_toArray, List.getElem?_cons_zero, List.getElem?_cons_succ] at k0 k1
          exact bodyPost_ret (v := .tuple #[.agg #[(.slice A5 n5 cap5), (.int .i64 fe)], .int .i64 0]) (by simp [results, Try.results68, go_sem, k0, k1]) rfl (by rw [HRR.out, HFz.out, HRe.out]; exact ⟨A5, n5, cap5, rfl, CAt.sets HC5.out (r := (w.heap.size + 2)) (fun a h => by have := HF5.out a h; omega) _ _, hn5, (fun a h => by have := HF5.out a h; omega), ((BZ.setCell (p := ⟨(w.heap.size + 2), 0, none⟩) (by simp <;> omega) _).setCell (p := ⟨(w.heap.size + 2), 1, none⟩) (by simp <;> omega) _)⟩)
end Go.Proofs.Ytipablcbkoedbaa

namespace Go.Proofs.Ytipablcbkoedbaa
open Go.RowKit

theorem ct_all {ks : List (Int × Int)} (hv : Valid ks) (lo hi : Int) : (ovXs ks lo hi).all (whB ks) = (whB ks lo && whB ks hi) := by
  have hm : ∀ x, x ∈ ovXs ks lo hi ↔ x = lo ∨ x = hi ∨ x ∈ inXs lo hi ks := fun x => by
    unfold ovXs cornerL
    rw [sort_mem]
    show x ∈ lo :: hi :: (inXs lo hi ks ++ []) ↔ _
    simp
  rw [Bool.eq_iff_iff, List.all_eq_true, Bool.and_eq_true]
  constructor
  · intro h
    exact ⟨h lo ((hm lo).2 (.inl rfl)), h hi ((hm hi).2 (.inr (.inl rfl)))⟩
  · rintro ⟨h1, h2⟩ x hx
    rcases (hm x).1 hx with rfl | rfl | h
    · exact h1
    · exact h2
    · rw [inL_xs] at h
      obtain ⟨z, hz, rfl⟩ := List.mem_map.1 h
      exact wh_knot hv (List.mem_map_of_mem (List.mem_filter.1 hz).1)
theorem inL_take (lo hi : Int) (ks : List (Int × Int)) {k : Nat} (hk : k < ks.length) : inL lo hi (ks.take (k + 1)) = if lo ≤ kx ks k ∧ kx ks k ≤ hi then inL lo hi (ks.take k) ++ [(kx ks k, ky ks k)] else inL lo hi (ks.take k) := by
  rw [List.take_succ_eq_append_getElem hk]
  unfold inL
  rw [List.filter_append]
  have e : ks[k] = (kx ks k, ky ks k) := by rw [← (knot_get hk).1, ← (knot_get hk).2]
  rw [e]
  by_cases h : lo ≤ kx ks k ∧ kx ks k ≤ hi
  · rw [if_pos h, List.filter_cons_of_pos (by simpa using h)]; rfl
  · rw [if_neg h, List.filter_cons_of_neg (by simpa using h)]; simp
theorem putL_pos (l : List (Int × Int)) (k : Int × Int) : 0 < (putL l k).length := by
  cases l with
  | nil => simp [putL]
  | cons q l =>
    unfold putL
    split
    · simp
    · split <;> simp
theorem put_row {W : World} {base : Nat} {A : Option Addr} {t c : Nat} {zs : List (Int × Int)} (x y : Int) (h : W.ownsRow base 108 2 (.slice A t c) t (zs.flatMap encF)) (hl : zs.length = t) (h0 : t = 0 → A = none ∧ c = 0) (hm : t ≤ 1000) :
    Calls Try.prog 130 #[.slice A t c, .agg #[.int .i64 x, .int .i64 y]] W (ptOut W A (putL zs (x, y))) := by
  rcases Nat.eq_zero_or_pos t with e | e
  · obtain ⟨rfl, rfl⟩ := h0 e
    subst e
    have hz : zs = [] := List.eq_nil_of_length_eq_zero hl
    subst hz
    exact put_nil x y W
  · obtain ⟨g, cap, hv⟩ := Joins.ownsRow_form h e
    have e2 : A = some ⟨g, 0, none⟩ ∧ c = cap := by simpa using hv
    obtain ⟨rfl, rfl⟩ := e2
    refine put_any g 0 t c zs x y W (Kn_of_row hl h) hl ?_ hm e
    rcases h.2 with ⟨e, _⟩ | ⟨g', cap', cur, e, _, _, hc, _⟩
    · cases e
    · have e2 : c = cap' := by simp at e; exact e.2
      rw [e2]; exact hc

set_option maxRecDepth 100000 in
set_option maxHeartbeats 6400000 in
theorem RCut_any (A : Option Addr) (n cap : Nat) (err : Int) (ks : List (Int × Int)) (lo hi : Int) (w : World) (h : CAt w A n ks) (hm : n ≤ 9223372036854775807) :
    Calls Try.prog 69 #[vCv A n cap err, vSpan lo hi] w (cvdOut w (ctR ks err lo hi) (ctF ks err lo hi) (ctErr ks err lo hi)) := by
  have hS := fun W (q : Nat) (hW : LAt W (some ⟨q, 0, none⟩) 1 [⟨A, n, cap, err, ks⟩]) => Rover_any (some ⟨q, 0, none⟩) 1 1 [⟨A, n, cap, err, ks⟩] lo hi W hW (by omega) (by omega)
  have hSe : spanErr [⟨A, n, cap, err, ks⟩] lo hi = ovErr ks err lo hi := rfl
  rw [hSe] at hS
  have HA := Lib.hid h
  have hrd : ctErr ks err lo hi = if ovErr ks err lo hi ≠ 0 then ovErr ks err lo hi else if (ovXs ks lo hi).all (whB ks) = false then 3 else 0 := rfl
  have hrn : ∀ e, ctErr ks err lo hi = e → e ≠ 0 → ctR ks err lo hi = [] ∧ ctF ks err lo hi = 0 := fun e h0 h1 => ct_no h0 h1
  by_cases hz : ovErr ks err lo hi = 0
  case neg =>
    rw [if_pos hz] at hrd
    obtain ⟨hR, hFz⟩ := hrn _ hrd hz
    rw [hrd, hR, hFz]
    have hz1 : (ovErr ks err lo hi != 0) = true := by simpa using hz
    have HS := Lib.hid hS
    clear hrd hrn hR hFz h hz hS hSe
    generalize ovErr ks err lo hi = te at *
    generalize hW : ((w.alloc (.cells #[.slice A n cap, .int .i64 err] 24)).alloc (.cells #[.int .i64 lo, .int .i64 hi] 26)).alloc (.cells #[.slice none 0 0, .int .i64 0, .int .i64 0] 78) = W
    have B0 : Below w.heap.size w W := by rw [← hW]; exact ((((Below.refl w.heap.size w).alloc (Nat.le_refl _) _).alloc (by simp) _).alloc (by simp; omega) _)
    have x0_0 : Blk W w.heap.size 24 #[.slice A n cap, .int .i64 err] := by rw [← hW]; exact (((Blk.at_new _ _ rfl).alloc _).alloc _)
    have x1_0 : Blk W (w.heap.size + 1) 26 #[.int .i64 lo, .int .i64 hi] := by rw [← hW]; exact ((Blk.at_new _ _ (by simp)).alloc _)
    have r_0 : Blk W (w.heap.size + 2) 78 #[.slice none 0 0, .int .i64 0, .int .i64 0] := by rw [← hW]; exact (Blk.at_new _ _ (by simp))
    have HWE := Lib.hid hW
    clear hW
    have HLb := Lib.hid (fun q V (hV : Blk V q 24 #[.slice A n cap, .int .i64 err]) (hb : Below w.heap.size w V) => lat_one (cap := cap) hV (HA.out.below hb) hm)
    go_enter Try.func69, Try.ntmps69
    have B1 := B0
    have B1a := B1.alloc B1.size (.cells #[.slice A n cap, .int .i64 err] 24)
    go_wp2_with fail
    rw [HWE.out]
    refine (HS.out _ _ (HLb.out _ _ (Blk.at_new (g := w.heap.size + 1 + 1 + 1) _ _ (by rw [← HWE.out]; simp)) B1a)).mono ?_; rintro e w1 ⟨rfl, hb1⟩
    have x0_1 := (x0_0.alloc (.cells #[.slice A n cap, .int .i64 err] 24)).below hb1
    have x1_1 := (x1_0.alloc (.cells #[.slice A n cap, .int .i64 err] 24)).below hb1
    have r_1 := (r_0.alloc (.cells #[.slice A n cap, .int .i64 err] 24)).below hb1
    clear x0_0 x1_0 r_0
    have x0_1c0 := x0_1.cell 0
    have x0_1c1 := x0_1.cell 1
    simp only [List.getElem?_toArray, List.getElem?_cons_zero, List.getElem?_cons_succ] at x0_1c0 x0_1c1
    have x0_1l := x0_1.lt
    have x1_1c0 := x1_1.cell 0
    have x1_1c1 := x1_1.cell 1
    simp only [List.getElem?_toArray, List.getElem?_cons_zero, List.getElem?_cons_succ] at x1_1c0 x1_1c1
    have x1_1l := x1_1.lt
    have r_1c0 := r_1.cell 0
    have r_1c1 := r_1.cell 1
    have r_1c2 := r_1.cell 2
    simp only [List.getElem?_toArray, List.getElem?_cons_zero, List.getElem?_cons_succ] at r_1c0 r_1c1 r_1c2
    have r_1l := r_1.lt
    have hr := r_1
    have hf0 := r_1.frozen 0
    have hf1 := r_1.frozen 1
    have hf2 := r_1.frozen 2
    have hl := r_1.lt
    have BZ := B1a.trans (hb1.mono B1a.size)
    go_wp2
    have hF := (((hr.set_ 0 (.slice none 0 0)).set_ 1 (.int .i64 0)).set_ 2 (.int .i64 te))
    have k0 := hF.cell 0
    have k1 := hF.cell 1
    have k2 := hF.cell 2
    simp only [List.setIfInBounds_toArray, List.set_cons_zero, List.set_cons_succ, List.getElem?_toArray, List.getElem?_cons_zero, List.getElem?_cons_succ] at k0 k1 k2
    exact bodyPost_ret (v := .agg #[.slice none 0 0, .int .i64 0, .int .i64 te]) (by simp [results, Try.results69, go_sem, k0, k1, k2]) rfl (cvdOut_nil rfl (((BZ.setCell (p := ⟨(w.heap.size + 2), 0, none⟩) (by simp <;> omega) _).setCell (p := ⟨(w.heap.size + 2), 1, none⟩) (by simp <;> omega) _).setCell (p := ⟨(w.heap.size + 2), 2, none⟩) (by simp <;> omega) _))
  rw [if_neg (by simp [hz])] at hrd
  rw [hz] at hS
  have HS := Lib.hid hS
  obtain ⟨hv, he1, he2, hlh, hlo, hhi⟩ := ov_valid hz
  have hpos := hv.pos
  have hle := hv.le
  have hn := h.len
  obtain ⟨b, off, rfl, hk⟩ := h.at_ (by omega)
  have HK := Lib.hid hk
  have hbl := hk.lt
  rw [ct_all hv] at hrd
  have hce := cut_eq hv lo hi (cv0 ks 0) rfl
  have HR0 := Lib.hid (show ctErr ks err lo hi = 0 → whB ks lo = true → whB ks hi = true → ctR ks err lo hi = putL (putL (inL lo hi ks) (lo, whY ks lo)) (hi, whY ks hi) ∧ ctF ks err lo hi = err from fun h h1 h2 => ⟨by
    rw [(wh_yes h1).2, (wh_yes h2).2]
    exact (if_pos h).trans hce.symm, if_pos h⟩)
  have hW0 := fun x W (hW : Kn W b off ks) => Rwhole_any b off cap err ks x W hW hv
  rw [hn] at hW0
  have HWl := Lib.hid (hW0 lo)
  have HWh := Lib.hid (hW0 hi)
  have HKb := Lib.hid (show ∀ k, k < n → (0 ≤ kx ks k ∧ kx ks k ≤ 2000) ∧ -65536 ≤ ky ks k ∧ ky ks k ≤ 65536 from fun k hk => ⟨hv.x0 k (by omega), hv.y0 k (by omega)⟩)
  generalize hS' : (fun k => inL lo hi (ks.take k)) = S at *
  have HS0 := Lib.hid (show S 0 = [] by rw [← hS']; rfl)
  have HSn := Lib.hid (show S n = inL lo hi ks by rw [← hS']; show inL lo hi (ks.take n) = _; rw [← hn, List.take_length])
  have HSs := Lib.hid (show ∀ k, k < n → S (k + 1) = if lo ≤ kx ks k ∧ kx ks k ≤ hi then S k ++ [(kx ks k, ky ks k)] else S k by rw [← hS']; exact fun k hk => inL_take lo hi ks (by omega))
  have HSl := Lib.hid (show ∀ k, (S k).length ≤ k by
    rw [← hS']
    intro k
    have h1 := List.length_filter_le (fun z : Int × Int => decide (lo ≤ z.1 ∧ z.1 ≤ hi)) (ks.take k)
    rw [List.length_take] at h1
    show (inL lo hi (ks.take k)).length ≤ k
    unfold inL
    omega)
  have HN := Lib.hid hn
  have HRd := Lib.hid hrd
  have HRn := Lib.hid hrn
  have hn0 : 0 < n := by omega
  have hn40 : n ≤ 40 := by omega
  obtain ⟨i0, hi0, hi1, hi2, hi3⟩ := info_parts info_knot
  have HI := Lib.hid (show Try.prog.info? 108 = some i0 ∧ i0.zero = some (.agg #[.int .i64 0, .int .i64 0]) ∧ i0.size = 2 ∧ i0.bytes = 16 from ⟨hi0, hi1, hi2, hi3⟩)
  clear hi0 hi1 hi2 hi3 hrd hrn h hz hk hn hpos hle he1 he2 hlh hlo hhi hv hW0 hS' hS hSe hce
  generalize ctErr ks err lo hi = re at *
  generalize ctR ks err lo hi = rr at *
  generalize ctF ks err lo hi = rf at *
  generalize hbl1 : whB ks lo = bl at *
  generalize hbh1 : whB ks hi = bh at *
  generalize whY ks lo = ya at *
  generalize whY ks hi = yb at *
  clear hbl1 hbh1
  generalize hW : ((w.alloc (.cells #[.slice (some ⟨b, off, none⟩) n cap, .int .i64 err] 24)).alloc (.cells #[.int .i64 lo, .int .i64 hi] 26)).alloc (.cells #[.slice none 0 0, .int .i64 0, .int .i64 0] 78) = W
  have B0 : Below w.heap.size w W := by rw [← hW]; exact ((((Below.refl w.heap.size w).alloc (Nat.le_refl _) _).alloc (by simp) _).alloc (by simp; omega) _)
  have x0_0 : Blk W w.heap.size 24 #[.slice (some ⟨b, off, none⟩) n cap, .int .i64 err] := by rw [← hW]; exact (((Blk.at_new _ _ rfl).alloc _).alloc _)
  have x1_0 : Blk W (w.heap.size + 1) 26 #[.int .i64 lo, .int .i64 hi] := by rw [← hW]; exact ((Blk.at_new _ _ (by simp)).alloc _)
  have r_0 : Blk W (w.heap.size + 2) 78 #[.slice none 0 0, .int .i64 0, .int .i64 0] := by rw [← hW]; exact (Blk.at_new _ _ (by simp))
  have HWE := Lib.hid hW
  clear hW
  have HLb := Lib.hid (fun q V (hV : Blk V q 24 #[.slice (some ⟨b, off, none⟩) n cap, .int .i64 err]) (hb : Below w.heap.size w V) => lat_one (cap := cap) hV (HA.out.below hb) hm)
  go_enter Try.func69, Try.ntmps69
  have B1 := B0
  have B1a := B1.alloc B1.size (.cells #[.slice (some ⟨b, off, none⟩) n cap, .int .i64 err] 24)
  go_wp2_with fail
  rw [HWE.out]
  refine (HS.out _ _ (HLb.out _ _ (Blk.at_new (g := w.heap.size + 1 + 1 + 1) _ _ (by rw [← HWE.out]; simp)) B1a)).mono ?_; rintro e w1 ⟨rfl, hb1⟩
  have x0_1 := (x0_0.alloc (.cells #[.slice (some ⟨b, off, none⟩) n cap, .int .i64 err] 24)).below hb1
  have x1_1 := (x1_0.alloc (.cells #[.slice (some ⟨b, off, none⟩) n cap, .int .i64 err] 24)).below hb1
  have r_1 := (r_0.alloc (.cells #[.slice (some ⟨b, off, none⟩) n cap, .int .i64 err] 24)).below hb1
  clear x0_0 x1_0 r_0
  have x0_1c0 := x0_1.cell 0
  have x0_1c1 := x0_1.cell 1
  simp only [List.getElem?_toArray, List.getElem?_cons_zero, List.getElem?_cons_succ] at x0_1c0 x0_1c1
  have x0_1l := x0_1.lt
  have x1_1c0 := x1_1.cell 0
  have x1_1c1 := x1_1.cell 1
  simp only [List.getElem?_toArray, List.getElem?_cons_zero, List.getElem?_cons_succ] at x1_1c0 x1_1c1
  have x1_1l := x1_1.lt
  have r_1c0 := r_1.cell 0
  have r_1c1 := r_1.cell 1
  have r_1c2 := r_1.cell 2
  simp only [List.getElem?_toArray, List.getElem?_cons_zero, List.getElem?_cons_succ] at r_1c0 r_1c1 r_1c2
  have r_1l := r_1.lt
  have B2 := B1a.trans (hb1.mono B1a.size)
  go_wp2_with fail
  refine (HWl.out _ (HK.out.below B2)).mono ?_; rintro e w2 ⟨rfl, hb2⟩
  clear x0_1c0 x0_1c1 x0_1l x1_1c0 x1_1c1 x1_1l r_1c0 r_1c1 r_1c2 r_1l
  have x0_2 := x0_1.below hb2
  have x1_2 := x1_1.below hb2
  have r_2 := r_1.below hb2
  clear x0_1 x1_1 r_1
  have x0_2c0 := x0_2.cell 0
  have x0_2c1 := x0_2.cell 1
  simp only [List.getElem?_toArray, List.getElem?_cons_zero, List.getElem?_cons_succ] at x0_2c0 x0_2c1
  have x0_2l := x0_2.lt
  have x1_2c0 := x1_2.cell 0
  have x1_2c1 := x1_2.cell 1
  simp only [List.getElem?_toArray, List.getElem?_cons_zero, List.getElem?_cons_succ] at x1_2c0 x1_2c1
  have x1_2l := x1_2.lt
  have r_2c0 := r_2.cell 0
  have r_2c1 := r_2.cell 1
  have r_2c2 := r_2.cell 2
  simp only [List.getElem?_toArray, List.getElem?_cons_zero, List.getElem?_cons_succ] at r_2c0 r_2c1 r_2c2
  have r_2l := r_2.lt
  have B3 := B2.trans (hb2.mono B2.size)
  go_wp2_with fail
  refine (HWh.out _ (HK.out.below B3)).mono ?_; rintro e w3 ⟨rfl, hb3⟩
  clear x0_2c0 x0_2c1 x0_2l x1_2c0 x1_2c1 x1_2l r_2c0 r_2c1 r_2c2 r_2l
  have x0_3 := x0_2.below hb3
  have x1_3 := x1_2.below hb3
  have r_3 := r_2.below hb3
  clear x0_2 x1_2 r_2
  have x0_3c0 := x0_3.cell 0
  have x0_3c1 := x0_3.cell 1
  simp only [List.getElem?_toArray, List.getElem?_cons_zero, List.getElem?_cons_succ] at x0_3c0 x0_3c1
  have x0_3l := x0_3.lt
  have x1_3c0 := x1_3.cell 0
  have x1_3c1 := x1_3.cell 1
  simp only [List.getElem?_toArray, List.getElem?_cons_zero, List.getElem?_cons_succ] at x1_3c0 x1_3c1
  have x1_3l := x1_3.lt
  have r_3c0 := r_3.cell 0
  have r_3c1 := r_3.cell 1
  have r_3c2 := r_3.cell 2
  simp only [List.getElem?_toArray, List.getElem?_cons_zero, List.getElem?_cons_succ] at r_3c0 r_3c1 r_3c2
  have r_3l := r_3.lt
  cases bl with
  | false =>
    have hre : re = 3 := by have := HRd.out; simpa using this
    obtain ⟨hR, hFz⟩ := HRn.out _ hre (by omega)
    have HRe := Lib.hid hre
    have HRR := Lib.hid hR
    have HFz := Lib.hid hFz
    clear hre hR hFz
    have hr := r_3
    have hf0 := r_3.frozen 0
    have hf1 := r_3.frozen 1
    have hf2 := r_3.frozen 2
    have hl := r_3.lt
    have BZ := B3.trans (hb3.mono B3.size)
    go_wp2
    have hF := (((hr.set_ 0 (.slice none 0 0)).set_ 1 (.int .i64 0)).set_ 2 (.int .i64 3))
    have k0 := hF.cell 0
    have k1 := hF.cell 1
    have k2 := hF.cell 2
    simp only [List.setIfInBounds_toArray, List.set_cons_zero, List.set_cons_succ, List.getElem?_toArray, List.getElem?_cons_zero, List.getElem?_cons_succ] at k0 k1 k2
    exact bodyPost_ret (v := .agg #[.slice none 0 0, .int .i64 0, .int .i64 3]) (by simp [results, Try.results69, go_sem, k0, k1, k2]) rfl (by rw [HRR.out, HFz.out, HRe.out]; exact cvdOut_nil rfl (((BZ.setCell (p := ⟨(w.heap.size + 2), 0, none⟩) (by simp <;> omega) _).setCell (p := ⟨(w.heap.size + 2), 1, none⟩) (by simp <;> omega) _).setCell (p := ⟨(w.heap.size + 2), 2, none⟩) (by simp <;> omega) _))
  | true =>
    cases bh with
    | false =>
      have hre : re = 3 := by have := HRd.out; simpa using this
      obtain ⟨hR, hFz⟩ := HRn.out _ hre (by omega)
      have HRe := Lib.hid hre
      have HRR := Lib.hid hR
      have HFz := Lib.hid hFz
      clear hre hR hFz
      have hr := r_3
      have hf0 := r_3.frozen 0
      have hf1 := r_3.frozen 1
      have hf2 := r_3.frozen 2
      have hl := r_3.lt
      have BZ := B3.trans (hb3.mono B3.size)
      go_wp2
      have hF := (((hr.set_ 0 (.slice none 0 0)).set_ 1 (.int .i64 0)).set_ 2 (.int .i64 3))
      have k0 := hF.cell 0
      have k1 := hF.cell 1
      have k2 := hF.cell 2
      simp only [List.setIfInBounds_toArray, List.set_cons_zero, List.set_cons_succ, List.getElem?_toArray, List.getElem?_cons_zero, List.getElem?_cons_succ] at k0 k1 k2
      exact bodyPost_ret (v := .agg #[.slice none 0 0, .int .i64 0, .int .i64 3]) (by simp [results, Try.results69, go_sem, k0, k1, k2]) rfl (by rw [HRR.out, HFz.out, HRe.out]; exact cvdOut_nil rfl (((BZ.setCell (p := ⟨(w.heap.size + 2), 0, none⟩) (by simp <;> omega) _).setCell (p := ⟨(w.heap.size + 2), 1, none⟩) (by simp <;> omega) _).setCell (p := ⟨(w.heap.size + 2), 2, none⟩) (by simp <;> omega) _))
    | true =>
      have hre : re = 0 := by have := HRd.out; simpa using this
      have hrr := HR0.out hre (by simp) (by simp)
      have HRe := Lib.hid hre
      have HRR := Lib.hid hrr.1
      have HFz := Lib.hid hrr.2
      clear hre hrr HR0
      have BB := B3.trans (hb3.mono B3.size)
      have hws : w.heap.size + 2 < w3.heap.size := r_3l
      go_wp2_with fail
      generalize hgbe : w3.heap.size = gb at *
      have hgb : gb ≤ w3.heap.size := by rw [hgbe]; exact Nat.le_refl _
      clear hgbe
      go_loopw [10, 11] (fun v i wx => ∃ (k : Nat) (A1 : Option Addr) (t c1 : Nat), k ≤ n ∧ v = .slice A1 t c1 ∧ i = .int .i64 k ∧ (S k).length = t ∧ wx.ownsRow gb 108 2 (.slice A1 t c1) t ((S k).flatMap encF) ∧ (t = 0 → A1 = none ∧ c1 = 0) ∧ gb ≤ wx.heap.size ∧ Below w.heap.size w wx ∧ Blk wx w.heap.size 24 #[.slice (some ⟨b, off, none⟩) n cap, .int .i64 err] ∧ Blk wx (w.heap.size + 1) 26 #[.int .i64 lo, .int .i64 hi] ∧ Blk wx (w.heap.size + 2) 78 #[.slice none 0 0, .int .i64 0, .int .i64 0]) (fun _ i _ => n - (intOf i).toNat)
      case atStart => exact ⟨0, none, 0, 0, Nat.zero_le _, rfl, rfl, by rw [HS0.out]; rfl, by rw [HS0.out]; exact World.ownsRow_nil _ _ _ _, fun _ => ⟨rfl, rfl⟩, hgb, (BB), x0_3, x1_3, r_3⟩
      case round =>
        clear x0_3c0 x0_3c1 x0_3l x1_3c0 x1_3c1 x1_3l r_3c0 r_3c1 r_3c2 r_3l
        obtain ⟨wo, hwo⟩ : ∃ wo : World, wo = wr := ⟨_, rfl⟩
        subst hwo
        obtain ⟨k, A1, t, c1, hk, rfl, rfl, htl, ow, htz, hbr, Br, x0_20, x1_20, r_20⟩ := hrel
        have htk : t ≤ k := by have := HSl.out k; omega
        have HTl := Lib.hid htl
        have HTz := Lib.hid htz
        have OW := Lib.hid ow
        have HLT0 := Lib.hid (fun (q : Nat) hq => own_lt (g := q) OW.out hq)
        clear htl htz ow hgb
        have x0_20c0 := x0_20.cell 0
        have x0_20c1 := x0_20.cell 1
        simp only [List.getElem?_toArray, List.getElem?_cons_zero, List.getElem?_cons_succ] at x0_20c0 x0_20c1
        have x0_20l := x0_20.lt
        have x1_20c0 := x1_20.cell 0
        have x1_20c1 := x1_20.cell 1
        simp only [List.getElem?_toArray, List.getElem?_cons_zero, List.getElem?_cons_succ] at x1_20c0 x1_20c1
        have x1_20l := x1_20.lt
        have r_20c0 := r_20.cell 0
        have r_20c1 := r_20.cell 1
        have r_20c2 := r_20.cell 2
        simp only [List.getElem?_toArray, List.getElem?_cons_zero, List.getElem?_cons_succ] at r_20c0 r_20c1 r_20c2
        have r_20l := r_20.lt
        by_cases hkn : k < n
        case pos =>
          have hkl : k < ks.length := by rw [HN.out]; exact hkn
          have hK := HK.out.below Br
          have kc0 := hK.x k hkl
          have kc1 := hK.y k hkl
          have hkt := hK.lt
          have HKo := Lib.hid hK
          have HSk := Lib.hid (HSs.out k hkn)
          obtain ⟨⟨y1, y2⟩, y3, y4⟩ := HKb.out k hkn
          clear hK
          generalize hax : kx ks k = ax at *
          generalize hay : ky ks k = ay at *
          have HAx := Lib.hid hax
          have HAy := Lib.hid hay
          clear hax hay
          have HIn := Lib.hid (fun W => in_any ax lo hi W)
          generalize hin : decide (lo ≤ ax ∧ ax ≤ hi) = bi at *
          have HBi := Lib.hid hin
          clear hin
          go_wp2_with fail
          obtain ⟨xc, xf⟩ := xcell (W := wo)
          refine wp_region_quiet_tail 8 (by kernel_rfl) (by kernel_rfl) ?_
          simp only [List.take_succ_cons, List.take_zero, List.drop_succ_cons, List.drop_zero]
          repeat (first | go_big_quiet_step ((go_at_call 131; with_reducible refine calls_ext (HIn.out _))) | quiet_step ((go_at_call 131; with_reducible refine calls_ext (HIn.out _))))
          refine wpQuiet_nil ?_
          intro w21 hb21
          clear xc xf
          clear x0_20c0 x0_20c1 x0_20l x1_20c0 x1_20c1 x1_20l r_20c0 r_20c1 r_20c2 r_20l
          have x0_21 := x0_20.below hb21
          have x1_21 := x1_20.below hb21
          have r_21 := r_20.below hb21
          have B21 := Br.trans (hb21.mono Br.size)
          have hK := HK.out.below B21
          have kd0 := hK.x k hkl
          have kd1 := hK.y k hkl
          rw [HAx.out] at kd0
          rw [HAy.out] at kd1
          have hkd := hK.lt
          clear hK kc0 kc1 hkt
          have hsz := hb21.size
          have x0_21c0 := x0_21.cell 0
          have x0_21c1 := x0_21.cell 1
          simp only [List.getElem?_toArray, List.getElem?_cons_zero, List.getElem?_cons_succ] at x0_21c0 x0_21c1
          have x0_21l := x0_21.lt
          have x1_21c0 := x1_21.cell 0
          have x1_21c1 := x1_21.cell 1
          simp only [List.getElem?_toArray, List.getElem?_cons_zero, List.getElem?_cons_succ] at x1_21c0 x1_21c1
          have x1_21l := x1_21.lt
          have r_21c0 := r_21.cell 0
          have r_21c1 := r_21.cell 1
          have r_21c2 := r_21.cell 2
          simp only [List.getElem?_toArray, List.getElem?_cons_zero, List.getElem?_cons_succ] at r_21c0 r_21c1 r_21c2
          have r_21l := r_21.lt
          cases bi with
          | false =>
            have HSn2 := Lib.hid (show S (k + 1) = S k from (HSk.out).trans (if_neg (of_decide_eq_false HBi.out)))
            go_wp2
            go_roundw
            case rel => exact ⟨k + 1, A1, t, c1, by omega, rfl, by go_num, by rw [HSn2.out]; exact HTl.out, by rw [HSn2.out]; exact owns_below OW.out hb21, HTz.out, by omega, B21, x0_21, x1_21, r_21⟩
            case measure => simp [intOf]; omega
          | true =>
            have HSn2 := Lib.hid (show S (k + 1) = S k ++ [(ax, ay)] from (HSk.out).trans (if_pos (of_decide_eq_true HBi.out)))
            have OW1 := Lib.hid (owns_below OW.out hb21)
            have HLT := Lib.hid (fun (q : Nat) hq => (⟨(HLT0.out q hq).1, (HLT0.out q hq).2⟩ : gb ≤ q ∧ q < wo.heap.size))
            have hbq : gb ≤ w21.heap.size := by omega
            go_wp2_with (at_builtin; go_loud (refine wpList_append_own _ rfl (.tmp 56) (.tmp 62) 22 rfl (gb) 108 i0 (.agg #[.int .i64 0, .int .i64 0]) 2 16 Try.underlying22 HI.out.1 HI.out.2.1 HI.out.2.2.1 HI.out.2.2.2 rfl (by decide) _ (t) ((S k).flatMap encF) rfl (OW1.out.alloc _) ⟨w21.heap.size, 0, none⟩ 1 1 [.int .i64 ax, .int .i64 ay] rfl rfl (new_cells2 _ _ _ _) (one_ints2 _ _) (by unfold maxLen; omega) (by omega) (by simp; omega) ?_))
            intro v' w22 hown22 hgrow22 hnn22
            clear x0_21c0 x0_21c1 x0_21l x1_21c0 x1_21c1 x1_21l r_21c0 r_21c1 r_21c2 r_21l
            have x0_22 := Blk.grown (x0_21.alloc _) hgrow22 (fun h => by have := HLT.out _ h; omega)
            have x1_22 := Blk.grown (x1_21.alloc _) hgrow22 (fun h => by have := HLT.out _ h; omega)
            have r_22 := Blk.grown (r_21.alloc _) hgrow22 (fun h => by have := HLT.out _ h; omega)
            have B22 := ((B21).alloc (B21).size _).grown hgrow22 (Nat.le_trans (B21).size (by simp)) (fun kk hk => by have := HLT.out _ hk; omega)
            have hbase22 : gb ≤ w22.heap.size := Nat.le_trans hbq (Nat.le_trans (by simp) hgrow22.size)
            have HNw := Lib.hid hown22
            clear hown22 hgrow22 hnn22
            have x0_22c0 := x0_22.cell 0
            have x0_22c1 := x0_22.cell 1
            simp only [List.getElem?_toArray, List.getElem?_cons_zero, List.getElem?_cons_succ] at x0_22c0 x0_22c1
            have x0_22l := x0_22.lt
            have x1_22c0 := x1_22.cell 0
            have x1_22c1 := x1_22.cell 1
            simp only [List.getElem?_toArray, List.getElem?_cons_zero, List.getElem?_cons_succ] at x1_22c0 x1_22c1
            have x1_22l := x1_22.lt
            have r_22c0 := r_22.cell 0
            have r_22c1 := r_22.cell 1
            have r_22c2 := r_22.cell 2
            simp only [List.getElem?_toArray, List.getElem?_cons_zero, List.getElem?_cons_succ] at r_22c0 r_22c1 r_22c2
            have r_22l := r_22.lt
            obtain ⟨g2, c2, rfl⟩ := ownsRow_succ HNw.out
            go_wp2
            go_roundw
            case rel => exact ⟨k + 1, _, t + 1, _, by omega, rfl, by go_num, by rw [HSn2.out, List.length_append, HTl.out]; rfl, by rw [HSn2.out, List.flatMap_append]; have := HNw.out; simpa [encF] using this, fun h => absurd h (by omega), hbase22, B22, x0_22, x1_22, r_22⟩
            case measure => simp [intOf]; omega
        have hkk : n = k := by omega
        subst hkk
        have ho := OW.out
        have hlen := HTl.out
        rw [HSn.out] at ho hlen
        have HP1 := Lib.hid (put_row lo ya ho hlen HTz.out (by omega))
        have HFr := Lib.hid (fun a (h : A1 = some a) => (show gb ≤ a.block from (HLT0.out a.block (by rw [h]; rfl)).1))
        clear ho hlen OW HTl HTz HLT0 HSn HSs HSl HS0
        have HZl := Lib.hid (show (inL lo hi ks).length ≤ 40 from by have h1 := List.length_filter_le (fun z : Int × Int => decide (lo ≤ z.1 ∧ z.1 ≤ hi)) ks; have h2 := HN.out; show (inL lo hi ks).length ≤ 40; unfold inL; omega)
        generalize inL lo hi ks = Z at *
        have B21 := Br
        go_wp2_with fail
        refine (HP1.out).mono ?_; rintro e w21 ⟨A3, n3, c3, rfl, hc3, hn3, hf3, hb21⟩
        clear x0_20c0 x0_20c1 x0_20l x1_20c0 x1_20c1 x1_20l r_20c0 r_20c1 r_20c2 r_20l
        have x0_21 := x0_20.below hb21
        have x1_21 := x1_20.below hb21
        have r_21 := r_20.below hb21
        clear x0_20 x1_20 r_20
        have x0_21c0 := x0_21.cell 0
        have x0_21c1 := x0_21.cell 1
        simp only [List.getElem?_toArray, List.getElem?_cons_zero, List.getElem?_cons_succ] at x0_21c0 x0_21c1
        have x0_21l := x0_21.lt
        have x1_21c0 := x1_21.cell 0
        have x1_21c1 := x1_21.cell 1
        simp only [List.getElem?_toArray, List.getElem?_cons_zero, List.getElem?_cons_succ] at x1_21c0 x1_21c1
        have x1_21l := x1_21.lt
        have r_21c0 := r_21.cell 0
        have r_21c1 := r_21.cell 1
        have r_21c2 := r_21.cell 2
        simp only [List.getElem?_toArray, List.getElem?_cons_zero, List.getElem?_cons_succ] at r_21c0 r_21c1 r_21c2
        have r_21l := r_21.lt
        have hp3 : 0 < n3 := by have := hc3.len; have h2 := putL_pos Z (lo, ya); omega
        have hl3 : n3 ≤ 41 := by have := hc3.len; have h2 := putL_len Z (lo, ya); have h3 := HZl.out; omega
        obtain ⟨b3, o3, hA3, hK3⟩ := hc3.at_ hp3
        subst hA3
        have HF3 := Lib.hid hf3
        have HP2 := Lib.hid (put_any b3 o3 n3 c3 _ hi yb _ hK3 hc3.len hn3 (by omega) hp3)
        clear hc3 hf3 hK3
        have B22 := B21.trans (hb21.mono B21.size)
        go_wp2_with fail
        refine (HP2.out).mono ?_; rintro e w22 ⟨A5, n5, c5, rfl, hc5, hn5, hf5, hb22⟩
        clear x0_21c0 x0_21c1 x0_21l x1_21c0 x1_21c1 x1_21l r_21c0 r_21c1 r_21c2 r_21l
        have x0_22 := x0_21.below hb22
        have x1_22 := x1_21.below hb22
        have r_22 := r_21.below hb22
        clear x0_21 x1_21 r_21
        have x0_22c0 := x0_22.cell 0
        have x0_22c1 := x0_22.cell 1
        simp only [List.getElem?_toArray, List.getElem?_cons_zero, List.getElem?_cons_succ] at x0_22c0 x0_22c1
        have x0_22l := x0_22.lt
        have x1_22c0 := x1_22.cell 0
        have x1_22c1 := x1_22.cell 1
        simp only [List.getElem?_toArray, List.getElem?_cons_zero, List.getElem?_cons_succ] at x1_22c0 x1_22c1
        have x1_22l := x1_22.lt
        have r_22c0 := r_22.cell 0
        have r_22c1 := r_22.cell 1
        have r_22c2 := r_22.cell 2
        simp only [List.getElem?_toArray, List.getElem?_cons_zero, List.getElem?_cons_succ] at r_22c0 r_22c1 r_22c2
        have r_22l := r_22.lt
        have hl5 : n5 ≤ 1000 := by have := hc5.len; have h2 := putL_len (putL Z (lo, ya)) (hi, yb); have h3 := putL_len Z (lo, ya); have h4 := HZl.out; omega
        have HC5 := Lib.hid hc5
        have HF5 := Lib.hid (show ∀ a, A5 = some a → gb ≤ a.block from fun a h => by
          rcases hf5 a h with e | e
          · have e2 := HF3.out a (e.trans h)
            rcases e2 with e3 | e3
            · exact HFr.out a (e3.trans (e.trans h))
            · exact Nat.le_trans hbr e3
          · exact Nat.le_trans (Nat.le_trans hbr hb21.size) e)
        clear hc5 hf5
        have hr := r_22
        have hf0 := r_22.frozen 0
        have hf1 := r_22.frozen 1
        have hf2 := r_22.frozen 2
        have hl := r_22.lt
        have BZ := B22.trans (hb22.mono B22.size)
        go_wp2
        have hF := (((hr.set_ 0 ((.slice A5 n5 c5))).set_ 1 (.int .i64 err)).set_ 2 (.int .i64 0))
        have k0 := hF.cell 0
        have k1 := hF.cell 1
        have k2 := hF.cell 2
        simp only [List.setIfInBounds_toArray, List.set_cons_zero, List.set_cons_succ, List.getElem?_toArray, List.getElem?_cons_zero, List.getElem?_cons_succ] at k0 k1 k2
        exact bodyPost_ret (v := .agg #[(.slice A5 n5 c5), .int .i64 err, .int .i64 0]) (by simp [results, Try.results69, go_sem, k0, k1, k2]) rfl (by rw [HRR.out, HFz.out, HRe.out]; exact ⟨A5, n5, c5, rfl, HC5.out.sets3 (r := (w.heap.size + 2)) (fun a h => by have := HF5.out a h; omega) _ _ _, hl5, (fun a h => by have := HF5.out a h; omega), (((BZ.setCell (p := ⟨(w.heap.size + 2), 0, none⟩) (by simp <;> omega) _).setCell (p := ⟨(w.heap.size + 2), 1, none⟩) (by simp <;> omega) _).setCell (p := ⟨(w.heap.size + 2), 2, none⟩) (by simp <;> omega) _)⟩)
end Go.Proofs.Ytipablcbkoedbaa

namespace Go.Proofs.Ytipablcbkoedbaa
open Go.RowKit Go.WideShapes Go.ChangeShapes Go.Joins Go.Deep
section
variable {H : Type} {enc : TypeId × Value → H} {w : World} {base : Nat} {spare : Nat → Bool} {held : Bool}
set_option maxRecDepth 100000 in
theorem open_is {r : Reach} {b0 : Nat} {v : Value} {d : DataW H} {p : List MemPlace} (hv : Value.okWide Try.prog w r b0 93 v) (h : DataW.Trod enc Try.prog w base spare held 93 v d p) :
    ∃ (A : Option Addr) (n cap : Nat) (xs : List Int), v = .slice A n cap ∧ IAt w A n xs ∧ n ≤ 9223372036854775807 := by
  obtain ⟨A, n, cap, rfl⟩ := okWide_slice Try.underlying93 hv
  obtain ⟨fuel, hf⟩ := h
  rcases open_ints Try.underlying93 Try.underlying3 (by kernel_rfl) hf with ⟨e0, _⟩ | ⟨a, len, cap', zs, e0, hb, hl, hc, hz, _, hcell, _⟩
  · simp only [Value.cells, List.cons.injEq, and_true] at e0
    obtain ⟨rfl, rfl, rfl⟩ : A = none ∧ n = 0 ∧ cap = 0 := by simpa using e0
    exact ⟨none, 0, 0, [], rfl, ⟨rfl, fun h => absurd h (by omega)⟩, by omega⟩
  · obtain ⟨rfl, rfl, rfl⟩ : A = some a ∧ n = len ∧ cap = cap' := by simpa [Value.cells] using e0
    have hzl : n ≤ zs.length := by rw [hz]; split <;> omega
    have hcl : n ≤ 9223372036854775807 := by unfold maxLen at hc; omega
    refine ⟨some a, n, cap, zs.take n, rfl, ⟨by rw [List.length_take]; omega, fun h0 => ?_⟩, hcl⟩
    have h00 := hcell 0 (by omega)
    rw [show a.add 0 = a from rfl] at h00
    obtain ⟨hlt, hsp⟩ := cell_lt h00
    have ha := addr_none hsp
    generalize a.block = b at *
    generalize a.off = off at *
    subst ha
    refine ⟨b, off, rfl, fun j hj => ?_, hlt⟩
    rw [List.length_take] at hj
    have := hcell j (by omega)
    rw [add_at] at this
    rw [this]
    simp only [List.getD_eq_getElem?_getD]
    rw [List.getElem?_take_of_lt (by omega)]
end
end Go.Proofs.Ytipablcbkoedbaa

namespace Go.Proofs.Ytipablcbkoedbaa

abbrev Kt := Int × Int
/-- The point (x, n / d) lies on the piece from p to q. -/
def seg (p q : Kt) (x n d : Int) : Prop := p.1 ≤ x ∧ x ≤ q.1 ∧ (n - p.2 * d) * (q.1 - p.1) = (x - p.1) * (q.2 - p.2) * d
def straight (p q r : Kt) : Prop := (q.2 - p.2) * (r.1 - q.1) = (r.2 - q.2) * (q.1 - p.1)
/-- The point lies on the row. -/
def On : List Kt → Int → Int → Int → Prop
  | [], _, _, _ => False
  | [p], x, n, d => x = p.1 ∧ n = p.2 * d
  | p :: q :: l, x, n, d => seg p q x n d ∨ On (q :: l) x n d
/-- The same of a row that stands from its last knot on. -/
def OnR : List Kt → Int → Int → Int → Prop
  | [], _, _, _ => False
  | [p], x, n, d => x = p.1 ∧ n = p.2 * d
  | q :: p :: l, x, n, d => seg p q x n d ∨ OnR (p :: l) x n d
theorem cancel {k a b : Int} (hk : 0 < k) (h : k * a = k * b) : a = b := Int.eq_of_mul_eq_mul_left (by omega) h
theorem seg_left {p q : Kt} {x n d : Int} (h : p.1 < q.1) (hx : x = p.1) : seg p q x n d ↔ n = p.2 * d := by
  unfold seg
  constructor
  · rintro ⟨_, _, e⟩
    have : (q.1 - p.1) * (n - p.2 * d) = (q.1 - p.1) * 0 := by rw [hx] at e; grind
    have := cancel (by omega) this
    omega
  · intro e
    refine ⟨by omega, by omega, ?_⟩
    rw [hx, e]; grind
theorem seg_right {p q : Kt} {x n d : Int} (h : p.1 < q.1) (hx : x = q.1) : seg p q x n d ↔ n = q.2 * d := by
  unfold seg
  constructor
  · rintro ⟨_, _, e⟩
    have : (q.1 - p.1) * (n - q.2 * d) = (q.1 - p.1) * 0 := by rw [hx] at e; grind
    have := cancel (by omega) this
    omega
  · intro e
    refine ⟨by omega, by omega, ?_⟩
    rw [hx, e]; grind
/-- A knot on a straight line may go. -/
theorem seg_mid {p q r : Kt} (h1 : p.1 < q.1) (h2 : q.1 < r.1) (hs : straight p q r) (x n d : Int) : seg p r x n d ↔ seg p q x n d ∨ seg q r x n d := by
  unfold straight at hs
  have H1 : (r.2 - p.2) * (q.1 - p.1) = (q.2 - p.2) * (r.1 - p.1) := by grind
  have H2 : (r.2 - p.2) * (r.1 - q.1) = (r.2 - q.2) * (r.1 - p.1) := by grind
  have A : (n - p.2 * d) * (r.1 - p.1) = (x - p.1) * (r.2 - p.2) * d ↔ (n - p.2 * d) * (q.1 - p.1) = (x - p.1) * (q.2 - p.2) * d := by
    constructor
    · intro e; exact cancel (k := r.1 - p.1) (by omega) (by grind)
    · intro e; exact cancel (k := q.1 - p.1) (by omega) (by grind)
  have B : (n - p.2 * d) * (r.1 - p.1) = (x - p.1) * (r.2 - p.2) * d ↔ (n - q.2 * d) * (r.1 - q.1) = (x - q.1) * (r.2 - q.2) * d := by
    constructor
    · intro e; exact cancel (k := r.1 - p.1) (by omega) (by grind)
    · intro e; exact cancel (k := r.1 - q.1) (by omega) (by grind)
  unfold seg
  constructor
  · rintro ⟨a, b, c⟩
    rcases Int.le_total x q.1 with h | h
    · exact .inl ⟨a, h, A.1 c⟩
    · exact .inr ⟨h, b, B.1 c⟩
  · rintro (⟨a, b, c⟩ | ⟨a, b, c⟩)
    · exact ⟨a, by omega, A.2 c⟩
    · exact ⟨by omega, b, B.2 c⟩
/-- Two points of a piece, and a knot: on one line. -/
theorem seg_straight {p r q : Kt} (_ : p.1 < q.1) (_ : q.1 < r.1) (h : seg p r q.1 q.2 1) : straight p q r := by
  obtain ⟨_, _, e⟩ := h
  unfold straight
  grind

abbrev Inc' (l : List Kt) : Prop := l.Pairwise fun a b => a.1 < b.1
theorem inc_cons2 {p q : Kt} {l : List Kt} (h : Inc' (p :: q :: l)) : p.1 < q.1 ∧ Inc' (q :: l) := by
  have := List.pairwise_cons.1 h
  exact ⟨this.1 q (by simp), this.2⟩
theorem inc_mem {p : Kt} {l : List Kt} (h : Inc' (p :: l)) : ∀ z ∈ l, p.1 < z.1 := (List.pairwise_cons.1 h).1
theorem on_ge : ∀ {l : List Kt} {p : Kt} {x n d : Int}, Inc' (p :: l) → On (p :: l) x n d → p.1 ≤ x
  | [], p, x, n, d, _, h => by have := h.1; omega
  | q :: l, p, x, n, d, hi, h => by
    obtain ⟨h1, h2⟩ := inc_cons2 hi
    rcases h with h | h
    · exact h.1
    · have := on_ge h2 h; omega
theorem on_head {l : List Kt} {p : Kt} {x n d : Int} (hi : Inc' (p :: l)) (hx : x = p.1) : On (p :: l) x n d ↔ n = p.2 * d := by
  cases l with
  | nil => exact ⟨fun h => h.2, fun h => ⟨hx, h⟩⟩
  | cons q l =>
    obtain ⟨h1, h2⟩ := inc_cons2 hi
    constructor
    · rintro (h | h)
      · exact (seg_left h1 hx).1 h
      · have := on_ge h2 h; omega
    · intro h
      exact .inl ((seg_left h1 hx).2 h)
/-- Each knot lies on its row. -/
theorem on_mem : ∀ {l : List Kt}, Inc' l → ∀ z ∈ l, On l z.1 z.2 1
  | p :: l, hi, z, hz => by
    rcases List.mem_cons.1 hz with rfl | hz
    · exact (on_head hi rfl).2 (by omega)
    · cases l with
      | nil => cases hz
      | cons q l => exact .inr (on_mem (inc_cons2 hi).2 z hz)
/-- A row has one value at a number. -/
theorem on_one : ∀ {l : List Kt} {x n d n' d' : Int}, Inc' l → On l x n d → On l x n' d' → n * d' = n' * d
  | [p], x, n, d, n', d', _, h, h' => by rw [h.2, h'.2]; grind
  | p :: q :: l, x, n, d, n', d', hi, h, h' => by
    obtain ⟨h1, h2⟩ := inc_cons2 hi
    have both : ∀ {n d n' d' : Int}, seg p q x n d → On (q :: l) x n' d' → n * d' = n' * d := fun {n d n' d'} a b => by
      have hx : x = q.1 := by have := on_ge h2 b; have := a.2.1; omega
      rw [(seg_right h1 hx).1 a, (on_head h2 hx).1 b]; grind
    rcases h with h | h <;> rcases h' with h' | h'
    · have e1 := h.2.2
      have e2 := h'.2.2
      exact cancel (k := q.1 - p.1) (by omega) (by grind)
    · exact both h h'
    · exact (both h' h).symm
    · exact on_one h2 h h'
theorem on_snoc : ∀ {l : List Kt} {p q : Kt} {x n d : Int}, Inc' (l ++ [p, q]) → (On (l ++ [p, q]) x n d ↔ On (l ++ [p]) x n d ∨ seg p q x n d)
  | [], p, q, x, n, d, hi => by
    obtain ⟨h1, _⟩ := inc_cons2 hi
    constructor
    · rintro (h | h)
      · exact .inr h
      · exact .inr ((seg_right h1 h.1).2 h.2)
    · rintro (h | h)
      · exact .inl ((seg_left h1 h.1).2 h.2)
      · exact .inl h
  | [a], p, q, x, n, d, hi => by
    obtain ⟨h1, h2⟩ := inc_cons2 hi
    have := on_snoc (l := []) (x := x) (n := n) (d := d) h2
    show seg a p x n d ∨ On ([] ++ [p, q]) x n d ↔ (seg a p x n d ∨ On ([] ++ [p]) x n d) ∨ _
    rw [this, or_assoc]
  | a :: b :: l, p, q, x, n, d, hi => by
    obtain ⟨h1, h2⟩ := inc_cons2 hi
    have := on_snoc (l := b :: l) (x := x) (n := n) (d := d) h2
    show seg a b x n d ∨ On ((b :: l) ++ [p, q]) x n d ↔ (seg a b x n d ∨ On ((b :: l) ++ [p]) x n d) ∨ _
    rw [this, or_assoc]
theorem onR_on : ∀ {l : List Kt} {x n d : Int}, Inc' l.reverse → (OnR l x n d ↔ On l.reverse x n d)
  | [], _, _, _, _ => Iff.rfl
  | [p], _, _, _, _ => Iff.rfl
  | q :: p :: l, x, n, d, hi => by
    have e : (q :: p :: l).reverse = l.reverse ++ [p, q] := by simp
    have e2 : (p :: l).reverse = l.reverse ++ [p] := by simp
    rw [e] at hi ⊢
    have hi2 : Inc' (p :: l).reverse := by
      rw [e2]
      have : l.reverse ++ [p, q] = (l.reverse ++ [p]) ++ [q] := by simp
      rw [this] at hi
      exact (List.pairwise_append.1 hi).1
    rw [on_snoc hi]
    show seg p q x n d ∨ OnR (p :: l) x n d ↔ _
    rw [onR_on hi2, e2, or_comm]

/-- No knot between two others lies on the line between them. -/
def NC : List Kt → Prop
  | p :: q :: r :: l => ¬ straight p q r ∧ NC (q :: r :: l)
  | _ => True
def NCR : List Kt → Prop
  | r :: q :: p :: l => ¬ straight p q r ∧ NCR (q :: p :: l)
  | _ => True
theorem nc_tail : ∀ {l : List Kt} {p : Kt}, NC (p :: l) → NC l
  | [], _, _ => trivial
  | [_], _, _ => trivial
  | _ :: _ :: _, _, h => h.2
theorem nc_snoc : ∀ {l : List Kt} {p q r : Kt}, NC (l ++ [p, q, r]) ↔ NC (l ++ [p, q]) ∧ ¬ straight p q r
  | [], p, q, r => by simp [NC]
  | [a], p, q, r => by simp [NC, and_comm]
  | [a, b], p, q, r => by simp [NC, and_assoc]
  | a :: b :: c :: l, p, q, r => by
    have := nc_snoc (l := b :: c :: l) (p := p) (q := q) (r := r)
    show (¬ straight a b c ∧ NC ((b :: c :: l) ++ [p, q, r])) ↔ (¬ straight a b c ∧ NC ((b :: c :: l) ++ [p, q])) ∧ _
    rw [this, and_assoc]
theorem ncR_nc : ∀ {l : List Kt}, NCR l ↔ NC l.reverse
  | [] => Iff.rfl
  | [_] => Iff.rfl
  | [_, _] => Iff.rfl
  | r :: q :: p :: l => by
    have := ncR_nc (l := q :: p :: l)
    have e : (r :: q :: p :: l).reverse = l.reverse ++ [p, q, r] := by simp
    have e2 : (q :: p :: l).reverse = l.reverse ++ [p, q] := by simp
    rw [e, nc_snoc, ← e2, ← this, and_comm]
    exact Iff.rfl

theorem uniq_lt {p a b : Kt} {s t : List Kt} (h1 : Inc' (p :: a :: s)) (n1 : NC (p :: a :: s)) (h2 : Inc' (p :: b :: t)) (h : ∀ x n d, 0 < d → (On (p :: a :: s) x n d ↔ On (p :: b :: t) x n d)) : ¬ a.1 < b.1 := by
  intro hab
  obtain ⟨pa, ia⟩ := inc_cons2 h1
  obtain ⟨pb, ib⟩ := inc_cons2 h2
  have onb : ∀ {x n d}, 0 < d → x ≤ b.1 → On (p :: b :: t) x n d → seg p b x n d := fun {x n d} _ hx hh => by
    rcases hh with hh | hh
    · exact hh
    · have hx2 : x = b.1 := by have := on_ge ib hh; omega
      exact (seg_right pb hx2).2 ((on_head ib hx2).1 hh)
  have ha : seg p b a.1 a.2 1 := onb (by omega) (by omega) ((h _ _ _ (by omega)).1 (on_mem h1 a (by simp)))
  have hb := (h _ _ _ (by omega)).2 (on_mem h2 b (by simp))
  cases s with
  | nil =>
    rcases hb with hb | hb
    · have := hb.2.1; omega
    · have := hb.1; omega
  | cons r s =>
    obtain ⟨ar, ir⟩ := inc_cons2 ia
    have hns := n1.1
    rcases Int.le_total r.1 b.1 with hrb | hrb
    · have hr : seg p b r.1 r.2 1 := onb (by omega) hrb ((h _ _ _ (by omega)).1 (on_mem h1 r (by simp)))
      refine hns ?_
      have e1 := ha.2.2
      have e2 := hr.2.2
      unfold straight
      exact cancel (k := b.1 - p.1) (by omega) (by grind)
    · have hb2 : seg a r b.1 b.2 1 := by
        rcases hb with hb | hb
        · have := hb.2.1; omega
        · rcases hb with hb | hb
          · exact hb
          · have hx2 : b.1 = r.1 := by have := on_ge ir hb; omega
            exact (seg_right ar hx2).2 ((on_head ir hx2).1 hb)
      refine hns ?_
      have e1 := ha.2.2
      have e2 := hb2.2.2
      unfold straight
      exact cancel (k := b.1 - a.1) (by omega) (by grind)
/-- A row without straight places is known by its points. -/
theorem uniq : ∀ {s t : List Kt}, Inc' s → NC s → Inc' t → NC t → (∀ x n d, 0 < d → (On s x n d ↔ On t x n d)) → s = t
  | [], [], _, _, _, _, _ => rfl
  | [], q :: t, _, _, h2, _, h => absurd ((h _ _ _ (by omega)).2 (on_mem h2 q (by simp))) (fun k => k)
  | p :: s, [], h1, _, _, _, h => absurd ((h _ _ _ (by omega)).1 (on_mem h1 p (by simp))) (fun k => k)
  | p :: s, q :: t, h1, n1, h2, n2, h => by
    have a := (h _ _ _ (by omega)).1 (on_mem h1 p (by simp))
    have b := (h _ _ _ (by omega)).2 (on_mem h2 q (by simp))
    have hx : p.1 = q.1 := by have := on_ge h2 a; have := on_ge h1 b; omega
    have hy : p.2 = q.2 := by have := (on_head h2 hx).1 a; omega
    obtain rfl : p = q := Prod.ext hx hy
    match s, t with
    | [], [] => rfl
    | [], q :: t =>
      have := (h _ _ _ (by omega)).2 (on_mem h2 q (by simp))
      have := this.1
      have := (inc_cons2 h2).1
      omega
    | q :: s, [] =>
      have := (h _ _ _ (by omega)).1 (on_mem h1 q (by simp))
      have := this.1
      have := (inc_cons2 h1).1
      omega
    | a :: s, b :: t =>
      obtain ⟨pa, ia⟩ := inc_cons2 h1
      obtain ⟨pb, ib⟩ := inc_cons2 h2
      have hxab : a.1 = b.1 := by
        have := uniq_lt h1 n1 h2 h
        have := uniq_lt h2 n2 h1 fun x n d hd => (h x n d hd).symm
        omega
      have ha := (h _ _ _ (by omega)).1 (on_mem h1 a (by simp))
      have hy : a.2 = b.2 := by
        rcases ha with ha | ha
        · have := (seg_right pb hxab).1 ha; omega
        · have := (on_head ib hxab).1 ha; omega
      obtain rfl : a = b := Prod.ext hxab hy
      have rest : ∀ x n d, 0 < d → (On (a :: s) x n d ↔ On (a :: t) x n d) := fun x n d hd => by
        have key : ∀ {s t : List Kt}, Inc' (a :: s) → Inc' (a :: t) → (On (p :: a :: s) x n d → On (p :: a :: t) x n d) → On (a :: s) x n d → On (a :: t) x n d := fun {s t} i1 i2 hh k => by
          rcases hh (.inr k) with e | e
          · have hx2 : x = a.1 := by have := on_ge i1 k; have := e.2.1; omega
            exact (on_head i2 hx2).2 ((seg_right pa hx2).1 e)
          · exact e
        exact ⟨key ia ib (h x n d hd).1, key ib ia (h x n d hd).2⟩
      rw [uniq ia (nc_tail n1) ib (nc_tail n2) rest]
end Go.Proofs.Ytipablcbkoedbaa

namespace Go.Proofs.Ytipablcbkoedbaa
open Go.RowKit

theorem on_ratio : ∀ {l : List Kt} {x n d n' d' : Int}, 0 < d → On l x n d → n * d' = n' * d → On l x n' d'
  | [p], x, n, d, n', d', hd, h, e => ⟨h.1, cancel (k := d) hd (by have := h.2; grind)⟩
  | p :: q :: l, x, n, d, n', d', hd, h, e => by
    rcases h with h | h
    · exact .inl ⟨h.1, h.2.1, cancel (k := d) hd (by have := h.2.2; grind)⟩
    · exact .inr (on_ratio hd h e)
theorem on_seg : ∀ {l : List Kt} {i : Nat} {x n d : Int}, i + 1 < l.length → seg (kx l i, ky l i) (kx l (i + 1), ky l (i + 1)) x n d → On l x n d
  | [], i, x, n, d, h, _ => absurd h (by simp)
  | [p], i, x, n, d, h, _ => absurd h (by simp)
  | p :: q :: l, 0, x, n, d, _, h => .inl (by simpa [kx, ky] using h)
  | p :: q :: l, i + 1, x, n, d, h, k => .inr (on_seg (l := q :: l) (i := i) (by simpa using h) (by simpa [kx, ky] using k))
theorem on_knot {l : List Kt} (hi : Inc' l) {i : Nat} (h : i < l.length) : On l (kx l i) (ky l i) 1 := by
  have := on_mem hi l[i] (List.getElem_mem h)
  rwa [(knot_get h).1, (knot_get h).2] at this
theorem first_ge (ks : List (Int × Int)) (x : Int) : ∀ m, m < ks.length → x ≤ kx ks m → ∃ i, i ≤ m ∧ x ≤ kx ks i ∧ ∀ j, j < i → kx ks j < x
  | 0, _, h => ⟨0, Nat.le_refl _, h, fun j hj => absurd hj (by omega)⟩
  | m + 1, hm, h => by
    by_cases c : x ≤ kx ks m
    · obtain ⟨i, h1, h2, h3⟩ := first_ge ks x m (by omega) c
      exact ⟨i, by omega, h2, h3⟩
    · by_cases c2 : ∃ j, j < m + 1 ∧ x ≤ kx ks j
      · obtain ⟨j, hj, hx⟩ := c2
        obtain ⟨i, h1, h2, h3⟩ := first_ge ks x j (by omega) hx
        exact ⟨i, by omega, h2, h3⟩
      · exact ⟨m + 1, Nat.le_refl _, h, fun j hj => Int.not_le.1 fun k => c2 ⟨j, hj, k⟩⟩
/-- The value of a curve is its point. -/
theorem on_val {ks : List (Int × Int)} (hv : Valid ks) {x : Int} (h0 : domLo ks ≤ x) (h1 : x ≤ domHi ks) : On ks x (valN ks x) (valD ks x) ∧ 1 ≤ valD ks x := by
  have hp := hv.pos
  obtain ⟨i, hi, hx, hj⟩ := first_ge ks x (ks.length - 1) (by omega) h1
  obtain ⟨a, b⟩ := val_at hv (i := i) (by omega) h0 hx hj
  by_cases e : kx ks i = x
  · obtain ⟨e1, e2⟩ := a e
    rw [e1, e2, ← e]
    exact ⟨on_knot (valid_inc hv) (by omega), by omega⟩
  · obtain ⟨hi0, e1, e2⟩ := b e
    have hu := hv.up (i - 1) (by omega)
    have hjx := hj (i - 1) (by omega)
    rw [e1, e2]
    unfold fvN fvD
    have hr := low_ratio (ky ks (i - 1) * (kx ks (i - 1 + 1) - kx ks (i - 1)) + (ky ks (i - 1 + 1) - ky ks (i - 1)) * (x - kx ks (i - 1))) (kx ks (i - 1 + 1) - kx ks (i - 1))
    have hd := (lowD_bd (n := ky ks (i - 1) * (kx ks (i - 1 + 1) - kx ks (i - 1)) + (ky ks (i - 1 + 1) - ky ks (i - 1)) * (x - kx ks (i - 1))) (d := kx ks (i - 1 + 1) - kx ks (i - 1)) (D := kx ks (i - 1 + 1) - kx ks (i - 1)) (by omega) (Int.le_refl _)).1
    refine ⟨on_seg (i := i - 1) (by omega) ⟨by show kx ks (i - 1) ≤ x; omega, by show x ≤ kx ks (i - 1 + 1); rw [show i - 1 + 1 = i by omega]; exact hx, ?_⟩, hd⟩
    generalize lowN _ _ = N at *
    generalize lowD _ _ = D at *
    dsimp only
    grind
theorem on_dom {ks : List (Int × Int)} (hv : Valid ks) {x n d : Int} (h : On ks x n d) : domLo ks ≤ x ∧ x ≤ domHi ks := by
  have hi := valid_inc hv
  have hp := hv.pos
  have lo : ∀ {l : List Kt}, Inc' l → 0 < l.length → On l x n d → kx l 0 ≤ x := fun {l} hi hl h => by
    cases l with
    | nil => exact absurd h (fun k => k)
    | cons p l => exact on_ge hi h
  have hi' : ∀ {l : List Kt}, Inc' l → On l x n d → x ≤ kx l (l.length - 1) := fun {l} => by
    induction l with
    | nil => exact fun _ h => absurd h (fun k => k)
    | cons p l ih =>
      intro hi h
      cases l with
      | nil => have := h.1; simp [kx]; omega
      | cons q l =>
        have hl : kx (p :: q :: l) ((p :: q :: l).length - 1) = kx (q :: l) ((q :: l).length - 1) := by simp [kx]
        rw [hl]
        obtain ⟨h1, h2⟩ := inc_cons2 hi
        rcases h with h | h
        · have h3 : On (q :: l) q.1 q.2 1 := on_mem h2 q (by simp)
          have h4 := h.2.1
          have h5 : q.1 ≤ kx (q :: l) ((q :: l).length - 1) := by
            rcases Nat.eq_zero_or_pos l.length with e | e
            · have : l = [] := List.eq_nil_of_length_eq_zero e
              subst this; simp [kx]
            · have hm := inc_mem h2
              have hlt : l.length - 1 < l.length := by omega
              have := hm _ (List.getElem_mem hlt)
              have e2 : kx (q :: l) ((q :: l).length - 1) = l[l.length - 1].1 := by
                unfold kx
                rw [show (q :: l).length - 1 = (l.length - 1) + 1 by simp; omega]
                simp [List.getD_eq_getElem?_getD, hlt]
              omega
          omega
        · exact ih h2 h
  exact ⟨lo hi hp h, hi' hi h⟩
theorem frac_uniq {a b c d : Int} (hb : 1 ≤ b) (hd : 1 ≤ d) (h1 : Nat.gcd a.natAbs b.natAbs = 1) (h2 : Nat.gcd c.natAbs d.natAbs = 1) (h : a * d = c * b) : a = c ∧ b = d := by
  have hn : a.natAbs * d.natAbs = c.natAbs * b.natAbs := by rw [← Int.natAbs_mul, ← Int.natAbs_mul, h]
  have e1 : b.natAbs ∣ d.natAbs := (Nat.Coprime.symm h1 : Nat.Coprime _ _).dvd_of_dvd_mul_left ⟨c.natAbs, by rw [hn, Nat.mul_comm]⟩
  have e2 : d.natAbs ∣ b.natAbs := (Nat.Coprime.symm h2 : Nat.Coprime _ _).dvd_of_dvd_mul_left ⟨a.natAbs, by rw [← hn, Nat.mul_comm]⟩
  have e := Nat.dvd_antisymm e1 e2
  have hbd : b = d := by omega
  subst hbd
  exact ⟨cancel (k := b) (by omega) (by grind), rfl⟩
/-- Where two curves have a point together, they have the same value. -/
theorem same_val {ks ks' : List (Int × Int)} (hv : Valid ks) (hv' : Valid ks') {x : Int} (h0 : domLo ks ≤ x) (h1 : x ≤ domHi ks) (h : On ks' x (valN ks x) (valD ks x)) : valN ks x = valN ks' x ∧ valD ks x = valD ks' x := by
  obtain ⟨a, b⟩ := on_val hv h0 h1
  obtain ⟨c0, c1⟩ := on_dom hv' h
  obtain ⟨c, d⟩ := on_val hv' c0 c1
  exact frac_uniq b d (val_cop hv x) (val_cop hv' x) (on_one (valid_inc hv') h c)
theorem okK_of : ∀ (ks : List (Int × Int)) (last : Int), (∀ i, i < ks.length → 0 ≤ kx ks i ∧ kx ks i ≤ 2000) → (∀ i, i < ks.length → -65536 ≤ ky ks i ∧ ky ks i ≤ 65536) → (∀ i, i + 1 < ks.length → kx ks i + 1 ≤ kx ks (i + 1)) → (0 < ks.length → last + 1 ≤ kx ks 0) → okK last ks = true
  | [], _, _, _, _, _ => rfl
  | (a, b) :: t, last, hx, hy, hu, hl => by
    have h1 := hx 0 (by simp)
    have h2 := hy 0 (by simp)
    have h3 := hl (by simp)
    simp only [kx, ky, List.getD_cons_zero] at h1 h2 h3
    unfold okK
    rw [Bool.and_eq_true]
    refine ⟨decide_eq_true ⟨h3, h1.2, h2.1, h2.2⟩, okK_of t a (fun i hi => ?_) (fun i hi => ?_) (fun i hi => ?_) (fun hp => ?_)⟩
    · have := hx (i + 1) (by simpa using hi); simpa [kx] using this
    · have := hy (i + 1) (by simpa using hi); simpa [ky] using this
    · have := hu (i + 1) (by simpa using hi); simpa [kx] using this
    · have := hu 0 (by simpa using hp); simpa [kx] using this
theorem check_of {ks : List (Int × Int)} {err : Int} (hv : Valid ks) (h0 : 0 ≤ err) (h1 : err ≤ 4000) : check ks err = 0 := by
  have hp := hv.pos
  have hl := hv.le
  unfold check
  rw [if_neg (by omega), if_neg (by omega), if_pos (okK_of ks (-1) hv.x0 hv.y0 hv.up (fun h => by have := hv.x0 0 h; omega))]
theorem valid_of {l : List (Int × Int)} (hi : Inc' l) (hp : 0 < l.length) (hl : l.length ≤ 40) (hb : ∀ z ∈ l, (0 ≤ z.1 ∧ z.1 ≤ 2000) ∧ -65536 ≤ z.2 ∧ z.2 ≤ 65536) : Valid l := by
  refine ⟨hp, hl, fun i h => ?_, fun i h => ?_, fun i h => ?_⟩
  · have := (hb _ (List.getElem_mem h)).1; rwa [(knot_get h).1] at this
  · have := (hb _ (List.getElem_mem h)).2; rwa [(knot_get h).2] at this
  · have := List.pairwise_iff_getElem.1 hi i (i + 1) (by omega) h (by omega)
    rw [(knot_get h).1, (knot_get (show i < l.length by omega)).1] at this
    omega
theorem on_bd {M : Int} : ∀ {l : List Kt} {x n : Int}, Inc' l → (∀ z ∈ l, -M ≤ z.2 ∧ z.2 ≤ M) → On l x n 1 → -M ≤ n ∧ n ≤ M
  | [p], x, n, _, hb, h => by have := hb p (by simp); have := h.2; omega
  | p :: q :: l, x, n, hi, hb, h => by
    obtain ⟨h1, h2⟩ := inc_cons2 hi
    rcases h with h | h
    · obtain ⟨a, b, e⟩ := h
      have hp := hb p (by simp)
      have hq := hb q (by simp)
      have hk : 0 < q.1 - p.1 := by omega
      have e1 : (q.1 - p.1) * (n + M) = (q.1 - x) * (p.2 + M) + (x - p.1) * (q.2 + M) := by grind
      have e2 : (q.1 - p.1) * (M - n) = (q.1 - x) * (M - p.2) + (x - p.1) * (M - q.2) := by grind
      have f1 : 0 ≤ (q.1 - x) * (p.2 + M) := Int.mul_nonneg (by omega) (by omega)
      have f2 : 0 ≤ (x - p.1) * (q.2 + M) := Int.mul_nonneg (by omega) (by omega)
      have f3 : 0 ≤ (q.1 - x) * (M - p.2) := Int.mul_nonneg (by omega) (by omega)
      have f4 : 0 ≤ (x - p.1) * (M - q.2) := Int.mul_nonneg (by omega) (by omega)
      have g1 := (pos_of_mul hk e1).1.2 (by omega)
      have g2 := (pos_of_mul hk e2).1.2 (by omega)
      omega
    · exact on_bd h2 (fun z hz => hb z (by simp [hz])) h

/-! ### Thin -/
def revL (l : Nat → Int × Int) : Nat → List (Int × Int)
  | 0 => [l 0]
  | m + 1 => l (m + 1) :: revL l m
theorem revL_eq (ks : List (Int × Int)) : ∀ m, m < ks.length → revL (fun i => ks.getD i (0, 0)) m = (ks.take (m + 1)).reverse
  | 0, h => by
    rw [List.take_succ_eq_append_getElem h]
    simp [revL, List.getD_eq_getElem?_getD, h]
  | m + 1, h => by
    rw [List.take_succ_eq_append_getElem h, List.reverse_append, ← revL_eq ks m (by omega)]
    simp [revL, List.getD_eq_getElem?_getD, h]
theorem lineB_straight (p q r : Int × Int) : lineB p q r = true ↔ straight p q r := lineB_iff p q r
theorem thin_facts {l : Nat → Int × Int} {N : Nat} (hx : ∀ i, i + 1 < N → (l i).1 < (l (i + 1)).1) : ∀ m, m < N →
    ((l m :: thK l m).Pairwise fun a b => b.1 < a.1) ∧ NCR (l m :: thK l m) ∧ ∀ x n d, OnR (l m :: thK l m) x n d ↔ OnR (revL l m) x n d
  | 0, _ => ⟨by simp [thK], trivial, fun _ _ _ => Iff.rfl⟩
  | m + 1, hm => by
    obtain ⟨h1, h2, h3⟩ := thin_facts hx m (by omega)
    obtain ⟨_, hT⟩ := thO_eq hx (m + 1) hm
    obtain ⟨hne, hI⟩ := hT (by omega)
    rw [show m + 1 - 1 = m by omega] at hI
    have hxm := hx m hm
    have e : thK l (m + 1) = if m = 0 ∨ lineB (l (m - 1)) (l m) (l (m + 1)) = false then l m :: thK l m else thK l m := rfl
    by_cases c : m = 0 ∨ lineB (l (m - 1)) (l m) (l (m + 1)) = false
    · rw [if_pos c] at e
      rw [e] at hI ⊢
      refine ⟨List.pairwise_cons.2 ⟨fun z hz => ?_, h1⟩, ?_, fun x n d => ?_⟩
      · rcases List.mem_cons.1 hz with rfl | hz
        · exact hxm
        · have := (List.pairwise_cons.1 h1).1 z hz; omega
      · cases hk : thK l m with
        | nil => exact trivial
        | cons s r =>
          rw [hk] at hI h2
          obtain ⟨_, b⟩ := hI.two (l m) s r rfl
          exact ⟨(fun k => by rw [(lineB_straight _ _ _).2 k] at b; cases b), h2⟩
      · show seg (l m) (l (m + 1)) x n d ∨ OnR (l m :: thK l m) x n d ↔ OnR (l (m + 1) :: revL l m) x n d
        rw [h3]
        cases m with
        | zero => exact Iff.rfl
        | succ k => exact Iff.rfl
    · rw [if_neg c] at e
      rw [e] at hne hI ⊢
      cases hk : thK l m with
      | nil => exact absurd hk hne
      | cons p T =>
        rw [hk] at hI h1 h2 h3
        obtain ⟨h1a, h1b⟩ := List.pairwise_cons.1 h1
        have hpm := h1a p (by simp)
        obtain ⟨i1, i2⟩ := hI.one p T rfl
        refine ⟨List.pairwise_cons.2 ⟨fun z hz => by have := h1a z hz; omega, h1b⟩, ?_, fun x n d => ?_⟩
        · cases T with
          | nil => exact trivial
          | cons s r =>
            obtain ⟨_, b⟩ := hI.two p s r rfl
            exact ⟨(fun k => by rw [(lineB_straight _ _ _).2 k] at b; cases b), h2.2⟩
        · have hs : straight p (l m) (l (m + 1)) := by unfold straight; grind
          have hm2 := seg_mid hpm hxm hs x n d
          have hr : OnR (revL l (m + 1)) x n d ↔ seg (l m) (l (m + 1)) x n d ∨ OnR (revL l m) x n d := by
            cases m with
            | zero => exact Iff.rfl
            | succ k => exact Iff.rfl
          rw [hr, ← h3]
          cases T with
          | nil =>
            show seg p (l (m + 1)) x n d ∨ OnR [p] x n d ↔ seg (l m) (l (m + 1)) x n d ∨ (seg p (l m) x n d ∨ OnR [p] x n d)
            rw [hm2]
            constructor
            · rintro ((h | h) | h)
              · exact .inr (.inl h)
              · exact .inl h
              · exact .inr (.inr h)
            · rintro (h | h | h)
              · exact .inl (.inr h)
              · exact .inl (.inl h)
              · exact .inr h
          | cons s r =>
            show seg p (l (m + 1)) x n d ∨ OnR (p :: s :: r) x n d ↔ seg (l m) (l (m + 1)) x n d ∨ (seg p (l m) x n d ∨ OnR (p :: s :: r) x n d)
            rw [hm2]
            constructor
            · rintro ((h | h) | h)
              · exact .inr (.inl h)
              · exact .inl h
              · exact .inr (.inr h)
            · rintro (h | h | h)
              · exact .inl (.inr h)
              · exact .inl (.inl h)
              · exact .inr h
/-- What is thinned has the same points, and no straight places. -/
theorem thin_row {ks : List (Int × Int)} (hv : Valid ks) : Inc' (thL ks) ∧ NC (thL ks) ∧ (∀ x n d, On (thL ks) x n d ↔ On ks x n d) ∧ Valid (thL ks) := by
  have hp := hv.pos
  have hx : ∀ i, i + 1 < ks.length → ((fun i => ks.getD i (0, 0)) i).1 < ((fun i => ks.getD i (0, 0)) (i + 1)).1 := fun i hi => by
    have := hv.up i hi
    unfold kx at this
    show (ks.getD i (0, 0)).1 < (ks.getD (i + 1) (0, 0)).1
    omega
  obtain ⟨h1, h2, h3⟩ := thin_facts hx (ks.length - 1) (by omega)
  have e := (thO_eq hx (ks.length - 1) (by omega)).1
  have et : thL ks = (thO (fun i => ks.getD i (0, 0)) (ks.length - 1)).reverse := rfl
  rw [← e] at h1 h2 h3
  have hi : Inc' (thL ks) := by rw [et]; exact List.pairwise_reverse.2 h1
  have hr : revL (fun i => ks.getD i (0, 0)) (ks.length - 1) = ks.reverse := by
    rw [revL_eq ks _ (by omega), show ks.length - 1 + 1 = ks.length by omega, List.take_length]
  refine ⟨hi, by rw [et]; exact ncR_nc.1 h2, fun x n d => ?_, ?_⟩
  · have a := onR_on (l := thO (fun i => ks.getD i (0, 0)) (ks.length - 1)) (x := x) (n := n) (d := d) (by rw [← et]; exact hi)
    have b := onR_on (l := ks.reverse) (x := x) (n := n) (d := d) (by rw [List.reverse_reverse]; exact valid_inc hv)
    rw [List.reverse_reverse] at b
    rw [et, ← a, h3, hr, b]
  · refine valid_of hi ?_ (Nat.le_trans (thL_len ks hp) hv.le) fun z hz => ?_
    · rw [et, List.length_reverse]
      exact List.length_pos_iff.2 (thO_ne _ _)
    · rw [et, List.mem_reverse] at hz
      obtain ⟨i, hi, rfl⟩ := thO_mem (fun i => ks.getD i (0, 0)) (N := ks.length) (ks.length - 1) (by omega) z hz
      exact ⟨hv.x0 i hi, hv.y0 i hi⟩
theorem thin_same {ks ks' : List (Int × Int)} (hv : Valid ks) (hv' : Valid ks') (h : ∀ x n d, 0 < d → (On ks x n d ↔ On ks' x n d)) : thL ks = thL ks' := by
  obtain ⟨a1, a2, a3, _⟩ := thin_row hv
  obtain ⟨b1, b2, b3, _⟩ := thin_row hv'
  exact uniq a1 a2 b1 b2 fun x n d hd => by rw [a3, b3]; exact h x n d hd
end Go.Proofs.Ytipablcbkoedbaa

namespace Go.Proofs.Ytipablcbkoedbaa
open Go.RowKit

theorem two_on : ∀ {l : List Kt} {p q : Kt} {x n d : Int}, Inc' l → p.1 < q.1 → On l p.1 p.2 1 → On l q.1 q.2 1 → (∀ z ∈ l, p.1 < z.1 → q.1 ≤ z.1) → seg p q x n d → On l x n d
  | [a], p, q, x, n, d, _, hpq, hp, hq, _, _ => by have := hp.1; have := hq.1; omega
  | a :: b :: t, p, q, x, n, d, hi, hpq, hp, hq, hz, h => by
    obtain ⟨h1, h2⟩ := inc_cons2 hi
    by_cases c : q.1 ≤ b.1
    · have hq' : seg a b q.1 q.2 1 := by
        rcases hq with hq | hq
        · exact hq
        · have e : q.1 = b.1 := by have := on_ge h2 hq; omega
          exact (seg_right h1 e).2 ((on_head h2 e).1 hq)
      have hp' : seg a b p.1 p.2 1 := by
        rcases hp with hp | hp
        · exact hp
        · have := on_ge h2 hp; omega
      have e1 := hp'.2.2
      have e2 := hq'.2.2
      obtain ⟨u, v, e3⟩ := h
      refine .inl ⟨by have := hp'.1; omega, by omega, ?_⟩
      exact cancel (k := q.1 - p.1) (by omega) (by grind)
    · have hbp : b.1 ≤ p.1 := Int.not_lt.1 fun k => c (hz b (by simp) k)
      have hp' : On (b :: t) p.1 p.2 1 := by
        rcases hp with hp | hp
        · have e : p.1 = b.1 := by have := hp.2.1; omega
          exact (on_head h2 e).2 ((seg_right h1 e).1 hp)
        · exact hp
      have hq' : On (b :: t) q.1 q.2 1 := by
        rcases hq with hq | hq
        · have := hq.2.1; omega
        · exact hq
      exact .inr (two_on h2 hpq hp' hq' (fun z hz' => hz z (by simp [hz'])) h)
theorem map_on {l : List Kt} (hi : Inc' l) (f : Int → Int) {x n d : Int} (hd : 0 < d) : ∀ X : List Int, X.Pairwise (· < ·) → (∀ y ∈ X, On l y (f y) 1) → (∀ z ∈ l, (∃ a ∈ X, a ≤ z.1) → (∃ b ∈ X, z.1 ≤ b) → z.1 ∈ X) →
    On (X.map fun y => (y, f y)) x n d → On l x n d
  | [], _, _, _, h => absurd h (fun k => k)
  | [a], _, ho, _, h => by
    have h1 := h.1
    have h2 := h.2
    dsimp only at h1 h2
    rw [h1]
    exact on_ratio (d := 1) (by omega) (ho a (by simp)) (by rw [h2]; grind)
  | a :: b :: t, hs, ho, hz, h => by
    have hs1 := List.pairwise_cons.1 hs
    have hs2 := List.pairwise_cons.1 hs1.2
    have hab := hs1.1 b (by simp)
    rcases h with h | h
    · refine two_on (p := (a, f a)) (q := (b, f b)) hi hab (ho a (by simp)) (ho b (by simp)) (fun z hzl hlt => ?_) h
      refine Int.not_lt.1 fun c => ?_
      dsimp only at hlt c
      have := hz z hzl ⟨a, by simp, by omega⟩ ⟨b, by simp, by omega⟩
      rcases List.mem_cons.1 this with e | e
      · omega
      · rcases List.mem_cons.1 e with e | e
        · omega
        · have := hs2.1 _ e; omega
    · refine map_on hi f hd (b :: t) hs1.2 (fun y hy => ho y (by simp [hy])) (fun z hzl ⟨a', ha', h1⟩ ⟨b', hb', h2⟩ => ?_) h
      rcases List.mem_cons.1 (hz z hzl ⟨a', by simp [ha'], h1⟩ ⟨b', by simp [hb'], h2⟩) with e | e
      · rcases List.mem_cons.1 ha' with e2 | e2
        · omega
        · have := hs2.1 _ e2; omega
      · exact e
theorem wh_on {ks : List (Int × Int)} (hv : Valid ks) {x : Int} (h : whB ks x = true) : On ks x (valN ks x) 1 ∧ domLo ks ≤ x ∧ x ≤ domHi ks := by
  unfold whB at h
  split at h
  · rename_i c
    have := (on_val hv c.1 c.2).1
    rw [of_decide_eq_true h] at this
    exact ⟨this, c⟩
  · cases h
/-- The curve with the knots at some X. -/
theorem at_row {ks : List (Int × Int)} (hv : Valid ks) {X : List Int} (hs : X.Pairwise (· < ·)) (hp : 0 < X.length) (hl : X.length ≤ 40) (hw : ∀ x ∈ X, whB ks x = true) (hz : ∀ z ∈ ks, (∃ a ∈ X, a ≤ z.1) → (∃ b ∈ X, z.1 ≤ b) → z.1 ∈ X) :
    Valid (atL ks X) ∧ (∀ x ∈ X, domLo (atL ks X) ≤ x ∧ x ≤ domHi (atL ks X)) ∧ domLo (atL ks X) ∈ X ∧ domHi (atL ks X) ∈ X ∧ (∀ x n d, 0 < d → domLo (atL ks X) ≤ x → x ≤ domHi (atL ks X) → (On (atL ks X) x n d ↔ On ks x n d)) ∧ (∀ x n d, 0 < d → On (atL ks X) x n d → On ks x n d) := by
  have hi : Inc' (atL ks X) := List.pairwise_map.2 hs
  have hlen := atL_len ks X
  have hm : ∀ z ∈ atL ks X, z.1 ∈ X ∧ z.2 = valN ks z.1 := fun z hz => by
    obtain ⟨x, hx, rfl⟩ := List.mem_map.1 hz
    exact ⟨hx, rfl⟩
  have hvR : Valid (atL ks X) := valid_of hi (by omega) (by omega) fun z hz => by
    obtain ⟨h1, h2⟩ := hm z hz
    obtain ⟨a, b, c⟩ := wh_on hv (hw _ h1)
    have h00 := hv.x0 0 hv.pos
    have h11 := hv.x0 (ks.length - 1) (by have := hv.pos; omega)
    refine ⟨⟨Int.le_trans h00.1 b, Int.le_trans c h11.2⟩, ?_⟩
    rw [h2]
    exact on_bd (valid_inc hv) (fun q hq => by
      obtain ⟨i, hi, rfl⟩ := List.mem_iff_getElem.1 hq
      rw [(knot_get hi).2]; exact hv.y0 i hi) a
  have fwd : ∀ x n d, 0 < d → On (atL ks X) x n d → On ks x n d := fun x n d hd => map_on (valid_inc hv) (valN ks) hd X hs (fun y hy => (wh_on hv (hw y hy)).1) hz
  have hdom : ∀ x ∈ X, domLo (atL ks X) ≤ x ∧ x ≤ domHi (atL ks X) := fun x hx => on_dom hvR (n := valN ks x) (d := 1) (on_mem hi (x, valN ks x) (List.mem_map.2 ⟨x, hx, rfl⟩))
  have hk : ∀ i, i < (atL ks X).length → kx (atL ks X) i ∈ X := fun i h => by
    have := (hm _ (List.getElem_mem h)).1
    rwa [(knot_get h).1] at this
  refine ⟨hvR, hdom, hk 0 hvR.pos, hk _ (by have := hvR.pos; omega), fun x n d hd h0 h1 => ⟨fwd x n d hd, fun h => ?_⟩, fwd⟩
  obtain ⟨a, b⟩ := on_val hvR h0 h1
  exact on_ratio (by omega) a (on_one (valid_inc hv) (fwd _ _ _ (by omega) a) h)

/-- What valued tells: true. -/
def vdT (ks ks' : List (Int × Int)) (err err' x : Int) : Prop := valErr ks err x ≠ 0 ∨ valErr ks' err' x ≠ 0 ∨ (vN ks err x = vN ks' err' x ∧ vD ks err x = vD ks' err' x)
theorem valErr_zero {ks : List (Int × Int)} {err x : Int} (h : valErr ks err x = 0) : check ks err = 0 ∧ domLo ks ≤ x ∧ x ≤ domHi ks := by
  unfold valErr at h
  split at h
  · rename_i c; exact absurd h c
  · rename_i c
    split at h
    · rename_i k; exact ⟨by omega, k⟩
    · omega
theorem vdT_of {ks ks' : List (Int × Int)} {err err' x : Int} (h : ∀ n d, 0 < d → On ks' x n d → On ks x n d) : vdT ks ks' err err' x := by
  by_cases h1 : valErr ks err x = 0
  · by_cases h2 : valErr ks' err' x = 0
    · refine .inr (.inr ?_)
      obtain ⟨c1, d1, d2⟩ := valErr_zero h1
      obtain ⟨c2, d3, d4⟩ := valErr_zero h2
      obtain ⟨v1, _⟩ := check_zero c1
      obtain ⟨v2, _⟩ := check_zero c2
      obtain ⟨a, b⟩ := on_val v2 d3 d4
      obtain ⟨e1, e2⟩ := same_val v2 v1 d3 d4 (h _ _ (by omega) a)
      unfold vN vD
      rw [if_pos h1, if_pos h2, if_pos h1, if_pos h2]
      exact ⟨e1.symm, e2.symm⟩
    · exact .inr (.inl h2)
  · exact .inl h1

/-! ### Thin -/
theorem keep_thin {ks : List (Int × Int)} {err : Int} (hc : check ks err = 0) (x : Int) :
    check (thL ks) err = 0 ∧ twErr ks (thL ks) err err = 0 ∧ smV ks (thL ks) err err = true ∧ vdT ks (thL ks) err err x := by
  obtain ⟨hv, h0, h1⟩ := check_zero hc
  obtain ⟨_, _, ho, hvt⟩ := thin_row hv
  have hct := check_of hvt h0 h1
  have htw : twErr ks (thL ks) err err = 0 := by unfold twErr; rw [if_pos hc]; exact hct
  refine ⟨hct, htw, ?_, vdT_of fun n d _ => (ho x n d).1⟩
  unfold smV
  rw [if_pos htw, if_pos rfl]
  exact decide_eq_true (thin_same hv hvt fun x n d _ => (ho x n d).symm)
theorem nc_at : ∀ (l : List Kt) (i : Nat), NC l → i + 2 < l.length → ¬ straight (kx l i, ky l i) (kx l (i + 1), ky l (i + 1)) (kx l (i + 2), ky l (i + 2))
  | p :: q :: r :: l, 0, h, _ => by simpa [kx, ky] using h.1
  | p :: q :: r :: l, i + 1, h, hi => by
    have := nc_at (q :: r :: l) i h.2 (by simpa using hi)
    simpa [kx, ky] using this
  | [], _, _, h => absurd h (by simp)
  | [_], _, _, h => absurd h (by simp)
  | [_, _], _, _, h => absurd h (by simp)
theorem keep_matters {ks : List (Int × Int)} (hv : Valid ks) {i : Nat} (h : i + 2 < (thL ks).length) : ¬ (ky (thL ks) (i + 1) - ky (thL ks) i) * (kx (thL ks) (i + 2) - kx (thL ks) (i + 1)) = (ky (thL ks) (i + 2) - ky (thL ks) (i + 1)) * (kx (thL ks) (i + 1) - kx (thL ks) i) :=
  nc_at (thL ks) i (thin_row hv).2.1 h

/-! ### Refine -/
theorem keep_refine {ks : List (Int × Int)} {err : Int} {xs : List Int} (h : rfErr ks err xs = 0) (hc : check ks err = 0) (x : Int) :
    check (rfR ks err xs) (rfF ks err xs) = 0 ∧ twErr ks (rfR ks err xs) err (rfF ks err xs) = 0 ∧ smV ks (rfR ks err xs) err (rfF ks err xs) = true ∧ vdT ks (rfR ks err xs) err (rfF ks err xs) x ∧ tnR (rfR ks err xs) (rfF ks err xs) = thL ks := by
  obtain ⟨hv, h0, h1⟩ := check_zero hc
  have e1 : rfR ks err xs = atL ks (rfX ks xs) := if_pos h
  have e2 : rfF ks err xs = err := if_pos h
  rw [e1, e2]
  have hr : (rfX ks xs).all (whB ks) = true ∧ (rfX ks xs).length ≤ 40 := by
    unfold rfErr at h
    rw [if_neg (by simp [hc])] at h
    by_cases c : (rfX ks xs).all (whB ks) = false
    · rw [if_pos c] at h; omega
    · rw [if_neg c] at h
      by_cases c2 : 40 < (rfX ks xs).length
      · rw [if_pos c2] at h; omega
      · exact ⟨by simpa using c, by omega⟩
  have hin : ∀ z ∈ ks, z.1 ∈ rfX ks xs := fun z hz => by
    unfold rfX
    rw [sort_mem]
    exact List.mem_append_right _ (List.mem_map_of_mem hz)
  have hpos : 0 < (rfX ks xs).length := by
    obtain ⟨z, hz⟩ := List.exists_mem_of_length_pos hv.pos
    exact List.length_pos_of_mem (hin z hz)
  obtain ⟨hvR, hd, _, _, hiff, hfwd⟩ := at_row hv (X := rfX ks xs) (sort_inc _) hpos hr.2 (fun x hx => List.all_eq_true.1 hr.1 x hx) (fun z hz _ _ => hin z hz)
  have hon : ∀ x n d, 0 < d → (On ks x n d ↔ On (atL ks (rfX ks xs)) x n d) := fun x n d hd' => by
    constructor
    · intro k
      obtain ⟨a, b⟩ := on_dom hv k
      have hp := hv.pos
      have g0 := hd (kx ks 0) (by have := hin _ (List.getElem_mem hp); rwa [(knot_get hp).1] at this)
      have g1 := hd (kx ks (ks.length - 1)) (by have := hin _ (List.getElem_mem (show ks.length - 1 < ks.length by omega)); rwa [(knot_get (show ks.length - 1 < ks.length by omega)).1] at this)
      exact (hiff x n d hd' (by unfold domLo at a; omega) (by unfold domHi at b; omega)).2 k
    · exact hfwd x n d hd'
  have hcR := check_of hvR h0 h1
  have htw : twErr ks (atL ks (rfX ks xs)) err err = 0 := by unfold twErr; rw [if_pos hc]; exact hcR
  have hth := thin_same hv hvR hon
  refine ⟨hcR, htw, ?_, vdT_of fun n d hd => (hon x n d hd).2, ?_⟩
  · unfold smV
    rw [if_pos htw, if_pos rfl]
    exact decide_eq_true hth
  · unfold tnR
    rw [if_pos hcR, hth]

/-! ### Cut -/
theorem putL_same : ∀ (l : List (Int × Int)) (k : Int × Int), Inc l → k.1 ∈ l.map Prod.fst → (putL l k).length = l.length
  | [], k, _, h => by simp at h
  | q :: l, k, hi, h => by
    have h1 := List.pairwise_cons.1 hi
    unfold putL
    rcases List.mem_cons.1 (by simpa using h : k.1 ∈ q.1 :: l.map Prod.fst) with e | e
    · rw [if_neg (by omega), if_pos e.symm]
    · obtain ⟨z, hz, ez⟩ := List.mem_map.1 e
      have := h1.1 z hz
      rw [if_pos (by omega)]
      simp [putL_same l k h1.2 e]
theorem cut_len {ks : List (Int × Int)} (hv : Valid ks) {lo hi : Int} (hlh : lo ≤ hi) (h0 : domLo ks ≤ lo) (h1 : hi ≤ domHi ks) : (ovXs ks lo hi).length ≤ ks.length := by
  have hc := cut_eq hv lo hi (cv0 ks 0) rfl
  have he : (ovXs ks lo hi).length = (putL (putL (inL lo hi ks) (lo, valN ks lo)) (hi, valN ks hi)).length := by rw [hc, atL_len]; rfl
  rw [he]
  have hi0 : Inc (inL lo hi ks) := (valid_inc hv).filter _
  have hi1 := putL_inc (inL lo hi ks) (lo, valN ks lo) hi0
  have a1 := putL_len (inL lo hi ks) (lo, valN ks lo)
  have a2 := putL_len (putL (inL lo hi ks) (lo, valN ks lo)) (hi, valN ks hi)
  have hp := hv.pos
  have hmem : ∀ z ∈ ks, lo ≤ z.1 → z.1 ≤ hi → z.1 ∈ (inL lo hi ks).map Prod.fst := fun z hz b c => List.mem_map_of_mem (List.mem_filter.2 ⟨hz, by simpa using ⟨b, c⟩⟩)
  have hfl : ∀ t : List (Int × Int), (inL lo hi t).length ≤ t.length := fun t => List.length_filter_le _ _
  have b1 : (∃ z ∈ ks, z.1 = lo) → (putL (inL lo hi ks) (lo, valN ks lo)).length = (inL lo hi ks).length := fun ⟨z, hz, e⟩ => putL_same _ _ hi0 (by have := hmem z hz (by omega) (by omega); rw [e] at this; exact this)
  have b2 : (∃ z ∈ ks, z.1 = hi) → (putL (putL (inL lo hi ks) (lo, valN ks lo)) (hi, valN ks hi)).length = (putL (inL lo hi ks) (lo, valN ks lo)).length := fun ⟨z, hz, e⟩ => putL_same _ _ hi1 (by
    rw [putL_fst]
    have := hmem z hz (by omega) (by omega)
    rw [e] at this
    exact .inl this)
  have hg : ∀ (j : Nat) (hj : j < ks.length), ks[j].1 = kx ks j := fun j hj => (knot_get hj).1
  by_cases c1 : ∃ z ∈ ks, z.1 = lo
  · by_cases c2 : ∃ z ∈ ks, z.1 = hi
    · have := b1 c1; have := b2 c2; have := hfl ks; omega
    · have e1 := b1 c1
      have hd : inL lo hi ks = inL lo hi ks.dropLast := by
        have hlast : ks = ks.dropLast ++ [ks[ks.length - 1]'(by omega)] := by
          rw [← List.getLast_eq_getElem (List.length_pos_iff.1 hp)]
          exact (List.dropLast_concat_getLast (List.length_pos_iff.1 hp)).symm
        have hne : hi ≠ kx ks (ks.length - 1) := fun e => c2 ⟨_, List.getElem_mem (show ks.length - 1 < ks.length by omega), by rw [hg]; exact e.symm⟩
        have h2 : ¬ (ks[ks.length - 1]'(by omega)).1 ≤ hi := by rw [hg _ (by omega)]; unfold domHi at h1; omega
        conv => lhs; rw [hlast]
        unfold inL
        rw [List.filter_append, List.filter_cons_of_neg (fun k => h2 (of_decide_eq_true k).2)]
        simp
      have := hfl ks.dropLast
      rw [hd] at e1 a1
      rw [hd] at a2
      rw [List.length_dropLast] at this
      rw [hd]
      omega
  · have hne : lo ≠ kx ks 0 := fun e => c1 ⟨_, List.getElem_mem hp, by rw [hg]; exact e.symm⟩
    have hlt : kx ks 0 < lo := by unfold domLo at h0; omega
    have hd : inL lo hi ks = inL lo hi ks.tail := by
      cases ks with
      | nil => simp at hp
      | cons p t =>
        have : ¬ lo ≤ p.1 := by simp [kx] at hlt; omega
        unfold inL
        rw [List.filter_cons_of_neg (by simp; omega)]
        rfl
    by_cases c2 : ∃ z ∈ ks, z.1 = hi
    · have e2 := b2 c2
      have := hfl ks.tail
      rw [List.length_tail] at this
      rw [hd] at e2 a1 ⊢
      omega
    · have hne2 : hi ≠ kx ks (ks.length - 1) := fun e => c2 ⟨_, List.getElem_mem (show ks.length - 1 < ks.length by omega), by rw [hg]; exact e.symm⟩
      have hlt2 : hi < kx ks (ks.length - 1) := by unfold domHi at h1; omega
      have hl2 : 2 ≤ ks.length := by
        rcases Nat.lt_or_ge ks.length 2 with k | k
        · have : ks.length - 1 = 0 := by omega
          rw [this] at hlt2; omega
        · exact k
      have hd2 : inL lo hi ks.tail = inL lo hi ks.tail.dropLast := by
        have hne3 : ks.tail ≠ [] := fun e => by have := congrArg List.length e; simp at this; omega
        have hlast : ks.tail = ks.tail.dropLast ++ [ks.tail.getLast hne3] := (List.dropLast_concat_getLast hne3).symm
        have h2 : ¬ (ks.tail.getLast hne3).1 ≤ hi := by
          rw [List.getLast_eq_getElem, List.getElem_tail, hg]
          rw [List.length_tail, show ks.length - 1 - 1 + 1 = ks.length - 1 by omega]
          omega
        conv => lhs; rw [hlast]
        unfold inL
        rw [List.filter_append, List.filter_cons_of_neg (fun k => h2 (of_decide_eq_true k).2)]
        simp
      have := hfl ks.tail.dropLast
      rw [List.length_dropLast, List.length_tail] at this
      rw [hd, hd2] at a1 a2 ⊢
      omega
theorem keep_cut {ks : List (Int × Int)} {err lo hi : Int} (h : ctErr ks err lo hi = 0) (x : Int) :
    check (ctR ks err lo hi) (ctF ks err lo hi) = 0 ∧ dmLo (ctR ks err lo hi) (ctF ks err lo hi) = lo ∧ dmHi (ctR ks err lo hi) (ctF ks err lo hi) = hi ∧ vdT ks (ctR ks err lo hi) err (ctF ks err lo hi) x := by
  have e1 : ctR ks err lo hi = atL ks (ovXs ks lo hi) := if_pos h
  have e2 : ctF ks err lo hi = err := if_pos h
  have hz : ovErr ks err lo hi = 0 := by
    unfold ctErr at h
    by_cases c : ovErr ks err lo hi = 0
    · exact c
    · rw [if_pos c] at h; exact h
  have hall : (ovXs ks lo hi).all (whB ks) = true := by
    unfold ctErr at h
    rw [if_neg (by simp [hz])] at h
    by_cases c : (ovXs ks lo hi).all (whB ks) = false
    · rw [if_pos c] at h; omega
    · simpa using c
  obtain ⟨hv, h0, h1, hlh, hlo, hhi⟩ := ov_valid hz
  rw [e1, e2]
  have hm : ∀ y, y ∈ ovXs ks lo hi ↔ y = lo ∨ y = hi ∨ y ∈ inXs lo hi ks := fun y => by
    unfold ovXs cornerL
    rw [sort_mem]
    show y ∈ lo :: hi :: (inXs lo hi ks ++ []) ↔ _
    simp
  have hmi : ∀ z ∈ ks, lo ≤ z.1 → z.1 ≤ hi → z.1 ∈ inXs lo hi ks := fun z hz b c => by
    rw [inL_xs]
    exact List.mem_map_of_mem (List.mem_filter.2 ⟨hz, by simpa using ⟨b, c⟩⟩)
  have hrg : ∀ y ∈ ovXs ks lo hi, lo ≤ y ∧ y ≤ hi := fun y hy => cornerL_mem hlh hy
  obtain ⟨hvR, hd, hm0, hm1, hiff, hfwd⟩ := at_row hv (X := ovXs ks lo hi) (sort_inc _) (cornerL_pos _ _ _) (Nat.le_trans (cut_len hv hlh hlo hhi) hv.le) (fun y hy => List.all_eq_true.1 hall y hy)
    (fun z hz ⟨a, ha, h2⟩ ⟨b, hb, h3⟩ => (hm _).2 (.inr (.inr (hmi z hz (by have := hrg a ha; omega) (by have := hrg b hb; omega)))))
  have hcR := check_of hvR h0 h1
  have g0 := hd lo ((hm lo).2 (.inl rfl))
  have g1 := hd hi ((hm hi).2 (.inr (.inl rfl)))
  have k0 := hrg _ hm0
  have k1 := hrg _ hm1
  refine ⟨hcR, ?_, ?_, vdT_of fun n d hd => hfwd x n d hd⟩
  · unfold dmLo; rw [if_pos hcR]; omega
  · unfold dmHi; rw [if_pos hcR]; omega
end Go.Proofs.Ytipablcbkoedbaa

namespace Go.Proofs.Ytipablcbkoedbaa
open Go.RowKit

theorem jnL_at (f : Int → Int → Int) (ks ks' : List (Int × Int)) {i : Nat} (h : i < ks.length) : kx (jnL f ks ks') i = kx ks i ∧ ky (jnL f ks ks') i = f (ky ks i) (ky ks' i) := by
  unfold jnL
  constructor
  · rw [show ∀ l : List (Int × Int), kx l i = (l.getD i (0, 0)).1 from fun _ => rfl]
    simp [List.getD_eq_getElem?_getD, h]
  · rw [show ∀ l : List (Int × Int), ky l i = (l.getD i (0, 0)).2 from fun _ => rfl]
    simp [List.getD_eq_getElem?_getD, h]
theorem sameX_at {ks ks' : List (Int × Int)} (h : sameX ks ks' = true) (i : Nat) : kx ks i = kx ks' i := by
  have e := of_decide_eq_true h
  have hl := sameX_len h
  have := congrArg (fun l => l[i]?) e
  simp only [List.getElem?_map] at this
  unfold kx
  simp only [List.getD_eq_getElem?_getD]
  rcases Nat.lt_or_ge i ks.length with c | c
  · have c' : i < ks'.length := by omega
    simp only [List.getElem?_eq_getElem c, List.getElem?_eq_getElem c', Option.map_some, Option.some.injEq, Option.getD_some] at this ⊢
    exact this
  · rw [List.getElem?_eq_none c, List.getElem?_eq_none (by omega)]
theorem jn_zero {f : Int → Int → Int} {ks ks' : List (Int × Int)} {err err' : Int} (h : jnErr f ks ks' err err' = 0) :
    check ks err = 0 ∧ check ks' err' = 0 ∧ sameX ks ks' = true ∧ check (jnL f ks ks') (err + err') = 0 ∧ jnR f ks ks' err err' = jnL f ks ks' ∧ jnF f ks ks' err err' = err + err' := by
  have e1 : jnR f ks ks' err err' = jnL f ks ks' := if_pos h
  have e2 : jnF f ks ks' err err' = err + err' := if_pos h
  unfold jnErr at h
  by_cases c : twErr ks ks' err err' = 0
  · rw [if_neg (by simp [c])] at h
    by_cases c2 : sameX ks ks' = false
    · rw [if_pos c2] at h; omega
    · rw [if_neg c2] at h
      by_cases c3 : check (jnL f ks ks') (err + err') = 0
      · unfold twErr at c
        by_cases c4 : check ks err = 0
        · rw [if_pos c4] at c
          exact ⟨c4, c, by simpa using c2, c3, e1, e2⟩
        · rw [if_neg c4] at c; exact absurd c c4
      · rw [if_pos c3] at h; omega
  · rw [if_pos c] at h; exact absurd h c
/-- What is known of two curves and their sum at an integer. -/
structure SumV (ks ks' : List (Int × Int)) (err err' x : Int) : Prop where
  ek : valErr ks err x = valErr ks' err' x
  es : valErr ks err x = valErr (jnL (fun a b => a + b) ks ks') (err + err') x
  eq : valErr ks err x = 0 → vN (jnL (fun a b => a + b) ks ks') (err + err') x * vD ks err x * vD ks' err' x = (vN ks err x * vD ks' err' x + vN ks' err' x * vD ks err x) * vD (jnL (fun a b => a + b) ks ks') (err + err') x
  bd : valErr ks err x = 0 → ∀ l e, (l = ks ∧ e = err) ∨ (l = ks' ∧ e = err') ∨ (l = jnL (fun a b => a + b) ks ks' ∧ e = err + err') → (-131072000 ≤ vN l e x ∧ vN l e x ≤ 131072000) ∧ 1 ≤ vD l e x ∧ vD l e x ≤ 2000
theorem keep_sum {ks ks' : List (Int × Int)} {err err' : Int} (h : jnErr (fun a b => a + b) ks ks' err err' = 0) (x : Int) : SumV ks ks' err err' x := by
  obtain ⟨c1, c2, hs, c3, _, _⟩ := jn_zero h
  obtain ⟨v1, _⟩ := check_zero c1
  obtain ⟨v2, _⟩ := check_zero c2
  obtain ⟨v3, _⟩ := check_zero c3
  have hl := sameX_len hs
  have hx := sameX_at hs
  have hlj := jnL_len (fun a b => a + b) ks ks'
  have hp := v1.pos
  have hj := fun i (h : i < ks.length) => jnL_at (fun a b => a + b) ks ks' h
  have d1 : domLo ks = domLo ks' := hx 0
  have d2 : domHi ks = domHi ks' := by show kx ks (ks.length - 1) = kx ks' (ks'.length - 1); rw [hx, hl]
  have d3 : domLo (jnL (fun a b => a + b) ks ks') = domLo ks := (hj 0 hp).1
  have d4 : domHi (jnL (fun a b => a + b) ks ks') = domHi ks := by show kx _ (_ - 1) = kx ks (ks.length - 1); rw [hlj]; exact (hj _ (by omega)).1
  have e0 : valErr ks err x = if domLo ks ≤ x ∧ x ≤ domHi ks then 0 else 3 := by unfold valErr; rw [if_neg (by simp [c1])]
  have e1 : valErr ks' err' x = if domLo ks ≤ x ∧ x ≤ domHi ks then 0 else 3 := by unfold valErr; rw [if_neg (by simp [c2]), d1, d2]
  have e2 : valErr (jnL (fun a b => a + b) ks ks') (err + err') x = if domLo ks ≤ x ∧ x ≤ domHi ks then 0 else 3 := by unfold valErr; rw [if_neg (by simp [c3]), d3, d4]
  have hin : valErr ks err x = 0 → domLo ks ≤ x ∧ x ≤ domHi ks := fun h => (valErr_zero h).2
  refine ⟨e0.trans e1.symm, e0.trans e2.symm, fun hz => ?_, fun hz l e hle => ?_⟩
  · have hz1 : valErr ks' err' x = 0 := e1.trans (e0.symm.trans hz)
    have hz2 : valErr (jnL (fun a b => a + b) ks ks') (err + err') x = 0 := e2.trans (e0.symm.trans hz)
    obtain ⟨h0, h1⟩ := hin hz
    unfold vN vD
    rw [if_pos hz, if_pos hz1, if_pos hz2, if_pos hz, if_pos hz1, if_pos hz2]
    obtain ⟨i, hi, hxi, hjl⟩ := first_ge ks x (ks.length - 1) (by omega) h1
    obtain ⟨a1, b1⟩ := val_at v1 (i := i) (by omega) h0 hxi hjl
    obtain ⟨a2, b2⟩ := val_at v2 (x := x) (i := i) (by omega) (by rw [← hx]; exact h0) (by rw [← hx]; exact hxi) (fun j hj => by rw [← hx]; exact hjl j hj)
    obtain ⟨a3, b3⟩ := val_at v3 (x := x) (i := i) (by omega) (by rw [(hj 0 hp).1]; exact h0) (by rw [(hj i (by omega)).1]; exact hxi) (fun j hj' => by rw [(hj j (by omega)).1]; exact hjl j hj')
    by_cases c : kx ks i = x
    · obtain ⟨p1, q1⟩ := a1 c
      obtain ⟨p2, q2⟩ := a2 (by rw [← hx]; exact c)
      obtain ⟨p3, q3⟩ := a3 (by rw [(hj i (by omega)).1]; exact c)
      rw [p1, q1, p2, q2, p3, q3, (hj i (by omega)).2]
      omega
    · obtain ⟨hi0, p1, q1⟩ := b1 c
      obtain ⟨_, p2, q2⟩ := b2 (by rw [← hx]; exact c)
      obtain ⟨_, p3, q3⟩ := b3 (by rw [(hj i (by omega)).1]; exact c)
      have hu := v1.up (i - 1) (by omega)
      obtain ⟨x0, y0⟩ := hj (i - 1) (by omega)
      obtain ⟨x1, y1⟩ := hj (i - 1 + 1) (by omega)
      have r1 := low_ratio (ky ks (i - 1) * (kx ks (i - 1 + 1) - kx ks (i - 1)) + (ky ks (i - 1 + 1) - ky ks (i - 1)) * (x - kx ks (i - 1))) (kx ks (i - 1 + 1) - kx ks (i - 1))
      have r2 := low_ratio (ky ks' (i - 1) * (kx ks' (i - 1 + 1) - kx ks' (i - 1)) + (ky ks' (i - 1 + 1) - ky ks' (i - 1)) * (x - kx ks' (i - 1))) (kx ks' (i - 1 + 1) - kx ks' (i - 1))
      have r3 := low_ratio (ky (jnL (fun a b => a + b) ks ks') (i - 1) * (kx (jnL (fun a b => a + b) ks ks') (i - 1 + 1) - kx (jnL (fun a b => a + b) ks ks') (i - 1)) + (ky (jnL (fun a b => a + b) ks ks') (i - 1 + 1) - ky (jnL (fun a b => a + b) ks ks') (i - 1)) * (x - kx (jnL (fun a b => a + b) ks ks') (i - 1))) (kx (jnL (fun a b => a + b) ks ks') (i - 1 + 1) - kx (jnL (fun a b => a + b) ks ks') (i - 1))
      rw [p1, q1, p2, q2, p3, q3]
      unfold fvN fvD
      rw [x0, x1, y0, y1] at r3 ⊢
      rw [← hx, ← hx] at r2 ⊢
      generalize kx ks (i - 1 + 1) = X1 at *
      generalize kx ks (i - 1) = X0 at *
      generalize ky ks (i - 1 + 1) = A1 at *
      generalize ky ks (i - 1) = A0 at *
      generalize ky ks' (i - 1 + 1) = B1 at *
      generalize ky ks' (i - 1) = B0 at *
      skip
      generalize lowN (A0 * (X1 - X0) + (A1 - A0) * (x - X0)) (X1 - X0) = n1 at *
      generalize lowD (A0 * (X1 - X0) + (A1 - A0) * (x - X0)) (X1 - X0) = m1 at *
      generalize lowN (B0 * (X1 - X0) + (B1 - B0) * (x - X0)) (X1 - X0) = n2 at *
      generalize lowD (B0 * (X1 - X0) + (B1 - B0) * (x - X0)) (X1 - X0) = m2 at *
      generalize lowN _ _ = n3 at *
      generalize lowD _ _ = m3 at *
      exact cancel (k := X1 - X0) (by omega) (by grind)
  · obtain ⟨h0, h1⟩ := hin hz
    have hb : ∀ {l : List (Int × Int)} {e : Int}, Valid l → valErr l e x = 0 → (-131072000 ≤ vN l e x ∧ vN l e x ≤ 131072000) ∧ 1 ≤ vD l e x ∧ vD l e x ≤ 2000 := fun {l e} hv hz => by
      obtain ⟨a, b, c, d⟩ := val_bd hv (valErr_zero hz).2.1
      unfold vN vD
      rw [if_pos hz, if_pos hz]
      exact ⟨⟨a, b⟩, c, d⟩
    rcases hle with ⟨rfl, rfl⟩ | ⟨rfl, rfl⟩ | ⟨rfl, rfl⟩
    · exact hb v1 hz
    · exact hb v2 (e1.trans (e0.symm.trans hz))
    · exact hb v3 (e2.trans (e0.symm.trans hz))
theorem keep_back {ks ks' : List (Int × Int)} {err err' : Int} (_ : jnErr (fun a b => a + b) ks ks' err err' = 0) (h2 : jnErr (fun a b => a - b) (jnL (fun a b => a + b) ks ks') ks' (err + err') err' = 0) (x : Int) :
    vdT ks (jnR (fun a b => a - b) (jnL (fun a b => a + b) ks ks') ks' (err + err') err') err (jnF (fun a b => a - b) (jnL (fun a b => a + b) ks ks') ks' (err + err') err') x := by
  obtain ⟨_, _, _, _, e1, e2⟩ := jn_zero h2
  have hb : jnL (fun a b => a - b) (jnL (fun a b => a + b) ks ks') ks' = ks := by
    refine List.ext_getElem (by rw [jnL_len, jnL_len]) fun i h1 h3 => ?_
    have hl := jnL_len (fun a b => a + b) ks ks'
    obtain ⟨p, q⟩ := jnL_at (fun a b => a - b) (jnL (fun a b => a + b) ks ks') ks' (i := i) (by omega)
    obtain ⟨r, s⟩ := jnL_at (fun a b => a + b) ks ks' (i := i) (by omega)
    rw [← (knot_get h1).1, r, ← (knot_get h3).1] at p
    rw [← (knot_get h1).2, s, show ky ks i = ks[i].2 from (knot_get h3).2.symm] at q
    exact Prod.ext p (by rw [q]; omega)
  rw [e1, hb]
  exact vdT_of fun n d _ h => h
end Go.Proofs.Ytipablcbkoedbaa

namespace Go.Proofs.Ytipablcbkoedbaa
open Go.RowKit


set_option maxRecDepth 100000 in
set_option maxHeartbeats 3200000 in
theorem valued_yes (A A' : Option Addr) (n cap n' cap' : Nat) (err err' : Int) (ks ks' : List (Int × Int)) (x : Int) (w : World) (h : CAt w A n ks) (hm : n ≤ 9223372036854775807) (h' : CAt w A' n' ks') (hm' : n' ≤ 9223372036854775807) (hv : vdT ks ks' err err' x) :
    Calls Try.prog 70 #[vCv A n cap err, vCv A' n' cap' err', .int .i64 x] w fun e w' => e = .returned (.bool true) ∧ Below w.heap.size w w' := by
  have HA := Lib.hid h
  have HA' := Lib.hid h'
  have HV := Lib.hid (fun W (hW : CAt W A n ks) => Value_any A n cap err ks x W hW hm)
  have HV' := Lib.hid (fun W (hW : CAt W A' n' ks') => Value_any A' n' cap' err' ks' x W hW hm')
  unfold vdT at hv
  have HT := Lib.hid hv
  clear h h' hv
  generalize valErr ks err x = e1 at *
  generalize valErr ks' err' x = e2 at *
  generalize vN ks err x = n1 at *
  generalize vN ks' err' x = n2 at *
  generalize vD ks err x = d1 at *
  generalize vD ks' err' x = d2 at *
  generalize hW : (w.alloc (.cells #[.slice A n cap, .int .i64 err] 24)).alloc (.cells #[.slice A' n' cap', .int .i64 err'] 24) = W
  have B0 : Below w.heap.size w W := by rw [← hW]; exact (((Below.refl w.heap.size w).alloc (Nat.le_refl _) _).alloc (by simp) _)
  have x0_0 : Blk W w.heap.size 24 #[.slice A n cap, .int .i64 err] := by rw [← hW]; exact ((Blk.at_new _ _ rfl).alloc _)
  have x1_0 : Blk W (w.heap.size + 1) 24 #[.slice A' n' cap', .int .i64 err'] := by rw [← hW]; exact (Blk.at_new _ _ (by simp))
  have HWE := Lib.hid hW
  clear hW
  go_enter Try.func70, Try.ntmps70
  have B1 := B0
  go_wp2_with fail
  rw [HWE.out]
  refine (HV.out _ (HA.out.below B1)).mono ?_; rintro e w1 ⟨rfl, hb1⟩
  have x0_1 := x0_0.below hb1
  have x1_1 := x1_0.below hb1
  clear x0_0 x1_0
  have x0_1c0 := x0_1.cell 0
  have x0_1c1 := x0_1.cell 1
  simp only [List.getElem?_toArray, List.getElem?_cons_zero, List.getElem?_cons_succ] at x0_1c0 x0_1c1
  have x0_1l := x0_1.lt
  have x1_1c0 := x1_1.cell 0
  have x1_1c1 := x1_1.cell 1
  simp only [List.getElem?_toArray, List.getElem?_cons_zero, List.getElem?_cons_succ] at x1_1c0 x1_1c1
  have x1_1l := x1_1.lt
  have B2 := B1.trans (hb1.mono B1.size)
  have B2a := B2.alloc B2.size (.cells #[.int .i64 n1, .int .i64 d1] 30)
  go_wp2_with fail
  refine (HV'.out _ (HA'.out.below B2a)).mono ?_; rintro e w2 ⟨rfl, hb2⟩
  clear x0_1c0 x0_1c1 x0_1l x1_1c0 x1_1c1 x1_1l
  have x0_2 := (x0_1.alloc (.cells #[.int .i64 n1, .int .i64 d1] 30)).below hb2
  have x1_2 := (x1_1.alloc (.cells #[.int .i64 n1, .int .i64 d1] 30)).below hb2
  clear x0_1 x1_1
  have v_2 := (Blk.new w1 30 #[.int .i64 n1, .int .i64 d1]).below hb2
  have x0_2c0 := x0_2.cell 0
  have x0_2c1 := x0_2.cell 1
  simp only [List.getElem?_toArray, List.getElem?_cons_zero, List.getElem?_cons_succ] at x0_2c0 x0_2c1
  have x0_2l := x0_2.lt
  have x1_2c0 := x1_2.cell 0
  have x1_2c1 := x1_2.cell 1
  simp only [List.getElem?_toArray, List.getElem?_cons_zero, List.getElem?_cons_succ] at x1_2c0 x1_2c1
  have x1_2l := x1_2.lt
  have v_2c0 := v_2.cell 0
  have v_2c1 := v_2.cell 1
  simp only [List.getElem?_toArray, List.getElem?_cons_zero, List.getElem?_cons_succ] at v_2c0 v_2c1
  have v_2l := v_2.lt
  have B3 := B2a.trans (hb2.mono B2a.size)
  have B3a := B3.alloc B3.size (.cells #[.int .i64 n2, .int .i64 d2] 30)
  go_upto_region 3 with fail
  clear x0_2c0 x0_2c1 x0_2l x1_2c0 x1_2c1 x1_2l v_2c0 v_2c1 v_2l
  have x0_3 := (x0_2.alloc (.cells #[.int .i64 n2, .int .i64 d2] 30))
  have x1_3 := (x1_2.alloc (.cells #[.int .i64 n2, .int .i64 d2] 30))
  have v_3 := (v_2.alloc (.cells #[.int .i64 n2, .int .i64 d2] 30))
  clear x0_2 x1_2 v_2
  have u_3 := (Blk.new w2 30 #[.int .i64 n2, .int .i64 d2])
  generalize hV3 : w2.alloc (.cells #[.int .i64 n2, .int .i64 d2] 30) = V3 at *
  generalize hg3 : w2.heap.size = g3 at *
  clear hV3 hg3
  have x0_3c0 := x0_3.cell 0
  have x0_3c1 := x0_3.cell 1
  simp only [List.getElem?_toArray, List.getElem?_cons_zero, List.getElem?_cons_succ] at x0_3c0 x0_3c1
  have x0_3l := x0_3.lt
  have x1_3c0 := x1_3.cell 0
  have x1_3c1 := x1_3.cell 1
  simp only [List.getElem?_toArray, List.getElem?_cons_zero, List.getElem?_cons_succ] at x1_3c0 x1_3c1
  have x1_3l := x1_3.lt
  have v_3c0 := v_3.cell 0
  have v_3c1 := v_3.cell 1
  simp only [List.getElem?_toArray, List.getElem?_cons_zero, List.getElem?_cons_succ] at v_3c0 v_3c1
  have v_3l := v_3.lt
  have u_3c0 := u_3.cell 0
  have u_3c1 := u_3.cell 1
  simp only [List.getElem?_toArray, List.getElem?_cons_zero, List.getElem?_cons_succ] at u_3c0 u_3c1
  have u_3l := u_3.lt
  have BZ := B3a
  by_cases c1 : e1 = 0
  case neg =>
    have hz1 : (e1 != 0) = true := by simpa using c1
    go_wp2
    go_ret
    exact ⟨rfl, BZ⟩
  case pos =>
    have hz1 : (e1 != 0) = false := by simpa using c1
    by_cases c2 : e2 = 0
    case neg =>
      have hz2 : (e2 != 0) = true := by simpa using c2
      clear c1
      go_wp2
      go_ret
      exact ⟨rfl, BZ⟩
    case pos =>
      have hz2 : (e2 != 0) = false := by simpa using c2
      have hq : n1 = n2 ∧ d1 = d2 := by
        rcases HT.out with k | k | k
        · exact absurd c1 k
        · exact absurd c2 k
        · exact k
      obtain ⟨rfl, rfl⟩ := hq
      clear c1 c2
      go_wp2
      go_ret
      exact ⟨by simp, BZ⟩

set_option maxRecDepth 100000 in
set_option maxHeartbeats 3200000 in
theorem matters_yes (b off n cap : Nat) (err : Int) (ks : List (Int × Int)) (w : World) (h : Kn w b off ks) (hn : ks.length = n) (hv : Valid ks) (hs : ∀ i, i + 2 < ks.length → ¬ (ky ks (i + 1) - ky ks i) * (kx ks (i + 2) - kx ks (i + 1)) = (ky ks (i + 2) - ky ks (i + 1)) * (kx ks (i + 1) - kx ks i)) :
    Calls Try.prog 71 #[vCv (some ⟨b, off, none⟩) n cap err] w fun e w' => e = .returned (.bool true) ∧ Below w.heap.size w w' := by
  have HK := Lib.hid h
  have HN := Lib.hid hn
  have HS := Lib.hid hs
  have HBd := Lib.hid (show ∀ i, i < n → (0 ≤ kx ks i ∧ kx ks i ≤ 2000) ∧ -65536 ≤ ky ks i ∧ ky ks i ≤ 65536 from fun i hi => ⟨hv.x0 i (by omega), hv.y0 i (by omega)⟩)
  have hle := hv.le
  have hpos := hv.pos
  have hn40 : n ≤ 40 := by omega
  have hn0 : 0 < n := by omega
  clear h hn hs hv hle hpos
  have x0_0 : Blk (w.alloc (.cells #[.slice (some ⟨b, off, none⟩) n cap, .int .i64 err] 24)) w.heap.size 24 #[.slice (some ⟨b, off, none⟩) n cap, .int .i64 err] := Blk.at_new _ _ rfl
  have B0 : Below w.heap.size w (w.alloc (.cells #[.slice (some ⟨b, off, none⟩) n cap, .int .i64 err] 24)) := (Below.refl w.heap.size w).alloc (Nat.le_refl _) _
  go_enter Try.func71, Try.ntmps71
  go_wp2_with fail
  go_loopw [3] (fun i wx => ∃ k : Nat, k < n ∧ i = .int .i64 (((k + 1 : Nat) : Int)) ∧ Below w.heap.size w wx ∧ Blk wx w.heap.size 24 #[.slice (some ⟨b, off, none⟩) n cap, .int .i64 err]) (fun i _ => n + 1 - (intOf i).toNat)
  case atStart => exact ⟨0, hn0, rfl, B0, x0_0⟩
  case round =>
    clear B0 x0_0
    obtain ⟨wo, hwo⟩ : ∃ wo : World, wo = wr := ⟨_, rfl⟩
    subst hwo
    obtain ⟨k, hk, rfl, Br, x0_1⟩ := hrel
    have xc0 := x0_1.cell 0
    have xc1 := x0_1.cell 1
    simp only [List.getElem?_toArray, List.getElem?_cons_zero, List.getElem?_cons_succ] at xc0 xc1
    have xl := x0_1.lt
    by_cases hkn : k + 2 < n
    case neg =>
      go_wp2
      go_ret
      exact ⟨rfl, Br⟩
    case pos =>
      have hK := HK.out.below Br
      have hkl := hK.lt
      have p0 := hK.x k (by have := HN.out; omega)
      have p1 := hK.y k (by have := HN.out; omega)
      have q0 := hK.x (k + 1) (by have := HN.out; omega)
      have q1 := hK.y (k + 1) (by have := HN.out; omega)
      have r0 := hK.x (k + 2) (by have := HN.out; omega)
      have r1 := hK.y (k + 2) (by have := HN.out; omega)
      obtain ⟨⟨pb1, pb2⟩, pb3, pb4⟩ := HBd.out k (by omega)
      obtain ⟨⟨qb1, qb2⟩, qb3, qb4⟩ := HBd.out (k + 1) (by omega)
      obtain ⟨⟨rb1, rb2⟩, rb3, rb4⟩ := HBd.out (k + 2) (by omega)
      have HNs := Lib.hid (HS.out k (by have := HN.out; omega))
      clear hK
      generalize kx ks k = px at *
      generalize ky ks k = py at *
      generalize kx ks (k + 1) = qx at *
      generalize ky ks (k + 1) = qy at *
      generalize kx ks (k + 2) = rx at *
      generalize ky ks (k + 2) = ry at *
      have mb1 := mul_bd (x := qy - py) (y := rx - qx) (A := 131072) (B := 2000) (by omega) (by omega) (by omega) (by omega)
      have mb2 := mul_bd (x := ry - qy) (y := qx - px) (A := 131072) (B := 2000) (by omega) (by omega) (by omega) (by omega)
      have hwa : IntKind.i64.wrap ((qy - py) * (rx - qx)) = (qy - py) * (rx - qx) := IntWalk.i64_in _ (by omega)
      have hwb : IntKind.i64.wrap ((ry - qy) * (qx - px)) = (ry - qy) * (qx - px) := IntWalk.i64_in _ (by omega)
      have hne : ((qy - py) * (rx - qx) == (ry - qy) * (qx - px)) = false := by simpa using HNs.out
      have BA := ((Br.alloc Br.size (.cells #[.int .i64 px, .int .i64 py] 108)).alloc (by have := Br.size; simp; omega) (.cells #[.int .i64 qx, .int .i64 qy] 108)).alloc (by have := Br.size; simp; omega) (.cells #[.int .i64 rx, .int .i64 ry] 108)
      have xa := ((x0_1.alloc (.cells #[.int .i64 px, .int .i64 py] 108)).alloc (.cells #[.int .i64 qx, .int .i64 qy] 108)).alloc (.cells #[.int .i64 rx, .int .i64 ry] 108)
      clear mb1 mb2
      go_wp2
      go_roundw
      case rel => exact ⟨k + 1, by omega, by go_num, BA, xa⟩
      case measure => simp [intOf]; omega
end Go.Proofs.Ytipablcbkoedbaa
