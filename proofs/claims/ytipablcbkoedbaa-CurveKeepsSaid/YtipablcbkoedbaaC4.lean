/- corners. -/
import Derived.WalkKit
import Derived.WalkLawsBesides
import Derived.Deep.QuietTactic
import Derived.BigQuiet
import Derived.RegionTactic
import Derived.Lib.Hide
import Derived.Outline
import Derived.WalkSmall
import Derived.OwnWalk
import Derived.Sort.OwnSortedInts
import Derived.Lib.RowBridge
import Derived.Test.YtipablcbkoedbaaProg
import Derived.Test.YtipablcbkoedbaaReg
import Derived.Test.YtipablcbkoedbaaA1
import Derived.Test.YtipablcbkoedbaaA2
import Derived.Test.YtipablcbkoedbaaB1
import Derived.Test.YtipablcbkoedbaaB2
import Derived.Test.YtipablcbkoedbaaB3
import Derived.Test.YtipablcbkoedbaaB4
import Derived.Test.YtipablcbkoedbaaC1
import Derived.Test.YtipablcbkoedbaaShelf
namespace Go.Proofs.Ytipablcbkoedbaa
open Go.RowKit

/-- The X of knots that lie within. -/
def inXs (lo hi : Int) : List (Int × Int) → List Int
  | [] => []
  | k :: ks => if lo ≤ k.1 ∧ k.1 ≤ hi then k.1 :: inXs lo hi ks else inXs lo hi ks
theorem inXs_drop (lo hi : Int) (ks : List (Int × Int)) (k : Nat) (hk : k < ks.length) :
    inXs lo hi (ks.drop k) = if lo ≤ kx ks k ∧ kx ks k ≤ hi then kx ks k :: inXs lo hi (ks.drop (k + 1)) else inXs lo hi (ks.drop (k + 1)) := by
  rw [List.drop_eq_getElem_cons hk]
  have e : ks.getD k (0, 0) = ks[k] := by simp [List.getD_eq_getElem?_getD, hk]
  unfold kx
  rw [e]
  rfl
def inXss (lo hi : Int) : List CV → List Int
  | [] => []
  | c :: cs => inXs lo hi c.ks ++ inXss lo hi cs
theorem inXss_drop (lo hi : Int) (cs : List CV) (k : Nat) (hk : k < cs.length) :
    inXss lo hi (cs.drop k) = inXs lo hi (cvks cs k) ++ inXss lo hi (cs.drop (k + 1)) := by
  rw [List.drop_eq_getElem_cons hk]
  have e : cs.getD k ⟨none, 0, 0, 0, []⟩ = cs[k] := by simp [List.getD_eq_getElem?_getD, hk]
  unfold cvks
  rw [e]
  rfl
def cornerXs (lo hi : Int) (cs : List CV) : List Int := lo :: hi :: inXss lo hi cs
def cornerL (lo hi : Int) (cs : List CV) : List Int := Lib.compact ((cornerXs lo hi cs).mergeSort fun x y => decide (x ≤ y))

theorem info_int : (Try.prog.info? 3).map (fun i => (i.zero, i.size, i.bytes)) = some (some (.int .i64 0), 1, 8) := by kernel_rfl

/-- What is owned, when blocks that are not the row are turned. -/
theorem owns_below {W W' : World} {B e size : Nat} {v : Value} {n : Nat} {xs : List Value} (h : W.ownsRow B e size v n xs) (hb : Below W.heap.size W W') : W'.ownsRow B e size v n xs := by
  refine ⟨h.1, ?_⟩
  rcases h.2 with hn | ⟨g, cap, cur, rfl, hg, hgg, rest⟩
  · exact .inl hn
  · exact .inr ⟨g, cap, cur, rfl, hg, (hb.block g (Array.getElem?_eq_some_iff.1 hgg).1).trans hgg, rest⟩

/-- What an append leaves: the old memory, and a block of the call's own below the row's base. -/
theorem app_step {w W w1 : World} {B e size n : Nat} {t : TypeId} {cs : Array Value} {v : Value} {xs : List Value} (hb : Below B w W) (hB : B ≤ W.heap.size) (hs : Blk W B t cs) (hown : W.ownsRow (B + 1) e size v n xs) (hg : W.grownBy w1 v.ownBlock) : Below B w w1 ∧ Blk w1 B t cs :=
  ⟨hb.grown hg hB (fun k hk => by have := (hown.lt k hk).1; omega), (hg.block B hs.lt (fun e => by have := (hown.lt B e.symm).1; omega)).trans hs⟩

/-- The sort and the cut of a row that the call owns. -/
theorem sort_owned {W : World} {base g c : Nat} {zs : List Int} (hown : W.ownsRow base 3 1 (.slice (some ⟨g, 0, none⟩) zs.length c) zs.length (zs.map (Value.int .i64))) (hl : zs.length ≤ 1000000) :
    Calls Try.prog 126 #[.slice (some ⟨g, 0, none⟩) zs.length c] W fun e w' => e = .returned (.tuple #[]) ∧
      w'.ownsRow base 3 1 (.slice (some ⟨g, 0, none⟩) zs.length c) zs.length ((zs.mergeSort fun x y => decide (x ≤ y)).map (Value.int .i64)) ∧ W.grownBy w' (some g) := by
  rcases hown.2 with ⟨h0, _⟩ | ⟨g', cap', cur, hv, hg, hb, h1, h2, h3, h4⟩
  · cases h0
  cases hv
  refine (Try.slices_Sort_int g 0 c zs W (holds_of_blockI hb (by simpa using h4)) (Array.getElem?_eq_some_iff.1 hb).1 (by omega)).mono ?_
  rintro e w' ⟨rfl, n, os, rfl⟩
  exact ⟨rfl, ownsRow_sortedI (by simp) hg hb h1 h2 h3, grownBy_sortedI _⟩

theorem grow_none (X : World) : Sort.grow X #[] = X := by cases X; simp [Sort.grow]
theorem compact_owned {W : World} {base g c n : Nat} {zs : List Int} (hn : zs.length = n) (hown : W.ownsRow base 3 1 (.slice (some ⟨g, 0, none⟩) n c) n (zs.map (Value.int .i64))) (hl : n ≤ 1000000) :
    Calls Try.prog 128 #[.slice (some ⟨g, 0, none⟩) n c] W fun e w' => e = .returned (.slice (some ⟨g, 0, none⟩) (Lib.compact zs).length c) ∧
      w'.ownsRow base 3 1 (.slice (some ⟨g, 0, none⟩) (Lib.compact zs).length c) (Lib.compact zs).length ((Lib.compact zs).map (Value.int .i64)) ∧ W.grownBy w' (some g) := by
  subst hn
  rcases hown.2 with ⟨h0, _⟩ | ⟨g', cap', cur, hv, hg, hb, h1, h2, h3, h4⟩
  · cases h0
  cases hv
  refine (Try.slices_Compact_int g 0 c zs W (holds_of_blockI hb (by simpa using h4)) (by omega) h1).mono ?_
  rintro e w' ⟨rfl, q, rfl⟩
  have hcl := Lib.compact_length_le zs
  have hgr : W.grownBy (Sort.putRow (Value.int .i64) (Sort.ahead W q) g 0 (Lib.compact zs ++ List.replicate (zs.length - (Lib.compact zs).length) 0).toArray) (some g) := by
    have := grownBy_sortedI (w := W) (g := g) (n := q) (os := #[]) (Lib.compact zs ++ List.replicate (zs.length - (Lib.compact zs).length) 0).toArray
    rwa [grow_none] at this
  refine ⟨rfl, ?_, hgr⟩
  have hblk := heap_sortedI (w := W) (g := g) (n := q) (os := #[]) (Lib.compact zs ++ List.replicate (zs.length - (Lib.compact zs).length) 0).toArray hb
  refine ⟨by simp, .inr ⟨g, c, _, rfl, hg, by rwa [grow_none] at hblk, by omega, h2, by simp [Sort.putCells, h3], ?_⟩⟩
  have ht := take_putCellsI cur (Lib.compact zs ++ List.replicate (zs.length - (Lib.compact zs).length) 0) (by simp; omega)
  have ht2 := congrArg (List.take (Lib.compact zs).length) ht
  rw [List.take_take, Nat.min_eq_left (by simp)] at ht2
  rw [Nat.mul_one, ht2]
  simp

set_option maxHeartbeats 1600000 in
theorem corners_any (A : Option Addr) (n cap : Nat) (cs : List CV) (lo hi : Int) (w : World) (h : LAt w A n cs) (hm : n ≤ 1000) (hv : AllValid cs) (hT : (cornerXs lo hi cs).length ≤ 1000000) :
    Calls Try.prog 81 #[vSpan lo hi, .slice A n cap] w fun e w' => (∃ g c, e = .returned (.slice (some ⟨g, 0, none⟩) (cornerL lo hi cs).length c) ∧ w'.ownsRow w.heap.size 3 1 (.slice (some ⟨g, 0, none⟩) (cornerL lo hi cs).length c) (cornerL lo hi cs).length ((cornerL lo hi cs).map (Value.int .i64))) ∧ Below w.heap.size w w' := by
  have HL := Lib.hid h.len
  have HA := Lib.hid h
  have HV := Lib.hid hv
  have HTT := Lib.hid hT
  clear h hv hT
  obtain ⟨i0, hi0, hz0, hz1, hz2⟩ := info_parts info_int
  have HI := Lib.hid (show Try.prog.info? 3 = some i0 ∧ i0.zero = some (.int .i64 0) ∧ i0.size = 1 ∧ i0.bytes = 8 from ⟨hi0, hz0, hz1, hz2⟩)
  clear hi0 hz0 hz1 hz2
  go_enter Try.func81, Try.ntmps81
  go_wp2
  go_loopw [5, 17] (fun v i wr => ∃ (k : Nat) (acc : List Int), k ≤ n ∧ i = .int .i64 k ∧ cornerXs lo hi cs = acc ++ inXss lo hi (cs.drop k) ∧ wr.ownsRow (w.heap.size + 1) 3 1 v acc.length (acc.map (Value.int .i64)) ∧ v ≠ .slice none 0 0 ∧ Blk wr w.heap.size 26 #[.int .i64 lo, .int .i64 hi] ∧ Below w.heap.size w wr) (fun _ i _ => n - (intOf i).toNat)
  case atStart =>
    refine ⟨0, [lo, hi], Nat.zero_le _, rfl, rfl, ?_, by simp, (Blk.at_new _ _ rfl).alloc _, ((Below.refl _ _).alloc (Nat.le_refl _) _).alloc (by simp) _⟩
    have h := World.ownsRow_lit (base := w.heap.size + 1) (e := 3) (size := 1) (w.alloc (.cells #[.int .i64 lo, .int .i64 hi] 26)) #[.int .i64 lo, .int .i64 hi] 2 (by simp) (by unfold maxLen; omega) rfl
    simpa using h
  case round =>
    obtain ⟨k, acc, hk, rfl, hacc, hown, hvn, hs0, hb⟩ := hrel
    have HO := Lib.hid hacc
    have HOwn := Lib.hid hown
    have HVn := Lib.hid hvn
    clear hacc hown hvn
    have hs1 := hs0.lt
    by_cases hkn : k < n
    · obtain ⟨b, off, hAe, hcs⟩ := HA.out.at_ (by omega)
      subst hAe
      have hlt := hcs.lt
      have hcs' := hcs.below hb
      have hkl : k < cs.length := by rw [HL.out]; exact hkn
      have hs := hcs'.s k hkl
      have he := hcs'.e k hkl
      have hat := hcs.at_ k hkl
      have hd := inXss_drop lo hi cs k hkl
      obtain ⟨hvk, _, _⟩ := HV.out k hkl
      have HD := Lib.hid hd
      clear hd hcs hcs'
      generalize hcA : cvA cs k = cA at *
      generalize hcn : cvn cs k = cn at *
      generalize hcc : cvcap cs k = cc at *
      generalize hce : cverr cs k = ce at *
      generalize hck : cvks cs k = ck at *
      clear hcA hcn hcc hce hck hkl
      have hpos := hvk.pos
      have hvle := hvk.le
      have hlen := hat.len
      obtain ⟨b', off', hAe', hkn'⟩ := hat.at_ (by omega)
      subst hAe'
      have HT := Lib.hid hkn'
      have HLn := Lib.hid hlen
      have hcn1 : 0 < cn := by omega
      have hcn2 : cn ≤ 1000 := by omega
      clear hkn' hlen hat hvk
      go_wp2
      go_loopw [5, 24] (fun v i wr2 => ∃ (j : Nat) (acc2 : List Int), j ≤ cn ∧ i = .int .i64 j ∧ acc ++ inXs lo hi ck = acc2 ++ inXs lo hi (ck.drop j) ∧ wr2.ownsRow (w.heap.size + 1) 3 1 v acc2.length (acc2.map (Value.int .i64)) ∧ v ≠ .slice none 0 0 ∧ Blk wr2 w.heap.size 26 #[.int .i64 lo, .int .i64 hi] ∧ Below w.heap.size w wr2) (fun _ i _ => cn - (intOf i).toNat)
      case atStart => exact ⟨0, acc, Nat.zero_le _, rfl, rfl, HOwn.out.alloc _, HVn.out, hs0.alloc _, hb.alloc hb.size _⟩
      case round =>
        clear hs he hs0 hb hs1
        obtain ⟨j, acc2, hj, rfl, hacc2, hown2, hvn2, hs0, hb⟩ := hrel
        have HO2 := Lib.hid hacc2
        have HVn2 := Lib.hid hvn2
        clear hacc2 hvn2
        have hs1 := hs0.lt
        have hsc0 := hs0.cell 0
        have hsc1 := hs0.cell 1
        simp only [List.getElem?_toArray, List.getElem?_cons_zero, List.getElem?_cons_succ] at hsc0 hsc1
        by_cases hjn : j < cn
        · have hjl : j < ck.length := by rw [HLn.out]; exact hjn
          have hkr := HT.out.below hb
          have hx := hkr.x j hjl
          have hy := hkr.y j hjl
          have hbl := hkr.lt
          have HXd := Lib.hid (inXs_drop lo hi ck j hjl)
          clear hkr hjl
          generalize hkx : kx ck j = xj at *
          generalize hky : ky ck j = yj at *
          clear hkx hky
          by_cases hw : lo ≤ xj ∧ xj ≤ hi
          · have HW := Lib.hid hw
            clear hw
            have hacl : acc2.length ≤ 1000000 := by
              have h1 := HTT.out
              rw [HO.out, HD.out, ← List.append_assoc, HO2.out] at h1
              simp only [List.length_append] at h1
              omega
            go_wp2_with (first
              | (go_at_call 98; refine (within_yes _ _ _ _ HW.out).mono ?_; rintro e w' ⟨rfl, rfl⟩)
              | (at_builtin; go_loud (refine wpList_append_own _ rfl (.tmp 35) (.tmp 38) 93 rfl (w.heap.size + 1) 3 i0 (.int .i64 0) 1 8 Try.underlying93 HI.out.1 HI.out.2.1 HI.out.2.2.1 HI.out.2.2.2 rfl (by decide) _ acc2.length (acc2.map (Value.int .i64)) rfl ((hown2.alloc _).alloc _) ⟨wr.heap.size + 1, 0, none⟩ 1 1 [.int .i64 xj] rfl rfl ?c1 ?c2 ?c3 ?c4 ?c5 ?_)))
            case c1 =>
              intro j' u hj'
              match j', hj' with
              | 0, hj' => simp at hj'; subst hj'; simp [Addr.add]
            case c2 => intro u hu; simp at hu; subst hu; rfl
            case c3 => unfold maxLen; omega
            case c4 => omega
            case c5 => have := hb.size; simp; omega
            intro v' w1 hown' hgrow hnn
            have hlast := app_step ((hb.alloc hb.size _).alloc (by simp; have := hb.size; omega) _) (by simp; have := hb.size; omega) ((hs0.alloc _).alloc _) ((hown2.alloc _).alloc _) hgrow
            have HN := Lib.hid hown'
            have HL2 := Lib.hid hlast
            have HNN := Lib.hid hnn
            clear hown' hgrow hlast hnn hown2 hs0 hb hsc0 hsc1 hx hy
            go_wp2
            go_roundw
            case rel =>
              refine ⟨j + 1, acc2 ++ [xj], by omega, by go_num, ?_, ?_, ?_, HL2.out.2, HL2.out.1⟩
              · rw [HO2.out, HXd.out, if_pos HW.out, List.append_assoc]; rfl
              · have := HN.out
                simpa using this
              · intro e
                exact HNN.out e
            case measure => simp [intOf]; omega
          · have HW := Lib.hid hw
            clear hw
            go_wp2_with (go_at_call 98; refine (within_no _ _ _ _ HW.out).mono ?_; rintro e w' ⟨rfl, rfl⟩)
            go_roundw
            case rel => exact ⟨j + 1, acc2, by omega, by go_num, by rw [HO2.out, HXd.out, if_neg HW.out], hown2.alloc _, HVn2.out, hs0.alloc _, hb.alloc hb.size _⟩
            case measure => simp [intOf]; omega
        · have hjj : j = cn := by omega
          go_wp2
          go_roundw
          case rel => 
            refine ⟨k + 1, acc2, by omega, by go_num, ?_, hown2, HVn2.out, hs0, hb⟩
            have e0 := HO2.out
            rw [hjj, List.drop_eq_nil_of_le (by rw [HLn.out]; omega)] at e0
            rw [HO.out, HD.out, ← List.append_assoc, e0]
            simp [inXs]
          case measure => simp [intOf]; omega
    · have hacc : cornerXs lo hi cs = acc := by rw [HO.out, List.drop_eq_nil_of_le (by rw [HL.out]; omega)]; simp [inXss]
      have HA2 := Lib.hid hacc
      clear hacc
      have hal : acc.length ≤ 1000000 := by have := HTT.out; rw [HA2.out] at this; exact this
      have hown := HOwn.out
      rcases hown.2 with ⟨h0, _⟩ | ⟨g, c, cur, hv, hg, _⟩
      · exact absurd h0 HVn.out
      subst hv
      have hb' := Lib.hid hb
      have HG := Lib.hid hg
      clear hb hs0 hg hown
      clear HVn
      go_wp2_with (first
        | (go_at_call 126; refine (sort_owned HOwn.out hal).mono ?_; rintro e w1 ⟨rfl, ho1, hg1⟩; have HS := Lib.hid (show w1.ownsRow (w.heap.size + 1) 3 1 (.slice (some ⟨g, 0, none⟩) acc.length c) acc.length ((acc.mergeSort fun x y => decide (x ≤ y)).map (Value.int .i64)) ∧ wr.grownBy w1 (some g) from ⟨ho1, hg1⟩); clear ho1 hg1)
        | (go_at_call 128; refine (compact_owned (by simp) HS.out.1 hal).mono ?_; rintro e w2 ⟨rfl, ho2, hg2⟩))
      have hgo : w.heap.size ≤ g := by have := HG.out; omega
      have hbe : Below w.heap.size w w2 := ((hb'.out.grown HS.out.2 hb'.out.size (fun k hk => by cases hk; exact hgo))).grown hg2 (Nat.le_trans hb'.out.size HS.out.2.size) (fun k hk => by cases hk; exact hgo)
      have ho3 : w2.ownsRow w.heap.size 3 1 (.slice (some ⟨g, 0, none⟩) (cornerL lo hi cs).length c) (cornerL lo hi cs).length ((cornerL lo hi cs).map (Value.int .i64)) := by
        unfold cornerL
        rw [HA2.out]
        refine ⟨ho2.1, ?_⟩
        rcases ho2.2 with h | ⟨g', cap', cur', hv', hg', rest⟩
        · exact absurd h.1 (by simp)
        · exact .inr ⟨g', cap', cur', hv', by omega, rest⟩
      have HF := Lib.hid (show Below w.heap.size w w2 ∧ _ from ⟨hbe, ho3⟩)
      clear hbe ho3 ho2 hg2
      go_ret
      exact ⟨⟨g, c, by unfold cornerL; rw [HA2.out]; rfl, HF.out.2⟩, HF.out.1⟩
end Go.Proofs.Ytipablcbkoedbaa
