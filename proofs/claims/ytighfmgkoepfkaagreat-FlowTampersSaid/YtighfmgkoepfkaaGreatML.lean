/- CheckLimit of the program. -/
import Derived.Lib.AppendZeros
import Derived.Test.YtighfmgkoepfkaaGreatMRb
import Derived.Test.YtighfmgkoepfkaaGreatMX
import Derived.Test.YtighfmgkoepfkaaGreatMT
import Derived.Test.YtighfmgkoepfkaaGreatMZ
import Derived.Test.YtighfmgkoepfkaaGreatME
import Derived.Test.YtighfmgkoepfkaaGreatMB
namespace Go.Proofs.YtighfmgkoepfkaaGreat
open Go.RowKit Go.Lib

theorem wpList_append_run {P : Program} {w w' : World} {ops : Array Oper} {rest : List Oper} {o : Oper} {a : Act} {Q : Exit → Act → World → Prop} (hgd : o.guard = none) (s x : Operand) (t tn : TypeId)
    (ho : o.op = .call { callee := .builtin .append, args := #[s, x], argTypes := #[t, tn] }) (v u r : Value) (hs : a.eval s = v) (hx : a.eval x = u) (hr : (Builtin.append_ #[t, tn] o.type #[v, u]).run P w = .ok r w')
    (h : wpList P ops Q rest (a.put o.dst r) w') : wpList P ops Q (o :: rest) a w := by
  refine wpList_plain hgd fun K hK => ?_
  unfold Oper.wp
  simp [execOp, ho, resolve, invoke, builtin, hs, hx, hr, Result.andThen]
  exact hK _ _ h
set_option maxRecDepth 100000 in
theorem grow_nil (n : Nat) (w : World) (hn : n ≤ 1000000) :
    Calls Tryz.prog 148 #[.slice none 0 0, .int .i64 (n : Int)] w fun e w' => ∃ A c, e = .returned (.slice A 0 c) ∧ w'.ownsRow w.heap.size 3 1 (.slice A 0 c) 0 [] ∧ Below w.heap.size w w' := by
  obtain ⟨ii, hi0, hi1, hi2, hi3⟩ := info_parts info_int
  have h1 : decide ((n : Int) < 0) = false := decide_eq_false (by omega)
  by_cases hz : n = 0
  case pos =>
    subst hz
    go_enter Tryz.func148, Tryz.ntmps148
    go_wp2
    go_ret
    exact ⟨none, 0, rfl, World.ownsRow_nil _ _ _ _, Below.refl _ _⟩
  case neg =>
    have h2 : decide (0 < (n : Int)) = true := decide_eq_true (by omega)
    have hrz : ∀ ty, (Builtin.append_ #[42, 3] ty #[.slice none 0 0, .int .i64 (n : Int)]).run Tryz.prog w = _ := fun ty => run_append_nil_zeros w 42 3 ty 3 ii (.int .i64 0) .i64 .i64 Tryz.underlying42 Tryz.underlying3 hi0 hi1 n (by omega) (by rw [hi2]; decide) (by omega) (by rw [hi3]; omega)
    have hG := grownCap_ge w n 0 3
    have hM := grownCap_le_maxLen w n 0 3 (by unfold maxLen; omega)
    obtain ⟨G, hGe⟩ : ∃ G, grownCap w n 0 3 = G := ⟨_, rfl⟩
    rw [hGe] at hrz hG hM
    have hG63 : G ≤ 9223372036854775807 := by unfold maxLen at hM; omega
    obtain ⟨cs, hcs⟩ : ∃ cs, Builtin.zeroCells (Value.int .i64 0).cells n ++ Builtin.zeroCells (Value.int .i64 0).cells (G - n) = cs := ⟨_, rfl⟩
    have hcl : cs.size = G * 1 := by rw [← hcs]; simp [Builtin.zeroCells, Value.cells]; omega
    rw [hcs] at hrz
    have HM := Lib.hid hM
    have HC := Lib.hid hcl
    clear hi0 hi1 hi2 hi3 hGe hcs hM hcl
    go_enter Tryz.func148, Tryz.ntmps148
    go_wp2_with (at_builtin; go_loud (refine wpList_append_run rfl (.tmp 20) (.tmp 21) 42 3 rfl (.slice none 0 0) (.int .i64 (n : Int)) _ rfl rfl (hrz _) ?_))
    go_wp2
    go_ret
    have hm := World.ownsRow_made (base := w.heap.size) (e := 3) (size := 1) w cs G (Nat.le_refl _) HM.out HC.out
    exact ⟨some ⟨w.heap.size, 0, none⟩, G, rfl, owns_below hm (Below.refl _ _).drew, ((Below.refl _ w).alloc (Nat.le_refl _) _).drew⟩
def catT (a b d : List Int) (k : Nat) : List Int := if k = 0 then [] else if k = 1 then a else if k = 2 then a ++ b else a ++ b ++ d
set_option maxRecDepth 100000 in
set_option maxHeartbeats 12800000 in
theorem concat_any (g : Nat) (A1 : Option Addr) (n1 c1 : Nat) (A2 : Option Addr) (n2 c2 : Nat) (A3 : Option Addr) (n3 c3 : Nat) (a b d : List Int) (w : World) (hg : Blk w g 42 #[.slice A1 n1 c1, .slice A2 n2 c2, .slice A3 n3 c3])
    (h1 : SAt encI 1 w A1 n1 a) (h2 : SAt encI 1 w A2 n2 b) (h3 : SAt encI 1 w A3 n3 d) (l1 : n1 ≤ 1000) (l2 : n2 ≤ 1000) (l3 : n3 ≤ 1000) :
    Calls Tryz.prog 131 #[.slice (some ⟨g, 0, none⟩) 3 3] w fun e w' => ∃ A c, e = .returned (.slice A (n1 + n2 + n3) c) ∧ SAt encI 1 w' A (n1 + n2 + n3) (a ++ b ++ d) ∧ Below w.heap.size w w' := by
  obtain ⟨ii, hi0, hi1, hi2, hi3⟩ := info_parts info_int
  have HII := Lib.hid (And.intro hi0 (And.intro hi1 (And.intro hi2 hi3)))
  have HG := Lib.hid hg
  have H1 := Lib.hid h1
  have H2 := Lib.hid h2
  have H3 := Lib.hid h3
  clear hi0 hi1 hi2 hi3 hg h1 h2 h3
  go_enter Tryz.func131, Tryz.ntmps131
  obtain ⟨q3, hq3⟩ : ∃ q : Nat, q = 3 := ⟨_, rfl⟩
  rw [show (Value.slice (some ⟨g, 0, none⟩) 3 3) = .slice (some ⟨g, 0, none⟩) q3 q3 by rw [hq3]]
  have HQ := Lib.hid hq3
  have hqb : q3 ≤ 3 ∧ 3 ≤ q3 := by omega
  clear hq3
  go_upto_region 3 with fail
  go_loopw [3, 5, 11] (fun s _ i wx => ∃ k : Nat, k ≤ q3 ∧ i = .int .i64 (k : Int) ∧ s = .int .i64 ((if k = 0 then 0 else if k = 1 then n1 else if k = 2 then n1 + n2 else n1 + n2 + n3 : Nat) : Int) ∧ wx = w) (fun _ _ i _ => q3 - (intOf i).toNat)
  case atStart => exact ⟨0, Nat.zero_le _, rfl, rfl, rfl⟩
  case round =>
    obtain ⟨k, hk, rfl, rfl, rfl⟩ := hrel
    have y0 := HG.out.cell 0
    have y1 := HG.out.cell 1
    have y2 := HG.out.cell 2
    simp only [List.getElem?_toArray, List.getElem?_cons_zero, List.getElem?_cons_succ] at y0 y1 y2
    have yl := HG.out.lt
    by_cases hkq : k < q3
    case pos =>
      have hk3 : k = 0 ∨ k = 1 ∨ k = 2 := by omega
      rcases hk3 with rfl | rfl | rfl
      · obtain ⟨S, hS⟩ : ∃ S, (if 0 = 0 then 0 else if 0 = 1 then n1 else if 0 = 2 then n1 + n2 else n1 + n2 + n3 : Nat) = S := ⟨_, rfl⟩
        have hSv : S = 0 := by rw [← hS]; simp
        have HSv := Lib.hid hSv
        have hSl : S ≤ 100000 := by omega
        rw [hS]
        have hkb : decide (((0 : Nat) : Int) < (q3 : Int)) = true := decide_eq_true (by omega)
        have hkn : ((0 : Nat) : Int) < (q3 : Int) := by omega
        clear hS hSv
        go_wp2
        go_roundw
        case rel => exact ⟨1, by omega, by go_num, by have := HSv.out; simp; omega, trivial⟩
        case measure => simp [intOf]; omega
      · obtain ⟨S, hS⟩ : ∃ S, (if 1 = 0 then 0 else if 1 = 1 then n1 else if 1 = 2 then n1 + n2 else n1 + n2 + n3 : Nat) = S := ⟨_, rfl⟩
        have hSv : S = n1 := by rw [← hS]; simp
        have HSv := Lib.hid hSv
        have hSl : S ≤ 100000 := by omega
        rw [hS]
        have hkb : decide (((1 : Nat) : Int) < (q3 : Int)) = true := decide_eq_true (by omega)
        have hkn : ((1 : Nat) : Int) < (q3 : Int) := by omega
        clear hS hSv
        go_wp2
        go_roundw
        case rel => exact ⟨2, by omega, by go_num, by have := HSv.out; simp; omega, trivial⟩
        case measure => simp [intOf]; omega
      · obtain ⟨S, hS⟩ : ∃ S, (if 2 = 0 then 0 else if 2 = 1 then n1 else if 2 = 2 then n1 + n2 else n1 + n2 + n3 : Nat) = S := ⟨_, rfl⟩
        have hSv : S = n1 + n2 := by rw [← hS]; simp
        have HSv := Lib.hid hSv
        have hSl : S ≤ 100000 := by omega
        rw [hS]
        have hkb : decide (((2 : Nat) : Int) < (q3 : Int)) = true := decide_eq_true (by omega)
        have hkn : ((2 : Nat) : Int) < (q3 : Int) := by omega
        clear hS hSv
        go_wp2
        go_roundw
        case rel => exact ⟨3, by omega, by go_num, by have := HSv.out; simp; omega, trivial⟩
        case measure => simp [intOf]; omega
    case neg =>
      obtain rfl : k = 3 := by omega
      obtain ⟨S, hS⟩ : ∃ S, n1 + n2 + n3 = S := ⟨_, rfl⟩
      have hSl : S ≤ 1000000 := by omega
      rw [show ((if 3 = 0 then 0 else if 3 = 1 then n1 else if 3 = 2 then n1 + n2 else n1 + n2 + n3 : Nat)) = S from hS]
      have HS := Lib.hid hS
      have HGw := Lib.hid (grow_nil S wr hSl)
      have hkb : decide ((3 : Int) < (q3 : Int)) = false := decide_eq_false (by omega)
      clear hS hkq hk y0 y1 y2 yl
      go_upto_region 11 with (go_at_call 148; with_reducible refine HGw.out.mono ?_; rintro e u1 ⟨Ag, cg, rfl, og, hbg⟩)
      have OG := Lib.hid og
      have HBg := Lib.hid hbg
      obtain ⟨bs, hbs0⟩ : ∃ b, wr.heap.size = b := ⟨_, rfl⟩
      have HBs := Lib.hid hbs0
      clear og hbg HGw hbs0
      go_loopw [6, 8, 27] (fun v _ i wx => ∃ (k : Nat) (Av : Option Addr) (nv cv : Nat), k ≤ q3 ∧ i = .int .i64 (k : Int) ∧ v = .slice Av nv cv ∧ nv = (if k = 0 then 0 else if k = 1 then n1 else if k = 2 then n1 + n2 else n1 + n2 + n3) ∧ wx.ownsRow bs 3 1 (.slice Av nv cv) nv ((catT a b d k).flatMap encI) ∧ bs ≤ wx.heap.size ∧ Below wr.heap.size wr wx) (fun _ _ i _ => q3 - (intOf i).toNat)
      case atStart => exact ⟨0, Ag, 0, cg, Nat.zero_le _, rfl, rfl, rfl, by simpa [catT, HBs.out] using OG.out, by have := HBg.out.size; have := HBs.out; omega, HBg.out⟩
      case round =>
        obtain ⟨k, Av, nv, cv, hk, rfl, rfl, hnv, ov, hbs1, hb⟩ := hrel
        have OV := Lib.hid ov
        have HB := Lib.hid hb
        have HNv := Lib.hid hnv
        have gk := HG.out.below hb
        have y0 := gk.cell 0
        have y1 := gk.cell 1
        have y2 := gk.cell 2
        simp only [List.getElem?_toArray, List.getElem?_cons_zero, List.getElem?_cons_succ] at y0 y1 y2
        have yl := gk.lt
        have hnl : nv ≤ 1000000 := by rw [hnv]; split <;> (try split) <;> (try split) <;> omega
        clear gk ov hb
        by_cases hkq : k < q3
        case pos =>
          clear hnv
          have hk3 : k = 0 ∨ k = 1 ∨ k = 2 := by omega
          rcases hk3 with rfl | rfl | rfl
          · have hkb : decide (((0 : Nat) : Int) < (q3 : Int)) = true := decide_eq_true (by omega)
            have hkn : ((0 : Nat) : Int) < (q3 : Int) := by omega
            have HCt := Lib.hid (show catT a b d (0 + 1) = catT a b d 0 ++ a by simp [catT])
            cases A1 with
            | none =>
              have h0 : n1 = 0 := by
                refine Nat.eq_zero_of_not_pos fun q => ?_
                obtain ⟨bb, off, e, _⟩ := H1.out.at_ q
                cases e
              subst h0
              have hl : a = [] := List.eq_nil_of_length_eq_zero H1.out.len
              have HL := Lib.hid hl
              clear hl
              go_wp2_with (at_builtin; go_loud (refine wpList_append_own_nil rfl (.tmp 31) (.tmp 32) 42 rfl bs 3 ii 1 Tryz.underlying42 HII.out.1 _ nv ((catT a b d 0).flatMap encI) rfl OV.out c1 rfl ?_))
              go_wp2
              go_roundw
              case rel => exact ⟨1, Av, nv, cv, by omega, by go_num, rfl, by rw [HNv.out]; simp, by rw [HCt.out, HL.out, List.append_nil]; exact OV.out, hbs1, HB.out⟩
              case measure => simp [intOf]; omega
            | some ad =>
              have hf := (H1.out.below HB.out).flat encI_len (by decide)
              go_wp2_with (at_builtin; go_loud (refine wpList_append_own _ rfl (.tmp 31) (.tmp 32) 42 rfl bs 3 ii (.int .i64 0) 1 8 Tryz.underlying42 HII.out.1 HII.out.2.1 HII.out.2.2.1 HII.out.2.2.2 rfl (by decide) _ nv ((catT a b d 0).flatMap encI) rfl OV.out ad n1 c1 (a.flatMap encI) rfl (by rw [flat_len encI_len, H1.out.len]) hf (encI_one _) (by unfold maxLen; omega) (by omega) (by omega) ?_))
              intro v' w9 ho hgr _
              obtain ⟨A9, c9, rfl⟩ := owns_slice ho
              have HO := Lib.hid ho
              have HGs := Lib.hid hgr.size
              have HB9 := Lib.hid (HB.out.grown hgr HB.out.size (fun r hr => by have := (own_lt OV.out hr).1; have := HBs.out; omega))
              clear ho hgr
              go_wp2
              go_roundw
              case rel => exact ⟨1, A9, nv + n1, c9, by omega, by go_num, rfl, by rw [HNv.out]; simp, by rw [HCt.out, List.flatMap_append]; exact HO.out, Nat.le_trans hbs1 HGs.out, HB9.out⟩
              case measure => simp [intOf]; omega
          · have hkb : decide (((1 : Nat) : Int) < (q3 : Int)) = true := decide_eq_true (by omega)
            have hkn : ((1 : Nat) : Int) < (q3 : Int) := by omega
            have HCt := Lib.hid (show catT a b d (1 + 1) = catT a b d 1 ++ b by simp [catT])
            cases A2 with
            | none =>
              have h0 : n2 = 0 := by
                refine Nat.eq_zero_of_not_pos fun q => ?_
                obtain ⟨bb, off, e, _⟩ := H2.out.at_ q
                cases e
              subst h0
              have hl : b = [] := List.eq_nil_of_length_eq_zero H2.out.len
              have HL := Lib.hid hl
              clear hl
              go_wp2_with (at_builtin; go_loud (refine wpList_append_own_nil rfl (.tmp 31) (.tmp 32) 42 rfl bs 3 ii 1 Tryz.underlying42 HII.out.1 _ nv ((catT a b d 1).flatMap encI) rfl OV.out c2 rfl ?_))
              go_wp2
              go_roundw
              case rel => exact ⟨2, Av, nv, cv, by omega, by go_num, rfl, by rw [HNv.out]; simp, by rw [HCt.out, HL.out, List.append_nil]; exact OV.out, hbs1, HB.out⟩
              case measure => simp [intOf]; omega
            | some ad =>
              have hf := (H2.out.below HB.out).flat encI_len (by decide)
              go_wp2_with (at_builtin; go_loud (refine wpList_append_own _ rfl (.tmp 31) (.tmp 32) 42 rfl bs 3 ii (.int .i64 0) 1 8 Tryz.underlying42 HII.out.1 HII.out.2.1 HII.out.2.2.1 HII.out.2.2.2 rfl (by decide) _ nv ((catT a b d 1).flatMap encI) rfl OV.out ad n2 c2 (b.flatMap encI) rfl (by rw [flat_len encI_len, H2.out.len]) hf (encI_one _) (by unfold maxLen; omega) (by omega) (by omega) ?_))
              intro v' w9 ho hgr _
              obtain ⟨A9, c9, rfl⟩ := owns_slice ho
              have HO := Lib.hid ho
              have HGs := Lib.hid hgr.size
              have HB9 := Lib.hid (HB.out.grown hgr HB.out.size (fun r hr => by have := (own_lt OV.out hr).1; have := HBs.out; omega))
              clear ho hgr
              go_wp2
              go_roundw
              case rel => exact ⟨2, A9, nv + n2, c9, by omega, by go_num, rfl, by rw [HNv.out]; simp, by rw [HCt.out, List.flatMap_append]; exact HO.out, Nat.le_trans hbs1 HGs.out, HB9.out⟩
              case measure => simp [intOf]; omega
          · have hkb : decide (((2 : Nat) : Int) < (q3 : Int)) = true := decide_eq_true (by omega)
            have hkn : ((2 : Nat) : Int) < (q3 : Int) := by omega
            have HCt := Lib.hid (show catT a b d (2 + 1) = catT a b d 2 ++ d by simp [catT])
            cases A3 with
            | none =>
              have h0 : n3 = 0 := by
                refine Nat.eq_zero_of_not_pos fun q => ?_
                obtain ⟨bb, off, e, _⟩ := H3.out.at_ q
                cases e
              subst h0
              have hl : d = [] := List.eq_nil_of_length_eq_zero H3.out.len
              have HL := Lib.hid hl
              clear hl
              go_wp2_with (at_builtin; go_loud (refine wpList_append_own_nil rfl (.tmp 31) (.tmp 32) 42 rfl bs 3 ii 1 Tryz.underlying42 HII.out.1 _ nv ((catT a b d 2).flatMap encI) rfl OV.out c3 rfl ?_))
              go_wp2
              go_roundw
              case rel => exact ⟨3, Av, nv, cv, by omega, by go_num, rfl, by rw [HNv.out]; simp, by rw [HCt.out, HL.out, List.append_nil]; exact OV.out, hbs1, HB.out⟩
              case measure => simp [intOf]; omega
            | some ad =>
              have hf := (H3.out.below HB.out).flat encI_len (by decide)
              go_wp2_with (at_builtin; go_loud (refine wpList_append_own _ rfl (.tmp 31) (.tmp 32) 42 rfl bs 3 ii (.int .i64 0) 1 8 Tryz.underlying42 HII.out.1 HII.out.2.1 HII.out.2.2.1 HII.out.2.2.2 rfl (by decide) _ nv ((catT a b d 2).flatMap encI) rfl OV.out ad n3 c3 (d.flatMap encI) rfl (by rw [flat_len encI_len, H3.out.len]) hf (encI_one _) (by unfold maxLen; omega) (by omega) (by omega) ?_))
              intro v' w9 ho hgr _
              obtain ⟨A9, c9, rfl⟩ := owns_slice ho
              have HO := Lib.hid ho
              have HGs := Lib.hid hgr.size
              have HB9 := Lib.hid (HB.out.grown hgr HB.out.size (fun r hr => by have := (own_lt OV.out hr).1; have := HBs.out; omega))
              clear ho hgr
              go_wp2
              go_roundw
              case rel => exact ⟨3, A9, nv + n3, c9, by omega, by go_num, rfl, by rw [HNv.out]; simp, by rw [HCt.out, List.flatMap_append]; exact HO.out, Nat.le_trans hbs1 HGs.out, HB9.out⟩
              case measure => simp [intOf]; omega
        case neg =>
          obtain rfl : k = 3 := by omega
          have hkb : decide ((3 : Int) < (q3 : Int)) = false := decide_eq_false (by omega)
          have HN3 := Lib.hid (show n1 + n2 + n3 = nv from hnv.symm)
          have HS2 := HS
          clear hnv hk hkq y0 y1 y2 yl
          go_wp2
          go_ret
          rw [HN3.out]
          have hlen : (catT a b d 3).length = nv := by
            have e1 := H1.out.len
            have e2 := H2.out.len
            have e3 := H3.out.len
            have e4 := HN3.out
            simp [catT]
            omega
          obtain ⟨A9, c9, e9, hs9, _, _⟩ := SAt_of_row (enc := encI) (zs := catT a b d 3) encI_len hlen OV.out
          cases e9
          exact ⟨Av, cv, rfl, hs9, HB.out⟩
set_option maxRecDepth 100000 in
set_option maxHeartbeats 3200000 in
theorem valueAt_any (t : TR) (A1 : Option Addr) (n1 c1 : Nat) (A2 : Option Addr) (n2 c2 : Nat) (A3 : Option Addr) (n3 c3 : Nat) (st en ma : List Int) (at_ : Nat) (w : World) (h1 : SAt encI 1 w A1 n1 st) (h2 : SAt encI 1 w A2 n2 en) (h3 : SAt encI 1 w A3 n3 ma) (l1 : n1 ≤ 1000) (l2 : n2 ≤ 1000) (l3 : n3 ≤ 1000) (hat' : at_ < n1 + n2 + n3) :
    Calls Tryz.prog 101 #[t.v, vCo A1 n1 c1 A2 n2 c2 A3 n3 c3, .int .i64 (at_ : Int)] w fun e w' => e = .returned (.int .i64 (valAt st en ma at_)) ∧ Below w.heap.size w w' := by
  obtain ⟨A, n, c, B, m, d, hs, ms⟩ := t
  dsimp only [TR.v, vCo] at *
  have hb0 := (((Below.refl w.heap.size w).alloc (Nat.le_refl _) (.cells #[.slice A n c, .slice B m d] 25)).alloc (by simp) (.cells #[.slice A1 n1 c1, .slice A2 n2 c2, .slice A3 n3 c3] 68)).alloc (by simp; omega) (.cells #[.slice A1 n1 c1, .slice A2 n2 c2, .slice A3 n3 c3] 42)
  have g0 := Blk.at_new (W := (w.alloc (.cells #[.slice A n c, .slice B m d] 25)).alloc (.cells #[.slice A1 n1 c1, .slice A2 n2 c2, .slice A3 n3 c3] 68)) (g := w.heap.size + 1 + 1) 42 #[.slice A1 n1 c1, .slice A2 n2 c2, .slice A3 n3 c3] (by simp)
  have HC := Lib.hid (concat_any (w.heap.size + 1 + 1) A1 n1 c1 A2 n2 c2 A3 n3 c3 st en ma _ g0 (h1.below hb0) (h2.below hb0) (h3.below hb0) l1 l2 l3)
  have HB := Lib.hid hb0
  have HV := Lib.hid (show valAt st en ma at_ = iget (st ++ en ++ ma) at_ by unfold valAt; rw [List.append_assoc])
  clear hb0 g0 h1 h2 h3
  go_enter Tryz.func101, Tryz.ntmps101
  go_wp2_with (go_at_call 131; with_reducible refine HC.out.mono ?_; rintro e u1 ⟨Ar, cr, rfl, hr, hb1⟩; obtain ⟨br, or_, er, hl⟩ := hr.at_ (by omega); subst er; have hlr := hr.len; have s0 := hl.c at_ _ (List.getElem?_eq_getElem (by omega)) 0 _ rfl; rw [Nat.mul_one, Nat.add_zero, ← iget_eq (by omega), ← HV.out] at s0; have sl := hl.lt; have HB1 := Lib.hid (HB.out.trans (hb1.mono HB.out.size)); clear hr hl hlr hb1)
  exact bodyPost_ret (v := .int .i64 (valAt st en ma at_)) (by simp [results, Tryz.results101, go_sem]) rfl ⟨rfl, HB1.out⟩
end Go.Proofs.YtighfmgkoepfkaaGreat

namespace Go.Proofs.YtighfmgkoepfkaaGreat
open Go.RowKit

theorem setCell_id {w : World} {g o : Nat} {v : Value} (h : w.cell? ⟨g, o, none⟩ = some v) : w.setCell ⟨g, o, none⟩ v = w := by
  unfold World.cell? at h
  have hm : w.heap.modify g (fun | .cells c elem frozen => .cells (if (⟨g, o, none⟩ : Addr).spot.isSome then c else c.setIfInBounds o v) elem frozen | o => o) = w.heap := by
    apply Array.ext_getElem?
    intro i
    rw [Array.getElem?_modify]
    by_cases e : g = i
    · subst e
      rw [if_pos rfl]
      cases hb : w.heap[g]? with
      | none => rfl
      | some ob =>
        cases ob with
        | cells c elem fr =>
          have hc : c[o]? = some v := by simpa [hb] using h
          have : c.setIfInBounds o v = c := by
            apply Array.ext_getElem?
            intro k
            rw [Array.getElem?_setIfInBounds]
            by_cases e2 : o = k
            · subst e2
              have := (Array.getElem?_eq_some_iff.1 hc).1
              rw [if_pos rfl, if_pos this, hc]
            · rw [if_neg e2]
          simp [this]
        | _ => rfl
    · rw [if_neg e]
  unfold World.setCell
  exact congrArg (fun hp => ({ w with heap := hp } : World)) hm
abbrev vLim (val : Int) (A1 : Option Addr) (n1 c1 : Nat) (A2 : Option Addr) (n2 c2 : Nat) (A3 : Option Addr) (n3 c3 : Nat) (way : Int) (A4 : Option Addr) (n4 c4 : Nat) : Value := .agg #[.int .i64 val, .slice A1 n1 c1, .slice A2 n2 c2, .slice A3 n3 c3, .int .i64 way, .slice A4 n4 c4]
set_option maxRecDepth 100000 in
set_option maxHeartbeats 12800000 in
theorem CheckLimit_any (t : TR) (kind id val : Int) (A1 : Option Addr) (n1 c1 : Nat) (A2 : Option Addr) (n2 c2 : Nat) (A3 : Option Addr) (n3 c3 : Nat) (way : Int) (A4 : Option Addr) (n4 c4 : Nat) (st en ma s : List Int) (gr : Bool) (w : World) (h : t.Ok w) (h1 : SAt encI 1 w A1 n1 st) (h2 : SAt encI 1 w A2 n2 en) (h3 : SAt encI 1 w A3 n3 ma) (h4 : SAt encI 1 w A4 n4 s) (l4 : n4 ≤ 1000000) :
    Calls Tryz.prog 49 #[t.v, vAt kind id, vLim val A1 n1 c1 A2 n2 c2 A3 n3 c3 way A4 n4 c4, .bool gr] w fun e w' => e = .returned (.int .i64 (ckLi t.hs t.ms kind id val st en ma way s gr)) ∧ Below w.heap.size w w' := by
  have HPl := Lib.hid (fun (u : World) (hu : t.Ok u) => place_any t kind id u hu)
  have HFi := Lib.hid (fun (hv : TV t.hs t.ms) (u : World) (hu : Below w.heap.size w u) => fits_any t A1 n1 c1 A2 n2 c2 A3 n3 c3 st en ma u (h.below hu) (h1.below hu) (h2.below hu) (h3.below hu) hv)
  have HVa := Lib.hid (fun (q1 : n1 ≤ 1000) (q2 : n2 ≤ 1000) (q3 : n3 ≤ 1000) (at_ : Nat) (ha : at_ < n1 + n2 + n3) (u : World) (hu : Below w.heap.size w u) => valueAt_any t A1 n1 c1 A2 n2 c2 A3 n3 c3 st en ma at_ u (h1.below hu) (h2.below hu) (h3.below hu) q1 q2 q3 ha)
  have HCp := Lib.hid (fun (hv : TV t.hs t.ms) (u : World) (hu : t.Ok u) => copied_any t u hu (by rw [← h.h.len]; have := hv.lenH; omega) (by rw [← h.m.len]; have := hv.lenM; omega))
  obtain ⟨A, n, c, B, m, d, hs, ms⟩ := t
  dsimp only [TR.v, vAt, vLim, vCo] at *
  have HLi := Lib.hid (show st.length = n1 ∧ en.length = n2 ∧ ma.length = n3 ∧ s.length = n4 from ⟨h1.len, h2.len, h3.len, h4.len⟩)
  have HS4 := Lib.hid h4
  have HOk := Lib.hid h
  have HLh := Lib.hid (show hs.length = n from h.h.len)
  have HLm := Lib.hid (show ms.length = m from h.m.len)
  have hb0 := (((Below.refl w.heap.size w).alloc (Nat.le_refl _) (.cells #[.slice A n c, .slice B m d] 25)).alloc (by simp) (.cells #[.int .i64 kind, .int .i64 id] 83)).alloc (by simp; omega) (.cells #[.int .i64 val, .slice A1 n1 c1, .slice A2 n2 c2, .slice A3 n3 c3, .int .i64 way, .slice A4 n4 c4] 95)
  have t0 := (((Blk.new w 25 #[.slice A n c, .slice B m d]).alloc (.cells #[.int .i64 kind, .int .i64 id] 83)).alloc (.cells #[.int .i64 val, .slice A1 n1 c1, .slice A2 n2 c2, .slice A3 n3 c3, .int .i64 way, .slice A4 n4 c4] 95))
  have x0 := (Blk.at_new (W := w.alloc (.cells #[.slice A n c, .slice B m d] 25)) (g := w.heap.size + 1) 83 #[.int .i64 kind, .int .i64 id] (by simp)).alloc (.cells #[.int .i64 val, .slice A1 n1 c1, .slice A2 n2 c2, .slice A3 n3 c3, .int .i64 way, .slice A4 n4 c4] 95)
  have r0 := Blk.at_new (W := (w.alloc (.cells #[.slice A n c, .slice B m d] 25)).alloc (.cells #[.int .i64 kind, .int .i64 id] 83)) (g := w.heap.size + 1 + 1) 95 #[.int .i64 val, .slice A1 n1 c1, .slice A2 n2 c2, .slice A3 n3 c3, .int .i64 way, .slice A4 n4 c4] (by simp)
  have HB0 := Lib.hid hb0
  have HT0 := Lib.hid t0
  have HX0 := Lib.hid x0
  have HR0 := Lib.hid r0
  obtain ⟨res, hres⟩ : ∃ x, ckLi hs ms kind id val st en ma way s gr = x := ⟨_, rfl⟩
  rw [hres]
  unfold ckLi at hres
  have HE := Lib.hid hres
  have HPn := Lib.hid (show plE hs ms kind id = 0 → plN hs ms kind id = placeN hs ms kind id from fun q => by unfold plN; rw [if_pos q])
  have HPt := Lib.hid (show plE hs ms kind id = 0 → TV hs ms ∧ placeE hs ms kind id = 0 from plE_tv)
  clear h h1 h2 h3 h4 hb0 t0 x0 r0 hres
  go_enter Tryz.func49, Tryz.ntmps49
  go_upto_region 1 with fail
  generalize hW : ((w.alloc (.cells #[.slice A n c, .slice B m d] 25)).alloc (.cells #[.int .i64 kind, .int .i64 id] 83)).alloc (.cells #[.int .i64 val, .slice A1 n1 c1, .slice A2 n2 c2, .slice A3 n3 c3, .int .i64 way, .slice A4 n4 c4] 95) = W at *
  clear hW
  have y0 := HT0.out.cell 0
  have y1 := HT0.out.cell 1
  have a0 := HX0.out.cell 0
  have a1 := HX0.out.cell 1
  simp only [List.getElem?_toArray, List.getElem?_cons_zero, List.getElem?_cons_succ] at y0 y1 a0 a1
  have yl := HT0.out.lt
  have al := HX0.out.lt
  have HC := Lib.hid (HPl.out W (HOk.out.below HB0.out))
  obtain ⟨pe, hpe⟩ : ∃ x, plE hs ms kind id = x := ⟨_, rfl⟩
  obtain ⟨pn, hpn⟩ : ∃ x, plN hs ms kind id = x := ⟨_, rfl⟩
  rw [hpe] at HE HPn HPt HC
  rw [hpn] at HC HPn
  clear hpe hpn
  go_upto_region 2 with (go_at_call 87; with_reducible refine HC.out.mono ?_; rintro e u1 ⟨rfl, hb1⟩)
  have HB1 := Lib.hid (HB0.out.trans (hb1.mono HB0.out.size))
  have HT1 := Lib.hid (HT0.out.below hb1)
  have HR1 := Lib.hid (HR0.out.below hb1)
  clear y0 y1 a0 a1 yl al HC hb1 HB0 HT0 HX0 HR0
  by_cases hp : pe = 0
  case neg =>
    have hz : (pe != 0) = true := by simpa using hp
    have HE2 := Lib.hid ((if_pos hp).symm.trans HE.out)
    clear hp
    go_wp2
    exact bodyPost_ret (v := .int .i64 pe) (by simp [results, Tryz.results49, go_sem]) rfl ⟨by rw [HE2.out], HB1.out⟩
  case pos =>
  subst hp
  obtain ⟨hv, hpl⟩ := HPt.out rfl
  have hpn := HPn.out rfl
  subst hpn
  have hlt := placeN_lt hpl
  have HTV := Lib.hid hv
  have hlt2 : placeN hs ms kind id < 2 * n + m := by rw [HLh.out, HLm.out] at hlt; exact hlt
  have hn9 : n ≤ 9 := by rw [← HLh.out]; exact hv.lenH
  have hm24 : m ≤ 24 := by rw [← HLm.out]; exact hv.lenM
  have HSp := Lib.hid (span_ok hv hlt)
  have HE2 := Lib.hid ((if_neg (by decide)).symm.trans HE.out)
  have HFl := Lib.hid (fun (q : fitsL hs ms st en ma = true) => And.intro (fits_len q) (fits_val q hlt))
  have HPutV := Lib.hid (fun lo hi (q : okSp lo hi = true) => hv.put q (placeN hs ms kind id))
  have hz : ((0 : Int) != 0) = false := by decide
  clear HE HPn HPt hv hpl
  generalize placeN hs ms kind id = at_ at *
  have y0 := HT1.out.cell 0
  have y1 := HT1.out.cell 1
  have z0 := HR1.out.cell 0
  have z1 := HR1.out.cell 1
  have z2 := HR1.out.cell 2
  have z3 := HR1.out.cell 3
  simp only [List.getElem?_toArray, List.getElem?_cons_zero, List.getElem?_cons_succ] at y0 y1 z0 z1 z2 z3
  have yl := HT1.out.lt
  have zl := HR1.out.lt
  have HFi2 := Lib.hid (HFi.out HTV.out)
  obtain ⟨fb, hfb⟩ : ∃ x, fitsL hs ms st en ma = x := ⟨_, rfl⟩
  rw [hfb] at HFl HE2
  rw [hfb] at HFi2
  clear hfb HFi
  cases fb with
  | false =>
    have HE3 := Lib.hid ((if_pos (.inl rfl)).symm.trans HE2.out)
    go_upto_region 4 with fail
    obtain ⟨xc, xf'⟩ := xcell (W := u1)
    refine wp_region_quiet_tail 15 (by kernel_rfl) (by kernel_rfl) ?_
    simp only [List.take_succ_cons, List.take_zero, List.drop_succ_cons, List.drop_zero]
    repeat (first | go_big_quiet_step ((go_at_call 100; with_reducible refine calls_ext (HFi2.out _ ?_); exact HB1.out.trans ((Ext.below _).mono HB1.out.size))) | quiet_step ((go_at_call 100; with_reducible refine calls_ext (HFi2.out _ ?_); exact HB1.out.trans ((Ext.below _).mono HB1.out.size))))
    refine wpQuiet_nil ?_
    intro u2 hb2
    clear y0 y1 z0 z1 z2 z3 yl zl xc xf'
    go_wp2
    exact bodyPost_ret (v := .int .i64 8) (by simp [results, Tryz.results49, go_sem]) rfl ⟨by rw [HE3.out], HB1.out.trans (hb2.mono HB1.out.size)⟩
  | true =>
  obtain ⟨⟨q1, q2, q3⟩, q4, q5⟩ := HFl.out rfl
  obtain ⟨k1, k2, k3, k4⟩ := HLi.out
  have HVa2 := Lib.hid (HVa.out (by have := HLh.out; omega) (by have := HLh.out; omega) (by have := HLm.out; omega) at_ (by have := HLh.out; have := HLm.out; omega))
  obtain ⟨vv, hvv⟩ : ∃ x, valAt st en ma at_ = x := ⟨_, rfl⟩
  rw [hvv] at HVa2 HE2 q4 q5
  clear hvv q1 q2 q3 HVa HFl
  go_upto_region 4 with fail
  obtain ⟨xc, xf'⟩ := xcell (W := u1)
  refine wp_region_quiet_tail 15 (by kernel_rfl) (by kernel_rfl) ?_
  simp only [List.take_succ_cons, List.take_zero, List.drop_succ_cons, List.drop_zero]
  repeat (first | go_big_quiet_step (first | (go_at_call 100; with_reducible refine calls_ext (HFi2.out _ ?_); exact HB1.out.trans ((Ext.below _).mono HB1.out.size)) | (go_at_call 101; with_reducible refine calls_ext (HVa2.out _ ?_); exact HB1.out.trans ((Ext.below _).mono HB1.out.size))) | quiet_step (first | (go_at_call 100; with_reducible refine calls_ext (HFi2.out _ ?_); exact HB1.out.trans ((Ext.below _).mono HB1.out.size)) | (go_at_call 101; with_reducible refine calls_ext (HVa2.out _ ?_); exact HB1.out.trans ((Ext.below _).mono HB1.out.size))))
  refine wpQuiet_nil ?_
  intro u2 hb2
  have HB2 := Lib.hid (HB1.out.trans (hb2.mono HB1.out.size))
  have HT2 := Lib.hid (HT1.out.below hb2)
  have HR2 := Lib.hid (HR1.out.below hb2)
  clear y0 y1 z0 z1 z2 z3 yl zl xc xf' hb2 HFi2 HVa2 HB1 HT1 HR1
  by_cases hvl : vv = val
  case neg =>
    rw [show (vv != val) = true by simpa using hvl]
    have HE3 := Lib.hid ((if_pos (.inr hvl)).symm.trans HE2.out)
    go_wp2
    exact bodyPost_ret (v := .int .i64 8) (by simp [results, Tryz.results49, go_sem]) rfl ⟨by rw [HE3.out], HB2.out⟩
  case pos =>
  rw [show (vv != val) = false by simpa using hvl]
  subst hvl
  have HE3 := Lib.hid ((if_neg (by simp)).symm.trans HE2.out)
  clear HE2
  have y0 := HT2.out.cell 0
  have y1 := HT2.out.cell 1
  simp only [List.getElem?_toArray, List.getElem?_cons_zero, List.getElem?_cons_succ] at y0 y1
  have yl := HT2.out.lt
  have HC := Lib.hid (HCp.out HTV.out u2 (HOk.out.below HB2.out))
  go_wp2_with fail
  refine HC.out.mono ?_
  rintro e u3 ⟨v1, v2, rfl, ho, hb3⟩
  obtain ⟨A', c', B', d', rfl, rfl, -, -, hc1, hd1, -, -⟩ := ho.form
  obtain ⟨ga, hga⟩ := form_some ho.h
  obtain ⟨gb, hgb⟩ := form_some ho.m
  have hlt : at_ < 2 * hs.length + ms.length := by rw [HLh.out, HLm.out]; exact hlt2
  obtain ⟨g, o, e1, hg1, hg2, hcl, hch, hfz, hty, hput⟩ := ho.spot (at_ := at_) hlt hga hgb
  have HSA := Lib.hid (fun (u : World) => spanAt_any A' hs.length c' B' ms.length d' ga 0 gb 0 at_ u hga hgb hlt (by rw [HLh.out]; omega) (by rw [HLm.out]; omega) hc1 hd1)
  rw [e1] at HSA
  have HPut := Lib.hid hput
  have HTy := Lib.hid hty
  have HFz := Lib.hid hfz
  rw [HLh.out, HLm.out] at HSA HPut
  rw [HLh.out, HLm.out]
  obtain ⟨slo, hslo⟩ : ∃ x, spanLo hs ms at_ = x := ⟨_, rfl⟩
  obtain ⟨shi, hshi⟩ : ∃ x, spanHi hs ms at_ = x := ⟨_, rfl⟩
  rw [hslo] at hcl q4
  rw [hshi] at hch q5
  rw [hslo, hshi] at HE3 HSp
  have b4 := below_new u3 (.cells #[.slice A' n c', .slice B' m d'] 25)
  have HQ4 := Lib.hid (Blk.new u3 25 #[.slice A' n c', .slice B' m d'])
  have hbb := hb3.trans (b4.mono hb3.size)
  have HB4 := Lib.hid (HB2.out.trans (hbb.mono HB2.out.size))
  have HR4 := Lib.hid (HR2.out.below hbb)
  have HO4 := Lib.hid b4
  have HCl := Lib.hid hcl
  have HCh := Lib.hid hch
  have hu2 : w.heap.size + 1 + 1 < u2.heap.size := HR2.out.lt
  have HG1 := Lib.hid (show w.heap.size + 1 + 1 < g from Nat.lt_of_lt_of_le hu2 hg1)
  have HG2 := Lib.hid hg2
  clear HC ho hb3 hcl hch hfz hty hput e1 hga hgb b4 hbb hc1 hd1 y0 y1 yl HB2 HT2 HR2 hslo hshi hu2 hg1 hg2 HCp
  go_upto_region 7 with fail
  have HBq := Lib.hid (below_new u3 (.cells #[.slice A' n c', .slice B' m d'] 25))
  have HU3 := Lib.hid (show (u3.alloc (.cells #[.slice A' n c', .slice B' m d'] 25)).heap.size = u3.heap.size + 1 by simp)
  obtain ⟨V4, hV4⟩ : ∃ x, u3.alloc (.cells #[.slice A' n c', .slice B' m d'] 25) = x := ⟨_, rfl⟩
  rw [hV4] at HQ4 HB4 HR4 HO4 HBq HU3
  rw [hV4]
  clear hV4
  have q0 := HQ4.out.cell 0
  have q1 := HQ4.out.cell 1
  simp only [List.getElem?_toArray, List.getElem?_cons_zero, List.getElem?_cons_succ] at q0 q1
  have ql := HQ4.out.lt
  have HSA4 := Lib.hid (HSA.out V4)
  go_upto_region 8 with (go_at_call 102; with_reducible refine HSA4.out.mono ?_; rintro e u5 ⟨rfl, hb5⟩)
  have hb35 := HO4.out.trans (hb5.mono HO4.out.size)
  have HB35 := Lib.hid hb35
  have HB5 := Lib.hid (HB4.out.trans (hb5.mono HB4.out.size))
  have HR5 := Lib.hid (HR4.out.below hb5)
  have HQ5 := Lib.hid (HQ4.out.below hb5)
  have p0 := (hb35.cell (p := ⟨g, o, none⟩) HG2.out).trans HCl.out
  have p1 := (hb35.cell (p := ⟨g, o + 1, none⟩) HG2.out).trans HCh.out
  have pf0 := (hb35.frozen (p := ⟨g, o, none⟩) HG2.out).trans (HFz.out o)
  have pf1 := (hb35.frozen (p := ⟨g, o + 1, none⟩) HG2.out).trans (HFz.out (o + 1))
  have pl := Nat.lt_of_lt_of_le HG2.out hb35.size
  have HP0 := Lib.hid p0
  have HP1 := Lib.hid p1
  clear q0 q1 ql hb5 hb35 HSA HSA4 HO4 HB4 HR4 HQ4 HBq HU3 HCl HCh HFz
  have z0 := HR5.out.cell 0
  have z4 := HR5.out.cell 4
  have z5 := HR5.out.cell 5
  simp only [List.getElem?_toArray, List.getElem?_cons_zero, List.getElem?_cons_succ] at z0 z4 z5
  have zl := HR5.out.lt
  have hk4 : (s = [] ↔ n4 = 0) := by rw [← k4]; exact ⟨fun e => by rw [e]; rfl, List.eq_nil_of_length_eq_zero⟩
  have HK4 := Lib.hid hk4
  have hn4c : (0 : Int) ≤ (n4 : Int) := by omega
  clear k1 k2 k3 k4 hk4
  cases gr with
  | false =>
    simp only [Bool.false_eq_true, if_false] at HE3
    by_cases hve : vv = slo
    case pos =>
      have hveb : (vv == slo) = true := by simpa using hve
      have HE4 := Lib.hid ((if_pos hve).symm.trans HE3.out)
      by_cases hw0 : way = 0
      case neg =>
        have hwb : (way != 0) = true := by simpa using hw0
        have HE5 := Lib.hid ((if_pos (.inl hw0)).symm.trans HE4.out)
        clear hw0 hve
        go_wp2
        exact bodyPost_ret (v := .int .i64 8) (by simp [results, Tryz.results49, go_sem]) rfl ⟨by rw [HE5.out], HB5.out⟩
      case pos =>
        have hwb : (way != 0) = false := by simpa using hw0
        by_cases hs0 : n4 = 0
        case neg =>
          have hsb : decide (0 < (n4 : Int)) = true := decide_eq_true (by omega)
          have hsb2 : (0 : Int) < (n4 : Int) := by omega
          have HE5 := Lib.hid ((if_pos (.inr (fun e => hs0 (HK4.out.1 e)))).symm.trans HE4.out)
          clear hw0 hve hs0
          go_wp2
          exact bodyPost_ret (v := .int .i64 8) (by simp [results, Tryz.results49, go_sem]) rfl ⟨by rw [HE5.out], HB5.out⟩
        case pos =>
          have hsb : decide (0 < (n4 : Int)) = false := decide_eq_false (by omega)
          have hsb2 : ¬ ((0 : Int) < (n4 : Int)) := by omega
          have HE5 := Lib.hid ((if_neg (c := way ≠ 0 ∨ s ≠ []) (fun q => q.elim (fun q => q hw0) (fun q => q (HK4.out.2 hs0)))).symm.trans HE4.out)
          clear hw0 hve hs0
          go_wp2
          exact bodyPost_ret (v := .int .i64 0) (by simp [results, Tryz.results49, go_sem]) rfl ⟨by rw [HE5.out], HB5.out⟩
    case neg =>
      have hveb : (vv == slo) = false := by simpa using hve
      have HE4 := Lib.hid ((if_neg hve).symm.trans HE3.out)
      obtain ⟨b1, b2, b3⟩ := HSp.out
      have hok := HPut.out slo (vv - 1) u5 HB35.out
      rw [setCell_id (w := u5) (g := g) (o := o) (v := .int .i64 slo) HP0.out] at hok
      have HOk6 := Lib.hid hok
      have HTv6 := Lib.hid (HPutV.out slo (vv - 1) (by simp [okSp]; omega))
      obtain ⟨nv, hnv⟩ : ∃ x, vv - 1 = x := ⟨_, rfl⟩
      rw [hnv] at HOk6 HTv6 HE4
      have hg1 := HG1.out
      have hnq : u3.heap.size ≠ g := by have := HG2.out; omega
      have HQ6 := Lib.hid (HQ5.out.far (p := ⟨g, o + 1, none⟩) hnq (.int .i64 nv))
      have HR6 := Lib.hid (HR5.out.far (p := ⟨g, o + 1, none⟩) (by simp; omega) (.int .i64 nv))
      have HB6 := Lib.hid (HB5.out.setCell (p := ⟨g, o + 1, none⟩) (by simp; omega) (.int .i64 nv))
      clear hok hve
      go_upto_region 18 with fail
      clear z0 z4 z5 zl p0 p1 pf0 pf1 pl
      generalize u5.setCell ⟨g, o + 1, none⟩ (.int .i64 nv) = V6 at *
      obtain ⟨A9, c9, B9, d9, e9, e10, hsa, hsb, hc9, hd9, -, -⟩ := HOk6.out.form
      rw [putH_len, HLh.out] at e9 hc9
      rw [putM_len, HLm.out] at e10 hd9
      have HTr := Lib.hid (show TR.Ok V6 ⟨A', n, c', B', m, d', putH hs at_ slo nv, putM hs ms at_ slo nv⟩ from by
        cases e9
        cases e10
        rw [putH_len, HLh.out] at hsa
        rw [putM_len, HLm.out] at hsb
        exact ⟨hsa, hsb, by show n ≤ _; omega, by show m ≤ _; omega, hc9, hd9⟩)
      have HFo := Lib.hid (fun (u : World) (hu : Below V6.heap.size V6 u) => formed_any ⟨A', n, c', B', m, d', putH hs at_ slo nv, putM hs ms at_ slo nv⟩ way A4 n4 c4 s u (HTr.out.below hu) ((HS4.out.below HB6.out).below hu) l4)
      have HTh := Lib.hid (fun (u : World) (hu : Below V6.heap.size V6 u) => through_any ⟨A', n, c', B', m, d', putH hs at_ slo nv, putM hs ms at_ slo nv⟩ way A4 n4 c4 s u (HTr.out.below hu) ((HS4.out.below HB6.out).below hu) l4 HTv6.out)
      dsimp only [TR.v, vCt] at HFo HTh
      unfold showsL at HE4
      obtain ⟨fo, hfo⟩ : ∃ x, formedL (putH hs at_ slo nv) way s = x := ⟨_, rfl⟩
      obtain ⟨th, hth⟩ : ∃ x, thrL (putH hs at_ slo nv) (putM hs ms at_ slo nv) way s = x := ⟨_, rfl⟩
      rw [hfo] at HFo HE4
      rw [hth] at HTh HE4
      clear hfo hth e9 e10 hsa hsb hc9 hd9 hnv
      have q0 := HQ6.out.cell 0
      have q1 := HQ6.out.cell 1
      have z4 := HR6.out.cell 4
      have z5 := HR6.out.cell 5
      simp only [List.getElem?_toArray, List.getElem?_cons_zero, List.getElem?_cons_succ] at q0 q1 z4 z5
      have ql := HQ6.out.lt
      have zl := HR6.out.lt
      cases fo with
      | false =>
        have HE5 := Lib.hid ((if_neg (by simp)).symm.trans HE4.out)
        go_wp2_with (go_at_call 103; with_reducible refine (HFo.out _ (Below.refl _ _)).mono ?_; rintro e u7 ⟨rfl, hb7⟩)
        exact bodyPost_ret (v := .int .i64 8) (by simp [results, Tryz.results49, go_sem]) rfl ⟨by rw [HE5.out], HB6.out.trans (hb7.mono HB6.out.size)⟩
      | true =>
        by_cases ht : 0 < th
        case pos =>
          have htb : decide (th ≤ 0) = false := decide_eq_false (by omega)
          have htc : ¬ th ≤ 0 := by omega
          have HE5 := Lib.hid ((if_pos (by simp [ht])).symm.trans HE4.out)
          clear ht
          go_wp2_with (first | (go_at_call 103; with_reducible refine (HFo.out _ (Below.refl _ _)).mono ?_; rintro e u7 ⟨rfl, hb7⟩; have HQ7 := Lib.hid (HQ6.out.below hb7); have HR7 := Lib.hid (HR6.out.below hb7); have qq0 := HQ7.out.cell 0; have qq1 := HQ7.out.cell 1; have zz4 := HR7.out.cell 4; have zz5 := HR7.out.cell 5; simp only [List.getElem?_toArray, List.getElem?_cons_zero, List.getElem?_cons_succ] at qq0 qq1 zz4 zz5; have qql := HQ7.out.lt; have zzl := HR7.out.lt; have HB7 := Lib.hid hb7) | (go_at_call 104; with_reducible refine (HTh.out _ HB7.out).mono ?_; rintro e u8 ⟨rfl, hb8⟩))
          exact bodyPost_ret (v := .int .i64 0) (by simp [results, Tryz.results49, go_sem]) rfl ⟨by rw [HE5.out], HB6.out.trans ((HB7.out.trans (hb8.mono HB7.out.size)).mono HB6.out.size)⟩
        case neg =>
          have htb : decide (th ≤ 0) = true := decide_eq_true (by omega)
          have htc : th ≤ 0 := by omega
          have HE5 := Lib.hid ((if_neg (by simp; omega)).symm.trans HE4.out)
          clear ht
          go_wp2_with (first | (go_at_call 103; with_reducible refine (HFo.out _ (Below.refl _ _)).mono ?_; rintro e u7 ⟨rfl, hb7⟩; have HQ7 := Lib.hid (HQ6.out.below hb7); have HR7 := Lib.hid (HR6.out.below hb7); have qq0 := HQ7.out.cell 0; have qq1 := HQ7.out.cell 1; have zz4 := HR7.out.cell 4; have zz5 := HR7.out.cell 5; simp only [List.getElem?_toArray, List.getElem?_cons_zero, List.getElem?_cons_succ] at qq0 qq1 zz4 zz5; have qql := HQ7.out.lt; have zzl := HR7.out.lt; have HB7 := Lib.hid hb7) | (go_at_call 104; with_reducible refine (HTh.out _ HB7.out).mono ?_; rintro e u8 ⟨rfl, hb8⟩))
          exact bodyPost_ret (v := .int .i64 8) (by simp [results, Tryz.results49, go_sem]) rfl ⟨by rw [HE5.out], HB6.out.trans ((HB7.out.trans (hb8.mono HB7.out.size)).mono HB6.out.size)⟩
  | true =>
    simp only [if_true] at HE3
    by_cases hve : vv = shi
    case pos =>
      have hveb : (vv == shi) = true := by simpa using hve
      have HE4 := Lib.hid ((if_pos hve).symm.trans HE3.out)
      by_cases hw0 : way = 0
      case neg =>
        have hwb : (way != 0) = true := by simpa using hw0
        have HE5 := Lib.hid ((if_pos (.inl hw0)).symm.trans HE4.out)
        clear hw0 hve
        go_wp2
        exact bodyPost_ret (v := .int .i64 8) (by simp [results, Tryz.results49, go_sem]) rfl ⟨by rw [HE5.out], HB5.out⟩
      case pos =>
        have hwb : (way != 0) = false := by simpa using hw0
        by_cases hs0 : n4 = 0
        case neg =>
          have hsb : decide (0 < (n4 : Int)) = true := decide_eq_true (by omega)
          have hsb2 : (0 : Int) < (n4 : Int) := by omega
          have HE5 := Lib.hid ((if_pos (.inr (fun e => hs0 (HK4.out.1 e)))).symm.trans HE4.out)
          clear hw0 hve hs0
          go_wp2
          exact bodyPost_ret (v := .int .i64 8) (by simp [results, Tryz.results49, go_sem]) rfl ⟨by rw [HE5.out], HB5.out⟩
        case pos =>
          have hsb : decide (0 < (n4 : Int)) = false := decide_eq_false (by omega)
          have hsb2 : ¬ ((0 : Int) < (n4 : Int)) := by omega
          have HE5 := Lib.hid ((if_neg (c := way ≠ 0 ∨ s ≠ []) (fun q => q.elim (fun q => q hw0) (fun q => q (HK4.out.2 hs0)))).symm.trans HE4.out)
          clear hw0 hve hs0
          go_wp2
          exact bodyPost_ret (v := .int .i64 0) (by simp [results, Tryz.results49, go_sem]) rfl ⟨by rw [HE5.out], HB5.out⟩
    case neg =>
      have hveb : (vv == shi) = false := by simpa using hve
      have HE4 := Lib.hid ((if_neg hve).symm.trans HE3.out)
      obtain ⟨b1, b2, b3⟩ := HSp.out
      have hok := HPut.out (vv + 1) shi u5 HB35.out
      rw [setCell_id (w := u5.setCell ⟨g, o, none⟩ (.int .i64 (vv + 1))) (g := g) (o := o + 1) (v := .int .i64 shi) ((World.cell?_setCell_other u5 ⟨g, o, none⟩ ⟨g, o + 1, none⟩ (.int .i64 (vv + 1)) (by simp)).trans HP1.out)] at hok
      have HOk6 := Lib.hid hok
      have HTv6 := Lib.hid (HPutV.out (vv + 1) shi (by simp [okSp]; omega))
      obtain ⟨nv, hnv⟩ : ∃ x, vv + 1 = x := ⟨_, rfl⟩
      rw [hnv] at HOk6 HTv6 HE4
      have hg1 := HG1.out
      have hnq : u3.heap.size ≠ g := by have := HG2.out; omega
      have HQ6 := Lib.hid (HQ5.out.far (p := ⟨g, o, none⟩) hnq (.int .i64 nv))
      have HR6 := Lib.hid (HR5.out.far (p := ⟨g, o, none⟩) (by simp; omega) (.int .i64 nv))
      have HB6 := Lib.hid (HB5.out.setCell (p := ⟨g, o, none⟩) (by simp; omega) (.int .i64 nv))
      clear hok hve
      go_upto_region 18 with fail
      clear z0 z4 z5 zl p0 p1 pf0 pf1 pl
      generalize u5.setCell ⟨g, o, none⟩ (.int .i64 nv) = V6 at *
      obtain ⟨A9, c9, B9, d9, e9, e10, hsa, hsb, hc9, hd9, -, -⟩ := HOk6.out.form
      rw [putH_len, HLh.out] at e9 hc9
      rw [putM_len, HLm.out] at e10 hd9
      have HTr := Lib.hid (show TR.Ok V6 ⟨A', n, c', B', m, d', putH hs at_ nv shi, putM hs ms at_ nv shi⟩ from by
        cases e9
        cases e10
        rw [putH_len, HLh.out] at hsa
        rw [putM_len, HLm.out] at hsb
        exact ⟨hsa, hsb, by show n ≤ _; omega, by show m ≤ _; omega, hc9, hd9⟩)
      have HFo := Lib.hid (fun (u : World) (hu : Below V6.heap.size V6 u) => formed_any ⟨A', n, c', B', m, d', putH hs at_ nv shi, putM hs ms at_ nv shi⟩ way A4 n4 c4 s u (HTr.out.below hu) ((HS4.out.below HB6.out).below hu) l4)
      have HTh := Lib.hid (fun (u : World) (hu : Below V6.heap.size V6 u) => through_any ⟨A', n, c', B', m, d', putH hs at_ nv shi, putM hs ms at_ nv shi⟩ way A4 n4 c4 s u (HTr.out.below hu) ((HS4.out.below HB6.out).below hu) l4 HTv6.out)
      dsimp only [TR.v, vCt] at HFo HTh
      unfold showsL at HE4
      obtain ⟨fo, hfo⟩ : ∃ x, formedL (putH hs at_ nv shi) way s = x := ⟨_, rfl⟩
      obtain ⟨th, hth⟩ : ∃ x, thrL (putH hs at_ nv shi) (putM hs ms at_ nv shi) way s = x := ⟨_, rfl⟩
      rw [hfo] at HFo HE4
      rw [hth] at HTh HE4
      clear hfo hth e9 e10 hsa hsb hc9 hd9 hnv
      have q0 := HQ6.out.cell 0
      have q1 := HQ6.out.cell 1
      have z4 := HR6.out.cell 4
      have z5 := HR6.out.cell 5
      simp only [List.getElem?_toArray, List.getElem?_cons_zero, List.getElem?_cons_succ] at q0 q1 z4 z5
      have ql := HQ6.out.lt
      have zl := HR6.out.lt
      cases fo with
      | false =>
        have HE5 := Lib.hid ((if_neg (by simp)).symm.trans HE4.out)
        go_wp2_with (go_at_call 103; with_reducible refine (HFo.out _ (Below.refl _ _)).mono ?_; rintro e u7 ⟨rfl, hb7⟩)
        exact bodyPost_ret (v := .int .i64 8) (by simp [results, Tryz.results49, go_sem]) rfl ⟨by rw [HE5.out], HB6.out.trans (hb7.mono HB6.out.size)⟩
      | true =>
        by_cases ht : 0 < th
        case pos =>
          have htb : decide (th ≤ 0) = false := decide_eq_false (by omega)
          have htc : ¬ th ≤ 0 := by omega
          have HE5 := Lib.hid ((if_pos (by simp [ht])).symm.trans HE4.out)
          clear ht
          go_wp2_with (first | (go_at_call 103; with_reducible refine (HFo.out _ (Below.refl _ _)).mono ?_; rintro e u7 ⟨rfl, hb7⟩; have HQ7 := Lib.hid (HQ6.out.below hb7); have HR7 := Lib.hid (HR6.out.below hb7); have qq0 := HQ7.out.cell 0; have qq1 := HQ7.out.cell 1; have zz4 := HR7.out.cell 4; have zz5 := HR7.out.cell 5; simp only [List.getElem?_toArray, List.getElem?_cons_zero, List.getElem?_cons_succ] at qq0 qq1 zz4 zz5; have qql := HQ7.out.lt; have zzl := HR7.out.lt; have HB7 := Lib.hid hb7) | (go_at_call 104; with_reducible refine (HTh.out _ HB7.out).mono ?_; rintro e u8 ⟨rfl, hb8⟩))
          exact bodyPost_ret (v := .int .i64 0) (by simp [results, Tryz.results49, go_sem]) rfl ⟨by rw [HE5.out], HB6.out.trans ((HB7.out.trans (hb8.mono HB7.out.size)).mono HB6.out.size)⟩
        case neg =>
          have htb : decide (th ≤ 0) = true := decide_eq_true (by omega)
          have htc : th ≤ 0 := by omega
          have HE5 := Lib.hid ((if_neg (by simp; omega)).symm.trans HE4.out)
          clear ht
          go_wp2_with (first | (go_at_call 103; with_reducible refine (HFo.out _ (Below.refl _ _)).mono ?_; rintro e u7 ⟨rfl, hb7⟩; have HQ7 := Lib.hid (HQ6.out.below hb7); have HR7 := Lib.hid (HR6.out.below hb7); have qq0 := HQ7.out.cell 0; have qq1 := HQ7.out.cell 1; have zz4 := HR7.out.cell 4; have zz5 := HR7.out.cell 5; simp only [List.getElem?_toArray, List.getElem?_cons_zero, List.getElem?_cons_succ] at qq0 qq1 zz4 zz5; have qql := HQ7.out.lt; have zzl := HR7.out.lt; have HB7 := Lib.hid hb7) | (go_at_call 104; with_reducible refine (HTh.out _ HB7.out).mono ?_; rintro e u8 ⟨rfl, hb8⟩))
          exact bodyPost_ret (v := .int .i64 8) (by simp [results, Tryz.results49, go_sem]) rfl ⟨by rw [HE5.out], HB6.out.trans ((HB7.out.trans (hb8.mono HB7.out.size)).mono HB6.out.size)⟩
end Go.Proofs.YtighfmgkoepfkaaGreat
