/- The forms of moments and of rises. -/
import Derived.RangeFuncBox
import Derived.Test.YtgojpgggbflgoaaGreatTop02
namespace Go.Proofs.YtgojpgggbflgoaaGreat
open Go.RowKit

set_option maxHeartbeats 1600000 in
theorem levers_any (id light lever height : Int) (A : Option Addr) (n c : Nat) (B : Option Addr) (m d : Nat) (merr : Int) (C : Option Addr) (q r : Nat) (terr turn least : Int) (hs : List Hl) (w : World) (h : SAt encL 4 w A n hs) (hn : n ≤ 8) :
    Calls Tryz.prog 82 #[.agg (cSp id light lever height A n c B m d merr C q r terr turn least)] w fun e w' => ∃ v, e = .returned v ∧ w'.ownsRow w.heap.size 3 1 v n ((hs.map Hl.lever).flatMap encI) ∧ Below w.heap.size w w' := by
  have hb0 := below_new w (.cells (cSp id light lever height A n c B m d merr C q r terr turn least) 27)
  have t0 := Blk.new w 27 (cSp id light lever height A n c B m d merr C q r terr turn least)
  have HA := Lib.hid (h.below hb0)
  have HL := Lib.hid h.len
  clear h
  obtain ⟨ii, hi0, hi1, hi2, hi3⟩ := info_parts info_int
  go_enter Tryz.func82, Tryz.ntmps82
  go_upto_region 1 with fail
  generalize hW : w.alloc (.cells (cSp id light lever height A n c B m d merr C q r terr turn least) 27) = W at *
  have HWs := Lib.hid (show w.heap.size ≤ W.heap.size by rw [← hW]; simp)
  clear hW
  obtain ⟨tl, _, _, _, _, t4, _⟩ := blk11 t0
  go_upto_region 3 with fail
  clear t4 tl
  go_loopw [3, 5, 9] (fun v _ i wx => ∃ k : Nat, k ≤ n ∧ i = .int .i64 (k : Int) ∧ wx.ownsRow W.heap.size 3 1 v k (((hs.take k).map Hl.lever).flatMap encI) ∧ Below W.heap.size W wx) (fun _ _ i _ => n - (intOf i).toNat)
  case atStart => exact ⟨0, Nat.zero_le _, rfl, by simpa using World.ownsRow_nil _ _ _ _, Below.refl _ _⟩
  case round =>
    obtain ⟨k, hk, rfl, ow, hb⟩ := hrel
    have OW := Lib.hid ow
    have HB := Lib.hid hb
    have HLT := Lib.hid (fun (r : Nat) hr => own_lt (g := r) ow hr)
    obtain ⟨Ao, co, rfl⟩ := owns_slice ow
    have hVs := hb.size
    clear hb ow
    by_cases hkn : k < n
    case neg =>
      obtain rfl : k = n := by omega
      have HE := Lib.hid (show hs.take k = hs by rw [← HL.out, List.take_length])
      rw [HE.out] at OW
      go_wp2
      exact bodyPost_ret (v := .slice Ao k co) (by simp [results, Tryz.results82, go_sem]) rfl ⟨_, rfl, owns_weak OW.out HWs.out, hb0.trans (HB.out.mono hb0.size)⟩
    case pos =>
      have hkl : k < hs.length := by rw [HL.out]; exact hkn
      obtain ⟨b, off, rfl, hls⟩ := HA.out.at_ (by omega)
      obtain ⟨c0, c1, c2, c3⟩ := Hls.at_ (hls.below HB.out) (List.getElem?_eq_getElem hkl)
      have cl := (hls.below HB.out).lt
      have HT := Lib.hid (show (hs.take (k + 1)).map Hl.lever = (hs.take k).map Hl.lever ++ [Hl.lever hs[k]] by rw [List.take_succ_eq_append_getElem hkl, List.map_append]; rfl)
      clear hls
      generalize hs[k] = x at *
      obtain ⟨xi, xr, xl, xh⟩ := x
      dsimp only at *
      have b3 := ((Below.refl wr.heap.size wr).alloc (Nat.le_refl _) (.cells #[.int .i64 xi, .int .i64 xr, .int .i64 xl, .int .i64 xh] 82)).alloc (by simp) (.cells #[.int .i64 xl] 3)
      have HB3 := Lib.hid (HB.out.trans (b3.mono HB.out.size))
      have OW2 := Lib.hid ((OW.out.alloc (.cells #[.int .i64 xi, .int .i64 xr, .int .i64 xl, .int .i64 xh] 82)).alloc (.cells #[.int .i64 xl] 3))
      have hsz3 := b3.size
      clear b3
      go_wp2_with (at_builtin; go_loud (refine wpList_append_own _ rfl (.tmp 13) (.tmp 16) 32 rfl W.heap.size 3 ii (.int .i64 0) 1 8 Tryz.underlying32 hi0 hi1 hi2 hi3 rfl (by decide) _ k (((hs.take k).map Hl.lever).flatMap encI) rfl OW2.out ⟨wr.heap.size + 1, 0, none⟩ 1 1 [.int .i64 xl] rfl rfl (fun j u h => by match j, h with | 0, h => (simp at h; subst h; exact (Blk.at_new (W := wr.alloc _) (g := wr.heap.size + 1) _ _ (by simp)).cell 0)) (one_intsL [xl]) (by unfold maxLen; omega) (by omega) (by simp; omega) ?_))
      intro v' w4 ho hgr hat
      obtain ⟨g5, c5, rfl⟩ := ownsRow_succ ho
      have HO := Lib.hid ho
      have HB4 := Lib.hid (HB3.out.grown hgr HB3.out.size (fun r hr => (HLT.out _ hr).1))
      clear ho hgr hat
      go_wp2
      go_roundw
      case rel => exact ⟨k + 1, by omega, by go_num, by rw [HT.out, List.flatMap_append, List.map_take]; exact HO.out, HB4.out⟩
      case measure => simp [intOf]; omega
set_option maxHeartbeats 1600000 in
theorem heights_any (id light lever height : Int) (A : Option Addr) (n c : Nat) (B : Option Addr) (m d : Nat) (merr : Int) (C : Option Addr) (q r : Nat) (terr turn least : Int) (hs : List Hl) (w : World) (h : SAt encL 4 w A n hs) (hn : n ≤ 8) :
    Calls Tryz.prog 80 #[.agg (cSp id light lever height A n c B m d merr C q r terr turn least)] w fun e w' => ∃ v, e = .returned v ∧ w'.ownsRow w.heap.size 3 1 v n ((hs.map Hl.height).flatMap encI) ∧ Below w.heap.size w w' := by
  have hb0 := below_new w (.cells (cSp id light lever height A n c B m d merr C q r terr turn least) 27)
  have t0 := Blk.new w 27 (cSp id light lever height A n c B m d merr C q r terr turn least)
  have HA := Lib.hid (h.below hb0)
  have HL := Lib.hid h.len
  clear h
  obtain ⟨ii, hi0, hi1, hi2, hi3⟩ := info_parts info_int
  go_enter Tryz.func80, Tryz.ntmps80
  go_upto_region 1 with fail
  generalize hW : w.alloc (.cells (cSp id light lever height A n c B m d merr C q r terr turn least) 27) = W at *
  have HWs := Lib.hid (show w.heap.size ≤ W.heap.size by rw [← hW]; simp)
  clear hW
  obtain ⟨tl, _, _, _, _, t4, _⟩ := blk11 t0
  go_upto_region 3 with fail
  clear t4 tl
  go_loopw [3, 5, 9] (fun v _ i wx => ∃ k : Nat, k ≤ n ∧ i = .int .i64 (k : Int) ∧ wx.ownsRow W.heap.size 3 1 v k (((hs.take k).map Hl.height).flatMap encI) ∧ Below W.heap.size W wx) (fun _ _ i _ => n - (intOf i).toNat)
  case atStart => exact ⟨0, Nat.zero_le _, rfl, by simpa using World.ownsRow_nil _ _ _ _, Below.refl _ _⟩
  case round =>
    obtain ⟨k, hk, rfl, ow, hb⟩ := hrel
    have OW := Lib.hid ow
    have HB := Lib.hid hb
    have HLT := Lib.hid (fun (r : Nat) hr => own_lt (g := r) ow hr)
    obtain ⟨Ao, co, rfl⟩ := owns_slice ow
    have hVs := hb.size
    clear hb ow
    by_cases hkn : k < n
    case neg =>
      obtain rfl : k = n := by omega
      have HE := Lib.hid (show hs.take k = hs by rw [← HL.out, List.take_length])
      rw [HE.out] at OW
      go_wp2
      exact bodyPost_ret (v := .slice Ao k co) (by simp [results, Tryz.results80, go_sem]) rfl ⟨_, rfl, owns_weak OW.out HWs.out, hb0.trans (HB.out.mono hb0.size)⟩
    case pos =>
      have hkl : k < hs.length := by rw [HL.out]; exact hkn
      obtain ⟨b, off, rfl, hls⟩ := HA.out.at_ (by omega)
      obtain ⟨c0, c1, c2, c3⟩ := Hls.at_ (hls.below HB.out) (List.getElem?_eq_getElem hkl)
      have cl := (hls.below HB.out).lt
      have HT := Lib.hid (show (hs.take (k + 1)).map Hl.height = (hs.take k).map Hl.height ++ [Hl.height hs[k]] by rw [List.take_succ_eq_append_getElem hkl, List.map_append]; rfl)
      clear hls
      generalize hs[k] = x at *
      obtain ⟨xi, xr, xl, xh⟩ := x
      dsimp only at *
      have b3 := ((Below.refl wr.heap.size wr).alloc (Nat.le_refl _) (.cells #[.int .i64 xi, .int .i64 xr, .int .i64 xl, .int .i64 xh] 82)).alloc (by simp) (.cells #[.int .i64 xh] 3)
      have HB3 := Lib.hid (HB.out.trans (b3.mono HB.out.size))
      have OW2 := Lib.hid ((OW.out.alloc (.cells #[.int .i64 xi, .int .i64 xr, .int .i64 xl, .int .i64 xh] 82)).alloc (.cells #[.int .i64 xh] 3))
      have hsz3 := b3.size
      clear b3
      go_wp2_with (at_builtin; go_loud (refine wpList_append_own _ rfl (.tmp 13) (.tmp 16) 32 rfl W.heap.size 3 ii (.int .i64 0) 1 8 Tryz.underlying32 hi0 hi1 hi2 hi3 rfl (by decide) _ k (((hs.take k).map Hl.height).flatMap encI) rfl OW2.out ⟨wr.heap.size + 1, 0, none⟩ 1 1 [.int .i64 xh] rfl rfl (fun j u h => by match j, h with | 0, h => (simp at h; subst h; exact (Blk.at_new (W := wr.alloc _) (g := wr.heap.size + 1) _ _ (by simp)).cell 0)) (one_intsL [xh]) (by unfold maxLen; omega) (by omega) (by simp; omega) ?_))
      intro v' w4 ho hgr hat
      obtain ⟨g5, c5, rfl⟩ := ownsRow_succ ho
      have HO := Lib.hid ho
      have HB4 := Lib.hid (HB3.out.grown hgr HB3.out.size (fun r hr => (HLT.out _ hr).1))
      clear ho hgr hat
      go_wp2
      go_roundw
      case rel => exact ⟨k + 1, by omega, by go_num, by rw [HT.out, List.flatMap_append, List.map_take]; exact HO.out, HB4.out⟩
      case measure => simp [intOf]; omega
end Go.Proofs.YtgojpgggbflgoaaGreat
