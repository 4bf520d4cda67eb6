/- find. The first error of hydrometers and glasses. Knots looked for; the masses for which a table is known; the first error. The masses for which a table is known; the error of a table; the first error. The error of a table of a ship. The first error of a ship. The error of a ship and a loading; the displacement. What a ship without error is; the displacement. -/
import Derived.Test.YtgojpgggbflgoaaGreatTop04
namespace Go.Proofs.YtgojpgggbflgoaaGreat
open Go.RowKit

theorem idx_m1 {α : Type} {p : α → Bool} {l : List α} (h : idx p l < 0) : idx p l = -1 := by
  unfold idx at h ⊢
  by_cases c : l.findIdx p < l.length
  · rw [if_pos c] at h; omega
  · rw [if_neg c]
set_option maxHeartbeats 1600000 in
theorem fdY3_any (A : Option Addr) (n c : Nat) (l : List Hy) (id : Int) (B : Nat) (w : World) (h : SAt encY 3 w A n l) (hn : n ≤ 9223372036854775807) (hB : B < w.heap.size) (hc : w.cell? ⟨B, 0, none⟩ = some (.int .i64 id)) :
    Calls Tryz.prog 38 #[.slice A n c, .func (.func 113) #[] #[.pointer (some ⟨B, 0, none⟩)]] w fun e w' => ∃ y, e = .returned (.tuple #[vHy y, .int .i64 (idx (fun x => x.id == id) l)]) ∧ (∀ k (q : k < l.length), idx (fun x => x.id == id) l = k → y = l[k]) ∧ Below w.heap.size w w' := by
  have hb0 := below_new w (.cells #[.int .i64 0, .int .i64 0, .int .i64 0] 68)
  have r0 := Blk.new w 68 #[.int .i64 0, .int .i64 0, .int .i64 0]
  have HLen := Lib.hid h.len
  have HA := Lib.hid (h.below hb0)
  have HC := Lib.hid (ixY3_any A n c l id B _ (h.below hb0) hn (Nat.lt_of_lt_of_le hB hb0.size) ((hb0.cell (p := ⟨B, 0, none⟩) hB).trans hc))
  have HM1 := Lib.hid (fun q : idx (fun x : Hy => x.id == id) l < 0 => idx_m1 q)
  have HIx := Lib.hid (fun q : ¬ idx (fun x : Hy => x.id == id) l < 0 => idx_lt q)
  clear h hc
  generalize idx (fun x : Hy => x.id == id) l = ix at *
  go_enter Tryz.func38, Tryz.ntmps38
  go_upto_region 1 with fail
  generalize hW : w.alloc (.cells #[.int .i64 0, .int .i64 0, .int .i64 0] 68) = W at *
  have HWs := Lib.hid (show W.heap.size = w.heap.size + 1 by rw [← hW]; simp)
  clear hW
  go_upto_region 2 with (go_at_call 69; (with_reducible refine HC.out.mono ?_); rintro e w1 ⟨rfl, hb1⟩)
  have HR := Lib.hid (r0.below hb1)
  have HA1 := Lib.hid (HA.out.below hb1)
  have HB1 := Lib.hid (hb0.trans (hb1.mono hb0.size))
  clear r0 hb0 hb1 HC HA
  have rl := HR.out.lt
  have r0' := HR.out.cell 0
  have r1' := HR.out.cell 1
  have r2' := HR.out.cell 2
  simp only [List.getElem?_toArray, List.getElem?_cons_zero, List.getElem?_cons_succ] at r0' r1' r2'
  have f0 := HR.out.frozen 0
  have f1 := HR.out.frozen 1
  have f2 := HR.out.frozen 2
  by_cases hi : ix < 0
  case pos =>
    obtain rfl : ix = -1 := HM1.out hi
    clear hi
    go_wp2
    have hz := ((((HR.out.set_ 0 (.int .i64 0)).set_ 1 (.int .i64 0)).set_ 2 (.int .i64 0))).alloc (.cells #[.int .i64 0, .int .i64 0, .int .i64 0] 68)
    simp only [List.setIfInBounds_toArray, List.set_cons_zero, List.set_cons_succ] at hz
    have hbz := ((((HB1.out.setCell (p := ⟨w.heap.size, 0, none⟩) (Nat.le_refl _) (.int .i64 0)).setCell (p := ⟨w.heap.size, 1, none⟩) (Nat.le_refl _) (.int .i64 0)).setCell (p := ⟨w.heap.size, 2, none⟩) (Nat.le_refl _) (.int .i64 0))).alloc (by simpa using HB1.out.size) (.cells #[.int .i64 0, .int .i64 0, .int .i64 0] 68)
    have z0 := hz.cell 0
    have z1 := hz.cell 1
    have z2 := hz.cell 2
    simp only [List.getElem?_toArray, List.getElem?_cons_zero, List.getElem?_cons_succ] at z0 z1 z2
    exact bodyPost_ret (v := .tuple #[vHy ⟨0, 0, 0⟩, .int .i64 (-1)]) (by simp [results, Tryz.results38, go_sem, z0, z1, z2]) rfl ⟨⟨_, rfl⟩, hbz⟩
  case neg =>
    have hi2 : decide (ix < 0) = false := decide_eq_false hi
    obtain ⟨k, q, rfl, _, _⟩ := HIx.out (by omega)
    obtain ⟨b, off, rfl, hl⟩ := HA1.out.at_ (by have := HLen.out; omega)
    obtain ⟨c0, c1, c2⟩ := Hys.at_ hl (List.getElem?_eq_getElem q)
    have cl := hl.lt
    have hkn : k < n := by rw [← HLen.out]; exact q
    have HY := Lib.hid (fun k' (q' : k' < l.length) (e : (k : Int) = (k' : Int)) => show l[k] = l[k'] from getElem_congr_idx (by omega))
    clear hl hi
    generalize l[k] = x at *
    obtain ⟨x0, x1, x2⟩ := x
    dsimp only at *
    go_wp2
    have hz := (((HR.out.set_ 0 (.int .i64 x0)).set_ 1 (.int .i64 x1)).set_ 2 (.int .i64 x2))
    simp only [List.setIfInBounds_toArray, List.set_cons_zero, List.set_cons_succ] at hz
    have hbz := (((HB1.out.setCell (p := ⟨w.heap.size, 0, none⟩) (Nat.le_refl _) (.int .i64 x0)).setCell (p := ⟨w.heap.size, 1, none⟩) (Nat.le_refl _) (.int .i64 x1)).setCell (p := ⟨w.heap.size, 2, none⟩) (Nat.le_refl _) (.int .i64 x2))
    have z0 := hz.cell 0
    have z1 := hz.cell 1
    have z2 := hz.cell 2
    simp only [List.getElem?_toArray, List.getElem?_cons_zero, List.getElem?_cons_succ] at z0 z1 z2
    exact bodyPost_ret (v := .tuple #[vHy ⟨x0, x1, x2⟩, .int .i64 k]) (by simp [results, Tryz.results38, go_sem, z0, z1, z2]) rfl ⟨_, rfl, HY.out, hbz⟩
set_option maxHeartbeats 1600000 in
theorem fdY1_any (A : Option Addr) (n c : Nat) (l : List Hy) (id : Int) (B : Nat) (w : World) (h : SAt encY 3 w A n l) (hn : n ≤ 9223372036854775807) (hB : B < w.heap.size) (hc : w.cell? ⟨B, 0, none⟩ = some (.int .i64 id)) :
    Calls Tryz.prog 38 #[.slice A n c, .func (.func 39) #[] #[.pointer (some ⟨B, 0, none⟩)]] w fun e w' => ∃ y, e = .returned (.tuple #[vHy y, .int .i64 (idx (fun x => x.id == id) l)]) ∧ (∀ k (q : k < l.length), idx (fun x => x.id == id) l = k → y = l[k]) ∧ Below w.heap.size w w' := by
  have hb0 := below_new w (.cells #[.int .i64 0, .int .i64 0, .int .i64 0] 68)
  have r0 := Blk.new w 68 #[.int .i64 0, .int .i64 0, .int .i64 0]
  have HLen := Lib.hid h.len
  have HA := Lib.hid (h.below hb0)
  have HC := Lib.hid (ixY1_any A n c l id B _ (h.below hb0) hn (Nat.lt_of_lt_of_le hB hb0.size) ((hb0.cell (p := ⟨B, 0, none⟩) hB).trans hc))
  have HM1 := Lib.hid (fun q : idx (fun x : Hy => x.id == id) l < 0 => idx_m1 q)
  have HIx := Lib.hid (fun q : ¬ idx (fun x : Hy => x.id == id) l < 0 => idx_lt q)
  clear h hc
  generalize idx (fun x : Hy => x.id == id) l = ix at *
  go_enter Tryz.func38, Tryz.ntmps38
  go_upto_region 1 with fail
  generalize hW : w.alloc (.cells #[.int .i64 0, .int .i64 0, .int .i64 0] 68) = W at *
  have HWs := Lib.hid (show W.heap.size = w.heap.size + 1 by rw [← hW]; simp)
  clear hW
  go_upto_region 2 with (go_at_call 69; (with_reducible refine HC.out.mono ?_); rintro e w1 ⟨rfl, hb1⟩)
  have HR := Lib.hid (r0.below hb1)
  have HA1 := Lib.hid (HA.out.below hb1)
  have HB1 := Lib.hid (hb0.trans (hb1.mono hb0.size))
  clear r0 hb0 hb1 HC HA
  have rl := HR.out.lt
  have r0' := HR.out.cell 0
  have r1' := HR.out.cell 1
  have r2' := HR.out.cell 2
  simp only [List.getElem?_toArray, List.getElem?_cons_zero, List.getElem?_cons_succ] at r0' r1' r2'
  have f0 := HR.out.frozen 0
  have f1 := HR.out.frozen 1
  have f2 := HR.out.frozen 2
  by_cases hi : ix < 0
  case pos =>
    obtain rfl : ix = -1 := HM1.out hi
    clear hi
    go_wp2
    have hz := ((((HR.out.set_ 0 (.int .i64 0)).set_ 1 (.int .i64 0)).set_ 2 (.int .i64 0))).alloc (.cells #[.int .i64 0, .int .i64 0, .int .i64 0] 68)
    simp only [List.setIfInBounds_toArray, List.set_cons_zero, List.set_cons_succ] at hz
    have hbz := ((((HB1.out.setCell (p := ⟨w.heap.size, 0, none⟩) (Nat.le_refl _) (.int .i64 0)).setCell (p := ⟨w.heap.size, 1, none⟩) (Nat.le_refl _) (.int .i64 0)).setCell (p := ⟨w.heap.size, 2, none⟩) (Nat.le_refl _) (.int .i64 0))).alloc (by simpa using HB1.out.size) (.cells #[.int .i64 0, .int .i64 0, .int .i64 0] 68)
    have z0 := hz.cell 0
    have z1 := hz.cell 1
    have z2 := hz.cell 2
    simp only [List.getElem?_toArray, List.getElem?_cons_zero, List.getElem?_cons_succ] at z0 z1 z2
    exact bodyPost_ret (v := .tuple #[vHy ⟨0, 0, 0⟩, .int .i64 (-1)]) (by simp [results, Tryz.results38, go_sem, z0, z1, z2]) rfl ⟨⟨_, rfl⟩, hbz⟩
  case neg =>
    have hi2 : decide (ix < 0) = false := decide_eq_false hi
    obtain ⟨k, q, rfl, _, _⟩ := HIx.out (by omega)
    obtain ⟨b, off, rfl, hl⟩ := HA1.out.at_ (by have := HLen.out; omega)
    obtain ⟨c0, c1, c2⟩ := Hys.at_ hl (List.getElem?_eq_getElem q)
    have cl := hl.lt
    have hkn : k < n := by rw [← HLen.out]; exact q
    have HY := Lib.hid (fun k' (q' : k' < l.length) (e : (k : Int) = (k' : Int)) => show l[k] = l[k'] from getElem_congr_idx (by omega))
    clear hl hi
    generalize l[k] = x at *
    obtain ⟨x0, x1, x2⟩ := x
    dsimp only at *
    go_wp2
    have hz := (((HR.out.set_ 0 (.int .i64 x0)).set_ 1 (.int .i64 x1)).set_ 2 (.int .i64 x2))
    simp only [List.setIfInBounds_toArray, List.set_cons_zero, List.set_cons_succ] at hz
    have hbz := (((HB1.out.setCell (p := ⟨w.heap.size, 0, none⟩) (Nat.le_refl _) (.int .i64 x0)).setCell (p := ⟨w.heap.size, 1, none⟩) (Nat.le_refl _) (.int .i64 x1)).setCell (p := ⟨w.heap.size, 2, none⟩) (Nat.le_refl _) (.int .i64 x2))
    have z0 := hz.cell 0
    have z1 := hz.cell 1
    have z2 := hz.cell 2
    simp only [List.getElem?_toArray, List.getElem?_cons_zero, List.getElem?_cons_succ] at z0 z1 z2
    exact bodyPost_ret (v := .tuple #[vHy ⟨x0, x1, x2⟩, .int .i64 k]) (by simp [results, Tryz.results38, go_sem, z0, z1, z2]) rfl ⟨_, rfl, HY.out, hbz⟩
set_option maxHeartbeats 1600000 in
theorem fdY2_any (A : Option Addr) (n c : Nat) (l : List Hy) (id : Int) (B : Nat) (w : World) (h : SAt encY 3 w A n l) (hn : n ≤ 9223372036854775807) (hB : B < w.heap.size) (hc : w.cell? ⟨B, 1, none⟩ = some (.int .i64 id)) :
    Calls Tryz.prog 38 #[.slice A n c, .func (.func 40) #[] #[.pointer (some ⟨B, 0, none⟩)]] w fun e w' => ∃ y, e = .returned (.tuple #[vHy y, .int .i64 (idx (fun x => x.id == id) l)]) ∧ (∀ k (q : k < l.length), idx (fun x => x.id == id) l = k → y = l[k]) ∧ Below w.heap.size w w' := by
  have hb0 := below_new w (.cells #[.int .i64 0, .int .i64 0, .int .i64 0] 68)
  have r0 := Blk.new w 68 #[.int .i64 0, .int .i64 0, .int .i64 0]
  have HLen := Lib.hid h.len
  have HA := Lib.hid (h.below hb0)
  have HC := Lib.hid (ixY2_any A n c l id B _ (h.below hb0) hn (Nat.lt_of_lt_of_le hB hb0.size) ((hb0.cell (p := ⟨B, 1, none⟩) hB).trans hc))
  have HM1 := Lib.hid (fun q : idx (fun x : Hy => x.id == id) l < 0 => idx_m1 q)
  have HIx := Lib.hid (fun q : ¬ idx (fun x : Hy => x.id == id) l < 0 => idx_lt q)
  clear h hc
  generalize idx (fun x : Hy => x.id == id) l = ix at *
  go_enter Tryz.func38, Tryz.ntmps38
  go_upto_region 1 with fail
  generalize hW : w.alloc (.cells #[.int .i64 0, .int .i64 0, .int .i64 0] 68) = W at *
  have HWs := Lib.hid (show W.heap.size = w.heap.size + 1 by rw [← hW]; simp)
  clear hW
  go_upto_region 2 with (go_at_call 69; (with_reducible refine HC.out.mono ?_); rintro e w1 ⟨rfl, hb1⟩)
  have HR := Lib.hid (r0.below hb1)
  have HA1 := Lib.hid (HA.out.below hb1)
  have HB1 := Lib.hid (hb0.trans (hb1.mono hb0.size))
  clear r0 hb0 hb1 HC HA
  have rl := HR.out.lt
  have r0' := HR.out.cell 0
  have r1' := HR.out.cell 1
  have r2' := HR.out.cell 2
  simp only [List.getElem?_toArray, List.getElem?_cons_zero, List.getElem?_cons_succ] at r0' r1' r2'
  have f0 := HR.out.frozen 0
  have f1 := HR.out.frozen 1
  have f2 := HR.out.frozen 2
  by_cases hi : ix < 0
  case pos =>
    obtain rfl : ix = -1 := HM1.out hi
    clear hi
    go_wp2
    have hz := ((((HR.out.set_ 0 (.int .i64 0)).set_ 1 (.int .i64 0)).set_ 2 (.int .i64 0))).alloc (.cells #[.int .i64 0, .int .i64 0, .int .i64 0] 68)
    simp only [List.setIfInBounds_toArray, List.set_cons_zero, List.set_cons_succ] at hz
    have hbz := ((((HB1.out.setCell (p := ⟨w.heap.size, 0, none⟩) (Nat.le_refl _) (.int .i64 0)).setCell (p := ⟨w.heap.size, 1, none⟩) (Nat.le_refl _) (.int .i64 0)).setCell (p := ⟨w.heap.size, 2, none⟩) (Nat.le_refl _) (.int .i64 0))).alloc (by simpa using HB1.out.size) (.cells #[.int .i64 0, .int .i64 0, .int .i64 0] 68)
    have z0 := hz.cell 0
    have z1 := hz.cell 1
    have z2 := hz.cell 2
    simp only [List.getElem?_toArray, List.getElem?_cons_zero, List.getElem?_cons_succ] at z0 z1 z2
    exact bodyPost_ret (v := .tuple #[vHy ⟨0, 0, 0⟩, .int .i64 (-1)]) (by simp [results, Tryz.results38, go_sem, z0, z1, z2]) rfl ⟨⟨_, rfl⟩, hbz⟩
  case neg =>
    have hi2 : decide (ix < 0) = false := decide_eq_false hi
    obtain ⟨k, q, rfl, _, _⟩ := HIx.out (by omega)
    obtain ⟨b, off, rfl, hl⟩ := HA1.out.at_ (by have := HLen.out; omega)
    obtain ⟨c0, c1, c2⟩ := Hys.at_ hl (List.getElem?_eq_getElem q)
    have cl := hl.lt
    have hkn : k < n := by rw [← HLen.out]; exact q
    have HY := Lib.hid (fun k' (q' : k' < l.length) (e : (k : Int) = (k' : Int)) => show l[k] = l[k'] from getElem_congr_idx (by omega))
    clear hl hi
    generalize l[k] = x at *
    obtain ⟨x0, x1, x2⟩ := x
    dsimp only at *
    go_wp2
    have hz := (((HR.out.set_ 0 (.int .i64 x0)).set_ 1 (.int .i64 x1)).set_ 2 (.int .i64 x2))
    simp only [List.setIfInBounds_toArray, List.set_cons_zero, List.set_cons_succ] at hz
    have hbz := (((HB1.out.setCell (p := ⟨w.heap.size, 0, none⟩) (Nat.le_refl _) (.int .i64 x0)).setCell (p := ⟨w.heap.size, 1, none⟩) (Nat.le_refl _) (.int .i64 x1)).setCell (p := ⟨w.heap.size, 2, none⟩) (Nat.le_refl _) (.int .i64 x2))
    have z0 := hz.cell 0
    have z1 := hz.cell 1
    have z2 := hz.cell 2
    simp only [List.getElem?_toArray, List.getElem?_cons_zero, List.getElem?_cons_succ] at z0 z1 z2
    exact bodyPost_ret (v := .tuple #[vHy ⟨x0, x1, x2⟩, .int .i64 k]) (by simp [results, Tryz.results38, go_sem, z0, z1, z2]) rfl ⟨_, rfl, HY.out, hbz⟩
set_option maxHeartbeats 1600000 in
theorem fdG_any (A : Option Addr) (n c : Nat) (l : List Gs) (id : Int) (B : Nat) (w : World) (h : SAt encG 5 w A n l) (hn : n ≤ 9223372036854775807) (hB : B < w.heap.size) (hc : w.cell? ⟨B, 0, none⟩ = some (.int .i64 id)) :
    Calls Tryz.prog 41 #[.slice A n c, .func (.func 42) #[] #[.pointer (some ⟨B, 0, none⟩)]] w fun e w' => ∃ y, e = .returned (.tuple #[vGs y, .int .i64 (idx (fun x => x.id == id) l)]) ∧ (∀ k (q : k < l.length), idx (fun x => x.id == id) l = k → y = l[k]) ∧ Below w.heap.size w w' := by
  have hb0 := below_new w (.cells #[.int .i64 0, .int .i64 0, .int .i64 0, .int .i64 0, .int .i64 0] 70)
  have r0 := Blk.new w 70 #[.int .i64 0, .int .i64 0, .int .i64 0, .int .i64 0, .int .i64 0]
  have HLen := Lib.hid h.len
  have HA := Lib.hid (h.below hb0)
  have HC := Lib.hid (ixG_any A n c l id B _ (h.below hb0) hn (Nat.lt_of_lt_of_le hB hb0.size) ((hb0.cell (p := ⟨B, 0, none⟩) hB).trans hc))
  have HM1 := Lib.hid (fun q : idx (fun x : Gs => x.id == id) l < 0 => idx_m1 q)
  have HIx := Lib.hid (fun q : ¬ idx (fun x : Gs => x.id == id) l < 0 => idx_lt q)
  clear h hc
  generalize idx (fun x : Gs => x.id == id) l = ix at *
  go_enter Tryz.func41, Tryz.ntmps41
  go_upto_region 1 with fail
  generalize hW : w.alloc (.cells #[.int .i64 0, .int .i64 0, .int .i64 0, .int .i64 0, .int .i64 0] 70) = W at *
  have HWs := Lib.hid (show W.heap.size = w.heap.size + 1 by rw [← hW]; simp)
  clear hW
  go_upto_region 2 with (go_at_call 70; (with_reducible refine HC.out.mono ?_); rintro e w1 ⟨rfl, hb1⟩)
  have HR := Lib.hid (r0.below hb1)
  have HA1 := Lib.hid (HA.out.below hb1)
  have HB1 := Lib.hid (hb0.trans (hb1.mono hb0.size))
  clear r0 hb0 hb1 HC HA
  have rl := HR.out.lt
  have r0' := HR.out.cell 0
  have r1' := HR.out.cell 1
  have r2' := HR.out.cell 2
  have r3' := HR.out.cell 3
  have r4' := HR.out.cell 4
  simp only [List.getElem?_toArray, List.getElem?_cons_zero, List.getElem?_cons_succ] at r0' r1' r2' r3' r4'
  have f0 := HR.out.frozen 0
  have f1 := HR.out.frozen 1
  have f2 := HR.out.frozen 2
  have f3 := HR.out.frozen 3
  have f4 := HR.out.frozen 4
  by_cases hi : ix < 0
  case pos =>
    obtain rfl : ix = -1 := HM1.out hi
    clear hi
    go_wp2
    have hz := ((((((HR.out.set_ 0 (.int .i64 0)).set_ 1 (.int .i64 0)).set_ 2 (.int .i64 0)).set_ 3 (.int .i64 0)).set_ 4 (.int .i64 0))).alloc (.cells #[.int .i64 0, .int .i64 0, .int .i64 0, .int .i64 0, .int .i64 0] 70)
    simp only [List.setIfInBounds_toArray, List.set_cons_zero, List.set_cons_succ] at hz
    have hbz := ((((((HB1.out.setCell (p := ⟨w.heap.size, 0, none⟩) (Nat.le_refl _) (.int .i64 0)).setCell (p := ⟨w.heap.size, 1, none⟩) (Nat.le_refl _) (.int .i64 0)).setCell (p := ⟨w.heap.size, 2, none⟩) (Nat.le_refl _) (.int .i64 0)).setCell (p := ⟨w.heap.size, 3, none⟩) (Nat.le_refl _) (.int .i64 0)).setCell (p := ⟨w.heap.size, 4, none⟩) (Nat.le_refl _) (.int .i64 0))).alloc (by simpa using HB1.out.size) (.cells #[.int .i64 0, .int .i64 0, .int .i64 0, .int .i64 0, .int .i64 0] 70)
    have z0 := hz.cell 0
    have z1 := hz.cell 1
    have z2 := hz.cell 2
    have z3 := hz.cell 3
    have z4 := hz.cell 4
    simp only [List.getElem?_toArray, List.getElem?_cons_zero, List.getElem?_cons_succ] at z0 z1 z2 z3 z4
    exact bodyPost_ret (v := .tuple #[vGs ⟨0, 0, 0, 0, 0⟩, .int .i64 (-1)]) (by simp [results, Tryz.results41, go_sem, z0, z1, z2, z3, z4]) rfl ⟨⟨_, rfl⟩, hbz⟩
  case neg =>
    have hi2 : decide (ix < 0) = false := decide_eq_false hi
    obtain ⟨k, q, rfl, _, _⟩ := HIx.out (by omega)
    obtain ⟨b, off, rfl, hl⟩ := HA1.out.at_ (by have := HLen.out; omega)
    obtain ⟨c0, c1, c2, c3, c4⟩ := Gss.at_ hl (List.getElem?_eq_getElem q)
    have cl := hl.lt
    have hkn : k < n := by rw [← HLen.out]; exact q
    have HY := Lib.hid (fun k' (q' : k' < l.length) (e : (k : Int) = (k' : Int)) => show l[k] = l[k'] from getElem_congr_idx (by omega))
    clear hl hi
    generalize l[k] = x at *
    obtain ⟨x0, x1, x2, x3, x4⟩ := x
    dsimp only at *
    go_wp2
    have hz := (((((HR.out.set_ 0 (.int .i64 x0)).set_ 1 (.int .i64 x1)).set_ 2 (.int .i64 x2)).set_ 3 (.int .i64 x3)).set_ 4 (.int .i64 x4))
    simp only [List.setIfInBounds_toArray, List.set_cons_zero, List.set_cons_succ] at hz
    have hbz := (((((HB1.out.setCell (p := ⟨w.heap.size, 0, none⟩) (Nat.le_refl _) (.int .i64 x0)).setCell (p := ⟨w.heap.size, 1, none⟩) (Nat.le_refl _) (.int .i64 x1)).setCell (p := ⟨w.heap.size, 2, none⟩) (Nat.le_refl _) (.int .i64 x2)).setCell (p := ⟨w.heap.size, 3, none⟩) (Nat.le_refl _) (.int .i64 x3)).setCell (p := ⟨w.heap.size, 4, none⟩) (Nat.le_refl _) (.int .i64 x4))
    have z0 := hz.cell 0
    have z1 := hz.cell 1
    have z2 := hz.cell 2
    have z3 := hz.cell 3
    have z4 := hz.cell 4
    simp only [List.getElem?_toArray, List.getElem?_cons_zero, List.getElem?_cons_succ] at z0 z1 z2 z3 z4
    exact bodyPost_ret (v := .tuple #[vGs ⟨x0, x1, x2, x3, x4⟩, .int .i64 k]) (by simp [results, Tryz.results41, go_sem, z0, z1, z2, z3, z4]) rfl ⟨_, rfl, HY.out, hbz⟩
end Go.Proofs.YtgojpgggbflgoaaGreat

namespace Go.Proofs.YtgojpgggbflgoaaGreat
open Go.RowKit

/-- The first error of some. -/
def firstE (f : Nat → Int) (n : Nat) : Int := match (List.range n).find? fun i => f i != 0 with | some i => f i | none => 0
theorem firstE_at {f : Nat → Int} {n k : Nat} (h : k < n) (hk : f k ≠ 0) (hb : ∀ i, i < k → f i = 0) : firstE f n = f k := by
  have : (List.range n).find? (fun i => f i != 0) = some k := by
    rw [List.find?_range_eq_some]
    exact ⟨by simpa using hk, by simpa using h, fun i hi => by simpa using hb i hi⟩
  unfold firstE
  rw [this]
theorem firstE_all {f : Nat → Int} {n : Nat} (hb : ∀ i, i < n → f i = 0) : firstE f n = 0 := by
  have : (List.range n).find? (fun i => f i != 0) = none := List.find?_eq_none.2 fun i hi => by simpa using hb i (List.mem_range.1 hi)
  unfold firstE
  rw [this]
theorem firstE_zero {f : Nat → Int} {n : Nat} (h : firstE f n = 0) : ∀ i, i < n → f i = 0 := by
  unfold firstE at h
  cases e : (List.range n).find? (fun i => f i != 0) with
  | none => intro i hi; simpa using List.find?_eq_none.1 e i (List.mem_range.2 hi)
  | some k =>
    rw [e] at h
    have := List.find?_some e
    simp [h] at this
def hyB (x : Hy) : Bool := inB x.id 1 1099511627776 && decide (-100 ≤ x.lo ∧ x.lo ≤ x.hi ∧ x.hi ≤ 100)
def hyF (ys : List Hy) (i : Nat) : Int := if hyB (ys.getD i default) = false then 1 else if idx (fun x => x.id == (ys.getD i default).id) ys < i then 6 else 0
def gsB (x : Gs) : Bool := inB x.id 1 1099511627776 && inB x.dense 900 1100 && decide (0 ≤ x.lo ∧ x.lo ≤ x.hi ∧ x.hi ≤ 2000)
def gsF (ys : List Hy) (gs : List Gs) (i : Nat) : Int := if gsB (gs.getD i default) = false then 1 else if idx (fun x => x.id == (gs.getD i default).hy) ys < 0 then 5 else if idx (fun x => x.id == (gs.getD i default).id) gs < i then 6 else 0
/-- The first error of hydrometers and glasses. -/
def bulbE (ys : List Hy) (gs : List Gs) : Int :=
  if 8 < ys.length ∨ 40 < gs.length then 2 else if firstE (hyF ys) ys.length ≠ 0 then firstE (hyF ys) ys.length else firstE (gsF ys gs) gs.length
theorem hyF_of {ys : List Hy} {i : Nat} (h : i < ys.length) : hyF ys i = if hyB ys[i] = false then 1 else if idx (fun x => x.id == (ys[i]).id) ys < i then 6 else 0 := by
  have e : ys.getD i default = ys[i] := by simp [List.getD_eq_getElem?_getD, h]
  unfold hyF
  rw [e]
theorem gsF_of {ys : List Hy} {gs : List Gs} {i : Nat} (h : i < gs.length) : gsF ys gs i = if gsB gs[i] = false then 1 else if idx (fun x => x.id == (gs[i]).hy) ys < 0 then 5 else if idx (fun x => x.id == (gs[i]).id) gs < i then 6 else 0 := by
  have e : gs.getD i default = gs[i] := by simp [List.getD_eq_getElem?_getD, h]
  unfold gsF
  rw [e]
set_option maxRecDepth 100000 in
set_option maxHeartbeats 6400000 in
theorem CheckBulbs_any (A : Option Addr) (n c : Nat) (B : Option Addr) (m d : Nat) (ys : List Hy) (gs : List Gs) (w : World) (hA : SAt encY 3 w A n ys) (hB : SAt encG 5 w B m gs) (hn : n ≤ 9223372036854775807) (hm : m ≤ 9223372036854775807) :
    Calls Tryz.prog 21 #[.agg #[.slice A n c, .slice B m d]] w fun e w' => e = .returned (.int .i64 (bulbE ys gs)) ∧ Below w.heap.size w w' := by
  have hb0 := below_new w (.cells #[.slice A n c, .slice B m d] 31)
  have t0 := Blk.new w 31 #[.slice A n c, .slice B m d]
  have HA := Lib.hid (hA.below hb0)
  have HG := Lib.hid (hB.below hb0)
  have HLy := Lib.hid hA.len
  have HLg := Lib.hid hB.len
  have HE := Lib.hid (show bulbE ys gs = if 8 < n ∨ 40 < m then 2 else if firstE (hyF ys) n ≠ 0 then firstE (hyF ys) n else firstE (gsF ys gs) m by unfold bulbE; rw [hA.len, hB.len])
  clear hA hB
  generalize bulbE ys gs = be at *
  go_enter Tryz.func21, Tryz.ntmps21
  go_upto_region 1 with fail
  generalize hW : w.alloc (.cells #[.slice A n c, .slice B m d] 31) = W at *
  clear hW
  have HT := Lib.hid t0
  have HB0 := Lib.hid hb0
  obtain ⟨t0, t1, tl⟩ := cells2 t0
  clear hb0
  by_cases h8 : 8 < n
  case pos =>
    have hE : be = 2 := by rw [HE.out, if_pos (.inl h8)]
    clear HE
    subst hE
    go_wp2
    exact bodyPost_ret (v := .int .i64 2) (by simp [results, Tryz.results21, go_sem]) rfl ⟨rfl, HB0.out⟩
  case neg =>
  by_cases h40 : 40 < m
  case pos =>
    have hE : be = 2 := by rw [HE.out, if_pos (.inr h40)]
    clear HE
    subst hE
    go_wp2
    exact bodyPost_ret (v := .int .i64 2) (by simp [results, Tryz.results21, go_sem]) rfl ⟨rfl, HB0.out⟩
  case neg =>
  have HE2 := Lib.hid (show be = if firstE (hyF ys) n ≠ 0 then firstE (hyF ys) n else firstE (gsF ys gs) m by rw [HE.out, if_neg (by omega)])
  clear HE
  go_upto_region 4 with fail
  clear t0 t1 tl
  go_loopw [3, 4, 5, 6, 26] (fun _ _ _ _ i wx => ∃ k : Nat, k ≤ n ∧ i = .int .i64 (k : Int) ∧ (∀ i, i < k → hyF ys i = 0) ∧ Below W.heap.size W wx) (fun _ _ _ _ i _ => n - (intOf i).toNat)
  case atStart => exact ⟨0, Nat.zero_le _, rfl, fun i h => absurd h (by omega), Below.refl _ _⟩
  case round =>
    obtain ⟨k, hk, rfl, hno, hb⟩ := hrel
    have HNo := Lib.hid hno
    have HB := Lib.hid hb
    clear hno hb
    obtain ⟨t0, t1, tl⟩ := cells2 (HT.out.below HB.out)
    by_cases hkn : k < n
    case pos =>
      have hkl : k < ys.length := by rw [HLy.out]; exact hkn
      obtain ⟨b, off, rfl, hl⟩ := HA.out.at_ (by omega)
      obtain ⟨c0, c1, c2⟩ := Hys.at_ (hl.below HB.out) (List.getElem?_eq_getElem hkl)
      have cl := (hl.below HB.out).lt
      have HF := Lib.hid (hyF_of hkl)
      clear hl
      generalize ys[k] = x at *
      obtain ⟨xi, xl, xh⟩ := x
      dsimp only at *
      have HF2 := Lib.hid (show hyF ys k = if (inB xi 1 1099511627776 && decide (-100 ≤ xl ∧ xl ≤ xh ∧ xh ≤ 100)) = false then 1 else if idx (fun x => x.id == xi) ys < k then 6 else 0 from HF.out)
      clear HF
      have H1 := Lib.hid (fun u => swithin_any xi 1 1099511627776 u)
      have H2 := Lib.hid (fun u => spans_any xl xh (-100) 100 u)
      have H3 := Lib.hid (fun (u : World) (B' : Nat) (hu : SAt encY 3 u (some ⟨b, off, none⟩) n ys) (hB' : B' < u.heap.size) (hc' : u.cell? ⟨B', 0, none⟩ = some (.int .i64 xi)) => fdY1_any (some ⟨b, off, none⟩) n c ys xi B' u hu hn hB' hc')
      generalize inB xi 1 1099511627776 = b1 at *
      generalize decide (-100 ≤ xl ∧ xl ≤ xh ∧ xh ≤ 100) = b2 at *
      generalize idx (fun x : Hy => x.id == xi) ys = ix at *
      cases b1 with
      | false =>
        have hE : be = 1 := by
          have e : hyF ys k = 1 := by rw [HF2.out, if_pos (by simp)]
          rw [HE2.out, firstE_at hkn (by rw [e]; decide) HNo.out, e, if_pos (by decide)]
        clear HE2 HF2
        subst hE
        go_wp2_with (go_at_call 36; (with_reducible refine (H1.out _).mono ?_); rintro e u1 ⟨rfl, rfl⟩)
        exact bodyPost_ret (v := .int .i64 1) (by simp [results, Tryz.results21, go_sem]) rfl ⟨rfl, HB0.out.trans ((HB.out.alloc HB.out.size _).mono HB0.out.size)⟩
      | true =>
        cases b2 with
        | false =>
          have hE : be = 1 := by
            have e : hyF ys k = 1 := by rw [HF2.out, if_pos (by simp)]
            rw [HE2.out, firstE_at hkn (by rw [e]; decide) HNo.out, e, if_pos (by decide)]
          clear HE2 HF2
          subst hE
          go_wp2_with (first | (go_at_call 36; (with_reducible refine (H1.out _).mono ?_); rintro e u1 ⟨rfl, rfl⟩) | (go_at_call 37; (with_reducible refine (H2.out _).mono ?_); rintro e u1 ⟨rfl, hb1⟩))
          exact bodyPost_ret (v := .int .i64 1) (by simp [results, Tryz.results21, go_sem]) rfl ⟨rfl, HB0.out.trans ((HB.out.trans (((below_new wr (.cells #[.int .i64 xi, .int .i64 xl, .int .i64 xh] 68)).trans (hb1.mono (by simp))).mono HB.out.size)).mono HB0.out.size)⟩
        | true =>
          have b5 := below_new wr (.cells #[.int .i64 xi, .int .i64 xl, .int .i64 xh] 68)
          have HN5 := Lib.hid (Blk.new wr 68 #[.int .i64 xi, .int .i64 xl, .int .i64 xh])
          have HB5 := Lib.hid (HB.out.trans (b5.mono HB.out.size))
          have HF3 := Lib.hid (show hyF ys k = if ix < k then 6 else 0 by rw [HF2.out, if_neg (by simp)])
          clear b5 HF2
          go_upto_region 8 with (first | (go_at_call 36; (with_reducible refine (H1.out _).mono ?_); rintro e u1 ⟨rfl, rfl⟩) | (go_at_call 37; (with_reducible refine (H2.out _).mono ?_); rintro e u1 ⟨rfl, hb1⟩))
          have HB6 := Lib.hid (HB5.out.trans (hb1.mono HB5.out.size))
          obtain ⟨z0, z1, z2, zl⟩ := cells3 (HN5.out.below hb1)
          generalize wr.heap.size = g at *
          clear t0 t1 tl c0 c1 c2 cl hb1 HN5 HB5
          obtain ⟨t0, t1, tl⟩ := cells2 (HT.out.below HB6.out)
          have HC := Lib.hid (H3.out u1 g (HA.out.below HB6.out) zl z0)
          go_upto_region 9 with (go_at_call 38; (with_reducible refine HC.out.mono ?_); rintro e u2 ⟨y, rfl, _, hb2⟩; obtain ⟨y0, y1, y2⟩ := y)
          have b7 := below_new u2 (.cells #[.int .i64 y0, .int .i64 y1, .int .i64 y2] 68)
          have HB7 := Lib.hid (HB6.out.trans ((hb2.trans (b7.mono hb2.size)).mono HB6.out.size))
          clear HC b7 hb2 t0 t1 tl z0 z1 z2 zl
          by_cases hix : ix < k
          case pos =>
            have hd : decide (ix < (k : Int)) = true := decide_eq_true hix
            have hE : be = 6 := by
              have e : hyF ys k = 6 := by rw [HF3.out, if_pos hix]
              rw [HE2.out, firstE_at hkn (by rw [e]; decide) HNo.out, e, if_pos (by decide)]
            clear HE2 HF3 hix
            subst hE
            go_wp2
            exact bodyPost_ret (v := .int .i64 6) (by simp [results, Tryz.results21, go_sem]) rfl ⟨rfl, HB0.out.trans (HB7.out.mono HB0.out.size)⟩
          case neg =>
            have hd : decide (ix < (k : Int)) = false := decide_eq_false hix
            have HNx := Lib.hid (show ∀ i, i < k + 1 → hyF ys i = 0 from fun i hi => by
              by_cases e : i = k
              · rw [e, HF3.out, if_neg hix]
              · exact HNo.out i (by omega))
            clear hix
            go_wp2
            go_roundw
            case rel => exact ⟨k + 1, by omega, by go_num, HNx.out, HB7.out⟩
            case measure => simp [intOf]; omega
    case neg =>
      obtain rfl : k = n := by omega
      have HE3 := Lib.hid (show be = firstE (gsF ys gs) m by rw [HE2.out, firstE_all HNo.out, if_neg (by decide)])
      clear HE2 HNo
      go_upto_region 13 with fail
      clear t0 t1 tl
      go_loopw [7, 8, 9, 10, 11, 12, 55] (fun _ _ _ _ _ _ i wx => ∃ j : Nat, j ≤ m ∧ i = .int .i64 (j : Int) ∧ (∀ i, i < j → gsF ys gs i = 0) ∧ Below W.heap.size W wx) (fun _ _ _ _ _ _ i _ => m - (intOf i).toNat)
      case atStart => exact ⟨0, Nat.zero_le _, rfl, fun i h => absurd h (by omega), HB.out⟩
      case round =>
        clear HB
        obtain ⟨j, hj, rfl, hno, hb⟩ := hrel
        have HNo := Lib.hid hno
        have HB := Lib.hid hb
        clear hno hb
        obtain ⟨t0, t1, tl⟩ := cells2 (HT.out.below HB.out)
        by_cases hjm : j < m
        case neg =>
          obtain rfl : j = m := by omega
          have hE : be = 0 := by rw [HE3.out, firstE_all HNo.out]
          clear HE3 HNo
          subst hE
          go_wp2
          exact bodyPost_ret (v := .int .i64 0) (by simp [results, Tryz.results21, go_sem]) rfl ⟨rfl, HB0.out.trans (HB.out.mono HB0.out.size)⟩
        case pos =>
          have hjl : j < gs.length := by rw [HLg.out]; exact hjm
          obtain ⟨b, off, rfl, hl⟩ := HG.out.at_ (by omega)
          obtain ⟨c0, c1, c2, c3, c4⟩ := Gss.at_ (hl.below HB.out) (List.getElem?_eq_getElem hjl)
          have cl := (hl.below HB.out).lt
          have HF := Lib.hid (gsF_of (ys := ys) hjl)
          clear hl
          generalize gs[j] = x at *
          obtain ⟨xi, xh, xd, xl, xu⟩ := x
          dsimp only at *
          have HF2 := Lib.hid (show gsF ys gs j = if (inB xi 1 1099511627776 && inB xd 900 1100 && decide (0 ≤ xl ∧ xl ≤ xu ∧ xu ≤ 2000)) = false then 1 else if idx (fun x => x.id == xh) ys < 0 then 5 else if idx (fun x => x.id == xi) gs < j then 6 else 0 from HF.out)
          clear HF
          have H1 := Lib.hid (fun u => swithin_any xi 1 1099511627776 u)
          have H2 := Lib.hid (fun u => swithin_any xd 900 1100 u)
          have H3 := Lib.hid (fun u => spans_any xl xu 0 2000 u)
          have H4 := Lib.hid (fun (u : World) (B' : Nat) (hu : SAt encY 3 u A k ys) (hB' : B' < u.heap.size) (hc' : u.cell? ⟨B', 1, none⟩ = some (.int .i64 xh)) => fdY2_any A k c ys xh B' u hu hn hB' hc')
          have H5 := Lib.hid (fun (u : World) (B' : Nat) (hu : SAt encG 5 u (some ⟨b, off, none⟩) m gs) (hB' : B' < u.heap.size) (hc' : u.cell? ⟨B', 0, none⟩ = some (.int .i64 xi)) => fdG_any (some ⟨b, off, none⟩) m d gs xi B' u hu hm hB' hc')
          generalize inB xi 1 1099511627776 = b1 at *
          generalize inB xd 900 1100 = b2 at *
          generalize decide (0 ≤ xl ∧ xl ≤ xu ∧ xu ≤ 2000) = b3 at *
          generalize idx (fun x : Hy => x.id == xh) ys = iy at *
          generalize idx (fun x : Gs => x.id == xi) gs = ig at *
          have HER := Lib.hid (fun (v : Int) (e : gsF ys gs j = v) (hv : v ≠ 0) => show be = v by rw [HE3.out, firstE_at hjm (by rw [e]; exact hv) HNo.out, e])
          cases b1 with
          | false =>
            obtain rfl := HER.out 1 (by rw [HF2.out, if_pos (by simp)]) (by decide)
            clear HE3 HF2 HER
            go_wp2_with (go_at_call 36; (with_reducible refine (H1.out _).mono ?_); rintro e u1 ⟨rfl, rfl⟩)
            exact bodyPost_ret (v := .int .i64 1) (by simp [results, Tryz.results21, go_sem]) rfl ⟨rfl, HB0.out.trans ((HB.out.alloc HB.out.size _).mono HB0.out.size)⟩
          | true =>
          cases b2 with
          | false =>
            obtain rfl := HER.out 1 (by rw [HF2.out, if_pos (by simp)]) (by decide)
            clear HE3 HF2 HER
            go_wp2_with (first | (go_at_call 36; (with_reducible refine (H1.out _).mono ?_); rintro e u1 ⟨rfl, rfl⟩) | (go_at_call 36; (with_reducible refine (H2.out _).mono ?_); rintro e u1 ⟨rfl, rfl⟩))
            exact bodyPost_ret (v := .int .i64 1) (by simp [results, Tryz.results21, go_sem]) rfl ⟨rfl, HB0.out.trans ((HB.out.alloc HB.out.size _).mono HB0.out.size)⟩
          | true =>
          have b5 := below_new wr (.cells #[.int .i64 xi, .int .i64 xh, .int .i64 xd, .int .i64 xl, .int .i64 xu] 70)
          have HN5 := Lib.hid (Blk.new wr 70 #[.int .i64 xi, .int .i64 xh, .int .i64 xd, .int .i64 xl, .int .i64 xu])
          have HB5 := Lib.hid (HB.out.trans (b5.mono HB.out.size))
          clear b5
          cases b3 with
          | false =>
            obtain rfl := HER.out 1 (by rw [HF2.out, if_pos (by simp)]) (by decide)
            clear HE3 HF2 HER
            go_wp2_with (first | (go_at_call 36; (with_reducible refine (H1.out _).mono ?_); rintro e u1 ⟨rfl, rfl⟩) | (go_at_call 36; (with_reducible refine (H2.out _).mono ?_); rintro e u1 ⟨rfl, rfl⟩) | (go_at_call 37; (with_reducible refine (H3.out _).mono ?_); rintro e u1 ⟨rfl, hb1⟩))
            exact bodyPost_ret (v := .int .i64 1) (by simp [results, Tryz.results21, go_sem]) rfl ⟨rfl, HB0.out.trans ((HB5.out.trans (hb1.mono HB5.out.size)).mono HB0.out.size)⟩
          | true =>
          have HF3 := Lib.hid (show gsF ys gs j = if iy < 0 then 5 else if ig < j then 6 else 0 by rw [HF2.out, if_neg (by simp)])
          clear HF2
          go_upto_region 17 with (first | (go_at_call 36; (with_reducible refine (H1.out _).mono ?_); rintro e u1 ⟨rfl, rfl⟩) | (go_at_call 36; (with_reducible refine (H2.out _).mono ?_); rintro e u1 ⟨rfl, rfl⟩) | (go_at_call 37; (with_reducible refine (H3.out _).mono ?_); rintro e u1 ⟨rfl, hb1⟩))
          have HB6 := Lib.hid (HB5.out.trans (hb1.mono HB5.out.size))
          have HN6 := Lib.hid (HN5.out.below hb1)
          generalize wr.heap.size = g at *
          clear t0 t1 tl c0 c1 c2 c3 c4 cl hb1 HN5 HB5 H1 H2 H3
          obtain ⟨z0, z1, z2, z3, z4, zl⟩ := cells5 HN6.out
          obtain ⟨t0, t1, tl⟩ := cells2 (HT.out.below HB6.out)
          have HC := Lib.hid (H4.out u1 g (HA.out.below HB6.out) zl z1)
          go_upto_region 18 with (go_at_call 38; (with_reducible refine HC.out.mono ?_); rintro e u2 ⟨y, rfl, _, hb2⟩; obtain ⟨y0, y1, y2⟩ := y)
          have b7 := below_new u2 (.cells #[.int .i64 y0, .int .i64 y1, .int .i64 y2] 68)
          have HB7 := Lib.hid (HB6.out.trans ((hb2.trans (b7.mono hb2.size)).mono HB6.out.size))
          have HN7 := Lib.hid (HN6.out.below (hb2.trans (b7.mono hb2.size)))
          generalize hV : u2.alloc (.cells #[.int .i64 y0, .int .i64 y1, .int .i64 y2] 68) = V at *
          generalize hg2 : u2.heap.size = g2 at *
          clear hV hg2 HC b7 hb2 t0 t1 tl z0 z1 z2 z3 z4 zl HB6 HN6
          by_cases hiy : iy < 0
          case pos =>
            have hd : decide (iy < 0) = true := decide_eq_true hiy
            obtain rfl := HER.out 5 (by rw [HF3.out, if_pos hiy]) (by decide)
            clear HE3 HF3 HER hiy
            go_wp2
            exact bodyPost_ret (v := .int .i64 5) (by simp [results, Tryz.results21, go_sem]) rfl ⟨rfl, HB0.out.trans (HB7.out.mono HB0.out.size)⟩
          case neg =>
          have hd : decide (iy < 0) = false := decide_eq_false hiy
          have HF4 := Lib.hid (show gsF ys gs j = if ig < j then 6 else 0 by rw [HF3.out, if_neg hiy])
          clear hiy HF3
          obtain ⟨z0, z1, z2, z3, z4, zl⟩ := cells5 HN7.out
          obtain ⟨t0, t1, tl⟩ := cells2 (HT.out.below HB7.out)
          have HC := Lib.hid (H5.out V g (HG.out.below HB7.out) zl z0)
          go_upto_region 21 with (go_at_call 41; (with_reducible refine HC.out.mono ?_); rintro e u3 ⟨y, rfl, _, hb3⟩; obtain ⟨y0', y1', y2', y3', y4'⟩ := y)
          have b8 := below_new u3 (.cells #[.int .i64 y0', .int .i64 y1', .int .i64 y2', .int .i64 y3', .int .i64 y4'] 70)
          have HB8 := Lib.hid (HB7.out.trans ((hb3.trans (b8.mono hb3.size)).mono HB7.out.size))
          clear HC b8 hb3 t0 t1 tl z0 z1 z2 z3 z4 zl hd
          by_cases hix : ig < j
          case pos =>
            have hd : decide (ig < (j : Int)) = true := decide_eq_true hix
            obtain rfl := HER.out 6 (by rw [HF4.out, if_pos hix]) (by decide)
            clear HE3 HF4 HER hix
            go_wp2
            exact bodyPost_ret (v := .int .i64 6) (by simp [results, Tryz.results21, go_sem]) rfl ⟨rfl, HB0.out.trans (HB8.out.mono HB0.out.size)⟩
          case neg =>
            have hd : decide (ig < (j : Int)) = false := decide_eq_false hix
            have HNx := Lib.hid (show ∀ i, i < j + 1 → gsF ys gs i = 0 from fun i hi => by
              by_cases e : i = j
              · rw [e, HF4.out, if_neg hix]
              · exact HNo.out i (by omega))
            clear hix
            go_wp2
            go_roundw
            case rel => exact ⟨j + 1, by omega, by go_num, HNx.out, HB8.out⟩
            case measure => simp [intOf]; omega
end Go.Proofs.YtgojpgggbflgoaaGreat

namespace Go.Proofs.YtgojpgggbflgoaaGreat
open Go.RowKit

theorem kx_at {ks : List (Int × Int)} {i : Nat} (h : i < ks.length) : kx ks i = (ks[i]).1 := by simp [kx, List.getD_eq_getElem?_getD, h]
theorem ky_at {ks : List (Int × Int)} {i : Nat} (h : i < ks.length) : ky ks i = (ks[i]).2 := by simp [ky, List.getD_eq_getElem?_getD, h]
theorem containsL_any (A : Option Addr) (n c : Nat) (l : List Hl) (id : Int) (B : Nat) (w : World) (h : SAt encL 4 w A n l) (hn : n ≤ 9223372036854775807) (hB : B < w.heap.size) (hc : w.cell? ⟨B, 0, none⟩ = some (.int .i64 id)) :
    Calls Tryz.prog 62 #[.slice A n c, .func (.func 63) #[] #[.pointer (some ⟨B, 0, none⟩)]] w fun e w' => e = .returned (.bool (decide (0 ≤ idx (fun x => x.id == id) l))) ∧ Below w.heap.size w w' := by
  have HC := Lib.hid (ixL_any A n c l id B w h hn hB hc)
  clear h hc
  generalize idx (fun x : Hl => x.id == id) l = ix at *
  go_enter Tryz.func62, Tryz.ntmps62
  go_wp2_with (go_at_call 89; (with_reducible refine HC.out.mono ?_); rintro e w' ⟨rfl, hb'⟩)
  go_ret
  exact ⟨rfl, hb'⟩
theorem ixK1 (x y : Int)  (w : World)  :
    Calls Tryz.prog 94 #[.agg #[.int .i64 x, .int .i64 y]] w fun e w' => e = .returned (.bool (decide (y < 0))) ∧ Below w.heap.size w w' := by
  go_enter Tryz.func94, Tryz.ntmps94
  go_wp2
  go_ret
  exact ⟨rfl, (Below.refl _ _).alloc (Nat.le_refl _) _⟩
set_option maxHeartbeats 1600000 in
theorem ixK_any (A : Option Addr) (n c : Nat) (ks : List (Int × Int))  (w : World) (h : CAt w A n ks) (hn : n ≤ 9223372036854775807)  :
    Calls Tryz.prog 83 #[.slice A n c, .func (.func 94) #[] #[]] w fun e w' => e = .returned (.int .i64 (idx (fun k : Int × Int => decide (k.2 < 0)) ks)) ∧ Below w.heap.size w w' := by
  have HA := Lib.hid h
  have HLen := Lib.hid h.len
  clear h
  go_enter Tryz.func83, Tryz.ntmps83
  go_wp2
  go_loopw [5, 8] (fun _ i wr => ∃ k : Nat, k ≤ n ∧ i = .int .i64 k ∧ (∀ i (q : i < ks.length), i < k → (fun k : Int × Int => decide (k.2 < 0)) ks[i] = false) ∧ Below w.heap.size w wr) (fun _ i _ => n - (intOf i).toNat)
  case atStart => exact ⟨0, Nat.zero_le _, rfl, fun i q h => absurd h (by omega), Below.refl _ _⟩
  case round =>
    obtain ⟨k, hk, rfl, hno, hb⟩ := hrel
    have HNo := Lib.hid hno
    clear hno
    by_cases hkn : k < n
    · obtain ⟨b, off, rfl, hl⟩ := HA.out.at_ (by omega)
      have hkl : k < ks.length := by rw [HLen.out]; exact hkn
      have hl2 := hl.below hb
      have c0 := hl2.x k hkl
      have c1 := hl2.y k hkl
      rw [kx_at hkl] at c0
      rw [ky_at hkl] at c1
      have hlt := hl2.lt

      have HC := Lib.hid (ixK1 (ks[k]).1 (ks[k]).2 wr)
      have HNk := Lib.hid (fun (e : (fun k : Int × Int => decide (k.2 < 0)) ks[k] = true) => idx_at (p := (fun k : Int × Int => decide (k.2 < 0))) hkl e HNo.out)
      have HNx := Lib.hid (fun (e : (fun k : Int × Int => decide (k.2 < 0)) ks[k] = false) => (show ∀ i (q : i < ks.length), i < k + 1 → (fun k : Int × Int => decide (k.2 < 0)) ks[i] = false from fun i q hi => by
        by_cases c : i = k
        · subst c; exact e
        · exact HNo.out i q (by omega)))
      clear hl hl2
      generalize ks[k] = x at *
      obtain ⟨x0, x1⟩ := x
      dsimp only at *
      cases hq : (decide (x1 < 0)) with
      | true =>
        rw [hq] at HC
        have HQ := Lib.hid (HNk.out hq)
        clear hq
        go_wp2_with (go_at_call 94; refine HC.out.mono ?_; rintro e w' ⟨rfl, hb'⟩)
        go_ret
        exact ⟨ret_int HQ.out.symm, hb.trans (hb'.mono hb.size)⟩
      | false =>
        rw [hq] at HC
        have HQ := Lib.hid (HNx.out hq)
        clear hq
        go_wp2_with (go_at_call 94; refine HC.out.mono ?_; rintro e w' ⟨rfl, hb'⟩)
        go_roundw
        case rel => exact ⟨k + 1, by omega, by go_num, HQ.out, hb.trans (hb'.mono hb.size)⟩
        case measure => simp [intOf]; omega
    · have HP := Lib.hid (idx_none (p := (fun k : Int × Int => decide (k.2 < 0))) (l := ks) fun i q => HNo.out i q (by have := HLen.out; omega))
      go_wp2
      go_ret
      exact ⟨ret_int HP.out.symm, hb⟩
theorem ixM1 (x y : Int) (mass : Int) (B : Nat) (w : World) (hB : B < w.heap.size) (hc : w.cell? ⟨B, 0, none⟩ = some (.int .i64 mass)) (h1 : 0 ≤ x ∧ x ≤ 2000) :
    Calls Tryz.prog 84 #[.agg #[.int .i64 x, .int .i64 y], .pointer (some ⟨B, 0, none⟩)] w fun e w' => e = .returned (.bool (decide (mass ≤ x * 40))) ∧ Below w.heap.size w w' := by
  have hne : B ≠ w.heap.size := by omega
  go_enter Tryz.func84, Tryz.ntmps84
  go_wp2
  go_ret
  exact ⟨rfl, (Below.refl _ _).alloc (Nat.le_refl _) _⟩
set_option maxHeartbeats 1600000 in
theorem ixM_any (A : Option Addr) (n c : Nat) (ks : List (Int × Int)) (mass : Int) (B : Nat) (w : World) (h : CAt w A n ks) (hn : n ≤ 9223372036854775807) (hx : ∀ k ∈ ks, 0 ≤ k.1 ∧ k.1 ≤ 2000) (hB : B < w.heap.size) (hc : w.cell? ⟨B, 0, none⟩ = some (.int .i64 mass)) :
    Calls Tryz.prog 83 #[.slice A n c, .func (.func 84) #[] #[.pointer (some ⟨B, 0, none⟩)]] w fun e w' => e = .returned (.int .i64 (idx (fun k : Int × Int => decide (mass ≤ k.1 * 40)) ks)) ∧ Below w.heap.size w w' := by
  have HA := Lib.hid h
  have HLen := Lib.hid h.len
  clear h
  go_enter Tryz.func83, Tryz.ntmps83
  go_wp2
  go_loopw [5, 8] (fun _ i wr => ∃ k : Nat, k ≤ n ∧ i = .int .i64 k ∧ (∀ i (q : i < ks.length), i < k → (fun k : Int × Int => decide (mass ≤ k.1 * 40)) ks[i] = false) ∧ Below w.heap.size w wr) (fun _ i _ => n - (intOf i).toNat)
  case atStart => exact ⟨0, Nat.zero_le _, rfl, fun i q h => absurd h (by omega), Below.refl _ _⟩
  case round =>
    obtain ⟨k, hk, rfl, hno, hb⟩ := hrel
    have HNo := Lib.hid hno
    clear hno
    by_cases hkn : k < n
    · obtain ⟨b, off, rfl, hl⟩ := HA.out.at_ (by omega)
      have hkl : k < ks.length := by rw [HLen.out]; exact hkn
      have hl2 := hl.below hb
      have c0 := hl2.x k hkl
      have c1 := hl2.y k hkl
      rw [kx_at hkl] at c0
      rw [ky_at hkl] at c1
      have hlt := hl2.lt
      have hcw := (hb.cell (p := ⟨B, 0, none⟩) hB).trans hc
      have hBw := Nat.lt_of_lt_of_le hB hb.size
      have HC := Lib.hid (ixM1 (ks[k]).1 (ks[k]).2 mass B wr hBw hcw (hx _ (List.getElem_mem hkl)))
      have HNk := Lib.hid (fun (e : (fun k : Int × Int => decide (mass ≤ k.1 * 40)) ks[k] = true) => idx_at (p := (fun k : Int × Int => decide (mass ≤ k.1 * 40))) hkl e HNo.out)
      have HNx := Lib.hid (fun (e : (fun k : Int × Int => decide (mass ≤ k.1 * 40)) ks[k] = false) => (show ∀ i (q : i < ks.length), i < k + 1 → (fun k : Int × Int => decide (mass ≤ k.1 * 40)) ks[i] = false from fun i q hi => by
        by_cases c : i = k
        · subst c; exact e
        · exact HNo.out i q (by omega)))
      clear hl hl2
      generalize ks[k] = x at *
      obtain ⟨x0, x1⟩ := x
      dsimp only at *
      cases hq : (decide (mass ≤ x0 * 40)) with
      | true =>
        rw [hq] at HC
        have HQ := Lib.hid (HNk.out hq)
        clear hq
        go_wp2_with (go_at_call 84; refine HC.out.mono ?_; rintro e w' ⟨rfl, hb'⟩)
        go_ret
        exact ⟨ret_int HQ.out.symm, hb.trans (hb'.mono hb.size)⟩
      | false =>
        rw [hq] at HC
        have HQ := Lib.hid (HNx.out hq)
        clear hq
        go_wp2_with (go_at_call 84; refine HC.out.mono ?_; rintro e w' ⟨rfl, hb'⟩)
        go_roundw
        case rel => exact ⟨k + 1, by omega, by go_num, HQ.out, hb.trans (hb'.mono hb.size)⟩
        case measure => simp [intOf]; omega
    · have HP := Lib.hid (idx_none (p := (fun k : Int × Int => decide (mass ≤ k.1 * 40))) (l := ks) fun i q => HNo.out i q (by have := HLen.out; omega))
      go_wp2
      go_ret
      exact ⟨ret_int HP.out.symm, hb⟩
theorem containsK_any (A : Option Addr) (n c : Nat) (ks : List (Int × Int)) (w : World) (h : CAt w A n ks) (hn : n ≤ 9223372036854775807) :
    Calls Tryz.prog 93 #[.slice A n c, .func (.func 94) #[] #[]] w fun e w' => e = .returned (.bool (decide (0 ≤ idx (fun k : Int × Int => decide (k.2 < 0)) ks))) ∧ Below w.heap.size w w' := by
  have HC := Lib.hid (ixK_any A n c ks w h hn)
  clear h
  generalize idx (fun k : Int × Int => decide (k.2 < 0)) ks = ix at *
  go_enter Tryz.func93, Tryz.ntmps93
  go_wp2_with (go_at_call 83; (with_reducible refine HC.out.mono ?_); rintro e w' ⟨rfl, hb'⟩)
  go_ret
  exact ⟨rfl, hb'⟩
end Go.Proofs.YtgojpgggbflgoaaGreat

namespace Go.Proofs.YtgojpgggbflgoaaGreat
open Go.RowKit

theorem masses_any (b off cap : Nat) (err : Int) (ks : List (Int × Int)) (w : World) (h : Kn w b off ks) (hp : 0 < ks.length) (hle : ks.length ≤ 40) (hx : ∀ i, i < ks.length → 0 ≤ kx ks i ∧ kx ks i ≤ 2000) :
    Calls Tryz.prog 92 #[.agg #[.slice (some ⟨b, off, none⟩) ks.length cap, .int .i64 err]] w fun e w' => e = .returned (vSp (kx ks 0 * 40) (kx ks (ks.length - 1) * 40)) ∧ Below w.heap.size w w' := by
  have hb0 := ((Below.refl w.heap.size w).alloc (Nat.le_refl _) (.cells #[.slice (some ⟨b, off, none⟩) ks.length cap, .int .i64 err] 129)).alloc (by simp) (.cells #[.int .i64 0, .int .i64 0] 43)
  have t0 := (Blk.new w 129 #[.slice (some ⟨b, off, none⟩) ks.length cap, .int .i64 err]).alloc (.cells #[.int .i64 0, .int .i64 0] 43)
  have r0 := Blk.at_new (W := w.alloc (.cells #[.slice (some ⟨b, off, none⟩) ks.length cap, .int .i64 err] 129)) (g := w.heap.size + 1) 43 #[.int .i64 0, .int .i64 0] (by simp)
  have HK := Lib.hid (h.below hb0)
  obtain ⟨n, hn⟩ : ∃ n, ks.length = n := ⟨_, rfl⟩
  rw [hn] at hp hle t0 r0 hb0 HK
  obtain ⟨k, rfl⟩ : ∃ k, n = k + 1 := ⟨n - 1, by omega⟩
  rw [hn, Nat.add_sub_cancel]
  obtain ⟨a, ha⟩ : ∃ a, kx ks 0 = a := ⟨_, rfl⟩
  obtain ⟨z, hz⟩ : ∃ z, kx ks k = z := ⟨_, rfl⟩
  have x0 := hx 0 (by omega)
  have x1 := hx k (by omega)
  rw [ha] at x0
  rw [hz] at x1
  rw [ha, hz]
  have HL := Lib.hid hn
  have Ha := Lib.hid ha
  have Hz := Lib.hid hz
  clear h hx hn ha hz
  go_enter Tryz.func92, Tryz.ntmps92
  go_upto_region 1 with fail
  generalize hW : (w.alloc (.cells #[.slice (some ⟨b, off, none⟩) (k + 1) cap, .int .i64 err] 129)).alloc (.cells #[.int .i64 0, .int .i64 0] 43) = W at *
  clear hW
  have HR := Lib.hid r0
  have HB := Lib.hid hb0
  obtain ⟨y0, y1, yl⟩ := cells2 t0
  clear t0 r0 hb0
  have c0 := HK.out.x 0 (by rw [HL.out]; exact hp)
  have c1 := HK.out.x k (by rw [HL.out]; omega)
  rw [Nat.zero_mul, Nat.add_zero, Ha.out] at c0
  rw [Hz.out] at c1
  have cl := HK.out.lt
  obtain ⟨xc, xf'⟩ := xcell (W := W)
  refine wp_region_quiet_tail 20 (by kernel_rfl) (by kernel_rfl) ?_
  simp only [List.take_succ_cons, List.take_zero, List.drop_succ_cons, List.drop_zero]
  repeat (first | go_big_quiet_step (fail) | quiet_step (fail))
  refine wpQuiet_nil ?_
  intro w2 hb2
  have HR2 := Lib.hid (HR.out.below hb2)
  have HB2 := Lib.hid (HB.out.trans (hb2.mono HB.out.size))
  clear xc xf' hb2 y0 y1 yl c0 c1 cl
  obtain ⟨r0, r1, rl⟩ := cells2 HR2.out
  have f0 := HR2.out.frozen 0
  have f1 := HR2.out.frozen 1
  go_wp2
  obtain ⟨z0, z1, _⟩ := cells2 (blk_set2 HR2.out (.int .i64 (a * 40)) (.int .i64 (z * 40)))
  exact bodyPost_ret (v := vSp (a * 40) (z * 40)) (by simp [results, Tryz.results92, go_sem, z0, z1]) rfl ⟨rfl, below_set2 HB2.out (by omega) _ _⟩
theorem or_any (A : Option Addr) (n c : Nat) (l : List Int) (w : World) (h : SAt encI 1 w A n l) (hn : n ≤ 1000) :
    Calls Tryz.prog 67 #[.slice A n c] w fun e w' => e = .returned (.int .i64 (firstE (fun i => l.getD i 0) n)) ∧ Below w.heap.size w w' := by
  have HA := Lib.hid h
  have HL := Lib.hid h.len
  obtain ⟨fe, hfe⟩ : ∃ fe, firstE (fun i => l.getD i 0) n = fe := ⟨_, rfl⟩
  have HF := Lib.hid hfe
  rw [hfe]
  clear h hfe
  go_enter Tryz.func67, Tryz.ntmps67
  go_upto_region 3 with fail
  go_loopw [5, 8] (fun _ i wx => ∃ k : Nat, k ≤ n ∧ i = .int .i64 (k : Int) ∧ (∀ i, i < k → l.getD i 0 = 0) ∧ Below w.heap.size w wx) (fun _ i _ => n - (intOf i).toNat)
  case atStart => exact ⟨0, Nat.zero_le _, rfl, fun i h => absurd h (by omega), Below.refl _ _⟩
  case round =>
    obtain ⟨k, hk, rfl, hno, hb⟩ := hrel
    have HNo := Lib.hid hno
    have HB := Lib.hid hb
    clear hno
    by_cases hkn : k < n
    case neg =>
      obtain rfl : k = n := by omega
      have HE := Lib.hid (show fe = 0 by rw [← HF.out]; exact firstE_all HNo.out)
      clear hb HF
      obtain rfl := HE.out
      go_wp2
      exact bodyPost_ret (v := .int .i64 0) (by simp [results, Tryz.results67, go_sem]) rfl ⟨rfl, HB.out⟩
    case pos =>
      have hkl : k < l.length := by rw [HL.out]; exact hkn
      obtain ⟨b, off, rfl, hls⟩ := HA.out.at_ (by omega)
      have c0 := (hls.below hb).c k _ (List.getElem?_eq_getElem hkl) 0 _ rfl
      rw [Nat.mul_one, Nat.add_zero] at c0
      have cl := (hls.below hb).lt
      have HD := Lib.hid (show l.getD k 0 = l[k] by simp [List.getD_eq_getElem?_getD, hkl])
      clear hls hb
      generalize l[k] = x at *
      by_cases hx : x = 0
      case neg =>
        have hxb : (x != 0) = true := by simpa using hx
        have HE := Lib.hid (show fe = x by rw [← HF.out, firstE_at hkn (by rw [HD.out]; exact hx) HNo.out, HD.out])
        clear hx HF
        obtain rfl := HE.out
        go_wp2
        exact bodyPost_ret (v := .int .i64 fe) (by simp [results, Tryz.results67, go_sem]) rfl ⟨rfl, HB.out⟩
      case pos =>
        subst hx
        have HNx := Lib.hid (show ∀ i, i < k + 1 → l.getD i 0 = 0 from fun i hi => by
          by_cases e : i = k
          · rw [e]; exact HD.out
          · exact HNo.out i (by omega))
        go_wp2
        go_roundw
        case rel => exact ⟨k + 1, by omega, by go_num, HNx.out, HB.out⟩
        case measure => simp [intOf]; omega
end Go.Proofs.YtgojpgggbflgoaaGreat

namespace Go.Proofs.YtgojpgggbflgoaaGreat
open Go.RowKit

/-- Some knot's value is negative. -/
def negK (ks : List (Int × Int)) : Bool := decide (0 ≤ idx (fun k : Int × Int => decide (k.2 < 0)) ks)
def tabB (light R : Int) (ks : List (Int × Int)) : Bool := decide (light < kx ks 0 * 40) || (decide (kx ks (ks.length - 1) * 40 < R) || negK ks)
def tabE (light R : Int) (ks : List (Int × Int)) : Int := if tabB light R ks = true then 1 else 0
set_option maxHeartbeats 1600000 in
theorem tabled_any (id light lever height : Int) (A : Option Addr) (n c : Nat) (B : Option Addr) (m d : Nat) (merr : Int) (C : Option Addr) (q r : Nat) (terr turn least : Int) (hs : List Hl) (b off cap : Nat) (err : Int) (ks : List (Int × Int)) (w : World) (h : SAt encL 4 w A n hs) (hr : ∀ x ∈ hs, 0 ≤ x.room ∧ x.room ≤ 65536) (hn : hs.length ≤ 8) (hl : 1 ≤ light ∧ light ≤ 65536) (hk : Kn w b off ks) (hv : Valid ks) :
    Calls Tryz.prog 68 #[.agg (cSp id light lever height A n c B m d merr C q r terr turn least), .agg #[.slice (some ⟨b, off, none⟩) ks.length cap, .int .i64 err]] w fun e w' => e = .returned (.int .i64 (tabE light (roomS light hs) ks)) ∧ Below w.heap.size w w' := by
  have hb0 := ((Below.refl w.heap.size w).alloc (Nat.le_refl _) (.cells (cSp id light lever height A n c B m d merr C q r terr turn least) 27)).alloc (by simp) (.cells #[.slice (some ⟨b, off, none⟩) ks.length cap, .int .i64 err] 25)
  have t0 := (Blk.new w 27 (cSp id light lever height A n c B m d merr C q r terr turn least)).alloc (.cells #[.slice (some ⟨b, off, none⟩) ks.length cap, .int .i64 err] 25)
  have c0 := Blk.at_new (W := w.alloc (.cells (cSp id light lever height A n c B m d merr C q r terr turn least) 27)) (g := w.heap.size + 1) 25 #[.slice (some ⟨b, off, none⟩) ks.length cap, .int .i64 err] (by simp)
  have HH := Lib.hid (h.below hb0)
  have HK := Lib.hid (hk.below hb0)
  have HMs := Lib.hid (fun (u : World) (hu : Kn u b off ks) => masses_any b off cap err ks u hu hv.pos hv.le hv.x0)
  have HRo := Lib.hid (fun (u : World) (hu : SAt encL 4 u A n hs) => rooms_any id light lever height A n c B m d merr C q r terr turn least hs u hu hr hn hl)
  have HNk := Lib.hid (fun (u : World) (hu : Kn u b off ks) => containsK_any (some ⟨b, off, none⟩) ks.length cap ks u ⟨rfl, fun _ => ⟨b, off, rfl, hu⟩⟩ (by have := hv.le; omega))
  have hx1 := hv.x0 0 hv.pos
  have hx2 := hv.x0 (ks.length - 1) (by have := hv.pos; omega)
  have HRb := Lib.hid (room_bd hr hn hs.length)
  rw [List.take_length] at HRb
  have HE := Lib.hid (show tabE light (roomS light hs) ks = if (decide (light < kx ks 0 * 40) || (decide (kx ks (ks.length - 1) * 40 < roomS light hs) || negK ks)) = true then 1 else 0 from rfl)
  have hrs : 0 ≤ roomS light hs ∧ roomS light hs ≤ 1000000 := by unfold roomS; have := HRb.out; omega
  have hlk : ks.length ≤ 40 := hv.le
  rw [show decide (0 ≤ idx (fun k : Int × Int => decide (k.2 < 0)) ks) = negK ks from rfl] at HNk
  generalize tabE light (roomS light hs) ks = te at *
  generalize roomS light hs = R at *
  generalize negK ks = nk at *
  generalize kx ks 0 = a at *
  generalize kx ks (ks.length - 1) = z at *
  clear h hr hn hk hv HRb
  go_enter Tryz.func68, Tryz.ntmps68
  go_upto_region 1 with fail
  generalize hW : (w.alloc (.cells (cSp id light lever height A n c B m d merr C q r terr turn least) 27)).alloc (.cells #[.slice (some ⟨b, off, none⟩) ks.length cap, .int .i64 err] 25) = W at *
  have HWs := Lib.hid (show W.heap.size = w.heap.size + 2 by rw [← hW]; simp)
  clear hW
  have HT := Lib.hid t0
  have HC := Lib.hid c0
  have HB := Lib.hid hb0
  obtain ⟨y0, y1, yl⟩ := cells2 c0
  clear t0 c0 hb0
  have HCm := Lib.hid (HMs.out W HK.out)
  go_upto_region 2 with (go_at_call 92; (with_reducible refine HCm.out.mono ?_); rintro e u1 ⟨rfl, hb1⟩)
  have bq := below_new u1 (.cells #[.int .i64 (a * 40), .int .i64 (z * 40)] 43)
  have bn := hb1.trans (bq.mono hb1.size)
  have HT1 := Lib.hid (HT.out.below bn)
  have HC1 := Lib.hid (HC.out.below bn)
  have HB1 := Lib.hid (HB.out.trans (bn.mono HB.out.size))
  have HH1 := Lib.hid (HH.out.below bn)
  have HK1 := Lib.hid (HK.out.below bn)
  have HS1 := Lib.hid (Blk.new u1 43 #[.int .i64 (a * 40), .int .i64 (z * 40)])
  generalize hV : u1.alloc (.cells #[.int .i64 (a * 40), .int .i64 (z * 40)] 43) = V at *
  generalize hg : u1.heap.size = g at *
  clear hV hg bq bn hb1 y0 y1 yl HCm HMs HT HC HH HK HB
  obtain ⟨y0, y1, yl⟩ := cells2 HC1.out
  obtain ⟨z0, z1, zl⟩ := cells2 HS1.out
  obtain ⟨tl, s0, s1, s2, s3, s4, s5, s6, s7, s8, s9, s10⟩ := blk11 HT1.out
  obtain ⟨xc, xf'⟩ := xcell (W := V)
  by_cases h1 : light < a * 40
  case pos =>
    have d1 : decide (light < a * 40) = true := decide_eq_true h1
    have hE : te = 1 := by rw [HE.out, d1]; rfl
    clear HE h1
    subst hE
    refine wp_region_quiet_tail 17 (by kernel_rfl) (by kernel_rfl) ?_
    simp only [List.take_succ_cons, List.take_zero, List.drop_succ_cons, List.drop_zero]
    repeat (first | go_big_quiet_step (fail) | quiet_step (fail))
    refine wpQuiet_nil ?_
    intro w2 hb2
    have HB2 := Lib.hid (HB1.out.trans (hb2.mono HB1.out.size))
    go_wp2
    exact bodyPost_ret (v := .int .i64 1) (by simp [results, Tryz.results68, go_sem]) rfl ⟨rfl, HB2.out⟩
  case neg =>
    have d1 : decide (light < a * 40) = false := decide_eq_false h1
    by_cases h2 : z * 40 < R
    case pos =>
      have d2 : decide (z * 40 < R) = true := decide_eq_true h2
      have hE : te = 1 := by rw [HE.out, d1, d2]; rfl
      clear HE h1 h2
      subst hE
      refine wp_region_quiet_tail 17 (by kernel_rfl) (by kernel_rfl) ?_
      simp only [List.take_succ_cons, List.take_zero, List.drop_succ_cons, List.drop_zero]
      repeat (first | go_big_quiet_step ((go_at_call 64; with_reducible refine calls_ext (HRo.out _ ?_); exact HH1.out.below (Ext.below _))) | quiet_step ((go_at_call 64; with_reducible refine calls_ext (HRo.out _ ?_); exact HH1.out.below (Ext.below _))))
      refine wpQuiet_nil ?_
      intro w2 hb2
      have HB2 := Lib.hid (HB1.out.trans (hb2.mono HB1.out.size))
      go_wp2
      exact bodyPost_ret (v := .int .i64 1) (by simp [results, Tryz.results68, go_sem]) rfl ⟨rfl, HB2.out⟩
    case neg =>
      have d2 : decide (z * 40 < R) = false := decide_eq_false h2
      have HE2 := Lib.hid (show te = if nk = true then 1 else 0 by rw [HE.out, d1, d2]; rfl)
      clear HE h1 h2
      cases nk with
      | true =>
        have hE : te = 1 := by rw [HE2.out]; rfl
        clear HE2
        subst hE
        refine wp_region_quiet_tail 17 (by kernel_rfl) (by kernel_rfl) ?_
        simp only [List.take_succ_cons, List.take_zero, List.drop_succ_cons, List.drop_zero]
        repeat (first | go_big_quiet_step (first | (go_at_call 64; with_reducible refine calls_ext (HRo.out _ ?_); exact HH1.out.below (Ext.below _)) | (go_at_call 93; with_reducible refine calls_ext (HNk.out _ ?_); exact HK1.out.below (Ext.below _))) | quiet_step (first | (go_at_call 64; with_reducible refine calls_ext (HRo.out _ ?_); exact HH1.out.below (Ext.below _)) | (go_at_call 93; with_reducible refine calls_ext (HNk.out _ ?_); exact HK1.out.below (Ext.below _))))
        refine wpQuiet_nil ?_
        intro w2 hb2
        have HB2 := Lib.hid (HB1.out.trans (hb2.mono HB1.out.size))
        go_wp2
        exact bodyPost_ret (v := .int .i64 1) (by simp [results, Tryz.results68, go_sem]) rfl ⟨rfl, HB2.out⟩
      | false =>
        have hE : te = 0 := by rw [HE2.out]; rfl
        clear HE2
        subst hE
        refine wp_region_quiet_tail 17 (by kernel_rfl) (by kernel_rfl) ?_
        simp only [List.take_succ_cons, List.take_zero, List.drop_succ_cons, List.drop_zero]
        repeat (first | go_big_quiet_step (first | (go_at_call 64; with_reducible refine calls_ext (HRo.out _ ?_); exact HH1.out.below (Ext.below _)) | (go_at_call 93; with_reducible refine calls_ext (HNk.out _ ?_); exact HK1.out.below (Ext.below _))) | quiet_step (first | (go_at_call 64; with_reducible refine calls_ext (HRo.out _ ?_); exact HH1.out.below (Ext.below _)) | (go_at_call 93; with_reducible refine calls_ext (HNk.out _ ?_); exact HK1.out.below (Ext.below _))))
        refine wpQuiet_nil ?_
        intro w2 hb2
        have HB2 := Lib.hid (HB1.out.trans (hb2.mono HB1.out.size))
        go_wp2
        exact bodyPost_ret (v := .int .i64 0) (by simp [results, Tryz.results68, go_sem]) rfl ⟨rfl, HB2.out⟩
end Go.Proofs.YtgojpgggbflgoaaGreat

namespace Go.Proofs.YtgojpgggbflgoaaGreat
open Go.RowKit

def hlB (x : Hl) : Bool := inB x.id 1 1099511627776 && (inB x.room 0 65536 && (inB x.lever (-20000) 20000 && inB x.height 0 5000))
def hlF (hs : List Hl) (i : Nat) : Int := if hlB (hs.getD i default) = false then 1 else if 0 ≤ idx (fun x => x.id == (hs.getD i default).id) (hs.take i) then 6 else 0
theorem hlF_of {hs : List Hl} {i : Nat} (h : i < hs.length) : hlF hs i = if hlB hs[i] = false then 1 else if 0 ≤ idx (fun x => x.id == (hs[i]).id) (hs.take i) then 6 else 0 := by
  have e : hs.getD i default = hs[i] := by simp [List.getD_eq_getElem?_getD, h]
  unfold hlF
  rw [e]
def headB (id light lever height turn least : Int) : Bool := inB id 1 1099511627776 && (inB light 1 65536 && ((inB lever (-20000) 20000 && inB height 0 5000) && (inB turn 1 1048576 && inB least 0 5000)))
def shipE (id light lever height turn least : Int) (hs : List Hl) (mn : List (Int × Int)) (merr : Int) (mt : List (Int × Int)) (terr : Int) : Int :=
  if headB id light lever height turn least = false then 1 else if 8 < hs.length then 2 else if firstE (hlF hs) hs.length ≠ 0 then firstE (hlF hs) hs.length else if 65536 < roomS light hs then 1
  else if check mn merr ≠ 0 then check mn merr else if check mt terr ≠ 0 then check mt terr else if rsV mn merr ≠ 1 then 1
  else if tabE light (roomS light hs) mn ≠ 0 then tabE light (roomS light hs) mn else tabE light (roomS light hs) mt
theorem SAt_blk {α : Type} {enc : α → List Value} {k : Nat} (hk : ∀ x, (enc x).length = k) {w : World} {g : Nat} {t : TypeId} {zs : List α} (h : Blk w g t (zs.flatMap enc).toArray) : SAt enc k w (some ⟨g, 0, none⟩) zs.length zs := by
  refine ⟨rfl, fun _ => ⟨g, 0, rfl, h.lt, fun i x hi j v hv => ?_⟩⟩
  have hil : i < zs.length := (List.getElem?_eq_some_iff.1 hi).1
  have hjl : j < k := by have := (List.getElem?_eq_some_iff.1 hv).1; rw [hk] at this; exact this
  have hf := flat_at k enc hk zs i j x hil hjl
  have hg : zs.getD i x = x := by rw [List.getD_eq_getElem?_getD, hi]; rfl
  rw [hg] at hf
  have := h.cell (i * k + j)
  rw [List.getElem?_toArray, hf, hv] at this
  rw [Nat.zero_add]
  exact this
theorem or_two (a b : Int) : firstE (fun i => [a, b].getD i 0) 2 = if a ≠ 0 then a else b := by
  by_cases h : a = 0
  · rw [if_neg (by simpa using h)]
    by_cases hb : b = 0
    · rw [hb]
      exact firstE_all fun i hi => by
        match i, hi with
        | 0, _ => exact h
        | 1, _ => rfl
    · rw [firstE_at (k := 1) (by omega) hb fun i hi => by
        obtain rfl : i = 0 := by omega
        exact h]
      rfl
  · rw [if_pos h, firstE_at (k := 0) (by omega) h fun i hi => absurd hi (by omega)]
    rfl
theorem hlF_room {hs : List Hl} (h : ∀ i, i < hs.length → hlF hs i = 0) : ∀ x ∈ hs, 0 ≤ x.room ∧ x.room ≤ 65536 := by
  intro x hx
  obtain ⟨i, hi, rfl⟩ := List.getElem_of_mem hx
  have e := h i hi
  rw [hlF_of hi] at e
  cases hb : hlB hs[i] with
  | false => rw [hb, if_pos rfl] at e; cases e
  | true =>
    unfold hlB inB at hb
    simp only [Bool.and_eq_true, decide_eq_true_eq] at hb
    exact hb.2.1
set_option maxRecDepth 100000 in
set_option maxHeartbeats 12800000 in
theorem HCheck_any (id light lever height : Int) (A : Option Addr) (n c : Nat) (B : Option Addr) (m d : Nat) (merr : Int) (C : Option Addr) (q r : Nat) (terr turn least : Int) (hs : List Hl) (mn mt : List (Int × Int)) (w : World) (hA : SAt encL 4 w A n hs) (hB : CAt w B m mn) (hC : CAt w C q mt) (hn : n ≤ 9223372036854775807) (hm : m ≤ 9223372036854775807) (hq : q ≤ 9223372036854775807) (hc : n ≤ c) :
    Calls Tryz.prog 34 #[.agg (cSp id light lever height A n c B m d merr C q r terr turn least)] w fun e w' => e = .returned (.int .i64 (shipE id light lever height turn least hs mn merr mt terr)) ∧ Below w.heap.size w w' := by
  have hb0 := below_new w (.cells (cSp id light lever height A n c B m d merr C q r terr turn least) 27)
  have t0 := Blk.new w 27 (cSp id light lever height A n c B m d merr C q r terr turn least)
  have HA := Lib.hid (hA.below hb0)
  have HMn := Lib.hid (hB.below hb0)
  have HMt := Lib.hid (hC.below hb0)
  have HL := Lib.hid hA.len
  obtain ⟨E, hE⟩ : ∃ E, shipE id light lever height turn least hs mn merr mt terr = E := ⟨_, rfl⟩
  have HE := Lib.hid (show E = if headB id light lever height turn least = false then 1 else if 8 < n then 2 else if firstE (hlF hs) n ≠ 0 then firstE (hlF hs) n else if 65536 < roomS light hs then 1
      else if check mn merr ≠ 0 then check mn merr else if check mt terr ≠ 0 then check mt terr else if rsV mn merr ≠ 1 then 1
      else if tabE light (roomS light hs) mn ≠ 0 then tabE light (roomS light hs) mn else tabE light (roomS light hs) mt by rw [← hE]; unfold shipE; rw [hA.len])
  rw [hE]
  clear hA hB hC hE
  have H1 := Lib.hid (fun u => hwithin_any id 1 1099511627776 u)
  have H2 := Lib.hid (fun u => hwithin_any light 1 65536 u)
  have H3 := Lib.hid (fun u => placed_any lever height u)
  have H4 := Lib.hid (fun u => hwithin_any turn 1 1048576 u)
  have H5 := Lib.hid (fun u => hwithin_any least 0 5000 u)
  have HHd := Lib.hid (show headB id light lever height turn least = (inB id 1 1099511627776 && (inB light 1 65536 && ((inB lever (-20000) 20000 && inB height 0 5000) && (inB turn 1 1048576 && inB least 0 5000)))) from rfl)
  have HLi := Lib.hid (fun e : inB light 1 65536 = true => of_decide_eq_true e)
  generalize inB id 1 1099511627776 = b1 at *
  generalize inB light 1 65536 = b2 at *
  generalize (inB lever (-20000) 20000 && inB height 0 5000) = b3 at *
  generalize inB turn 1 1048576 = b4 at *
  generalize inB least 0 5000 = b5 at *
  generalize headB id light lever height turn least = hb at *
  go_enter Tryz.func34, Tryz.ntmps34
  go_upto_region 1 with fail
  generalize hW : w.alloc (.cells (cSp id light lever height A n c B m d merr C q r terr turn least) 27) = W at *
  clear hW
  have HT := Lib.hid t0
  have HB0 := Lib.hid hb0
  obtain ⟨tl, s0, s1, s2, s3, s4, s5, s6, s7, s8, s9, s10⟩ := blk11 t0
  clear hb0 t0
  cases b1 with
  | false =>
    have hE : E = 1 := by rw [HE.out, if_pos (by rw [HHd.out]; simp)]
    clear HE
    subst hE
    go_wp2_with (first | (go_at_call 35; (with_reducible refine (H1.out _).mono ?_); rintro e u1 ⟨rfl, rfl⟩))
    exact bodyPost_ret (v := .int .i64 1) (by simp [results, Tryz.results34, go_sem]) rfl ⟨rfl, HB0.out⟩
  | true =>
  cases b2 with
  | false =>
    have hE : E = 1 := by rw [HE.out, if_pos (by rw [HHd.out]; simp)]
    clear HE
    subst hE
    go_wp2_with (first | (go_at_call 35; (with_reducible refine (H1.out _).mono ?_); rintro e u1 ⟨rfl, rfl⟩) | (go_at_call 35; (with_reducible refine (H2.out _).mono ?_); rintro e u1 ⟨rfl, rfl⟩))
    exact bodyPost_ret (v := .int .i64 1) (by simp [results, Tryz.results34, go_sem]) rfl ⟨rfl, HB0.out⟩
  | true =>
  cases b3 with
  | false =>
    have hE : E = 1 := by rw [HE.out, if_pos (by rw [HHd.out]; simp)]
    clear HE
    subst hE
    go_wp2_with (first | (go_at_call 35; (with_reducible refine (H1.out _).mono ?_); rintro e u1 ⟨rfl, rfl⟩) | (go_at_call 35; (with_reducible refine (H2.out _).mono ?_); rintro e u1 ⟨rfl, rfl⟩) | (go_at_call 61; (with_reducible refine (H3.out _).mono ?_); rintro e u1 ⟨rfl, rfl⟩))
    exact bodyPost_ret (v := .int .i64 1) (by simp [results, Tryz.results34, go_sem]) rfl ⟨rfl, HB0.out⟩
  | true =>
  cases b4 with
  | false =>
    have hE : E = 1 := by rw [HE.out, if_pos (by rw [HHd.out]; simp)]
    clear HE
    subst hE
    go_wp2_with (first | (go_at_call 35; (with_reducible refine (H1.out _).mono ?_); rintro e u1 ⟨rfl, rfl⟩) | (go_at_call 35; (with_reducible refine (H2.out _).mono ?_); rintro e u1 ⟨rfl, rfl⟩) | (go_at_call 61; (with_reducible refine (H3.out _).mono ?_); rintro e u1 ⟨rfl, rfl⟩) | (go_at_call 35; (with_reducible refine (H4.out _).mono ?_); rintro e u1 ⟨rfl, rfl⟩))
    exact bodyPost_ret (v := .int .i64 1) (by simp [results, Tryz.results34, go_sem]) rfl ⟨rfl, HB0.out⟩
  | true =>
  cases b5 with
  | false =>
    have hE : E = 1 := by rw [HE.out, if_pos (by rw [HHd.out]; simp)]
    clear HE
    subst hE
    go_wp2_with (first | (go_at_call 35; (with_reducible refine (H1.out _).mono ?_); rintro e u1 ⟨rfl, rfl⟩) | (go_at_call 35; (with_reducible refine (H2.out _).mono ?_); rintro e u1 ⟨rfl, rfl⟩) | (go_at_call 61; (with_reducible refine (H3.out _).mono ?_); rintro e u1 ⟨rfl, rfl⟩) | (go_at_call 35; (with_reducible refine (H4.out _).mono ?_); rintro e u1 ⟨rfl, rfl⟩) | (go_at_call 35; (with_reducible refine (H5.out _).mono ?_); rintro e u1 ⟨rfl, rfl⟩))
    exact bodyPost_ret (v := .int .i64 1) (by simp [results, Tryz.results34, go_sem]) rfl ⟨rfl, HB0.out⟩
  | true =>
  have hlr := HLi.out rfl
  have HE2 := Lib.hid (show E = if 8 < n then 2 else if firstE (hlF hs) n ≠ 0 then firstE (hlF hs) n else if 65536 < roomS light hs then 1
      else if check mn merr ≠ 0 then check mn merr else if check mt terr ≠ 0 then check mt terr else if rsV mn merr ≠ 1 then 1
      else if tabE light (roomS light hs) mn ≠ 0 then tabE light (roomS light hs) mn else tabE light (roomS light hs) mt by rw [HE.out, if_neg (by rw [HHd.out]; simp)])
  clear HE HHd HLi
  go_upto_region 3 with (first | (go_at_call 35; (with_reducible refine (H1.out _).mono ?_); rintro e u1 ⟨rfl, rfl⟩) | (go_at_call 35; (with_reducible refine (H2.out _).mono ?_); rintro e u1 ⟨rfl, rfl⟩) | (go_at_call 61; (with_reducible refine (H3.out _).mono ?_); rintro e u1 ⟨rfl, rfl⟩) | (go_at_call 35; (with_reducible refine (H4.out _).mono ?_); rintro e u1 ⟨rfl, rfl⟩) | (go_at_call 35; (with_reducible refine (H5.out _).mono ?_); rintro e u1 ⟨rfl, rfl⟩))
  by_cases h8 : 8 < n
  case pos =>
    have hE : E = 2 := by rw [HE2.out, if_pos h8]
    clear HE2
    subst hE
    go_wp2
    exact bodyPost_ret (v := .int .i64 2) (by simp [results, Tryz.results34, go_sem]) rfl ⟨rfl, HB0.out⟩
  case neg =>
  have HE3 := Lib.hid (show E = if firstE (hlF hs) n ≠ 0 then firstE (hlF hs) n else if 65536 < roomS light hs then 1
      else if check mn merr ≠ 0 then check mn merr else if check mt terr ≠ 0 then check mt terr else if rsV mn merr ≠ 1 then 1
      else if tabE light (roomS light hs) mn ≠ 0 then tabE light (roomS light hs) mn else tabE light (roomS light hs) mt by rw [HE2.out, if_neg h8])
  clear HE2 H1 H2 H3 H4 H5
  go_upto_region 6 with fail
  clear tl s0 s1 s2 s3 s4 s5 s6 s7 s8 s9 s10
  go_loopw [3, 4, 47] (fun _ _ i wx => ∃ k : Nat, k ≤ n ∧ i = .int .i64 (k : Int) ∧ (∀ i, i < k → hlF hs i = 0) ∧ Below W.heap.size W wx) (fun _ _ i _ => n - (intOf i).toNat)
  case atStart => exact ⟨0, Nat.zero_le _, rfl, fun i h => absurd h (by omega), Below.refl _ _⟩
  case round =>
    obtain ⟨k, hk, rfl, hno, hb⟩ := hrel
    have HNo := Lib.hid hno
    have HB := Lib.hid hb
    clear hno hb
    obtain ⟨tl, s0, s1, s2, s3, s4, s5, s6, s7, s8, s9, s10⟩ := blk11 (HT.out.below HB.out)
    by_cases hkn : k < n
    case pos =>
      have hkl : k < hs.length := by rw [HL.out]; exact hkn
      obtain ⟨b, off, rfl, hl⟩ := HA.out.at_ (by omega)
      obtain ⟨c0, c1, c2, c3⟩ := Hls.at_ (hl.below HB.out) (List.getElem?_eq_getElem hkl)
      have cl := (hl.below HB.out).lt
      have HF := Lib.hid (hlF_of hkl)
      clear hl
      generalize hs[k] = x at *
      obtain ⟨xi, xr, xl, xh⟩ := x
      dsimp only at *
      have HF2 := Lib.hid (show hlF hs k = if (inB xi 1 1099511627776 && (inB xr 0 65536 && (inB xl (-20000) 20000 && inB xh 0 5000))) = false then 1 else if 0 ≤ idx (fun x => x.id == xi) (hs.take k) then 6 else 0 from HF.out)
      clear HF
      have H1 := Lib.hid (fun u => hwithin_any xi 1 1099511627776 u)
      have H2 := Lib.hid (fun u => hwithin_any xr 0 65536 u)
      have H3 := Lib.hid (fun u => placed_any xl xh u)
      have H4 := Lib.hid (fun (u : World) (B' : Nat) (hu : SAt encL 4 u (some ⟨b, off, none⟩) n hs) (hB' : B' < u.heap.size) (hc' : u.cell? ⟨B', 0, none⟩ = some (.int .i64 xi)) => containsL_any (some ⟨b, off, none⟩) k c (hs.take k) xi B' u (hu.take hk) (by omega) hB' hc')
      have HER := Lib.hid (fun (v : Int) (e : hlF hs k = v) (hv : v ≠ 0) => show E = v by rw [HE3.out, if_pos (by rw [firstE_at hkn (by rw [e]; exact hv) HNo.out, e]; exact hv), firstE_at hkn (by rw [e]; exact hv) HNo.out, e])
      generalize inB xi 1 1099511627776 = b1 at *
      generalize inB xr 0 65536 = b2 at *
      generalize (inB xl (-20000) 20000 && inB xh 0 5000) = b3 at *
      generalize idx (fun x : Hl => x.id == xi) (hs.take k) = ix at *
      cases b1 with
      | false =>
        obtain rfl := HER.out 1 (by rw [HF2.out, if_pos (by simp)]) (by decide)
        clear HE3 HF2 HER
        go_wp2_with (first | (go_at_call 35; (with_reducible refine (H1.out _).mono ?_); rintro e u1 ⟨rfl, rfl⟩))
        exact bodyPost_ret (v := .int .i64 1) (by simp [results, Tryz.results34, go_sem]) rfl ⟨rfl, HB0.out.trans ((HB.out.alloc HB.out.size _).mono HB0.out.size)⟩
      | true =>
      cases b2 with
      | false =>
        obtain rfl := HER.out 1 (by rw [HF2.out, if_pos (by simp)]) (by decide)
        clear HE3 HF2 HER
        go_wp2_with (first | (go_at_call 35; (with_reducible refine (H1.out _).mono ?_); rintro e u1 ⟨rfl, rfl⟩) | (go_at_call 35; (with_reducible refine (H2.out _).mono ?_); rintro e u1 ⟨rfl, rfl⟩))
        exact bodyPost_ret (v := .int .i64 1) (by simp [results, Tryz.results34, go_sem]) rfl ⟨rfl, HB0.out.trans ((HB.out.alloc HB.out.size _).mono HB0.out.size)⟩
      | true =>
      cases b3 with
      | false =>
        obtain rfl := HER.out 1 (by rw [HF2.out, if_pos (by simp)]) (by decide)
        clear HE3 HF2 HER
        go_wp2_with (first | (go_at_call 35; (with_reducible refine (H1.out _).mono ?_); rintro e u1 ⟨rfl, rfl⟩) | (go_at_call 35; (with_reducible refine (H2.out _).mono ?_); rintro e u1 ⟨rfl, rfl⟩) | (go_at_call 61; (with_reducible refine (H3.out _).mono ?_); rintro e u1 ⟨rfl, rfl⟩))
        exact bodyPost_ret (v := .int .i64 1) (by simp [results, Tryz.results34, go_sem]) rfl ⟨rfl, HB0.out.trans ((HB.out.alloc HB.out.size _).mono HB0.out.size)⟩
      | true =>
      have HF3 := Lib.hid (show hlF hs k = if 0 ≤ ix then 6 else 0 by rw [HF2.out, if_neg (by simp)])
      have b5 := below_new wr (.cells #[.int .i64 xi, .int .i64 xr, .int .i64 xl, .int .i64 xh] 82)
      have HN5 := Lib.hid (Blk.new wr 82 #[.int .i64 xi, .int .i64 xr, .int .i64 xl, .int .i64 xh])
      have HB5 := Lib.hid (HB.out.trans (b5.mono HB.out.size))
      clear b5 HF2
      go_upto_region 10 with (first | (go_at_call 35; (with_reducible refine (H1.out _).mono ?_); rintro e u1 ⟨rfl, rfl⟩) | (go_at_call 35; (with_reducible refine (H2.out _).mono ?_); rintro e u1 ⟨rfl, rfl⟩) | (go_at_call 61; (with_reducible refine (H3.out _).mono ?_); rintro e u1 ⟨rfl, rfl⟩))
      generalize hV : wr.alloc (.cells #[.int .i64 xi, .int .i64 xr, .int .i64 xl, .int .i64 xh] 82) = V at *
      generalize wr.heap.size = g at *
      clear hV tl s0 s1 s2 s3 s4 s5 s6 s7 s8 s9 s10 c0 c1 c2 c3 cl H1 H2 H3
      obtain ⟨tl, s0, s1, s2, s3, s4, s5, s6, s7, s8, s9, s10⟩ := blk11 (HT.out.below HB5.out)
      have z0 := HN5.out.cell 0
      simp only [List.getElem?_toArray, List.getElem?_cons_zero] at z0
      have zl := HN5.out.lt
      have hkc : k ≤ c := by omega
      have HC := Lib.hid (H4.out V g (HA.out.below HB5.out) zl z0)
      by_cases hix : 0 ≤ ix
      case pos =>
        have hd : decide (0 ≤ ix) = true := decide_eq_true hix
        obtain rfl := HER.out 6 (by rw [HF3.out, if_pos hix]) (by decide)
        rw [hd] at HC
        clear HE3 HF3 HER hix hd
        go_wp2_with (go_at_call 62; (with_reducible refine HC.out.mono ?_); rintro e u2 ⟨rfl, hb2⟩)
        exact bodyPost_ret (v := .int .i64 6) (by simp [results, Tryz.results34, go_sem]) rfl ⟨rfl, HB0.out.trans ((HB5.out.trans (hb2.mono HB5.out.size)).mono HB0.out.size)⟩
      case neg =>
        have hd : decide (0 ≤ ix) = false := decide_eq_false hix
        have HNx := Lib.hid (show ∀ i, i < k + 1 → hlF hs i = 0 from fun i hi => by
          by_cases e : i = k
          · rw [e, HF3.out, if_neg hix]
          · exact HNo.out i (by omega))
        rw [hd] at HC
        clear hix hd
        go_wp2_with (go_at_call 62; (with_reducible refine HC.out.mono ?_); rintro e u2 ⟨rfl, hb2⟩)
        have HB7 := Lib.hid (HB5.out.trans (hb2.mono HB5.out.size))
        clear hb2
        go_wp2
        go_roundw
        case rel => exact ⟨k + 1, by omega, by go_num, HNx.out, HB7.out⟩
        case measure => simp [intOf]; omega
    case neg =>
      obtain rfl : k = n := by omega
      have HRm := Lib.hid (hlF_room (hs := hs) (fun i hi => HNo.out i (by rw [← HL.out]; exact hi)))
      have HE4 := Lib.hid (show E = if 65536 < roomS light hs then 1
          else if check mn merr ≠ 0 then check mn merr else if check mt terr ≠ 0 then check mt terr else if rsV mn merr ≠ 1 then 1
          else if tabE light (roomS light hs) mn ≠ 0 then tabE light (roomS light hs) mn else tabE light (roomS light hs) mt by rw [HE3.out, firstE_all HNo.out, if_neg (by decide)])
      clear HE3 HNo
      have hln : hs.length ≤ 8 := by rw [HL.out]; omega
      have HC := Lib.hid (rooms_any id light lever height A k c B m d merr C q r terr turn least hs wr (HA.out.below HB.out) HRm.out hln hlr)
      have HRR := Lib.hid (show roomS light hs = roomS light hs from rfl)
      by_cases hR6 : 65536 < roomS light hs
      case pos =>
        have hE : E = 1 := by rw [HE4.out, if_pos hR6]
        have hd : decide (65536 < roomS light hs) = true := decide_eq_true hR6
        clear HE4 hR6
        subst hE
        generalize roomS light hs = R at *
        go_wp2_with (go_at_call 64; (with_reducible refine HC.out.mono ?_); rintro e u1 ⟨rfl, hb1⟩)
        exact bodyPost_ret (v := .int .i64 1) (by simp [results, Tryz.results34, go_sem]) rfl ⟨rfl, HB0.out.trans ((HB.out.trans (hb1.mono HB.out.size)).mono HB0.out.size)⟩
      case neg =>
      have hd : decide (65536 < roomS light hs) = false := decide_eq_false hR6
      have HE5 := Lib.hid (show E = if check mn merr ≠ 0 then check mn merr else if check mt terr ≠ 0 then check mt terr else if rsV mn merr ≠ 1 then 1
          else if tabE light (roomS light hs) mn ≠ 0 then tabE light (roomS light hs) mn else tabE light (roomS light hs) mt by rw [HE4.out, if_neg hR6])
      clear HE4 hR6 HRR
      obtain ⟨R, hR⟩ : ∃ R, roomS light hs = R := ⟨_, rfl⟩
      have HR := Lib.hid hR
      rw [hR] at HE5 HC hd
      clear hR
      go_upto_region 16 with (go_at_call 64; (with_reducible refine HC.out.mono ?_); rintro e u1 ⟨rfl, hb1⟩; have HB1 := Lib.hid (HB.out.trans (hb1.mono HB.out.size)); obtain ⟨ul, v0, v1, v2, v3, v4, v5, v6, v7, v8, v9, v10⟩ := blk11 (HT.out.below HB1.out))
      have bq := below_new u1 (.cells #[.slice B m d, .int .i64 merr, .slice C q r, .int .i64 terr] 25)
      have HB2 := Lib.hid (HB1.out.trans (bq.mono HB1.out.size))
      have HN2 := Lib.hid (Blk.new u1 25 #[.slice B m d, .int .i64 merr, .slice C q r, .int .i64 terr])
      generalize hV : u1.alloc (.cells #[.slice B m d, .int .i64 merr, .slice C q r, .int .i64 terr] 25) = V at *
      generalize hg : u1.heap.size = g at *
      clear hV hg bq hb1 ul v0 v1 v2 v3 v4 v5 v6 v7 v8 v9 v10 tl s0 s1 s2 s3 s4 s5 s6 s7 s8 s9 s10 HC HB1 hd
      have HCm := Lib.hid (fun (u : World) (hu : Below W.heap.size W u) => Check_any B m d merr mn u (HMn.out.below hu) hm)
      have HCt := Lib.hid (fun (u : World) (hu : Below W.heap.size W u) => Check_any C q r terr mt u (HMt.out.below hu) hq)
      go_loopw [6, 7, 86] (fun _ _ i wx => ∃ j : Nat, j ≤ 2 ∧ i = .int .i64 (j : Int) ∧ (1 ≤ j → check mn merr = 0) ∧ (2 ≤ j → check mt terr = 0) ∧ Below V.heap.size V wx) (fun _ _ i _ => 2 - (intOf i).toNat)
      case atStart => exact ⟨0, by omega, rfl, fun h => absurd h (by omega), fun h => absurd h (by omega), Below.refl _ _⟩
      case round =>
        obtain ⟨j, hj, rfl, hc1, hc2, hb⟩ := hrel
        have HK1 := Lib.hid hc1
        have HK2 := Lib.hid hc2
        have HBv := Lib.hid hb
        have HBw := Lib.hid (HB2.out.trans (hb.mono HB2.out.size))
        clear hc1 hc2 hb
        have n0 := (HN2.out.below HBv.out).cell 0
        have n1 := (HN2.out.below HBv.out).cell 1
        have n2 := (HN2.out.below HBv.out).cell 2
        have n3 := (HN2.out.below HBv.out).cell 3
        simp only [List.getElem?_toArray, List.getElem?_cons_zero, List.getElem?_cons_succ] at n0 n1 n2 n3
        have nl := (HN2.out.below HBv.out).lt
        have hj3 : j = 0 ∨ j = 1 ∨ j = 2 := by omega
        rcases hj3 with rfl | rfl | rfl
        · have bz := below_new wr (.cells #[.slice B m d, .int .i64 merr] 25)
          have HBz := Lib.hid (HBw.out.trans (bz.mono HBw.out.size))
          have HC := Lib.hid (HCm.out _ HBz.out)
          clear bz
          by_cases hz : check mn merr = 0
          case neg =>
            have hE : E = check mn merr := by rw [HE5.out, if_pos hz]
            have hzb : (check mn merr != 0) = true := by simpa using hz
            clear HE5 hz
            rw [← hE] at hzb HC
            clear hE HCm HCt
            go_wp2_with (go_at_call 65; (with_reducible refine HC.out.mono ?_); rintro e u3 ⟨rfl, hb3⟩)
            exact bodyPost_ret (v := .int .i64 E) (by simp [results, Tryz.results34, go_sem]) rfl ⟨rfl, HB0.out.trans ((HBz.out.trans (hb3.mono HBz.out.size)).mono HB0.out.size)⟩
          case pos =>
            have HZ := Lib.hid hz
            rw [hz] at HC
            clear hz
            go_wp2_with (go_at_call 65; (with_reducible refine HC.out.mono ?_); rintro e u3 ⟨rfl, hb3⟩)
            have HBy := Lib.hid (HBv.out.trans (((below_new wr (.cells #[.slice B m d, .int .i64 merr] 25)).trans (hb3.mono (by simp))).mono HBv.out.size))
            clear hb3
            go_wp2
            go_roundw
            case rel => exact ⟨1, by omega, by go_num, fun _ => HZ.out, fun h => absurd h (by omega), HBy.out⟩
            case measure => simp [intOf]
        · have bz := below_new wr (.cells #[.slice C q r, .int .i64 terr] 25)
          have HBz := Lib.hid (HBw.out.trans (bz.mono HBw.out.size))
          have HC := Lib.hid (HCt.out _ HBz.out)
          clear bz
          by_cases hz : check mt terr = 0
          case neg =>
            have hE : E = check mt terr := by rw [HE5.out, if_neg (by rw [HK1.out (by omega)]; decide), if_pos hz]
            have hzb : (check mt terr != 0) = true := by simpa using hz
            clear HE5 hz
            rw [← hE] at hzb HC
            clear hE HCm HCt
            go_wp2_with (go_at_call 65; (with_reducible refine HC.out.mono ?_); rintro e u3 ⟨rfl, hb3⟩)
            exact bodyPost_ret (v := .int .i64 E) (by simp [results, Tryz.results34, go_sem]) rfl ⟨rfl, HB0.out.trans ((HBz.out.trans (hb3.mono HBz.out.size)).mono HB0.out.size)⟩
          case pos =>
            have HZ := Lib.hid hz
            rw [hz] at HC
            clear hz
            go_wp2_with (go_at_call 65; (with_reducible refine HC.out.mono ?_); rintro e u3 ⟨rfl, hb3⟩)
            have HBy := Lib.hid (HBv.out.trans (((below_new wr (.cells #[.slice C q r, .int .i64 terr] 25)).trans (hb3.mono (by simp))).mono HBv.out.size))
            clear hb3
            go_wp2
            go_roundw
            case rel => exact ⟨2, by omega, by go_num, fun _ => HK1.out (by omega), fun _ => HZ.out, HBy.out⟩
            case measure => simp [intOf]
        · have HZ1 := Lib.hid (HK1.out (by omega))
          have HZ2 := Lib.hid (HK2.out (by omega))
          have HE6 := Lib.hid (show E = if rsV mn merr ≠ 1 then 1 else if tabE light R mn ≠ 0 then tabE light R mn else tabE light R mt by rw [HE5.out, if_neg (by rw [HZ1.out]; decide), if_neg (by rw [HZ2.out]; decide)])
          have HC := Lib.hid (Rising_any B m d merr mn wr (HMn.out.below HBw.out) hm)
          rw [HZ1.out] at HC
          clear HE5 HK1 HK2 HCm HCt n0 n1 n2 n3 nl
          obtain ⟨tl, s0, s1, s2, s3, s4, s5, s6, s7, s8, s9, s10⟩ := blk11 (HT.out.below HBw.out)
          obtain ⟨rs, hrs⟩ : ∃ rs, rsV mn merr = rs := ⟨_, rfl⟩
          rw [hrs] at HC HE6
          clear hrs
          go_upto_region 23 with (go_at_call 66; (with_reducible refine HC.out.mono ?_); rintro e u4 ⟨rfl, hb4⟩)
          have HB4 := Lib.hid (HBw.out.trans (hb4.mono HBw.out.size))
          clear hb4 tl s0 s1 s2 s3 s4 s5 s6 s7 s8 s9 s10 HC
          by_cases hr1 : rs = 1
          case neg =>
            have hrb : (rs != 1) = true := by simpa using hr1
            have hE : E = 1 := by rw [HE6.out, if_pos hr1]
            clear HE6 hr1
            subst hE
            go_wp2
            exact bodyPost_ret (v := .int .i64 1) (by simp [results, Tryz.results34, go_sem]) rfl ⟨rfl, HB0.out.trans (HB4.out.mono HB0.out.size)⟩
          case pos =>
            subst hr1
            have HV1 := Lib.hid (check_zero HZ1.out).1
            have HV2 := Lib.hid (check_zero HZ2.out).1
            have HE7 := Lib.hid (show E = if tabE light R mn ≠ 0 then tabE light R mn else tabE light R mt by rw [HE6.out, if_neg (by decide)])
            have hlm : mn.length = m := HMn.out.len
            have hlq : mt.length = q := HMt.out.len
            obtain ⟨bB, oB, eB, hkB⟩ := HMn.out.at_ (by have := HV1.out.pos; omega)
            obtain ⟨bC, oC, eC, hkC⟩ := HMt.out.at_ (by have := HV2.out.pos; omega)
            have HKb := Lib.hid hkB
            have HKc := Lib.hid hkC
            subst eB eC hlm hlq
            have HT1 := Lib.hid (fun (u : World) (hu : Below W.heap.size W u) => tabled_any id light lever height A k c (some ⟨bB, oB, none⟩) mn.length d merr (some ⟨bC, oC, none⟩) mt.length r terr turn least hs bB oB d merr mn u (HA.out.below hu) HRm.out hln hlr (HKb.out.below hu) HV1.out)
            have HT2 := Lib.hid (fun (u : World) (hu : Below W.heap.size W u) => tabled_any id light lever height A k c (some ⟨bB, oB, none⟩) mn.length d merr (some ⟨bC, oC, none⟩) mt.length r terr turn least hs bC oC r terr mt u (HA.out.below hu) HRm.out hln hlr (HKc.out.below hu) HV2.out)
            rw [HR.out] at HT1 HT2
            clear HE6 hkB hkC HZ1 HZ2
            generalize tabE light R mn = e1 at *
            generalize tabE light R mt = e2 at *
            generalize mn.length = m at *
            generalize mt.length = q at *
            go_upto_region 25 with fail
            obtain ⟨tl, s0, s1, s2, s3, s4, s5, s6, s7, s8, s9, s10⟩ := blk11 (HT.out.below HB4.out)
            obtain ⟨xc, xf'⟩ := xcell (W := u4)
            refine wp_region_quiet_tail 8 (by kernel_rfl) (by kernel_rfl) ?_
            simp only [List.take_succ_cons, List.take_zero, List.drop_succ_cons, List.drop_zero]
            repeat (first | go_big_quiet_step (first | (go_at_call 68; with_reducible refine calls_ext (HT1.out _ ?_); exact HB4.out.trans ((Ext.below _).mono HB4.out.size)) | (go_at_call 68; with_reducible refine calls_ext (HT2.out _ ?_); exact HB4.out.trans ((Ext.below _).mono HB4.out.size))) | quiet_step (first | (go_at_call 68; with_reducible refine calls_ext (HT1.out _ ?_); exact HB4.out.trans ((Ext.below _).mono HB4.out.size)) | (go_at_call 68; with_reducible refine calls_ext (HT2.out _ ?_); exact HB4.out.trans ((Ext.below _).mono HB4.out.size))))
            refine wpQuiet_nil ?_
            intro w5 hb5
            have bq := below_new w5 (.cells #[.int .i64 e1, .int .i64 e2] 35)
            have HB5 := Lib.hid (HB4.out.trans ((hb5.trans (bq.mono hb5.size)).mono HB4.out.size))
            have HO := Lib.hid (or_any (some ⟨w5.heap.size, 0, none⟩) 2 2 [e1, e2] (w5.alloc (.cells #[.int .i64 e1, .int .i64 e2] 35)) (SAt_blk (enc := encI) (k := 1) (fun _ => rfl) (zs := [e1, e2]) (Blk.new w5 35 #[.int .i64 e1, .int .i64 e2])) (by omega))
            rw [or_two] at HO
            have hE : (if e1 ≠ 0 then e1 else e2) = E := HE7.out.symm
            rw [hE] at HO
            clear hE HE7 xc xf' hb5 bq tl s0 s1 s2 s3 s4 s5 s6 s7 s8 s9 s10 HT1 HT2
            go_wp2_with (go_at_call 67; (with_reducible refine HO.out.mono ?_); rintro e u6 ⟨rfl, hb6⟩)
            exact bodyPost_ret (v := .int .i64 E) (by simp [results, Tryz.results34, go_sem]) rfl ⟨rfl, HB0.out.trans ((HB5.out.trans (hb6.mono HB5.out.size)).mono HB0.out.size)⟩
end Go.Proofs.YtgojpgggbflgoaaGreat

namespace Go.Proofs.YtgojpgggbflgoaaGreat
open Go.RowKit

def ldF (hs : List Hl) (xs : List Int) (i : Nat) : Int := if inB (xs.getD i 0) 0 (hs.getD i default).room = false then 1 else 0
/-- The error of a loading. -/
def ldE (hs : List Hl) (xs : List Int) : Int := if xs.length ≠ hs.length then 1 else firstE (ldF hs xs) xs.length
def loadE (E : Int) (hs : List Hl) (xs : List Int) : Int := if E ≠ 0 then E else ldE hs xs
theorem ldF_of {hs : List Hl} {xs : List Int} {i : Nat} (h : i < hs.length) (hx : i < xs.length) : ldF hs xs i = if inB xs[i] 0 (hs[i]).room = false then 1 else 0 := by
  have e : hs.getD i default = hs[i] := by simp [List.getD_eq_getElem?_getD, h]
  have e2 : xs.getD i 0 = xs[i] := by simp [List.getD_eq_getElem?_getD, hx]
  unfold ldF
  rw [e, e2]
set_option maxRecDepth 100000 in
set_option maxHeartbeats 6400000 in
theorem loaded_any (id light lever height : Int) (A : Option Addr) (n c : Nat) (B : Option Addr) (m d : Nat) (merr : Int) (C : Option Addr) (q r : Nat) (terr turn least : Int) (hs : List Hl) (mn mt : List (Int × Int)) (g : Nat) (X : Option Addr) (p pc : Nat) (xs : List Int) (w : World) (hA : SAt encL 4 w A n hs) (hB : CAt w B m mn) (hC : CAt w C q mt) (hn : n ≤ 9223372036854775807) (hm : m ≤ 9223372036854775807) (hq : q ≤ 9223372036854775807) (hc : n ≤ c) (hg : Blk w g 32 #[.slice X p pc]) (hX : SAt encI 1 w X p xs) (hp : p ≤ 9223372036854775807) :
    Calls Tryz.prog 19 #[.agg (cSp id light lever height A n c B m d merr C q r terr turn least), .slice (some ⟨g, 0, none⟩) 1 1] w fun e w' => e = .returned (.int .i64 (loadE (shipE id light lever height turn least hs mn merr mt terr) hs xs)) ∧ Below w.heap.size w w' := by
  have hb0 := below_new w (.cells (cSp id light lever height A n c B m d merr C q r terr turn least) 27)
  have t0 := Blk.new w 27 (cSp id light lever height A n c B m d merr C q r terr turn least)
  have HA := Lib.hid (hA.below hb0)
  have HX := Lib.hid (hX.below hb0)
  have HL := Lib.hid hA.len
  have HLx := Lib.hid hX.len
  have HG := Lib.hid (hg.below hb0)
  have HCk := Lib.hid (HCheck_any id light lever height A n c B m d merr C q r terr turn least hs mn mt _ (hA.below hb0) (hB.below hb0) (hC.below hb0) hn hm hq hc)
  obtain ⟨R, hR⟩ : ∃ R, loadE (shipE id light lever height turn least hs mn merr mt terr) hs xs = R := ⟨_, rfl⟩
  have HE := Lib.hid (show R = if shipE id light lever height turn least hs mn merr mt terr ≠ 0 then shipE id light lever height turn least hs mn merr mt terr else if p ≠ n then 1 else firstE (ldF hs xs) p by rw [← hR]; unfold loadE ldE; rw [hA.len, hX.len])
  rw [hR]
  clear hA hB hC hX hg hR
  generalize shipE id light lever height turn least hs mn merr mt terr = E at *
  go_enter Tryz.func19, Tryz.ntmps19
  go_upto_region 1 with fail
  generalize hW : w.alloc (.cells (cSp id light lever height A n c B m d merr C q r terr turn least) 27) = W at *
  clear hW
  have HT := Lib.hid t0
  have HB0 := Lib.hid hb0
  obtain ⟨tl, s0, s1, s2, s3, s4, s5, s6, s7, s8, s9, s10⟩ := blk11 t0
  clear hb0 t0
  by_cases hz : E = 0
  case neg =>
    have hzb : (E != 0) = true := by simpa using hz
    have hE : R = E := by rw [HE.out, if_pos hz]
    clear HE hz
    subst hE
    go_wp2_with (go_at_call 34; (with_reducible refine HCk.out.mono ?_); rintro e u1 ⟨rfl, hb1⟩)
    exact bodyPost_ret (v := .int .i64 R) (by simp [results, Tryz.results19, go_sem]) rfl ⟨rfl, HB0.out.trans (hb1.mono HB0.out.size)⟩
  case pos =>
  subst hz
  have HE2 := Lib.hid (show R = if p ≠ n then 1 else firstE (ldF hs xs) p by rw [HE.out, if_neg (by decide)])
  clear HE
  go_upto_region 5 with (go_at_call 34; (with_reducible refine HCk.out.mono ?_); rintro e u1 ⟨rfl, hb1⟩)
  have HB1 := Lib.hid hb1
  clear hb1 HCk tl s0 s1 s2 s3 s4 s5 s6 s7 s8 s9 s10
  go_loopw [7, 8, 9, 17, 29] (fun _ _ _ i _ wx => ∃ j : Nat, j ≤ 1 ∧ i = .int .i64 (j : Int) ∧ (j = 1 → R = 0) ∧ Below W.heap.size W wx) (fun _ _ _ i _ _ => 1 - (intOf i).toNat)
  case atStart => exact ⟨0, by omega, rfl, fun h => absurd h (by omega), HB1.out⟩
  case round =>
    clear HB1
    obtain ⟨j, hj, rfl, hr, hb⟩ := hrel
    have HR := Lib.hid hr
    have HB := Lib.hid hb
    clear hr hb
    have hj2 : j = 1 ∨ j = 0 := by omega
    rcases hj2 with rfl | rfl
    · obtain rfl := HR.out rfl
      go_wp2
      exact bodyPost_ret (v := .int .i64 0) (by simp [results, Tryz.results19, go_sem]) rfl ⟨rfl, HB0.out.trans (HB.out.mono HB0.out.size)⟩
    · obtain ⟨tl, s0, s1, s2, s3, s4, s5, s6, s7, s8, s9, s10⟩ := blk11 (HT.out.below HB.out)
      have g0 := (HG.out.below HB.out).cell 0
      simp only [List.getElem?_toArray, List.getElem?_cons_zero] at g0
      have gl := (HG.out.below HB.out).lt
      clear HR
      by_cases hpn : p = n
      case neg =>
        have hd : ((p : Int) != (n : Int)) = true := by simp; omega
        have hE : R = 1 := by rw [HE2.out, if_pos hpn]
        clear HE2 hpn
        subst hE
        go_wp2
        exact bodyPost_ret (v := .int .i64 1) (by simp [results, Tryz.results19, go_sem]) rfl ⟨rfl, HB0.out.trans (HB.out.mono HB0.out.size)⟩
      case pos =>
      subst hpn
      have hd : ((p : Int) != (p : Int)) = false := by simp
      have HE3 := Lib.hid (show R = firstE (ldF hs xs) p by rw [HE2.out, if_neg (by simp)])
      clear HE2
      go_upto_region 10 with fail
      clear tl s0 s1 s2 s3 s4 s5 s6 s7 s8 s9 s10 g0 gl hd
      go_loopw [8, 9, 29] (fun _ _ i wx => ∃ k : Nat, k ≤ p ∧ i = .int .i64 (k : Int) ∧ (∀ i, i < k → ldF hs xs i = 0) ∧ Below W.heap.size W wx) (fun _ _ i _ => p - (intOf i).toNat)
      case atStart => exact ⟨0, Nat.zero_le _, rfl, fun i h => absurd h (by omega), HB.out⟩
      case round =>
        clear HB
        obtain ⟨k, hk, rfl, hno, hb⟩ := hrel
        have HNo := Lib.hid hno
        have HB := Lib.hid hb
        clear hno hb
        by_cases hkp : k < p
        case neg =>
          obtain rfl : k = p := by omega
          have HZ := Lib.hid (show R = 0 by rw [HE3.out, firstE_all HNo.out])
          go_wp2
          go_roundw
          case rel => exact ⟨1, by omega, by go_num, fun _ => HZ.out, HB.out⟩
          case measure => simp [intOf]
        case pos =>
          have hkl : k < hs.length := by rw [HL.out]; exact hkp
          have hkx : k < xs.length := by rw [HLx.out]; exact hkp
          obtain ⟨b, off, rfl, hl⟩ := HA.out.at_ (by omega)
          obtain ⟨bX, oX, rfl, hlx⟩ := HX.out.at_ (by omega)
          obtain ⟨c0, c1, c2, c3⟩ := Hls.at_ (hl.below HB.out) (List.getElem?_eq_getElem hkl)
          have cl := (hl.below HB.out).lt
          have d0 := (hlx.below HB.out).c k _ (List.getElem?_eq_getElem hkx) 0 _ rfl
          rw [Nat.mul_one, Nat.add_zero] at d0
          have dl := (hlx.below HB.out).lt
          have HF := Lib.hid (ldF_of hkl hkx)
          clear hl hlx
          generalize hs[k] = h at *
          generalize xs[k] = x at *
          obtain ⟨xi, xr, xl, xh⟩ := h
          dsimp only at *
          obtain ⟨tl, s0, s1, s2, s3, s4, s5, s6, s7, s8, s9, s10⟩ := blk11 (HT.out.below HB.out)
          have H1 := Lib.hid (fun u => hwithin_any x 0 xr u)
          have HF2 := Lib.hid (show ldF hs xs k = if inB x 0 xr = false then 1 else 0 from HF.out)
          clear HF
          generalize inB x 0 xr = b1 at *
          cases b1 with
          | false =>
            have e : ldF hs xs k = 1 := by rw [HF2.out, if_pos rfl]
            have hE : R = 1 := by rw [HE3.out, firstE_at hkp (by rw [e]; decide) HNo.out, e]
            clear HE3 e HF2
            subst hE
            go_wp2_with (go_at_call 35; (with_reducible refine (H1.out _).mono ?_); rintro e u1 ⟨rfl, rfl⟩)
            exact bodyPost_ret (v := .int .i64 1) (by simp [results, Tryz.results19, go_sem]) rfl ⟨rfl, HB0.out.trans (HB.out.mono HB0.out.size)⟩
          | true =>
            have HNx := Lib.hid (show ∀ i, i < k + 1 → ldF hs xs i = 0 from fun i hi => by
              by_cases e : i = k
              · rw [e, HF2.out, if_neg (by decide)]
              · exact HNo.out i (by omega))
            go_wp2_with (go_at_call 35; (with_reducible refine (H1.out _).mono ?_); rintro e u1 ⟨rfl, rfl⟩)
            go_roundw
            case rel => exact ⟨_, _, _, _, _, _, _, _, _, _, _, _, _, _, _, _, _, _, ⟨k + 1, by omega, by go_num, HNx.out, HB.out⟩, rfl⟩
            case measure => simp [intOf]; omega
end Go.Proofs.YtgojpgggbflgoaaGreat

namespace Go.Proofs.YtgojpgggbflgoaaGreat
open Go.RowKit

structure ShipOk (id light lever height turn least : Int) (hs : List Hl) (mn : List (Int × Int)) (merr : Int) (mt : List (Int × Int)) (terr : Int) : Prop where
  lightB : 1 ≤ light ∧ light ≤ 65536
  leverB : -20000 ≤ lever ∧ lever ≤ 20000
  heightB : 0 ≤ height ∧ height ≤ 5000
  turnB : 1 ≤ turn ∧ turn ≤ 1048576
  leastB : 0 ≤ least ∧ least ≤ 5000
  len : hs.length ≤ 8
  hl : ∀ x ∈ hs, (0 ≤ x.room ∧ x.room ≤ 65536) ∧ (-20000 ≤ x.lever ∧ x.lever ≤ 20000) ∧ (0 ≤ x.height ∧ x.height ≤ 5000)
  rooms : roomS light hs ≤ 65536
  mnv : Valid mn
  merrB : 0 ≤ merr ∧ merr ≤ 4000
  mtv : Valid mt
  terrB : 0 ≤ terr ∧ terr ≤ 4000
  ris : risingI mn = 1
  tmn : tabB light (roomS light hs) mn = false
  tmt : tabB light (roomS light hs) mt = false
theorem tabE_zero {light R : Int} {ks : List (Int × Int)} (h : tabE light R ks = 0) : tabB light R ks = false := by
  cases e : tabB light R ks with
  | false => rfl
  | true => unfold tabE at h; rw [if_pos e] at h; cases h
theorem shipE_zero {id light lever height turn least : Int} {hs : List Hl} {mn mt : List (Int × Int)} {merr terr : Int} (h : shipE id light lever height turn least hs mn merr mt terr = 0) : ShipOk id light lever height turn least hs mn merr mt terr := by
  unfold shipE at h
  by_cases h1 : headB id light lever height turn least = false
  · rw [if_pos h1] at h; cases h
  rw [if_neg h1] at h
  by_cases h2 : 8 < hs.length
  · rw [if_pos h2] at h; cases h
  rw [if_neg h2] at h
  by_cases h3 : firstE (hlF hs) hs.length = 0
  case neg => rw [if_pos h3] at h; exact absurd h h3
  rw [if_neg (by simpa using h3)] at h
  by_cases h4 : 65536 < roomS light hs
  · rw [if_pos h4] at h; cases h
  rw [if_neg h4] at h
  by_cases h5 : check mn merr = 0
  case neg => rw [if_pos h5] at h; exact absurd h h5
  rw [if_neg (by simpa using h5)] at h
  by_cases h6 : check mt terr = 0
  case neg => rw [if_pos h6] at h; exact absurd h h6
  rw [if_neg (by simpa using h6)] at h
  by_cases h7 : rsV mn merr = 1
  case neg => rw [if_pos h7] at h; cases h
  rw [if_neg (by simpa using h7)] at h
  by_cases h8 : tabE light (roomS light hs) mn = 0
  case neg => rw [if_pos h8] at h; exact absurd h h8
  rw [if_neg (by simpa using h8)] at h
  have hh := (Bool.not_eq_false _).mp h1
  unfold headB inB at hh
  simp only [Bool.and_eq_true, decide_eq_true_eq] at hh
  obtain ⟨v1, v2, v3⟩ := check_zero h5
  obtain ⟨u1, u2, u3⟩ := check_zero h6
  refine ⟨hh.2.1, hh.2.2.1.1, hh.2.2.1.2, hh.2.2.2.1, hh.2.2.2.2, by omega, fun x hx => ?_, by omega, v1, ⟨v2, v3⟩, u1, ⟨u2, u3⟩, ?_, tabE_zero h8, tabE_zero h⟩
  · obtain ⟨i, hi, rfl⟩ := List.getElem_of_mem hx
    have e := firstE_zero h3 i hi
    rw [hlF_of hi] at e
    cases hb : hlB hs[i] with
    | false => rw [hb, if_pos rfl] at e; cases e
    | true =>
      unfold hlB inB at hb
      simp only [Bool.and_eq_true, decide_eq_true_eq] at hb
      exact ⟨hb.2.1, hb.2.2.1, hb.2.2.2⟩
  · unfold rsV at h7
    rwa [if_pos h5] at h7
/-- A loading without error. -/
theorem ldE_zero {hs : List Hl} {xs : List Int} (h : ldE hs xs = 0) : xs.length = hs.length ∧ ∀ i (q : i < xs.length) (p : i < hs.length), 0 ≤ xs[i] ∧ xs[i] ≤ (hs[i]).room := by
  unfold ldE at h
  by_cases c : xs.length = hs.length
  case neg => rw [if_pos c] at h; cases h
  rw [if_neg (by simpa using c)] at h
  refine ⟨c, fun i q p => ?_⟩
  have e := firstE_zero h i q
  rw [ldF_of p q] at e
  cases hb : inB xs[i] 0 (hs[i]).room with
  | false => rw [hb, if_pos rfl] at e; cases e
  | true => exact of_decide_eq_true hb
theorem loadE_zero {E : Int} {hs : List Hl} {xs : List Int} (h : loadE E hs xs = 0) : E = 0 ∧ ldE hs xs = 0 := by
  unfold loadE at h
  by_cases c : E = 0
  · rw [if_neg (by simpa using c)] at h; exact ⟨c, h⟩
  · rw [if_pos c] at h; exact absurd h c
theorem ld_bd {hs : List Hl} {xs : List Int} (h : ldE hs xs = 0) (hr : ∀ x ∈ hs, x.room ≤ 65536) : ∀ x ∈ xs, 0 ≤ x ∧ x ≤ 65536 := by
  intro x hx
  obtain ⟨i, hi, rfl⟩ := List.getElem_of_mem hx
  obtain ⟨e, h2⟩ := ldE_zero h
  have a := h2 i hi (by omega)
  have b := hr _ (List.getElem_mem (show i < hs.length by omega))
  omega
set_option maxRecDepth 100000 in
set_option maxHeartbeats 6400000 in
theorem Displacement_any (id light lever height : Int) (A : Option Addr) (n c : Nat) (B : Option Addr) (m d : Nat) (merr : Int) (C : Option Addr) (q r : Nat) (terr turn least : Int) (hs : List Hl) (mn mt : List (Int × Int)) (X : Option Addr) (p pc : Nat) (xs : List Int) (w : World) (hA : SAt encL 4 w A n hs) (hB : CAt w B m mn) (hC : CAt w C q mt) (hn : n ≤ 9223372036854775807) (hm : m ≤ 9223372036854775807) (hq : q ≤ 9223372036854775807) (hc : n ≤ c) (hX : SAt encI 1 w X p xs) (hp : p ≤ 9223372036854775807) :
    Calls Tryz.prog 5 #[.agg (cSp id light lever height A n c B m d merr C q r terr turn least), .slice X p pc] w fun e w' => e = .returned (.tuple #[.int .i64 (if loadE (shipE id light lever height turn least hs mn merr mt terr) hs xs = 0 then light + isum xs else 0), .int .i64 (loadE (shipE id light lever height turn least hs mn merr mt terr) hs xs)]) ∧ Below w.heap.size w w' := by
  have hb0 := below_new w (.cells (cSp id light lever height A n c B m d merr C q r terr turn least) 27)
  have t0 := Blk.new w 27 (cSp id light lever height A n c B m d merr C q r terr turn least)
  have HX := Lib.hid (hX.below hb0)
  have hb1 := below_new (w.alloc (.cells (cSp id light lever height A n c B m d merr C q r terr turn least) 27)) (.cells #[.slice X p pc] 32)
  have hb2 := hb0.trans (hb1.mono hb0.size)
  have HLd := Lib.hid (loaded_any id light lever height A n c B m d merr C q r terr turn least hs mn mt (w.heap.size + 1) X p pc xs ((w.alloc (.cells (cSp id light lever height A n c B m d merr C q r terr turn least) 27)).alloc (.cells #[.slice X p pc] 32)) (hA.below hb2) (hB.below hb2) (hC.below hb2) hn hm hq hc (Blk.at_new _ _ (by simp)) (hX.below hb2) hp)
  have HB1 := Lib.hid hb2
  have HT1 := Lib.hid (t0.below hb1)
  have HZ := Lib.hid (fun e : loadE (shipE id light lever height turn least hs mn merr mt terr) hs xs = 0 => let k := shipE_zero (loadE_zero e).1; And.intro k.lightB (And.intro (ld_bd (loadE_zero e).2 fun x hx => (k.hl x hx).1.2) (show xs.length ≤ 8 by have := (ldE_zero (loadE_zero e).2).1; have := k.len; omega)))
  have HLx := Lib.hid hX.len
  have HX1 := Lib.hid (hX.below hb2)
  clear hA hB hC hX hb0 hb1 hb2 t0
  generalize loadE (shipE id light lever height turn least hs mn merr mt terr) hs xs = E at *
  obtain ⟨D, hD⟩ : ∃ D, (if E = 0 then light + isum xs else 0) = D := ⟨_, rfl⟩
  have HD := Lib.hid hD
  rw [hD]
  clear hD
  go_enter Tryz.func5, Tryz.ntmps5
  go_upto_region 2 with (go_at_call 19; (with_reducible refine HLd.out.mono ?_); rintro e u1 ⟨rfl, hb1⟩)
  have HB2 := Lib.hid (HB1.out.trans (hb1.mono HB1.out.size))
  have HT2 := Lib.hid (HT1.out.below hb1)
  have HX2 := Lib.hid (HX1.out.below hb1)
  clear hb1 HLd HB1 HT1 HX1
  by_cases hz : E = 0
  case neg =>
    have hzb : (E != 0) = true := by simpa using hz
    have hN : D = 0 := by rw [← HD.out]; exact if_neg hz
    clear hz HD
    subst hN
    go_wp2
    exact bodyPost_ret (v := .tuple #[.int .i64 0, .int .i64 E]) (by simp [results, Tryz.results5, go_sem]) rfl ⟨rfl, HB2.out⟩
  case pos =>
    subst hz
    have HN := Lib.hid (show D = light + isum xs by rw [← HD.out]; exact if_pos rfl)
    clear HD
    obtain ⟨hl, hx, h8⟩ := HZ.out rfl
    have hp8 : p ≤ 8 := by rw [← HLx.out]; exact h8
    have hsb := isum_le (N := 8) hx h8 (by omega) (by omega)
    have HSm := Lib.hid (fun (u : World) (hu : SAt encI 1 u X p xs) => sum_any X p pc xs u hu (fun x h => by have := hx x h; omega) (by omega))
    clear hx
    generalize isum xs = sx at *
    go_upto_region 4 with fail
    obtain ⟨tl, s0, s1, s2, s3, s4, s5, s6, s7, s8, s9, s10⟩ := blk11 HT2.out
    obtain ⟨xc, xf'⟩ := xcell (W := u1)
    refine wp_region_quiet_tail 7 (by kernel_rfl) (by kernel_rfl) ?_
    simp only [List.take_succ_cons, List.take_zero, List.drop_succ_cons, List.drop_zero]
    repeat (first | go_big_quiet_step ((go_at_call 20; with_reducible refine calls_ext (HSm.out _ ?_); exact HX2.out.below (Ext.below _))) | quiet_step ((go_at_call 20; with_reducible refine calls_ext (HSm.out _ ?_); exact HX2.out.below (Ext.below _))))
    refine wpQuiet_nil ?_
    intro w5 hb5
    have HB5 := Lib.hid (HB2.out.trans (hb5.mono HB2.out.size))
    go_wp2
    exact bodyPost_ret (v := .tuple #[.int .i64 (light + sx), .int .i64 0]) (by simp [results, Tryz.results5, go_sem]) rfl ⟨by rw [HN.out], HB5.out⟩
end Go.Proofs.YtgojpgggbflgoaaGreat
