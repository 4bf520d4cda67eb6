/- The examples: a ship, hydrometers, a survey. The examples are weighed as the chapter says. Whether a ship is as stiff as she must be, and lies no deeper than she may. A mean draught fits a mass in water of a density. The errors that hydrometers truly had. -/
import Derived.Test.YtgojpgggbflgoaaGreatTop12
import Derived.Test.YtgojpgggbflgoaaGreatTop11
import Derived.Test.YtgojpgggbflgoaaGreatTop07
namespace Go.Proofs.YtgojpgggbflgoaaGreat
open Go.RowKit

theorem results_c {P : Program} {fn : Func} {tmps : Array Value} {W : World} {a : Tmp} {t : TypeId} {p : Addr} {v : Value} (h : fn.results = #[.cell a t]) (ha : tmps.getD a undef = .pointer (some p)) (hl : Sem.run P (loadVar t p) W = .ok v W) :
    Sem.run P (results fn tmps) W = .ok v W := by
  have ha' : tmps[a]?.getD undef = .pointer (some p) := by simpa using ha
  simp [results, h, asAddr, ha', hl]
theorem Blk.setCells_far {g b : Nat} {t : TypeId} {cs : Array Value} (hne : g ≠ b) : ∀ (vs : List Value) (o : Nat) {W : World} (_ : Blk W g t cs), Blk (W.setCells b o vs) g t cs
  | [], _, _, h => h
  | v :: r, o, W, h => by
    rw [World.setCells]
    exact Blk.setCells_far hne r (o + 1) (h.far (p := ⟨b, o, none⟩) hne v)
theorem info_ship : (Tryz.prog.info? 27).map (·.size) = some 11 := by kernel_rfl
theorem info_bulbs : (Tryz.prog.info? 31).map (·.size) = some 2 := by kernel_rfl
theorem SAt.of_blk {α : Type} {enc : α → List Value} {k : Nat} (hk : ∀ x, (enc x).length = k) {w : World} {g : Nat} {t : TypeId} {zs : List α} {n : Nat} (hn : zs.length = n) (h : Blk w g t (zs.flatMap enc).toArray) : SAt enc k w (some ⟨g, 0, none⟩) n zs := by
  subst hn
  exact SAt_blk hk h
theorem CAt.of_blk {w : World} {g : Nat} {t : TypeId} {a b c d : Int} (h : Blk w g t #[.int .i64 a, .int .i64 b, .int .i64 c, .int .i64 d]) : CAt w (some ⟨g, 0, none⟩) 2 [(a, b), (c, d)] := by
  obtain ⟨c0, c1, c2, c3, cl⟩ := cells4 h
  refine ⟨rfl, fun _ => ⟨g, 0, rfl, ⟨cl, fun i hi => ?_, fun i hi => ?_⟩⟩⟩
  · match i, hi with
    | 0, _ => exact c0
    | 1, _ => exact c2
  · match i, hi with
    | 0, _ => exact c1
    | 1, _ => exact c3
def exHs : List Hl := [⟨1, 400, 50, 60⟩, ⟨2, 400, -50, 150⟩]
def exMn : List (Int × Int) := [(10, 100), (30, 500)]
def exMt : List (Int × Int) := [(10, 160), (30, 140)]
def exYs : List Hy := [⟨1, -5, 5⟩]
def exGs : List Gs := [⟨2, 1, 1000, 1001, 1003⟩]
def exSv : Sv := ⟨7, 0, 240, 244, 240, 244, 250, 252, 250, 252, 258, 262, 258, 262, 0, 1, 1003, 1003⟩
set_option maxRecDepth 100000 in
set_option maxHeartbeats 6400000 in
theorem exShip_any (w : World) :
    Calls Tryz.prog 16 #[] w fun e w' => ∃ A B C, e = .returned (.agg (cSp 1 400 0 100 A 2 2 B 2 2 0 C 2 2 0 10 30)) ∧ SAt encL 4 w' A 2 exHs ∧ CAt w' B 2 exMn ∧ CAt w' C 2 exMt ∧ Below w.heap.size w w' := by
  go_enter Tryz.func16, Tryz.ntmps16
  go_upto_region 1 with fail
  have k0 := (((Blk.new w 27 #[.int .i64 0, .int .i64 0, .int .i64 0, .int .i64 0, .slice none 0 0, .slice none 0 0, .int .i64 0, .slice none 0 0, .int .i64 0, .int .i64 0, .int .i64 0]).alloc (.cells #[.int .i64 1, .int .i64 400, .int .i64 50, .int .i64 60, .int .i64 2, .int .i64 400, .int .i64 (-50), .int .i64 150] 82)).alloc (.cells #[.int .i64 10, .int .i64 100, .int .i64 30, .int .i64 500] 97)).alloc (.cells #[.int .i64 10, .int .i64 160, .int .i64 30, .int .i64 140] 97)
  have k1 := ((Blk.at_new (W := w.alloc (.cells #[.int .i64 0, .int .i64 0, .int .i64 0, .int .i64 0, .slice none 0 0, .slice none 0 0, .int .i64 0, .slice none 0 0, .int .i64 0, .int .i64 0, .int .i64 0] 27)) (g := w.heap.size + 1) 82 #[.int .i64 1, .int .i64 400, .int .i64 50, .int .i64 60, .int .i64 2, .int .i64 400, .int .i64 (-50), .int .i64 150] (by simp)).alloc (.cells #[.int .i64 10, .int .i64 100, .int .i64 30, .int .i64 500] 97)).alloc (.cells #[.int .i64 10, .int .i64 160, .int .i64 30, .int .i64 140] 97)
  have k2 := (Blk.at_new (W := (w.alloc (.cells #[.int .i64 0, .int .i64 0, .int .i64 0, .int .i64 0, .slice none 0 0, .slice none 0 0, .int .i64 0, .slice none 0 0, .int .i64 0, .int .i64 0, .int .i64 0] 27)).alloc (.cells #[.int .i64 1, .int .i64 400, .int .i64 50, .int .i64 60, .int .i64 2, .int .i64 400, .int .i64 (-50), .int .i64 150] 82)) (g := w.heap.size + 2) 97 #[.int .i64 10, .int .i64 100, .int .i64 30, .int .i64 500] (by simp)).alloc (.cells #[.int .i64 10, .int .i64 160, .int .i64 30, .int .i64 140] 97)
  have k3 := Blk.at_new (W := ((w.alloc (.cells #[.int .i64 0, .int .i64 0, .int .i64 0, .int .i64 0, .slice none 0 0, .slice none 0 0, .int .i64 0, .slice none 0 0, .int .i64 0, .int .i64 0, .int .i64 0] 27)).alloc (.cells #[.int .i64 1, .int .i64 400, .int .i64 50, .int .i64 60, .int .i64 2, .int .i64 400, .int .i64 (-50), .int .i64 150] 82)).alloc (.cells #[.int .i64 10, .int .i64 100, .int .i64 30, .int .i64 500] 97)) (g := w.heap.size + 3) 97 #[.int .i64 10, .int .i64 160, .int .i64 30, .int .i64 140] (by simp)
  have hbw := ((((Below.refl w.heap.size w).alloc (Nat.le_refl _) (.cells #[.int .i64 0, .int .i64 0, .int .i64 0, .int .i64 0, .slice none 0 0, .slice none 0 0, .int .i64 0, .slice none 0 0, .int .i64 0, .int .i64 0, .int .i64 0] 27)).alloc (by simp) (.cells #[.int .i64 1, .int .i64 400, .int .i64 50, .int .i64 60, .int .i64 2, .int .i64 400, .int .i64 (-50), .int .i64 150] 82)).alloc (by simp; omega) (.cells #[.int .i64 10, .int .i64 100, .int .i64 30, .int .i64 500] 97)).alloc (by simp; omega) (.cells #[.int .i64 10, .int .i64 160, .int .i64 30, .int .i64 140] 97)
  have HTh := Lib.hid (there_blk k0)
  have HAll := Lib.hid (show ([.int .i64 1, .int .i64 400, .int .i64 0, .int .i64 100, .slice (some ⟨w.heap.size + 1, 0, none⟩) 2 2, .slice (some ⟨w.heap.size + 2, 0, none⟩) 2 2, .int .i64 0, .slice (some ⟨w.heap.size + 3, 0, none⟩) 2 2, .int .i64 0, .int .i64 10, .int .i64 30] : List Value).toArray.all (·.oneCell') = true from all_oneCell_toArray (by simp [Value.oneCell']))
  have HK := Lib.hid (And.intro k1 (And.intro k2 (And.intro k3 hbw)))
  clear k0 k1 k2 k3 hbw
  go_wp2_with (refine wpList_store_mid rfl 27 (.tmp 0) (.tmp 12) rfl w.heap.size 0 ([.int .i64 1, .int .i64 400, .int .i64 0, .int .i64 100, .slice (some ⟨w.heap.size + 1, 0, none⟩) 2 2, .slice (some ⟨w.heap.size + 2, 0, none⟩) 2 2, .int .i64 0, .slice (some ⟨w.heap.size + 3, 0, none⟩) 2 2, .int .i64 0, .int .i64 10, .int .i64 30] : List Value).toArray rfl rfl HTh.out info_ship HAll.out ?_)
  obtain ⟨k1, k2, k3, hbw⟩ := HK.out
  have hr := World.rangeAt_setCells_same _ w.heap.size 0 [.int .i64 1, .int .i64 400, .int .i64 0, .int .i64 100, .slice (some ⟨w.heap.size + 1, 0, none⟩) 2 2, .slice (some ⟨w.heap.size + 2, 0, none⟩) 2 2, .int .i64 0, .slice (some ⟨w.heap.size + 3, 0, none⟩) 2 2, .int .i64 0, .int .i64 10, .int .i64 30] HTh.out
  have z1 := k1.setCells_far (b := w.heap.size) (by omega) [.int .i64 1, .int .i64 400, .int .i64 0, .int .i64 100, .slice (some ⟨w.heap.size + 1, 0, none⟩) 2 2, .slice (some ⟨w.heap.size + 2, 0, none⟩) 2 2, .int .i64 0, .slice (some ⟨w.heap.size + 3, 0, none⟩) 2 2, .int .i64 0, .int .i64 10, .int .i64 30] 0
  have z2 := k2.setCells_far (b := w.heap.size) (by omega) [.int .i64 1, .int .i64 400, .int .i64 0, .int .i64 100, .slice (some ⟨w.heap.size + 1, 0, none⟩) 2 2, .slice (some ⟨w.heap.size + 2, 0, none⟩) 2 2, .int .i64 0, .slice (some ⟨w.heap.size + 3, 0, none⟩) 2 2, .int .i64 0, .int .i64 10, .int .i64 30] 0
  have z3 := k3.setCells_far (b := w.heap.size) (by omega) [.int .i64 1, .int .i64 400, .int .i64 0, .int .i64 100, .slice (some ⟨w.heap.size + 1, 0, none⟩) 2 2, .slice (some ⟨w.heap.size + 2, 0, none⟩) 2 2, .int .i64 0, .slice (some ⟨w.heap.size + 3, 0, none⟩) 2 2, .int .i64 0, .int .i64 10, .int .i64 30] 0
  have zb := below_setCells (g := w.heap.size) (Nat.le_refl _) [.int .i64 1, .int .i64 400, .int .i64 0, .int .i64 100, .slice (some ⟨w.heap.size + 1, 0, none⟩) 2 2, .slice (some ⟨w.heap.size + 2, 0, none⟩) 2 2, .int .i64 0, .slice (some ⟨w.heap.size + 3, 0, none⟩) 2 2, .int .i64 0, .int .i64 10, .int .i64 30] 0 hbw
  have hLd := run_loadVar_mid (P := Tryz.prog) _ w.heap.size 0 27 [.int .i64 1, .int .i64 400, .int .i64 0, .int .i64 100, .slice (some ⟨w.heap.size + 1, 0, none⟩) 2 2, .slice (some ⟨w.heap.size + 2, 0, none⟩) 2 2, .int .i64 0, .slice (some ⟨w.heap.size + 3, 0, none⟩) 2 2, .int .i64 0, .int .i64 10, .int .i64 30] _ hr Tryz.underlying27 rfl info_ship
  exact bodyPost_ret (v := .agg (cSp 1 400 0 100 (some ⟨w.heap.size + 1, 0, none⟩) 2 2 (some ⟨w.heap.size + 2, 0, none⟩) 2 2 0 (some ⟨w.heap.size + 3, 0, none⟩) 2 2 0 10 30)) (results_c Tryz.results16 rfl hLd) rfl ⟨_, _, _, rfl, SAt.of_blk encL_len rfl z1, CAt.of_blk z2, CAt.of_blk z3, zb⟩
set_option maxRecDepth 100000 in
set_option maxHeartbeats 6400000 in
theorem exBulbs_any (w : World) :
    Calls Tryz.prog 17 #[] w fun e w' => ∃ A B, e = .returned (.agg #[.slice A 1 1, .slice B 1 1]) ∧ SAt encY 3 w' A 1 exYs ∧ SAt encG 5 w' B 1 exGs ∧ Below w.heap.size w w' := by
  go_enter Tryz.func17, Tryz.ntmps17
  go_upto_region 1 with fail
  have k0 := ((Blk.new w 31 #[.slice none 0 0, .slice none 0 0]).alloc (.cells #[.int .i64 1, .int .i64 (-5), .int .i64 5] 68)).alloc (.cells #[.int .i64 2, .int .i64 1, .int .i64 1000, .int .i64 1001, .int .i64 1003] 70)
  have k1 := (Blk.at_new (W := w.alloc (.cells #[.slice none 0 0, .slice none 0 0] 31)) (g := w.heap.size + 1) 68 #[.int .i64 1, .int .i64 (-5), .int .i64 5] (by simp)).alloc (.cells #[.int .i64 2, .int .i64 1, .int .i64 1000, .int .i64 1001, .int .i64 1003] 70)
  have k2 := Blk.at_new (W := (w.alloc (.cells #[.slice none 0 0, .slice none 0 0] 31)).alloc (.cells #[.int .i64 1, .int .i64 (-5), .int .i64 5] 68)) (g := w.heap.size + 2) 70 #[.int .i64 2, .int .i64 1, .int .i64 1000, .int .i64 1001, .int .i64 1003] (by simp)
  have hbw := (((Below.refl w.heap.size w).alloc (Nat.le_refl _) (.cells #[.slice none 0 0, .slice none 0 0] 31)).alloc (by simp) (.cells #[.int .i64 1, .int .i64 (-5), .int .i64 5] 68)).alloc (by simp; omega) (.cells #[.int .i64 2, .int .i64 1, .int .i64 1000, .int .i64 1001, .int .i64 1003] 70)
  have HTh := Lib.hid (there_blk k0)
  have HAll := Lib.hid (show ([.slice (some ⟨w.heap.size + 1, 0, none⟩) 1 1, .slice (some ⟨w.heap.size + 2, 0, none⟩) 1 1] : List Value).toArray.all (·.oneCell') = true from all_oneCell_toArray (by simp [Value.oneCell']))
  have HK := Lib.hid (And.intro k1 (And.intro k2 hbw))
  clear k0 k1 k2 hbw
  go_wp2_with (refine wpList_store_mid rfl 31 (.tmp 0) (.tmp 7) rfl w.heap.size 0 ([.slice (some ⟨w.heap.size + 1, 0, none⟩) 1 1, .slice (some ⟨w.heap.size + 2, 0, none⟩) 1 1] : List Value).toArray rfl rfl HTh.out info_bulbs HAll.out ?_)
  obtain ⟨k1, k2, hbw⟩ := HK.out
  have hr := World.rangeAt_setCells_same _ w.heap.size 0 [.slice (some ⟨w.heap.size + 1, 0, none⟩) 1 1, .slice (some ⟨w.heap.size + 2, 0, none⟩) 1 1] HTh.out
  have z1 := k1.setCells_far (b := w.heap.size) (by omega) [.slice (some ⟨w.heap.size + 1, 0, none⟩) 1 1, .slice (some ⟨w.heap.size + 2, 0, none⟩) 1 1] 0
  have z2 := k2.setCells_far (b := w.heap.size) (by omega) [.slice (some ⟨w.heap.size + 1, 0, none⟩) 1 1, .slice (some ⟨w.heap.size + 2, 0, none⟩) 1 1] 0
  have zb := below_setCells (g := w.heap.size) (Nat.le_refl _) [.slice (some ⟨w.heap.size + 1, 0, none⟩) 1 1, .slice (some ⟨w.heap.size + 2, 0, none⟩) 1 1] 0 hbw
  have hLd := run_loadVar_mid (P := Tryz.prog) _ w.heap.size 0 31 [.slice (some ⟨w.heap.size + 1, 0, none⟩) 1 1, .slice (some ⟨w.heap.size + 2, 0, none⟩) 1 1] _ hr Tryz.underlying31 rfl info_bulbs
  exact bodyPost_ret (v := .agg #[.slice (some ⟨w.heap.size + 1, 0, none⟩) 1 1, .slice (some ⟨w.heap.size + 2, 0, none⟩) 1 1]) (results_c Tryz.results17 rfl hLd) rfl ⟨_, _, rfl, SAt.of_blk encY_len rfl z1, SAt.of_blk encG_len rfl z2, zb⟩
set_option maxRecDepth 100000 in
set_option maxHeartbeats 6400000 in
theorem exSeven_any (w : World) :
    Calls Tryz.prog 18 #[] w fun e w' => e = .returned (vSv exSv) ∧ Below w.heap.size w w' := by
  go_enter Tryz.func18, Tryz.ntmps18
  go_upto_region 4 with fail
  have k0 := (((Blk.new w 62 #[.int .i64 0, .int .i64 0, .int .i64 0, .int .i64 0, .int .i64 0, .int .i64 0, .int .i64 0, .int .i64 0, .int .i64 0, .int .i64 0, .int .i64 0, .int .i64 0, .int .i64 0, .int .i64 0, .int .i64 0, .int .i64 0, .int .i64 0, .int .i64 0]).alloc (.cells #[.int .i64 240, .int .i64 244] 43)).alloc (.cells #[.int .i64 250, .int .i64 252] 43)).alloc (.cells #[.int .i64 258, .int .i64 262] 43)
  have hbw := ((((Below.refl w.heap.size w).alloc (Nat.le_refl _) (.cells #[.int .i64 0, .int .i64 0, .int .i64 0, .int .i64 0, .int .i64 0, .int .i64 0, .int .i64 0, .int .i64 0, .int .i64 0, .int .i64 0, .int .i64 0, .int .i64 0, .int .i64 0, .int .i64 0, .int .i64 0, .int .i64 0, .int .i64 0, .int .i64 0] 62)).alloc (by simp) (.cells #[.int .i64 240, .int .i64 244] 43)).alloc (by simp; omega) (.cells #[.int .i64 250, .int .i64 252] 43)).alloc (by simp; omega) (.cells #[.int .i64 258, .int .i64 262] 43)
  have HTh := Lib.hid (there_blk k0)
  have HB := Lib.hid hbw
  clear k0 hbw
  go_wp2_with (refine wpList_store_mid rfl 62 (.tmp 0) (.tmp 15) rfl w.heap.size 0 #[.int .i64 7, .int .i64 0, .int .i64 240, .int .i64 244, .int .i64 240, .int .i64 244, .int .i64 250, .int .i64 252, .int .i64 250, .int .i64 252, .int .i64 258, .int .i64 262, .int .i64 258, .int .i64 262, .int .i64 0, .int .i64 1, .int .i64 1003, .int .i64 1003] rfl rfl HTh.out info_sv (all18 7 0 240 244 240 244 250 252 250 252 258 262 258 262 0 1 1003 1003) ?_)
  have hr := World.rangeAt_setCells_same _ w.heap.size 0 [.int .i64 7, .int .i64 0, .int .i64 240, .int .i64 244, .int .i64 240, .int .i64 244, .int .i64 250, .int .i64 252, .int .i64 250, .int .i64 252, .int .i64 258, .int .i64 262, .int .i64 258, .int .i64 262, .int .i64 0, .int .i64 1, .int .i64 1003, .int .i64 1003] HTh.out
  have zb := below_setCells (g := w.heap.size) (Nat.le_refl _) [.int .i64 7, .int .i64 0, .int .i64 240, .int .i64 244, .int .i64 240, .int .i64 244, .int .i64 250, .int .i64 252, .int .i64 250, .int .i64 252, .int .i64 258, .int .i64 262, .int .i64 258, .int .i64 262, .int .i64 0, .int .i64 1, .int .i64 1003, .int .i64 1003] 0 HB.out
  have hLd := run_loadVar_mid (P := Tryz.prog) _ w.heap.size 0 62 [.int .i64 7, .int .i64 0, .int .i64 240, .int .i64 244, .int .i64 240, .int .i64 244, .int .i64 250, .int .i64 252, .int .i64 250, .int .i64 252, .int .i64 258, .int .i64 262, .int .i64 258, .int .i64 262, .int .i64 0, .int .i64 1, .int .i64 1003, .int .i64 1003] _ hr Tryz.underlying62 rfl info_sv
  exact bodyPost_ret (v := vSv exSv) (results_c Tryz.results18 rfl hLd) rfl ⟨rfl, zb⟩
end Go.Proofs.YtgojpgggbflgoaaGreat

namespace Go.Proofs.YtgojpgggbflgoaaGreat
open Go.RowKit

theorem ex_ship : shipE 1 400 0 100 10 30 exHs exMn 0 exMt 0 = 0 := by kernel_rfl
theorem ex_bulb : bulbE exYs exGs = 0 := by kernel_rfl
theorem ex_chk : chkE exYs exGs exSv = 0 := by kernel_rfl
theorem ex_den : (denR exYs exGs exSv.hy exSv.lo exSv.hi).2 = 0 := by kernel_rfl
theorem ex_vol : decide ((voY exMn 0 exSv).1 ≤ (voY exMn 0 exSv).2) = true := by kernel_rfl
theorem ex_tog : togS 400 (roomS 400 exHs) exMn 0 exYs exGs [exSv] = (700, 705) := by kernel_rfl
theorem ex_ids : idx (fun y : Sv => y.id == exSv.id) [exSv] = ((0 : Nat) : Int) := by kernel_rfl
theorem ex_MaOk : MaOk exMn 0 exYs exGs exSv := ⟨by unfold MkOk exSv; decide, by decide, by decide, ex_den, of_decide_eq_true ex_vol⟩
theorem ex_LvOk : LvOk exYs exGs [exSv] := ⟨by simp, by simp, fun x hx => by
  have e : x = exSv := by simpa using hx
  subst e
  exact ex_chk, fun i hi => by
  have e : i = 0 := by simp at hi; omega
  subst e
  exact ex_ids⟩
set_option maxRecDepth 100000 in
set_option maxHeartbeats 6400000 in
theorem weighed_any (w : World) :
    Calls Tryz.prog 4 #[] w fun e w' => e = .returned (.bool true) ∧ Below w.heap.size w w' := by
  go_enter Tryz.func4, Tryz.ntmps4
  go_upto_region 1 with fail
  go_wp2_with (go_at_call 16; (with_reducible refine (exShip_any _).mono ?_); rintro e u1 ⟨A, B, C, rfl, hA, hB, hC, hb1⟩)
  (with_reducible refine (exBulbs_any u1).mono ?_); rintro e u2 ⟨Y, G, rfl, hY, hG, hb2⟩
  go_wp2_with fail
  (with_reducible refine (exSeven_any u2).mono ?_); rintro e u3 ⟨rfl, hb3⟩
  dsimp only [exSv, vSv]
  have bq := below_new u3 (.cells #[.int .i64 7, .int .i64 0, .int .i64 240, .int .i64 244, .int .i64 240, .int .i64 244, .int .i64 250, .int .i64 252, .int .i64 250, .int .i64 252, .int .i64 258, .int .i64 262, .int .i64 258, .int .i64 262, .int .i64 0, .int .i64 1, .int .i64 1003, .int .i64 1003] 62)
  have hsv := SAt.of_blk (n := 1) (zs := [exSv]) encV_len rfl (Blk.new u3 62 #[.int .i64 7, .int .i64 0, .int .i64 240, .int .i64 244, .int .i64 240, .int .i64 244, .int .i64 250, .int .i64 252, .int .i64 250, .int .i64 252, .int .i64 258, .int .i64 262, .int .i64 258, .int .i64 262, .int .i64 0, .int .i64 1, .int .i64 1003, .int .i64 1003])
  have b13 := hb2.trans (hb3.mono hb2.size)
  have b14 := b13.trans (bq.mono b13.size)
  have b24 := hb3.trans (bq.mono hb3.size)
  have HTg := Lib.hid (Together_any 1 400 0 100 A 2 2 B 2 2 0 C 2 2 0 10 30 exHs exMn exMt Y 1 1 G 1 1 exYs exGs (some ⟨u3.heap.size, 0, none⟩) 1 1 [exSv] (u3.alloc (.cells #[.int .i64 7, .int .i64 0, .int .i64 240, .int .i64 244, .int .i64 240, .int .i64 244, .int .i64 250, .int .i64 252, .int .i64 250, .int .i64 252, .int .i64 258, .int .i64 262, .int .i64 258, .int .i64 262, .int .i64 0, .int .i64 1, .int .i64 1003, .int .i64 1003] 62)) (hA.below b14) (hB.below b14) (hC.below b14) (by decide) (by decide) (by decide) (by decide) ex_ship (hY.below b24) (hG.below b24) (by decide) (by decide) ex_bulb hsv ex_LvOk (fun x hx => by
    have e : x = exSv := by simpa using hx
    subst e
    exact ex_MaOk) (by rw [ex_tog]; decide))
  rw [ex_tog] at HTg
  have HB := Lib.hid (hb1.trans (b14.mono hb1.size))
  clear bq hsv b13 b14 b24 hA hB hC hY hG hb1 hb2 hb3
  go_wp2_with (go_at_call 15; (with_reducible refine HTg.out.mono ?_); rintro e u4 ⟨rfl, hb4⟩)
  exact bodyPost_ret (v := .bool true) (by simp [results, Tryz.results4, go_sem]) rfl ⟨rfl, (HB.out.trans (hb4.mono HB.out.size)).alloc (by have := HB.out.size; have := hb4.size; omega) _⟩
end Go.Proofs.YtgojpgggbflgoaaGreat

namespace Go.Proofs.YtgojpgggbflgoaaGreat
open Go.RowKit

theorem lowD_le {n d : Int} (h : 1 ≤ d) : lowD n d ≤ d := by
  obtain ⟨g, h1, _, h3, h4⟩ := low_ok (n := n) h
  have := Int.mul_le_mul_of_nonneg_right h1 (show 0 ≤ lowD n d by omega)
  omega
theorem low_ge {n d k : Int} (h : 1 ≤ d) (hk : k * d ≤ n) : k * lowD n d ≤ lowN n d := by
  obtain ⟨g, h1, h2, h3, h4⟩ := low_ok (n := n) h
  refine Int.le_of_mul_le_mul_left (a := g) ?_ (by omega)
  rw [← h2]
  have : g * (k * lowD n d) = k * d := by
    rw [← Int.mul_assoc, Int.mul_comm g k, Int.mul_assoc, ← h3]
  omega
theorem best_ls {hs : List Hl} {fs : List Int} {t : Int} {xs ys : List Int} (h : BestOk (hs.map Hl.room) fs t xs) (hf : fs.length = hs.length) (hl : ldE hs ys = 0) (ht : isum ys = t) : valF fs ys ≤ valF fs xs := by
  obtain ⟨hl1, hl2⟩ := ldE_zero hl
  refine h.most (by simpa using hf) (by simpa using hl1) (fun i hi => ?_) ht
  have hi' : i < hs.length := by simpa using hi
  rw [getD_at (by omega), rs_at hi']
  exact hl2 i (by omega) hi'
/-- A ship that is steady at a total is as stiff as she must be with each loading of it. -/
theorem stiff_of {id light lever height turn least : Int} {hs : List Hl} {mn mt : List (Int × Int)} {merr terr : Int} {ys : List Int} (k : ShipOk id light lever height turn least hs mn merr mt terr) (hl : ldE hs ys = 0) (h : ShkP light height hs mt terr least (isum ys)) :
    1 ≤ stfD light mt ys ∧ stfD light mt ys ≤ 10000000000 ∧ least * stfD light mt ys ≤ stfN light height hs mt terr ys := by
  obtain ⟨xs, hb, hs1⟩ := h
  obtain ⟨b1, b2, b3, b4, b5, b6⟩ := load_bd k hl
  have hlb := k.lightB
  obtain ⟨ha, _⟩ := atR_bd k.mtv b5.1 b5.2
  have hv := best_ls hb (by simp) hl rfl
  unfold stdB spS at hs1
  simp only [decide_eq_true_eq] at hs1
  rw [hb.sum] at hs1
  have hr : riseS light height hs ys ≤ riseS light height hs xs := by unfold riseS; omega
  unfold stfD stfN
  generalize riseS light height hs ys = r at *
  generalize riseS light height hs xs = r2 at *
  generalize (atR mt (light + isum ys)).1 = num at *
  generalize (atR mt (light + isum ys)).2 = den at *
  have hd1 : 1 ≤ light + isum ys := by omega
  generalize light + isum ys = d at *
  have m1 := mul_bd (A := 80000) (B := 65536) (x := den) (y := d) (by omega) (by omega) (by omega) (by omega)
  have m2 := Int.mul_le_mul ha.1 hd1 (by omega) (by omega)
  have m3 := Int.mul_le_mul_of_nonneg_right hr (show 0 ≤ den by omega)
  refine ⟨by omega, by omega, ?_⟩
  have e1 : (num - (terr + least) * den) * d = (num - terr * den) * d - least * (den * d) := by
    rw [Int.add_mul, ← Int.sub_sub, Int.sub_mul (num - terr * den), Int.mul_assoc least den d]
  rw [e1] at hs1
  omega
theorem endS_mono {num den turn merr a b : Int} (hd : 1 ≤ den) (ht : 1 ≤ turn) (h : a ≤ b) : (endS num den turn merr a).2 ≤ (endS num den turn merr b).2 := by
  unfold endS
  dsimp only
  have hp : 0 < den * 2 * turn := by
    have := Int.mul_le_mul (show (2 : Int) ≤ den * 2 by omega) ht (by omega) (by omega)
    omega
  have hm := Int.mul_le_mul_of_nonneg_right h (show 0 ≤ den by omega)
  have := Int.ediv_le_ediv hp (show -(num * 2 * turn + b * den) ≤ -(num * 2 * turn + a * den) by omega)
  omega
/-- A ship lies no deeper than with the loadings with the greatest moments. -/
theorem deep_of {id light lever height turn least : Int} {hs : List Hl} {mn mt : List (Int × Int)} {merr terr : Int} {ys : List Int} {D : Int} (k : ShipOk id light lever height turn least hs mn merr mt terr) (hl : ldE hs ys = 0) (h1 : DpA light lever hs mn merr turn (isum ys) D) (h2 : DpB light lever hs mn merr turn (isum ys) D) :
    (fltS light lever hs mn merr turn ys 1).2 ≤ D ∧ (fltS light lever hs mn merr turn ys (-1)).2 ≤ D := by
  obtain ⟨b1, b2, b3, b4, b5, b6⟩ := load_bd k hl
  obtain ⟨ha, _⟩ := atR_bd k.mnv b6.1 b6.2
  constructor
  · obtain ⟨xs, hb, hx⟩ := h1
    have hv := best_ls hb (by simp) hl rfl
    refine Int.le_trans ?_ hx
    unfold fltS
    rw [hb.sum]
    exact endS_mono ha.1 k.turnB.1 (by unfold momS; omega)
  · obtain ⟨xs, hb, hx⟩ := h2
    have hv := best_ls hb (by simp) hl rfl
    refine Int.le_trans ?_ hx
    unfold fltS
    rw [hb.sum]
    have hn : ∀ (ls : List Hl) (zs : List Int), valF (ls.map fun x => -x.lever) zs = -valF (ls.map Hl.lever) zs := by
      intro ls
      induction ls with
      | nil => intro zs; simp [valF]
      | cons x t ih =>
        intro zs
        cases zs with
        | nil => simp [valF]
        | cons z zs => simp only [List.map_cons, valF, ih]; rw [Int.neg_mul]; omega
    rw [hn, hn] at hv
    exact endS_mono ha.1 k.turnB.1 (by unfold momS; omega)
set_option maxRecDepth 100000 in
set_option maxHeartbeats 6400000 in
theorem safe_any (id light lever height : Int) (A : Option Addr) (n c : Nat) (B : Option Addr) (m d : Nat) (merr : Int) (C : Option Addr) (q r : Nat) (terr turn least : Int) (hs : List Hl) (mn mt : List (Int × Int)) (X : Option Addr) (p pc : Nat) (xs : List Int) (depth keel : Int) (w : World) (hA : SAt encL 4 w A n hs) (hB : CAt w B m mn) (hC : CAt w C q mt) (hn : n ≤ 9223372036854775807) (hm : m ≤ 9223372036854775807) (hq : q ≤ 9223372036854775807) (hc : n ≤ c) (hX : SAt encI 1 w X p xs) (hE : loadE (shipE id light lever height turn least hs mn merr mt terr) hs xs = 0) (hst : ShkP light height hs mt terr least (isum xs)) (hcl : ∃ a z, a ≤ isum xs ∧ isum xs ≤ z ∧ ClrP light lever hs mn merr turn a z depth keel) :
    Calls Tryz.prog 14 #[.agg (cSp id light lever height A n c B m d merr C q r terr turn least), .slice X p pc, .int .i64 depth, .int .i64 keel] w fun e w' => e = .returned (.bool true) ∧ Below w.heap.size w w' := by
  have hSE := (loadE_zero hE).1
  have hld := (loadE_zero hE).2
  have hok := shipE_zero hSE
  obtain ⟨s1, s2, s3⟩ := stiff_of hok hld hst
  have l1 := low_ge s1 s3
  have l2 := lowD_le (n := (stfN light height hs mt terr xs)) s1
  have l3 : 1 ≤ lowD (stfN light height hs mt terr xs) (stfD light mt xs) := let ⟨_, _, _, _, h⟩ := low_ok (n := (stfN light height hs mt terr xs)) s1; h
  obtain ⟨a, z, h1, h2, hk, D, hD, hall⟩ := hcl
  obtain ⟨dA, dB⟩ := hall _ h1 h2
  obtain ⟨d1, d2⟩ := deep_of hok hld dA dB
  have bf1 := flt_bd hok hld (s := 1) (.inl rfl)
  have bf2 := flt_bd hok hld (s := -1) (.inr rfl)
  have hlb := hok.leastB
  have HSt := Lib.hid (fun (u : World) (hu : Below w.heap.size w u) => Stiff_any id light lever height A n c B m d merr C q r terr turn least hs mn mt X p pc xs u (hA.below hu) (hB.below hu) (hC.below hu) hn hm hq hc (hX.below hu) hE)
  have HAf := Lib.hid (fun (u : World) (hu : Below w.heap.size w u) => HAfloat_any id light lever height A n c B m d merr C q r terr turn least hs mn mt X p pc xs u (hA.below hu) (hB.below hu) (hC.below hu) hn hm hq hc (hX.below hu) hE)
  clear hA hB hC hX hE hSE hld hok hst s3 h1 h2 hall dA dB
  generalize lowN (stfN light height hs mt terr xs) (stfD light mt xs) = N at *
  generalize lowD (stfN light height hs mt terr xs) (stfD light mt xs) = E at *
  generalize fltS light lever hs mn merr turn xs 1 = f at *
  generalize fltS light lever hs mn merr turn xs (-1) = e at *
  generalize (stfD light mt xs) = sd at *
  obtain ⟨f1, f2⟩ := f
  obtain ⟨a1, a2⟩ := e
  dsimp only at d1 d2 bf1 bf2 HAf
  try dsimp only [vDr] at HAf
  have m1 := mul_bd (A := 5000) (B := 10000000000) (x := least) (y := E) (by omega) (by omega) (by omega) (by omega)
  have hb0 := below_new w (.cells (cSp id light lever height A n c B m d merr C q r terr turn least) 27)
  have t0 := Blk.new w 27 (cSp id light lever height A n c B m d merr C q r terr turn least)
  go_enter Tryz.func14, Tryz.ntmps14
  go_upto_region 1 with fail
  generalize hW : w.alloc (.cells (cSp id light lever height A n c B m d merr C q r terr turn least) 27) = W at *
  clear hW
  have HT0 := Lib.hid t0
  have HB0 := Lib.hid hb0
  obtain ⟨tl, s0', s1', s2', s3', s4, s5, s6, s7, s8, s9, s10⟩ := blk11 t0
  clear t0 hb0
  go_upto_region 2 with (go_at_call 32; (with_reducible refine (HSt.out _ HB0.out).mono ?_); rintro e u1 ⟨rfl, hb1⟩)
  have bq := below_new u1 (.cells #[.int .i64 N, .int .i64 E] 89)
  have bn := hb1.trans (bq.mono hb1.size)
  have HT1 := Lib.hid (HT0.out.below bn)
  have HB1 := Lib.hid (HB0.out.trans (bn.mono HB0.out.size))
  have HN1 := Lib.hid (Blk.new u1 89 #[.int .i64 N, .int .i64 E])
  generalize hV : u1.alloc (.cells #[.int .i64 N, .int .i64 E] 89) = V at *
  generalize hg : u1.heap.size = g9 at *
  clear hV hg bq bn hb1 tl s0' s1' s2' s3' s4 s5 s6 s7 s8 s9 s10 HT0 HB0 HSt
  obtain ⟨tl, s0', s1', s2', s3', s4, s5, s6, s7, s8, s9, s10⟩ := blk11 HT1.out
  go_upto_region 3 with (go_at_call 33; (with_reducible refine (HAf.out _ HB1.out).mono ?_); rintro e u2 ⟨rfl, hb2⟩)
  have bq := below_new u2 (.cells #[.int .i64 f1, .int .i64 f2, .int .i64 a1, .int .i64 a2] 93)
  have bn := hb2.trans (bq.mono hb2.size)
  have ht2 := HT1.out.below bn
  have HB2 := Lib.hid (HB1.out.trans (bn.mono HB1.out.size))
  have hn2 := HN1.out.below bn
  have hd2 := Blk.new u2 93 #[.int .i64 f1, .int .i64 f2, .int .i64 a1, .int .i64 a2]
  generalize hV : u2.alloc (.cells #[.int .i64 f1, .int .i64 f2, .int .i64 a1, .int .i64 a2] 93) = V2 at *
  generalize hg : u2.heap.size = g11 at *
  clear hV hg bq bn hb2 tl s0' s1' s2' s3' s4 s5 s6 s7 s8 s9 s10 HT1 HB1 HN1 HAf
  obtain ⟨tl, s0', s1', s2', s3', s4, s5, s6, s7, s8, s9, s10⟩ := blk11 ht2
  obtain ⟨z0, z1, zl⟩ := cells2 hn2
  obtain ⟨x0, x1, x2, x3, xl⟩ := cells4 hd2
  clear ht2 hn2 hd2
  have hdc1 : decide (least * E ≤ N) = true := decide_eq_true l1
  by_cases hmx : f2 < a2
  · have hdc2 : decide (a2 + keel ≤ depth) = true := decide_eq_true (by omega)
    go_wp2
    exact bodyPost_ret (v := .bool true) (by simp [results, Tryz.results14, go_sem]) rfl ⟨rfl, HB2.out⟩
  · have hdc2 : decide (f2 + keel ≤ depth) = true := decide_eq_true (by omega)
    go_wp2
    exact bodyPost_ret (v := .bool true) (by simp [results, Tryz.results14, go_sem]) rfl ⟨rfl, HB2.out⟩
end Go.Proofs.YtgojpgggbflgoaaGreat

namespace Go.Proofs.YtgojpgggbflgoaaGreat
open Go.RowKit

/-- Sixteen times a mean draught is that of a mass in water of a density. -/
def fitP (mn : List (Int × Int)) (merr N mm dd : Int) : Prop :=
  (mn.length = 1 ∧ 25 * mm = kx mn 0 * dd ∧ N - 16 * ky mn 0 ≤ 16 * merr ∧ 16 * ky mn 0 - N ≤ 16 * merr) ∨
  ∃ i, i + 1 < mn.length ∧ kx mn i * dd ≤ 25 * mm ∧ 25 * mm ≤ kx mn (i + 1) * dd ∧
    N * ((kx mn (i + 1) - kx mn i) * dd) - 16 * (ky mn i * ((kx mn (i + 1) - kx mn i) * dd) + (ky mn (i + 1) - ky mn i) * (25 * mm - kx mn i * dd)) ≤ 16 * merr * ((kx mn (i + 1) - kx mn i) * dd) ∧
    16 * (ky mn i * ((kx mn (i + 1) - kx mn i) * dd) + (ky mn (i + 1) - ky mn i) * (25 * mm - kx mn i * dd)) - N * ((kx mn (i + 1) - kx mn i) * dd) ≤ 16 * merr * ((kx mn (i + 1) - kx mn i) * dd)
/-- The same for one piece of the curve. -/
def segF (mn : List (Int × Int)) (merr N mm dd : Int) (j : Nat) : Bool := decide (N * ((kx mn (j + 1) - kx mn j) * dd) - 16 * (ky mn j * ((kx mn (j + 1) - kx mn j) * dd) + (ky mn (j + 1) - ky mn j) * (25 * mm - kx mn j * dd)) ≤ 16 * merr * ((kx mn (j + 1) - kx mn j) * dd)) && decide (16 * (ky mn j * ((kx mn (j + 1) - kx mn j) * dd) + (ky mn (j + 1) - ky mn j) * (25 * mm - kx mn j * dd)) - N * ((kx mn (j + 1) - kx mn j) * dd) ≤ 16 * merr * ((kx mn (j + 1) - kx mn j) * dd))
def fitF (mn : List (Int × Int)) (merr N mm dd : Int) : Bool :=
  if 25 * mm < kx mn 0 * dd then false else if kx mn (mn.length - 1) * dd < 25 * mm then false else
  if mn.length = 1 then decide (N - 16 * ky mn 0 ≤ 16 * merr) && decide (16 * ky mn 0 - N ≤ 16 * merr) else
  match (List.range (mn.length - 1)).find? fun j => decide (25 * mm ≤ kx mn (j + 1) * dd) with | some j => segF mn merr N mm dd j | none => false
theorem fit_find {mn : List (Int × Int)} {mm dd : Int} {k j : Nat} (h : j < k) (h1 : 25 * mm ≤ kx mn (j + 1) * dd) (h2 : ∀ i, i < j → kx mn (i + 1) * dd < 25 * mm) : (List.range k).find? (fun j => decide (25 * mm ≤ kx mn (j + 1) * dd)) = some j := by
  rw [List.find?_range_eq_some]
  exact ⟨decide_eq_true h1, List.mem_range.2 h, fun i hi => by have := h2 i hi; simp; omega⟩
theorem fitF_P {mn : List (Int × Int)} {merr N mm dd : Int} (hp : 0 < mn.length) (h : fitF mn merr N mm dd = true) : fitP mn merr N mm dd := by
  unfold fitF at h
  split at h
  · cases h
  · split at h
    · cases h
    · rename_i c1 c2
      split at h
      · rename_i c3
        simp only [Bool.and_eq_true, decide_eq_true_eq] at h
        rw [c3, Nat.sub_self] at c2
        exact .inl ⟨c3, by omega, h.1, h.2⟩
      · split at h
        · rename_i j hj
          rw [List.find?_range_eq_some] at hj
          obtain ⟨q1, q2, q3⟩ := hj
          have q4 := List.mem_range.1 q2
          unfold segF at h
          simp only [Bool.and_eq_true, decide_eq_true_eq] at h q1
          refine .inr ⟨j, by omega, ?_, q1, h.1, h.2⟩
          match j, q3 with
          | 0, _ => omega
          | j + 1, q3 =>
            have := q3 j (by omega)
            simp at this
            omega
        · cases h
/-- A Boolean is returned, and if it is true, so is P. -/
def BoolP (P : Prop) (e : Ending) : Prop := ∃ b, e = .returned (.bool b) ∧ (b = true → P)
theorem BoolP.no {P : Prop} : BoolP P (.returned (.bool false)) := ⟨_, rfl, fun h => (by cases h)⟩
theorem BoolP.of {P : Prop} {b : Bool} (h : b = true → P) : BoolP P (.returned (.bool b)) := ⟨_, rfl, h⟩
set_option maxRecDepth 100000 in
set_option maxHeartbeats 12800000 in
theorem Fits_any (id light lever height : Int) (A : Option Addr) (n c : Nat) (B : Option Addr) (m d : Nat) (merr : Int) (C : Option Addr) (q r : Nat) (terr turn least : Int) (mn : List (Int × Int)) (N mm dd : Int) (w : World) (hB : CAt w B m mn) (hv : Valid mn) (hme : 0 ≤ merr ∧ merr ≤ 4000) (hN : -2000000 ≤ N ∧ N ≤ 2000000) (hm0 : 0 ≤ mm ∧ mm ≤ 65536) (hd0 : 900 ≤ dd ∧ dd ≤ 1100) :
    Calls Tryz.prog 45 #[.agg (cSp id light lever height A n c B m d merr C q r terr turn least), .int .i64 N, .int .i64 mm, .int .i64 dd] w fun e w' => e = .returned (.bool (fitF mn merr N mm dd)) ∧ Below w.heap.size w w' := by
  obtain ⟨b, off, rfl, hk⟩ := hB.at_ (by have := hB.len; have := hv.pos; omega)
  have hlen : mn.length = m := hB.len
  have hp := hv.pos
  have hle := hv.le
  have HF0 := Lib.hid (show 25 * mm < kx mn 0 * dd → fitF mn merr N mm dd = false from fun h => by unfold fitF; rw [if_pos h])
  have HF1 := Lib.hid (show ¬ 25 * mm < kx mn 0 * dd → kx mn (mn.length - 1) * dd < 25 * mm → fitF mn merr N mm dd = false from fun h h2 => by unfold fitF; rw [if_neg h, if_pos h2])
  have HFa := Lib.hid (show ¬ 25 * mm < kx mn 0 * dd → ¬ kx mn (mn.length - 1) * dd < 25 * mm → mn.length = 1 → fitF mn merr N mm dd = (decide (N - 16 * ky mn 0 ≤ 16 * merr) && decide (16 * ky mn 0 - N ≤ 16 * merr)) from fun h h2 h3 => by unfold fitF; rw [if_neg h, if_neg h2, if_pos h3])
  have HFb := Lib.hid (show ∀ j, ¬ 25 * mm < kx mn 0 * dd → ¬ kx mn (mn.length - 1) * dd < 25 * mm → mn.length ≠ 1 → j < mn.length - 1 → (∀ i, i < j → kx mn (i + 1) * dd < 25 * mm) → 25 * mm ≤ kx mn (j + 1) * dd →
    fitF mn merr N mm dd = (decide (N * ((kx mn (j + 1) - kx mn j) * dd) - 16 * (ky mn j * ((kx mn (j + 1) - kx mn j) * dd) + (ky mn (j + 1) - ky mn j) * (25 * mm - kx mn j * dd)) ≤ 16 * merr * ((kx mn (j + 1) - kx mn j) * dd)) && decide (16 * (ky mn j * ((kx mn (j + 1) - kx mn j) * dd) + (ky mn (j + 1) - ky mn j) * (25 * mm - kx mn j * dd)) - N * ((kx mn (j + 1) - kx mn j) * dd) ≤ 16 * merr * ((kx mn (j + 1) - kx mn j) * dd))) from fun j h h2 h3 h4 h5 h6 => by unfold fitF; rw [if_neg h, if_neg h2, if_neg h3, fit_find h4 h6 h5]; rfl)
  generalize fitF mn merr N mm dd = R at *
  have HL := Lib.hid hlen
  have HK := Lib.hid hk
  have HV := Lib.hid hv
  rw [hlen] at hp hle
  obtain ⟨kk, rfl⟩ : ∃ kk, m = kk + 1 := ⟨m - 1, by omega⟩
  have hx0 := hv.x0 0 hv.pos
  have hy0 := hv.y0 0 hv.pos
  have hxl := hv.x0 kk (by omega)
  have HKl := Lib.hid (show ∀ u, Below w.heap.size w u → u.cell? ⟨b, off, none⟩ = some (.int .i64 (kx mn 0)) ∧ u.cell? ⟨b, off + 1, none⟩ = some (.int .i64 (ky mn 0)) ∧ u.cell? ⟨b, off + kk * 2, none⟩ = some (.int .i64 (kx mn kk)) ∧ b < u.heap.size from fun u hu => by
    have c0 := (hk.below hu).x 0 hv.pos
    have c1 := (hk.below hu).y 0 hv.pos
    rw [Nat.zero_mul, Nat.add_zero] at c0 c1
    exact ⟨c0, c1, (hk.below hu).x kk (by omega), (hk.below hu).lt⟩)
  have ma := mul_bd (A := 2000) (B := 1100) (x := kx mn 0) (y := dd) (by omega) (by omega) (by omega) (by omega)
  have mb := mul_bd (A := 2000) (B := 1100) (x := kx mn kk) (y := dd) (by omega) (by omega) (by omega) (by omega)
  have hb0 := below_new w (.cells (cSp id light lever height A n c (some ⟨b, off, none⟩) (kk + 1) d merr C q r terr turn least) 27)
  have t0 := Blk.new w 27 (cSp id light lever height A n c (some ⟨b, off, none⟩) (kk + 1) d merr C q r terr turn least)
  clear hB hv hk hlen
  go_enter Tryz.func45, Tryz.ntmps45
  go_upto_region 1 with fail
  generalize hW : w.alloc (.cells (cSp id light lever height A n c (some ⟨b, off, none⟩) (kk + 1) d merr C q r terr turn least) 27) = W at *
  clear hW
  have HT := Lib.hid t0
  have HB := Lib.hid hb0
  clear t0 hb0
  obtain ⟨tl, s0, s1, s2, s3, s4, s5, s6, s7, s8, s9, s10⟩ := blk11 HT.out
  obtain ⟨k0, k1, k2, kl⟩ := HKl.out W HB.out
  by_cases c1 : 25 * mm < kx mn 0 * dd
  · have d1 : decide (25 * mm < kx mn 0 * dd) = true := decide_eq_true c1
    have hR := HF0.out c1
    subst hR
    go_wp2
    exact bodyPost_ret (v := .bool false) (by simp [results, Tryz.results45, go_sem]) rfl ⟨rfl, HB.out⟩
  have d1 : decide (25 * mm < kx mn 0 * dd) = false := decide_eq_false c1
  by_cases c2 : kx mn kk * dd < 25 * mm
  · have d2 : decide (kx mn kk * dd < 25 * mm) = true := decide_eq_true c2
    have hR := HF1.out c1 (by rw [HL.out]; exact c2)
    subst hR
    go_wp2
    exact bodyPost_ret (v := .bool false) (by simp [results, Tryz.results45, go_sem]) rfl ⟨rfl, HB.out⟩
  have d2 : decide (kx mn kk * dd < 25 * mm) = false := decide_eq_false c2
  by_cases hk0 : kk = 0
  · subst hk0
    have hR := HFa.out c1 (by rw [HL.out]; exact c2) HL.out
    clear HF0 HF1 HFa HFb
    rw [Nat.zero_mul, Nat.add_zero] at k2
    simp only [Nat.zero_add]
    generalize ky mn 0 = ya at *
    obtain ⟨xc, xf'⟩ := xcell (W := W)
    by_cases g1 : N - 16 * ya ≤ 16 * merr
    · have g1d : decide (N - 16 * ya ≤ 16 * merr) = true := decide_eq_true g1
      rw [g1d, Bool.true_and] at hR
      subst hR
      go_upto_region 5 with fail
      refine wp_region_quiet_tail 27 (by kernel_rfl) (by kernel_rfl) ?_
      simp only [List.take_succ_cons, List.take_zero, List.drop_succ_cons, List.drop_zero]
      repeat (first | go_big_quiet_step (fail) | quiet_step (fail))
      refine wpQuiet_nil ?_
      intro w2 hb2
      have HB2 := Lib.hid (HB.out.trans (hb2.mono HB.out.size))
      go_wp2
      exact bodyPost_ret (v := .bool (decide (16 * ya - N ≤ 16 * merr))) (by simp [results, Tryz.results45, go_sem]) rfl ⟨rfl, HB2.out⟩
    · have g1d : decide (N - 16 * ya ≤ 16 * merr) = false := decide_eq_false g1
      rw [g1d, Bool.false_and] at hR
      subst hR
      go_upto_region 5 with fail
      refine wp_region_quiet_tail 27 (by kernel_rfl) (by kernel_rfl) ?_
      simp only [List.take_succ_cons, List.take_zero, List.drop_succ_cons, List.drop_zero]
      repeat (first | go_big_quiet_step (fail) | quiet_step (fail))
      refine wpQuiet_nil ?_
      intro w2 hb2
      have HB2 := Lib.hid (HB.out.trans (hb2.mono HB.out.size))
      go_wp2
      exact bodyPost_ret (v := .bool false) (by simp [results, Tryz.results45, go_sem]) rfl ⟨rfl, HB2.out⟩
  · have hk1 : (((kk : Int) + 1) == 1) = false := by simp; omega
    go_upto_region 7 with fail
    have HFg := Lib.hid (fun (j : Nat) (h : j < kk) => HFb.out j c1 (by rw [HL.out]; exact c2) (by rw [HL.out]; omega) (by rw [HL.out]; exact h))
    clear k0 k1 k2 tl s0 s1 s2 s3 s4 s5 s6 s7 s8 s9 s10 HF0 HF1 HFa HFb ma d1 d2
    go_loopw [10] (fun i wx => ∃ j : Nat, j < kk ∧ i = .int .i64 ((j : Int) + 1) ∧ kx mn j * dd ≤ 25 * mm ∧ (∀ i, i < j → kx mn (i + 1) * dd < 25 * mm) ∧ wx = W) (fun i _ => kk - (intOf i).toNat)
    case atStart => exact ⟨0, by omega, rfl, by omega, fun i h => absurd h (by omega), rfl⟩
    case round =>
      obtain ⟨j, hj, rfl, hle2, hbf, rfl⟩ := hrel
      have hx1 := HV.out.x0 j (by rw [HL.out]; omega)
      have hx2 := HV.out.x0 (j + 1) (by rw [HL.out]; omega)
      have hy1 := HV.out.y0 j (by rw [HL.out]; omega)
      have hy2 := HV.out.y0 (j + 1) (by rw [HL.out]; omega)
      have hup := HV.out.up j (by rw [HL.out]; omega)
      have HKx := Lib.hid (fun (u : World) (hu : Below wr.heap.size wr u) => let K := HK.out.below (HB.out.trans (hu.mono HB.out.size)); And.intro (K.x j (by rw [HL.out]; omega)) (And.intro (K.y j (by rw [HL.out]; omega)) (And.intro (K.x (j + 1) (by rw [HL.out]; omega)) (And.intro (K.y (j + 1) (by rw [HL.out]; omega)) K.lt))))
      have HFc := Lib.hid (HFg.out j hj hbf)
      have HBf := Lib.hid hbf
      have hlast : j + 1 = kk → 25 * mm ≤ kx mn (j + 1) * dd := fun e => by rw [e]; omega
      have hle3 := hle2
      clear hbf HFg c2
      generalize hxq : kx mn (j + 1) = xq at *
      have HXq := Lib.hid hxq
      clear hxq
      generalize ky mn (j + 1) = yq at *
      generalize kx mn j = xp at *
      generalize ky mn j = yp at *
      have ma := mul_bd (A := 2000) (B := 1100) (x := xp) (y := dd) (by omega) (by omega) (by omega) (by omega)
      have mc := mul_bd (A := 2000) (B := 1100) (x := xq) (y := dd) (by omega) (by omega) (by omega) (by omega)
      have md := mul_bd (A := 2000) (B := 1100) (x := xq - xp) (y := dd) (by omega) (by omega) (by omega) (by omega)
      have me := mul_bd (A := 65536) (B := 2200000) (x := yp) (y := (xq - xp) * dd) (by omega) (by omega) (by omega) (by omega)
      have mf := mul_bd (A := 131072) (B := 4000000) (x := yq - yp) (y := 25 * mm - xp * dd) (by omega) (by omega) (by omega) (by omega)
      have mg := mul_bd (A := 2000000) (B := 2200000) (x := N) (y := (xq - xp) * dd) (by omega) (by omega) (by omega) (by omega)
      have mh := mul_bd (A := 64000) (B := 2200000) (x := 16 * merr) (y := (xq - xp) * dd) (by omega) (by omega) (by omega) (by omega)
      obtain ⟨e0, e1, e2, e3, el⟩ := HKx.out wr (Below.refl _ _)
      by_cases hjl : j + 1 < kk
      · have hj1 : decide ((j : Int) + 1 < (kk : Int)) = true := decide_eq_true (by omega)
        by_cases c3 : xq * dd < 25 * mm
        · have c3d : decide (xq * dd < 25 * mm) = true := decide_eq_true c3
          go_wp2
          go_roundw
          case rel => exact ⟨j + 1, by omega, by go_num, by rw [HXq.out]; omega, fun i hi => by
            by_cases e : i = j
            · rw [e, HXq.out]; exact c3
            · exact HBf.out i (by omega), by first | rfl | trivial⟩
          case measure => simp [intOf]; omega
        · have c3d : decide (xq * dd < 25 * mm) = false := decide_eq_false c3
          have b1 := below_new wr (.cells #[.int .i64 xp, .int .i64 yp] 97)
          have b2 := b1.trans ((below_new (wr.alloc (.cells #[.int .i64 xp, .int .i64 yp] 97)) (.cells #[.int .i64 xq, .int .i64 yq] 97)).mono b1.size)
          have HB2 := Lib.hid (HB.out.trans (b2.mono HB.out.size))
          obtain ⟨p0, p1, p2, p3, pl⟩ := HKx.out wr (Below.refl _ _)
          obtain ⟨q0, q1, q2, q3, ql⟩ := HKx.out _ b1
          obtain ⟨tl', s0', s1', s2', s3', s4', s5', s6', s7', s8', s9', s10'⟩ := blk11 (HT.out.below b2)
          by_cases g1 : N * ((xq - xp) * dd) - 16 * (yp * ((xq - xp) * dd) + (yq - yp) * (25 * mm - xp * dd)) ≤ 16 * merr * ((xq - xp) * dd)
          · have g1d : decide (N * ((xq - xp) * dd) - 16 * (yp * ((xq - xp) * dd) + (yq - yp) * (25 * mm - xp * dd)) ≤ 16 * merr * ((xq - xp) * dd)) = true := decide_eq_true g1
            have hR := HFc.out (by omega)
            rw [g1d, Bool.true_and] at hR
            subst hR
            go_wp2
            exact bodyPost_ret (v := .bool (decide (16 * (yp * ((xq - xp) * dd) + (yq - yp) * (25 * mm - xp * dd)) - N * ((xq - xp) * dd) ≤ 16 * merr * ((xq - xp) * dd)))) (by simp [results, Tryz.results45, go_sem]) rfl ⟨rfl, HB2.out⟩
          · have g1d : decide (N * ((xq - xp) * dd) - 16 * (yp * ((xq - xp) * dd) + (yq - yp) * (25 * mm - xp * dd)) ≤ 16 * merr * ((xq - xp) * dd)) = false := decide_eq_false g1
            have hR := HFc.out (by omega)
            rw [g1d, Bool.false_and] at hR
            subst hR
            go_wp2
            exact bodyPost_ret (v := .bool false) (by simp [results, Tryz.results45, go_sem]) rfl ⟨rfl, HB2.out⟩
      · have hj1 : decide ((j : Int) + 1 < (kk : Int)) = false := decide_eq_false (by omega)
        have hlx := hlast (by omega)
        have b1 := below_new wr (.cells #[.int .i64 xp, .int .i64 yp] 97)
        have b2 := b1.trans ((below_new (wr.alloc (.cells #[.int .i64 xp, .int .i64 yp] 97)) (.cells #[.int .i64 xq, .int .i64 yq] 97)).mono b1.size)
        have HB2 := Lib.hid (HB.out.trans (b2.mono HB.out.size))
        obtain ⟨p0, p1, p2, p3, pl⟩ := HKx.out wr (Below.refl _ _)
        obtain ⟨q0, q1, q2, q3, ql⟩ := HKx.out _ b1
        obtain ⟨tl', s0', s1', s2', s3', s4', s5', s6', s7', s8', s9', s10'⟩ := blk11 (HT.out.below b2)
        by_cases g1 : N * ((xq - xp) * dd) - 16 * (yp * ((xq - xp) * dd) + (yq - yp) * (25 * mm - xp * dd)) ≤ 16 * merr * ((xq - xp) * dd)
        · have g1d : decide (N * ((xq - xp) * dd) - 16 * (yp * ((xq - xp) * dd) + (yq - yp) * (25 * mm - xp * dd)) ≤ 16 * merr * ((xq - xp) * dd)) = true := decide_eq_true g1
          have hR := HFc.out (by omega)
          rw [g1d, Bool.true_and] at hR
          subst hR
          go_wp2
          exact bodyPost_ret (v := .bool (decide (16 * (yp * ((xq - xp) * dd) + (yq - yp) * (25 * mm - xp * dd)) - N * ((xq - xp) * dd) ≤ 16 * merr * ((xq - xp) * dd)))) (by simp [results, Tryz.results45, go_sem]) rfl ⟨rfl, HB2.out⟩
        · have g1d : decide (N * ((xq - xp) * dd) - 16 * (yp * ((xq - xp) * dd) + (yq - yp) * (25 * mm - xp * dd)) ≤ 16 * merr * ((xq - xp) * dd)) = false := decide_eq_false g1
          have hR := HFc.out (by omega)
          rw [g1d, Bool.false_and] at hR
          subst hR
          go_wp2
          exact bodyPost_ret (v := .bool false) (by simp [results, Tryz.results45, go_sem]) rfl ⟨rfl, HB2.out⟩
end Go.Proofs.YtgojpgggbflgoaaGreat

namespace Go.Proofs.YtgojpgggbflgoaaGreat
open Go.RowKit

/-- Errors that hydrometers truly had. -/
structure ErrP (ys : List Hy) (gs : List Gs) (es : List Int) : Prop where
  len : es.length = ys.length
  ok : bulbE ys gs = 0
  er : ∀ i (h : i < ys.length) (h' : i < es.length), ((ys[i]).lo ≤ es[i] ∧ es[i] ≤ (ys[i]).hi) ∧ ∀ j (q : j < gs.length), (gs[j]).hy = (ys[i]).id → (gs[j]).lo ≤ (gs[j]).dense + es[i] ∧ (gs[j]).dense + es[i] ≤ (gs[j]).hi
theorem shows_all (a b n : Int) (w : World) : Calls Tryz.prog 10 #[vSp a b, .int .i64 n] w fun e w' => e = .returned (.bool (inB n a b)) ∧ Below w.heap.size w w' := shows_any _ _ _ _
set_option maxRecDepth 100000 in
set_option maxHeartbeats 12800000 in
theorem errors1_any (Y : Option Addr) (ny cy : Nat) (G : Option Addr) (ng cg : Nat) (ys : List Hy) (gs : List Gs) (E : Option Addr) (ne ce : Nat) (es : List Int) (w : World) (hY : SAt encY 3 w Y ny ys) (hG : SAt encG 5 w G ng gs) (hny : ny ≤ 1000000) (hng : ng ≤ 1000000) (hS : SAt encI 1 w E ne es) (hne : ne ≤ 9223372036854775807) :
    Calls Tryz.prog 6 #[.agg #[.slice Y ny cy, .slice G ng cg], .slice E ne ce] w fun e w' => BoolP (ErrP ys gs es) e ∧ Below w.heap.size w w' := by
  have hb0 := below_new w (.cells #[.slice Y ny cy, .slice G ng cg] 31)
  have t0 := Blk.new w 31 #[.slice Y ny cy, .slice G ng cg]
  have hyl := hY.len
  have hgl := hG.len
  have HEl := Lib.hid hS.len
  have HCb := Lib.hid (CheckBulbs_any Y ny cy G ng cg ys gs _ (hY.below hb0) (hG.below hb0) (by omega) (by omega))
  have HY := Lib.hid (fun (u : World) (hu : Below w.heap.size w u) => hY.below hu)
  have HG := Lib.hid (fun (u : World) (hu : Below w.heap.size w u) => hG.below hu)
  have HS := Lib.hid (fun (u : World) (hu : Below w.heap.size w u) => hS.below hu)
  have HFin := Lib.hid (fun (h1 : ne = ny) (h2 : bulbE ys gs = 0) (h3 : ∀ i (h : i < ys.length) (h' : i < es.length), ((ys[i]).lo ≤ es[i] ∧ es[i] ≤ (ys[i]).hi) ∧ ∀ j (q : j < gs.length), (gs[j]).hy = (ys[i]).id → (gs[j]).lo ≤ (gs[j]).dense + es[i] ∧ (gs[j]).dense + es[i] ≤ (gs[j]).hi) => ErrP.mk (ys := ys) (gs := gs) (es := es) (by rw [HEl.out]; omega) h2 h3)
  clear hY hG hS
  generalize ErrP ys gs es = FP at *
  go_enter Tryz.func6, Tryz.ntmps6
  go_upto_region 1 with fail
  generalize hW : w.alloc (.cells #[.slice Y ny cy, .slice G ng cg] 31) = W at *
  clear hW
  have HT := Lib.hid t0
  have HB0 := Lib.hid hb0
  obtain ⟨y0, y1, yl⟩ := cells2 t0
  clear t0 hb0
  by_cases hnn : ne = ny
  case neg =>
    have hnb : ((ne : Int) != (ny : Int)) = true := by simp; omega
    go_wp2
    exact bodyPost_ret (v := .bool false) (by simp [results, Tryz.results6, go_sem]) rfl ⟨BoolP.no, HB0.out⟩
  have hnn2 := hnn.symm
  clear hnn
  subst hnn2
  have hnb : ((ny : Int) != (ny : Int)) = false := by simp
  by_cases hbu : bulbE ys gs = 0
  case neg =>
    have hbb : (bulbE ys gs != 0) = true := by simpa using hbu
    go_wp2_with (go_at_call 21; (with_reducible refine HCb.out.mono ?_); rintro e u1 ⟨rfl, hb1⟩)
    exact bodyPost_ret (v := .bool false) (by simp [results, Tryz.results6, go_sem]) rfl ⟨BoolP.no, HB0.out.trans (hb1.mono HB0.out.size)⟩
  rw [hbu] at HCb
  have HBu := Lib.hid hbu
  have HYb := Lib.hid (bulb_ys hbu)
  have HGb := Lib.hid (bulb_gs hbu)
  clear hbu
  go_upto_region 3 with (go_at_call 21; (with_reducible refine HCb.out.mono ?_); rintro e u1 ⟨rfl, hb1⟩)
  have HT1 := Lib.hid (HT.out.below hb1)
  have HB1 := Lib.hid (HB0.out.trans (hb1.mono HB0.out.size))
  clear hb1 y0 y1 yl HT HB0 HCb
  obtain ⟨y0, y1, yl⟩ := cells2 HT1.out
  go_upto_region 4 with fail
  clear y0 y1 yl
  go_loopw [4, 5, 6, 8, 23, 49] (fun _ _ _ _ i _ wx => ∃ k : Nat, k ≤ ny ∧ i = .int .i64 (k : Int) ∧ (∀ i, i < k → ∀ (h : i < ys.length) (h' : i < es.length), ((ys[i]).lo ≤ es[i] ∧ es[i] ≤ (ys[i]).hi) ∧ ∀ j (q : j < gs.length), (gs[j]).hy = (ys[i]).id → (gs[j]).lo ≤ (gs[j]).dense + es[i] ∧ (gs[j]).dense + es[i] ≤ (gs[j]).hi) ∧ Below u1.heap.size u1 wx) (fun _ _ _ _ i _ _ => ny - (intOf i).toNat)
  case atStart => exact ⟨0, Nat.zero_le _, rfl, fun i h => absurd h (by omega), Below.refl _ _⟩
  case round =>
    obtain ⟨k, hk, rfl, hall, hb⟩ := hrel
    have HAll := Lib.hid hall
    have HB := Lib.hid hb
    clear hall
    by_cases hkn : k < ny
    case neg =>
      have hkn2 : k = ny := by omega
      subst k
      clear hb
      go_wp2
      exact bodyPost_ret (v := .bool true) (by simp [results, Tryz.results6, go_sem]) rfl ⟨BoolP.of fun _ => HFin.out (by trivial) HBu.out fun i h h' => HAll.out i (by omega) h h', HB1.out.trans (HB.out.mono HB1.out.size)⟩
    case pos =>
      have hky : k < ys.length := by omega
      have hke : k < es.length := by rw [HEl.out]; exact hkn
      have hbw := HB1.out.trans (hb.mono HB1.out.size)
      obtain ⟨bY, oY, rfl, hlY⟩ := (HY.out wr hbw).at_ (by omega)
      obtain ⟨bE, oE, rfl, hlE⟩ := (HS.out wr hbw).at_ (by omega)
      obtain ⟨c0, c1, c2⟩ := Hys.at_ hlY (List.getElem?_eq_getElem hky)
      have cl := hlY.lt
      have HEc := Lib.hid (fun (u : World) (hu : Below wr.heap.size wr u) => And.intro ((hlE.below hu).c k _ (List.getElem?_eq_getElem hke) 0 _ rfl) (hlE.below hu).lt)
      simp only [Nat.mul_one, Nat.add_zero] at HEc
      have hyb := HYb.out _ (List.getElem_mem hky)
      have HNx := Lib.hid (show ((ys[k]).lo ≤ es[k] ∧ es[k] ≤ (ys[k]).hi) → (∀ j (q : j < gs.length), (gs[j]).hy = (ys[k]).id → (gs[j]).lo ≤ (gs[j]).dense + es[k] ∧ (gs[j]).dense + es[k] ≤ (gs[j]).hi) → ∀ i, i < k + 1 → ∀ (h : i < ys.length) (h' : i < es.length), ((ys[i]).lo ≤ es[i] ∧ es[i] ≤ (ys[i]).hi) ∧ ∀ j (q : j < gs.length), (gs[j]).hy = (ys[i]).id → (gs[j]).lo ≤ (gs[j]).dense + es[i] ∧ (gs[j]).dense + es[i] ≤ (gs[j]).hi from fun h1 h2 i hi h h' => by
        by_cases e : i = k
        · subst e; exact ⟨h1, h2⟩
        · exact HAll.out i (by omega) h h')
      clear hlY hlE
      generalize es[k] = ek at *
      generalize ys[k] = yk at *
      obtain ⟨xi, xl, xh⟩ := yk
      dsimp only at *
      have b5 := below_new wr (.cells #[.int .i64 xi, .int .i64 xl, .int .i64 xh] 68)
      have HN5 := Lib.hid (Blk.new wr 68 #[.int .i64 xi, .int .i64 xl, .int .i64 xh])
      have HB5 := Lib.hid (hb.trans (b5.mono hb.size))
      have HE5 := Lib.hid (fun (u : World) (hu : Below (wr.alloc (.cells #[.int .i64 xi, .int .i64 xl, .int .i64 xh] 68)).heap.size (wr.alloc (.cells #[.int .i64 xi, .int .i64 xl, .int .i64 xh] 68)) u) => HEc.out u (b5.trans (hu.mono b5.size)))
      go_upto_region 6 with fail
      generalize hV : wr.alloc (.cells #[.int .i64 xi, .int .i64 xl, .int .i64 xh] 68) = V at *
      generalize hg : wr.heap.size = g6 at *
      clear hV hg hb hbw b5 c0 c1 c2 cl HEc
      obtain ⟨e0, el⟩ := HE5.out V (Below.refl _ _)
      obtain ⟨z0, z1, z2, zl⟩ := cells3 HN5.out
      obtain ⟨xc, xf'⟩ := xcell (W := V)
      by_cases h1 : ek < xl
      case pos =>
        have d1 : decide (ek < xl) = true := decide_eq_true h1
        refine wp_region_quiet_tail 18 (by kernel_rfl) (by kernel_rfl) ?_
        simp only [List.take_succ_cons, List.take_zero, List.drop_succ_cons, List.drop_zero]
        repeat (first | go_big_quiet_step (fail) | quiet_step (fail))
        refine wpQuiet_nil ?_
        intro w6 hb6
        have HB6 := Lib.hid (HB1.out.trans ((HB5.out.trans (hb6.mono HB5.out.size)).mono HB1.out.size))
        go_wp2
        exact bodyPost_ret (v := .bool false) (by simp [results, Tryz.results6, go_sem]) rfl ⟨BoolP.no, HB6.out⟩
      have d1 : decide (ek < xl) = false := decide_eq_false h1
      by_cases h2 : xh < ek
      case pos =>
        have d2 : decide (xh < ek) = true := decide_eq_true h2
        refine wp_region_quiet_tail 18 (by kernel_rfl) (by kernel_rfl) ?_
        simp only [List.take_succ_cons, List.take_zero, List.drop_succ_cons, List.drop_zero]
        repeat (first | go_big_quiet_step (fail) | quiet_step (fail))
        refine wpQuiet_nil ?_
        intro w6 hb6
        have HB6 := Lib.hid (HB1.out.trans ((HB5.out.trans (hb6.mono HB5.out.size)).mono HB1.out.size))
        go_wp2
        exact bodyPost_ret (v := .bool false) (by simp [results, Tryz.results6, go_sem]) rfl ⟨BoolP.no, HB6.out⟩
      have d2 : decide (xh < ek) = false := decide_eq_false h2
      refine wp_region_quiet_tail 18 (by kernel_rfl) (by kernel_rfl) ?_
      simp only [List.take_succ_cons, List.take_zero, List.drop_succ_cons, List.drop_zero]
      repeat (first | go_big_quiet_step (fail) | quiet_step (fail))
      refine wpQuiet_nil ?_
      intro w6 hb6
      have HB6 := Lib.hid (HB5.out.trans (hb6.mono HB5.out.size))
      have HN6 := Lib.hid (HN5.out.below hb6)
      have HE6 := Lib.hid (fun (u : World) (hu : Below w6.heap.size w6 u) => HE5.out u (hb6.trans (hu.mono hb6.size)))
      clear xc xf' e0 el z0 z1 z2 zl hb6 HE5 HN5 HB5 d1 d2
      obtain ⟨y0, y1, yl⟩ := cells2 (HT1.out.below HB6.out)
      go_upto_region 8 with fail
      go_upto_region 9 with fail
      clear y0 y1 yl
      go_loopw [4, 8, 49] (fun _ _ i wx => ∃ j : Nat, j ≤ ng ∧ i = .int .i64 (j : Int) ∧ (∀ i, i < j → ∀ (q : i < gs.length), (gs[i]).hy = xi → (gs[i]).lo ≤ (gs[i]).dense + ek ∧ (gs[i]).dense + ek ≤ (gs[i]).hi) ∧ Below w6.heap.size w6 wx) (fun _ _ i _ => ng - (intOf i).toNat)
      case atStart => exact ⟨0, Nat.zero_le _, rfl, fun i h => absurd h (by omega), Below.refl _ _⟩
      case round =>
        rename World => wq
        obtain ⟨j, hj, rfl, hall2, hb2⟩ := hrel
        have HAl2 := Lib.hid hall2
        have HBq := Lib.hid hb2
        clear hall2
        by_cases hjn : j < ng
        case neg =>
          have hjn2 : j = ng := by omega
          subst j
          clear hb2
          go_wp2
          go_roundw
          case rel => exact ⟨k + 1, by omega, by go_num, HNx.out ⟨by omega, by omega⟩ (fun j q hh => HAl2.out j (by omega) q hh), HB6.out.trans (HBq.out.mono HB6.out.size)⟩
          case measure => simp [intOf]; omega
        case pos =>
          have hjg : j < gs.length := by omega
          have hbw := HB1.out.trans ((HB6.out.trans (hb2.mono HB6.out.size)).mono HB1.out.size)
          obtain ⟨bG, oG, rfl, hlG⟩ := (HG.out wq hbw).at_ (by omega)
          obtain ⟨c0, c1, c2, c3, c4⟩ := Gss.at_ hlG (List.getElem?_eq_getElem hjg)
          have cl := hlG.lt
          have hgb := HGb.out _ (List.getElem_mem hjg)
          have HNg := Lib.hid (show ((gs[j]).hy = xi → (gs[j]).lo ≤ (gs[j]).dense + ek ∧ (gs[j]).dense + ek ≤ (gs[j]).hi) → ∀ i, i < j + 1 → ∀ (q : i < gs.length), (gs[i]).hy = xi → (gs[i]).lo ≤ (gs[i]).dense + ek ∧ (gs[i]).dense + ek ≤ (gs[i]).hi from fun h i hi q => by
            by_cases e : i = j
            · subst e; exact h
            · exact HAl2.out i (by omega) q)
          clear hlG
          generalize gs[j] = gj at *
          obtain ⟨gi, gh, gd, gl, gu⟩ := gj
          dsimp only at *
          have b8 := below_new wq (.cells #[.int .i64 gi, .int .i64 gh, .int .i64 gd, .int .i64 gl, .int .i64 gu] 70)
          have hn8 := Blk.new wq 70 #[.int .i64 gi, .int .i64 gh, .int .i64 gd, .int .i64 gl, .int .i64 gu]
          have HB8 := Lib.hid (hb2.trans (b8.mono hb2.size))
          go_upto_region 11 with fail
          generalize hV8 : wq.alloc (.cells #[.int .i64 gi, .int .i64 gh, .int .i64 gd, .int .i64 gl, .int .i64 gu] 70) = V8 at *
          generalize hg8 : wq.heap.size = g8 at *
          clear hV8 hg8 hb2 hbw b8 c0 c1 c2 c3 c4 cl
          have q1 := hn8.cell 1
          have q2 := hn8.cell 2
          have q3 := hn8.cell 3
          have q4 := hn8.cell 4
          simp only [List.getElem?_toArray, List.getElem?_cons_zero, List.getElem?_cons_succ] at q1 q2 q3 q4
          have ql := hn8.lt
          obtain ⟨z0, z1, z2, zl⟩ := cells3 (HN6.out.below HB8.out)
          obtain ⟨e0, el⟩ := HE6.out V8 HB8.out
          obtain ⟨xc, xf'⟩ := xcell (W := V8)
          clear hn8
          by_cases hid : gh = xi
          case pos =>
            have hidb : (gh == xi) = true := by simpa using hid
            have HSh := Lib.hid (fun u => shows_all gl gu (gd + ek) u)
            have HId := Lib.hid hid
            clear hid
            cases hin : inB (gd + ek) gl gu with
            | true =>
              rw [hin] at HSh
              have HIn := Lib.hid (show gl ≤ gd + ek ∧ gd + ek ≤ gu by simpa [inB] using hin)
              clear hin
              refine wp_region_quiet_tail 18 (by kernel_rfl) (by kernel_rfl) ?_
              simp only [List.take_succ_cons, List.take_zero, List.drop_succ_cons, List.drop_zero]
              repeat (first | go_big_quiet_step ((go_at_call 10; with_reducible refine calls_ext (HSh.out _))) | quiet_step ((go_at_call 10; with_reducible refine calls_ext (HSh.out _))))
              refine wpQuiet_nil ?_
              intro w9 hb9
              have HB9 := Lib.hid (HB8.out.trans (hb9.mono HB8.out.size))
              clear xc xf' z0 z1 z2 zl e0 el q1 q2 q3 q4 ql hb9
              go_wp2
              go_roundw
              case rel => exact ⟨j + 1, by omega, by go_num, HNg.out fun _ => HIn.out, HB9.out⟩
              case measure => simp [intOf]; omega
            | false =>
              rw [hin] at HSh
              clear hin
              refine wp_region_quiet_tail 18 (by kernel_rfl) (by kernel_rfl) ?_
              simp only [List.take_succ_cons, List.take_zero, List.drop_succ_cons, List.drop_zero]
              repeat (first | go_big_quiet_step ((go_at_call 10; with_reducible refine calls_ext (HSh.out _))) | quiet_step ((go_at_call 10; with_reducible refine calls_ext (HSh.out _))))
              refine wpQuiet_nil ?_
              intro w9 hb9
              have HB9 := Lib.hid (HB1.out.trans ((HB6.out.trans ((HB8.out.trans (hb9.mono HB8.out.size)).mono HB6.out.size)).mono HB1.out.size))
              clear xc xf' z0 z1 z2 zl e0 el q1 q2 q3 q4 ql hb9
              go_wp2
              exact bodyPost_ret (v := .bool false) (by simp [results, Tryz.results6, go_sem]) rfl ⟨BoolP.no, HB9.out⟩
          case neg =>
            have hidb : (gh == xi) = false := by simpa using hid
            have HId := Lib.hid hid
            clear hid
            refine wp_region_quiet_tail 18 (by kernel_rfl) (by kernel_rfl) ?_
            simp only [List.take_succ_cons, List.take_zero, List.drop_succ_cons, List.drop_zero]
            repeat (first | go_big_quiet_step (fail) | quiet_step (fail))
            refine wpQuiet_nil ?_
            intro w9 hb9
            have HB9 := Lib.hid (HB8.out.trans (hb9.mono HB8.out.size))
            clear xc xf' z0 z1 z2 zl e0 el q1 q2 q3 q4 ql hb9
            go_wp2
            go_roundw
            case rel => exact ⟨j + 1, by omega, by go_num, HNg.out fun h => absurd h HId.out, HB9.out⟩
            case measure => simp [intOf]; omega
end Go.Proofs.YtgojpgggbflgoaaGreat
