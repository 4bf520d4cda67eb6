/- The masses of surveys, one by one. The masses that are possible by all surveys. Whether a mass is possible by a survey. Lists of surveys that are right. The masses that are possible by all surveys, as they are told. What was taken between surveys. The load that a ship can have by surveys. Whether a ship may go. -/
import Derived.Test.YtgojpgggbflgoaaGreatTop11
import Derived.Test.YtgojpgggbflgoaaGreatTop06
import Derived.Test.YtgojpgggbflgoaaGreatTop05
import Derived.Test.YtgojpgggbflgoaaGreatTop09
namespace Go.Proofs.YtgojpgggbflgoaaGreat
open Go.RowKit

/-- Some blocks stay as they are. -/
structure KeepP (p : Nat → Prop) (W W' : World) : Prop where
  size : W.heap.size ≤ W'.heap.size
  blk : ∀ g, p g → W'.heap[g]? = W.heap[g]?
theorem keepP_t {p : Nat → Prop} {X Y Z : World} (h : KeepP p X Y) (k : KeepP p Y Z) : KeepP p X Z := ⟨Nat.le_trans h.size k.size, fun g hg => (k.blk g hg).trans (h.blk g hg)⟩
theorem keepP_refl (p : Nat → Prop) (W : World) : KeepP p W W := ⟨Nat.le_refl _, fun _ _ => rfl⟩
theorem keepP_b {p : Nat → Prop} {w : World} (hL : ∀ g, p g → g < w.heap.size) (W : World) (l : Nat) (o o' : Obj) (hl : w.heap.size ≤ l) (_ : W.heap[l]? = some o) (_ : o.isCells = false) (_ : o.isWalk = false) : KeepP p W (W.putObj l o') :=
  ⟨by simp [World.putObj], fun g hg => World.putObj_heap_other (by have := hL g hg; omega)⟩
theorem keepP_below {p : Nat → Prop} {n : Nat} {W W' : World} (h : Below n W W') (hL : ∀ g, p g → g < n) : KeepP p W W' := ⟨h.size, fun g hg => h.block g (hL g hg)⟩
theorem keepP_set {p : Nat → Prop} {W : World} {a : Addr} {v : Value} (h : ¬ p a.block) : KeepP p W (W.setCell a v) := ⟨by simp [World.setCell], fun g hg => Below.heap_setCell W a v g (fun e => h (e ▸ hg))⟩
theorem Blk.keepP {p : Nat → Prop} {W W' : World} {g : Nat} {t : TypeId} {cs : Array Value} (h : Blk W g t cs) (k : KeepP p W W') (hg : p g) : Blk W' g t cs := (k.blk g hg).trans h
theorem SAt.keepP {α : Type} {enc : α → List Value} {k : Nat} {w w' : World} {A : Option Addr} {n : Nat} {l : List α} (h : SAt enc k w A n l) (hb : ∀ g, g < w.heap.size → w'.heap[g]? = w.heap[g]?) : SAt enc k w' A n l :=
  ⟨h.len, fun hn => let ⟨b, off, e, hk⟩ := h.at_ hn; ⟨b, off, e, hk.same (hb b hk.lt)⟩⟩
theorem CAt.keepP {w w' : World} {A : Option Addr} {n : Nat} {ks : List (Int × Int)} (h : CAt w A n ks) (hb : ∀ g, g < w.heap.size → w'.heap[g]? = w.heap[g]?) : CAt w' A n ks :=
  ⟨h.len, fun hn => let ⟨b, off, e, hk⟩ := h.at_ hn; ⟨b, off, e, ⟨by
    have h1 : w.heap[b]? = some (w.heap[b]'hk.lt) := Array.getElem?_eq_getElem hk.lt
    rw [← hb b hk.lt] at h1
    exact (Array.getElem?_eq_some_iff.1 h1).1, fun i hi => (World.cell?_of_block (w := w) (w' := w') (a := ⟨b, off + i * 2, none⟩) (hb b hk.lt)).trans (hk.x i hi), fun i hi => (World.cell?_of_block (w := w) (w' := w') (a := ⟨b, off + i * 2 + 1, none⟩) (hb b hk.lt)).trans (hk.y i hi)⟩⟩⟩
def encM (light R : Int) (mn : List (Int × Int)) (merr : Int) (ys : List Hy) (gs : List Gs) (x : Sv) : Array Value := #[.int .i64 x.id, vSp (maS light R mn merr ys gs x).1 (maS light R mn merr ys gs x).2]
theorem smasses_any (id light lever height : Int) (A : Option Addr) (n c : Nat) (B : Option Addr) (m d : Nat) (merr : Int) (C : Option Addr) (q r : Nat) (terr turn least : Int) (Y : Option Addr) (ny cy : Nat) (G : Option Addr) (ng cg : Nat) (Lv : Option Addr) (nv cv : Nat) (w : World) :
    Calls Tryz.prog 52 #[.agg (cSp id light lever height A n c B m d merr C q r terr turn least), .agg #[.slice Y ny cy, .slice G ng cg], .slice Lv nv cv] w fun e w' => e = .returned (.func (.func 75) #[] #[.pointer (some ⟨w.heap.size + 2, 0, none⟩), .pointer (some ⟨w.heap.size, 0, none⟩), .pointer (some ⟨w.heap.size + 1, 0, none⟩)]) ∧ ((w.alloc (.cells (cSp id light lever height A n c B m d merr C q r terr turn least) 27)).alloc (.cells #[.slice Y ny cy, .slice G ng cg] 31)).alloc (.cells #[.slice Lv nv cv] 39) = w' := by
  go_enter Tryz.func52, Tryz.ntmps52
  go_wp2
  exact bodyPost_ret (v := .func (.func 75) #[] #[.pointer (some ⟨w.heap.size + 2, 0, none⟩), .pointer (some ⟨w.heap.size, 0, none⟩), .pointer (some ⟨w.heap.size + 1, 0, none⟩)]) (by simp [results, Tryz.results52, go_sem]) rfl ⟨rfl, rfl⟩
set_option maxRecDepth 100000 in
set_option maxHeartbeats 6400000 in
theorem smasses1_in (id light lever height : Int) (A : Option Addr) (n c : Nat) (B : Option Addr) (m d : Nat) (merr : Int) (C : Option Addr) (q r : Nat) (terr turn least : Int) (hs : List Hl) (mn mt : List (Int × Int)) (Y : Option Addr) (ny cy : Nat) (G : Option Addr) (ng cg : Nat) (ys : List Hy) (gs : List Gs) (Lv : Option Addr) (nv cv : Nat) (l : List Sv) (w : World) (hA : SAt encL 4 w A n hs) (hB : CAt w B m mn) (hok : ShipOk id light lever height turn least hs mn merr mt terr) (hY : SAt encY 3 w Y ny ys) (hG : SAt encG 5 w G ng gs) (hny : ny ≤ 1000000) (hng : ng ≤ 1000000) (hys : YsOk ys) (hgs : GsOk gs) (hV : SAt encV 18 w Lv nv l) (hl : ∀ x ∈ l, MaOk mn merr ys gs x) (hnv : nv ≤ 1000) (k1 lb B1 B2 B3 : Nat) (p : Nat → Prop) (hp0 : ∀ g, g < w.heap.size → p g) (p1 : p B1) (p2 : p B2) (_ : p B3) (J Jx : List Sv → World → Prop)
    (hYl : ∀ pre x W1, J pre W1 → pre.length < nv → YieldAt Fence.wide (k1 - 1) Tryz.prog lb (encM light (roomS light hs) mn merr ys gs x) W1 fun e W' =>
      (e = .returned (.bool true) ∧ J (pre ++ [x]) W' ∧ KeepP p W1 W') ∨ (e = .returned (.bool false) ∧ Jx (pre ++ [x]) W'))
    (hJ : ∀ s W W', J s W → Below W.heap.size W W' → J s W') (W : World) (hpW : ∀ g, p g → g < W.heap.size) (hW : ∀ g, g < w.heap.size → W.heap[g]? = w.heap[g]?) (h1 : Blk W B1 27 (cSp id light lever height A n c B m d merr C q r terr turn least)) (h2 : Blk W B2 31 #[.slice Y ny cy, .slice G ng cg]) (h3 : Blk W B3 39 #[.slice Lv nv cv]) (h0 : J [] W) :
    CallsIn Fence.wide k1 Tryz.prog 75 #[.func (.yield lb) #[] #[], .pointer (some ⟨B3, 0, none⟩), .pointer (some ⟨B1, 0, none⟩), .pointer (some ⟨B2, 0, none⟩)] W fun e W' => (∃ v, e = .returned v) ∧
      ((∃ xs, xs = l ∧ J xs W') ∨ (∃ pre : List Sv, True ∧ Jx pre W')) := by
  have HMa := Lib.hid (fun (u : World) (hu : ∀ g, g < w.heap.size → u.heap[g]? = w.heap[g]?) (x : Sv) (hx : x ∈ l) => mass_any id light lever height A n c B m d merr C q r terr turn least hs mn mt Y ny cy G ng cg ys gs x u (hA.keepP hu) (hB.keepP hu) hok (hY.keepP hu) (hG.keepP hu) hny hng hys hgs (hl x hx))
  have HVl := Lib.hid (fun (u : World) (hu : ∀ g, g < w.heap.size → u.heap[g]? = w.heap[g]?) => hV.keepP hu)
  have HLn := Lib.hid hV.len
  have y0 := h3.cell 0
  have yl := h3.lt
  simp only [List.getElem?_toArray, List.getElem?_cons_zero] at y0
  clear hA hB hok hY hG hV hl hys hgs
  refine callsIn_of_wp Tryz.func75 rfl trivial ?_ rfl
  simp only [Tryz.ntmps75, List.size_toArray, List.length_cons, List.length_nil, Nat.reduceAdd, Nat.reduceSub, Array.replicate_succ, Array.replicate_zero, List.push_toArray, List.append_toArray, List.nil_append, List.cons_append]
  gi_wp2
  have H1 := Lib.hid h1
  have H2 := Lib.hid h2
  have HJ0 := Lib.hid h0
  clear y0 yl h1 h2 h3 h0
  gi_loopw [6, 9] (fun _ i wr => ∃ j : Nat, j ≤ nv ∧ i = .int .i64 (j : Int) ∧ J (l.take j) wr ∧ KeepP p W wr)
    (fun _ i _ => nv - (intOf i).toNat)
  case atStart => exact ⟨0, Nat.zero_le _, rfl, by simpa using HJ0.out, keepP_refl _ _⟩
  case round =>
    obtain ⟨j, hj, rfl, hJs, hkp⟩ := hrel
    have HKp := Lib.hid hkp
    have HJs := Lib.hid hJs
    have hh0 : ∀ g, g < w.heap.size → wr.heap[g]? = w.heap[g]? := fun g hg => (hkp.blk g (hp0 g hg)).trans (hW g hg)
    have H1w := Lib.hid (H1.out.keepP hkp p1)
    have H2w := Lib.hid (H2.out.keepP hkp p2)
    clear hkp hJs
    by_cases hjn : j < nv
    case neg =>
      have hjn2 : j = nv := by omega
      subst j
      have HE := Lib.hid (show l.take nv = l by rw [← HLn.out, List.take_length])
      gi_wp2
      go_end0
      exact ⟨⟨_, rfl⟩, .inl ⟨_, rfl, by rw [← HE.out]; rw [HE.out]; exact HE.out ▸ HJs.out⟩⟩
    case pos =>
      have hjl : j < l.length := by rw [HLn.out]; exact hjn
      obtain ⟨b, off, rfl, hls⟩ := (HVl.out wr hh0).at_ (by omega)
      have hra : wr.rangeAt b (off + j * 18) (encV l[j]) := fun i v hv => hls.c j _ (List.getElem?_eq_getElem hjl) i v hv
      have cl := hls.lt
      have HT := Lib.hid (show l.take (j + 1) = l.take j ++ [l[j]] from List.take_succ_eq_append_getElem hjl)
      have HMx := Lib.hid (fun (u : World) (hu : ∀ g, g < w.heap.size → u.heap[g]? = w.heap[g]?) => HMa.out u hu l[j] (List.getElem_mem hjl))
      have HYx := Lib.hid (fun W1 hJ1 => hYl (l.take j) l[j] W1 hJ1 (by rw [List.length_take]; omega))
      clear hls
      generalize l[j] = x at *
      have HSx := Lib.hid (show encM light (roomS light hs) mn merr ys gs x = #[.int .i64 x.id, vSp (maS light (roomS light hs) mn merr ys gs x).1 (maS light (roomS light hs) mn merr ys gs x).2] from rfl)
      rw [HSx.out] at HYx
      clear HSx
      generalize maS light (roomS light hs) mn merr ys gs x = S at *
      obtain ⟨x0, x1, x2, x3, x4, x5, x6, x7, x8, x9, x10, x11, x12, x13, x14, x15, x16, x17⟩ := x
      dsimp only [vSv, encV] at *
      have HRa := Lib.hid hra
      clear hra
      have hbx := below_new wr (.cells #[.int .i64 x0, .int .i64 x1, .int .i64 x2, .int .i64 x3, .int .i64 x4, .int .i64 x5, .int .i64 x6, .int .i64 x7, .int .i64 x8, .int .i64 x9, .int .i64 x10, .int .i64 x11, .int .i64 x12, .int .i64 x13, .int .i64 x14, .int .i64 x15, .int .i64 x16, .int .i64 x17] 62)
      have HXb := Lib.hid (Blk.new wr 62 #[.int .i64 x0, .int .i64 x1, .int .i64 x2, .int .i64 x3, .int .i64 x4, .int .i64 x5, .int .i64 x6, .int .i64 x7, .int .i64 x8, .int .i64 x9, .int .i64 x10, .int .i64 x11, .int .i64 x12, .int .i64 x13, .int .i64 x14, .int .i64 x15, .int .i64 x16, .int .i64 x17])
      have H1x := Lib.hid (H1w.out.below hbx)
      have H2x := Lib.hid (H2w.out.below hbx)
      have hhx : ∀ g, g < w.heap.size → (wr.alloc (.cells #[.int .i64 x0, .int .i64 x1, .int .i64 x2, .int .i64 x3, .int .i64 x4, .int .i64 x5, .int .i64 x6, .int .i64 x7, .int .i64 x8, .int .i64 x9, .int .i64 x10, .int .i64 x11, .int .i64 x12, .int .i64 x13, .int .i64 x14, .int .i64 x15, .int .i64 x16, .int .i64 x17] 62)).heap[g]? = w.heap[g]? := fun g hg => (hbx.block g (by have := hpW g (hp0 g hg); have := HKp.out.size; omega)).trans (hh0 g hg)
      have HJx := Lib.hid (hJ _ _ _ HJs.out hbx)
      have HKx := Lib.hid (keepP_t HKp.out (keepP_below hbx (fun g hg => Nat.lt_of_lt_of_le (hpW g hg) HKp.out.size)))
      clear hbx hh0
      gi_wp2_with (first | (refine wpListIn_load_mid rfl 62 (.tmp 11) rfl b (off + j * 18) rfl [.int .i64 x0, .int .i64 x1, .int .i64 x2, .int .i64 x3, .int .i64 x4, .int .i64 x5, .int .i64 x6, .int .i64 x7, .int .i64 x8, .int .i64 x9, .int .i64 x10, .int .i64 x11, .int .i64 x12, .int .i64 x13, .int .i64 x14, .int .i64 x15, .int .i64 x16, .int .i64 x17] _ HRa.out Tryz.underlying62 rfl info_sv ?_) | (refine wpListIn_store_new rfl 62 (.tmp 6) (.tmp 12) rfl _ #[.int .i64 x0, .int .i64 x1, .int .i64 x2, .int .i64 x3, .int .i64 x4, .int .i64 x5, .int .i64 x6, .int .i64 x7, .int .i64 x8, .int .i64 x9, .int .i64 x10, .int .i64 x11, .int .i64 x12, .int .i64 x13, .int .i64 x14, .int .i64 x15, .int .i64 x16, .int .i64 x17] rfl rfl info_sv rfl (all18 x0 x1 x2 x3 x4 x5 x6 x7 x8 x9 x10 x11 x12 x13 x14 x15 x16 x17) ?_))
      generalize wr.alloc (.cells #[.int .i64 x0, .int .i64 x1, .int .i64 x2, .int .i64 x3, .int .i64 x4, .int .i64 x5, .int .i64 x6, .int .i64 x7, .int .i64 x8, .int .i64 x9, .int .i64 x10, .int .i64 x11, .int .i64 x12, .int .i64 x13, .int .i64 x14, .int .i64 x15, .int .i64 x16, .int .i64 x17] 62) = V at *
      have HHx := Lib.hid (show ∀ u, Below V.heap.size V u → ∀ g, g < w.heap.size → u.heap[g]? = w.heap[g]? from fun u hu g hg => (hu.block g (Nat.lt_of_lt_of_le (hpW g (hp0 g hg)) HKx.out.size)).trans (hhx g hg))
      have q0 := HXb.out.cell 0
      simp only [List.getElem?_toArray, List.getElem?_cons_zero] at q0
      have ql := HXb.out.lt
      obtain ⟨tl, s0, s1, s2, s3, s4, s5, s6, s7, s8, s9, s10⟩ := blk11 H1x.out
      obtain ⟨y0, y1, yl⟩ := cells2 H2x.out
      obtain ⟨xc, xf'⟩ := xcell (W := V)
      clear hhx HRa cl HMa HVl
      refine wpIn_region_quiet_tail 7 (openWide _) (by kernel_rfl) (by kernel_rfl) ?_
      simp only [List.take_succ_cons, List.take_zero, List.drop_succ_cons, List.drop_zero]
      repeat (first | (refine wpQuiet_load_mid rfl 62 (.tmp 6) rfl wr.heap.size 0 rfl [.int .i64 x0, .int .i64 x1, .int .i64 x2, .int .i64 x3, .int .i64 x4, .int .i64 x5, .int .i64 x6, .int .i64 x7, .int .i64 x8, .int .i64 x9, .int .i64 x10, .int .i64 x11, .int .i64 x12, .int .i64 x13, .int .i64 x14, .int .i64 x15, .int .i64 x16, .int .i64 x17] _ (fun _ hx => by obtain ⟨y, rfl⟩ := hx; exact range_blk (HXb.out.below y.below)) Tryz.underlying62 rfl info_sv ?_; simp only [Act.put, List.setIfInBounds_toArray, List.set_cons_zero, List.set_cons_succ]) | go_big_quiet_step ((go_at_call 48; with_reducible refine calls_ext (HMx.out _ ?_); exact HHx.out _ (Ext.below _))) | quiet_step ((go_at_call 48; with_reducible refine calls_ext (HMx.out _ ?_); exact HHx.out _ (Ext.below _))))
      refine wpQuiet_nil ?_
      intro w2 hb2
      have HB2 := Lib.hid hb2
      obtain ⟨fn, tmps, assign, body, hy, hR⟩ := HYx.out w2 (hJ _ _ _ HJx.out hb2)
      have HKz := Lib.hid (keepP_t HKx.out (keepP_below hb2 (fun g hg => Nat.lt_of_lt_of_le (hpW g hg) HKx.out.size)))
      clear q0 ql tl s0 s1 s2 s3 s4 s5 s6 s7 s8 s9 s10 y0 y1 yl xc xf' hb2
      gi_wp2
      refine ⟨fun h => (by cases h), hR.mono ?_⟩
      rintro e W' (⟨rfl, hJ', hk⟩ | ⟨rfl, hJx'⟩)
      · have HKp2 := Lib.hid (keepP_t HKz.out hk)
        clear hk
        gi_wp2
        go_roundw
        case rel => exact ⟨j + 1, by omega, by go_num, by rw [HT.out]; exact hJ', HKp2.out⟩
        case measure => simp [intOf]; omega
      · gi_wp2
        refine bodyPost_ret (results_none rfl _ _ _) rfl ?_
        exact ⟨⟨_, rfl⟩, .inr ⟨_, trivial, hJx'⟩⟩
theorem smasses_stops (id light lever height : Int) (A : Option Addr) (n c : Nat) (B : Option Addr) (m d : Nat) (merr : Int) (C : Option Addr) (q r : Nat) (terr turn least : Int) (hs : List Hl) (mn mt : List (Int × Int)) (Y : Option Addr) (ny cy : Nat) (G : Option Addr) (ng cg : Nat) (ys : List Hy) (gs : List Gs) (Lv : Option Addr) (nv cv : Nat) (l : List Sv) (w : World) (hA : SAt encL 4 w A n hs) (hB : CAt w B m mn) (hok : ShipOk id light lever height turn least hs mn merr mt terr) (hY : SAt encY 3 w Y ny ys) (hG : SAt encG 5 w G ng gs) (hny : ny ≤ 1000000) (hng : ng ≤ 1000000) (hys : YsOk ys) (hgs : GsOk gs) (hV : SAt encV 18 w Lv nv l) (hl : ∀ x ∈ l, MaOk mn merr ys gs x) (hnv : nv ≤ 1000) (k1 B1 B2 B3 : Nat) (p : Nat → Prop) (hp0 : ∀ g, g < w.heap.size → p g) (p1 : p B1) (p2 : p B2) (p3 : p B3) (W0 : World) (hpW : ∀ g, p g → g < W0.heap.size) (hW : ∀ g, g < w.heap.size → W0.heap[g]? = w.heap[g]?) (h1 : Blk W0 B1 27 (cSp id light lever height A n c B m d merr C q r terr turn least)) (h2 : Blk W0 B2 31 #[.slice Y ny cy, .slice G ng cg]) (h3 : Blk W0 B3 39 #[.slice Lv nv cv]) :
    SeqStopsK Fence.wide k1 Tryz.prog 75 #[.pointer (some ⟨B3, 0, none⟩), .pointer (some ⟨B1, 0, none⟩), .pointer (some ⟨B2, 0, none⟩)] (encM light (roomS light hs) mn merr ys gs) (KeepP p) (fun xs => xs = l) (fun _ => True) nv W0 :=
  fun lb J Jx W hWb hJ _ hYl h0 => smasses1_in id light lever height A n c B m d merr C q r terr turn least hs mn mt Y ny cy G ng cg ys gs Lv nv cv l w hA hB hok hY hG hny hng hys hgs hV hl hnv k1 lb B1 B2 B3 p hp0 p1 p2 p3 J Jx hYl
    (fun s A A' hs hb => hJ s A A' none hs (grownBy_of_below hb) (fun r e => by cases e)) W (fun g hg => Nat.lt_of_lt_of_le (hpW g hg) hWb.size) (fun g hg => (hWb.block g (hpW g (hp0 g hg))).trans (hW g hg)) (h1.below hWb) (h2.below hWb) (h3.below hWb) h0
end Go.Proofs.YtgojpgggbflgoaaGreat

namespace Go.Proofs.YtgojpgggbflgoaaGreat
open Go.RowKit

theorem wpIn_region_new {F : Fence} {P : Program} {id m : Nat} {Q : Exit → Act → World → Prop} {a : Act} {w : World} {l : List Oper} (n i : Nat) (d : Tmp) (t : TypeId) (cs : Array Value)
    (hF : OpenFence F P) (hm : P.follows .mixedOrders = true) (hB : (regB l.toArray n [(i, d)] && dstsB a.tmps.size (qOf [(i, d)] 0 (l.take n)) && [(i, d)].all fun p => match l[p.1]? with | some o => o.dst.isSome || decide (a.tmps.size ≤ p.2) | none => true) = true)
    (hop : ∀ (a' : Act) (v : World) (R : Value → World → Prop), R (.pointer (some ⟨v.heap.size, 0, none⟩)) (v.alloc (.cells cs t)) → ∀ o, l[i]? = some o → loudAt P o a' v R)
    (h : ∃ aQ, (∀ W, Below w.heap.size w W → wpQuiet P l.toArray (fun v' => ∃ x : Ext W, v' = x.w) (fun a' => a' = aQ) (qOf [(i, d)] 0 (l.take n)) a) ∧
      ∀ g v, w.heap.size ≤ g → Below w.heap.size w v → Blk v g t cs → wpListIn F m P l.toArray Q (l.drop n) (aQ.put (some d) (.pointer (some ⟨g, 0, none⟩))) v) : (Code.region id l.toArray true).wpIn F m P Q a w := by
  obtain ⟨aQ, h1, h2⟩ := h
  refine wpIn_region_preC n [(i, d)] (fun v => Below w.heap.size w v) (newInv w i t cs) hF hm hB (Below.refl _ _) (fun v v' h k => h.trans (k.mono h.size)) (fun v _ h => by cases h) (fun ls vs v v' _ h k hl => ?_) ⟨aQ, h1, ?_, ?_⟩
  · obtain ⟨g, e, hg, hb⟩ := h hl
    exact ⟨g, e, hg, hb.below k⟩
  · rintro p hp vs v hC ls hI hls _ o ho
    have hp : p = (i, d) := by simpa using hp
    subst hp
    exact hop _ _ _ ⟨hC.alloc hC.size _, fun _ => ⟨v.heap.size, by simp [upd], hC.size, Blk.new _ _ _⟩⟩ o ho
  · rintro ls vs v hC hI hls
    obtain ⟨g, e, hg, hb⟩ := hI (hls (i, d) (by simp))
    have := h2 g v hg hC hb
    show wpListIn F m P l.toArray Q (l.drop n) (putsL aQ [(i, d)] vs) v
    have ep : putsL aQ [(i, d)] vs = aQ.put (some d) (vs i) := rfl
    rw [ep, e]
    exact this
def togF (light R : Int) (mn : List (Int × Int)) (merr : Int) (ys : List Hy) (gs : List Gs) (s : Int × Int) (x : Sv) : Int × Int := (max s.1 (maS light R mn merr ys gs x).1, min s.2 (maS light R mn merr ys gs x).2)
/-- The masses that are possible by all of some surveys. -/
def togS (light R : Int) (mn : List (Int × Int)) (merr : Int) (ys : List Hy) (gs : List Gs) (l : List Sv) : Int × Int := l.foldl (togF light R mn merr ys gs) (light, R)
theorem togS_snoc (light R : Int) (mn : List (Int × Int)) (merr : Int) (ys : List Hy) (gs : List Gs) (l : List Sv) (x : Sv) : togS light R mn merr ys gs (l ++ [x]) = (max (togS light R mn merr ys gs l).1 (maS light R mn merr ys gs x).1, min (togS light R mn merr ys gs l).2 (maS light R mn merr ys gs x).2) := by
  simp [togS, togF]
attribute [local go_sem] Oper.semAt_some
set_option maxRecDepth 100000 in
set_option maxHeartbeats 6400000 in
theorem together_any (id light lever height : Int) (A : Option Addr) (n c : Nat) (B : Option Addr) (m d : Nat) (merr : Int) (C : Option Addr) (q r : Nat) (terr turn least : Int) (hs : List Hl) (mn mt : List (Int × Int)) (Y : Option Addr) (ny cy : Nat) (G : Option Addr) (ng cg : Nat) (ys : List Hy) (gs : List Gs) (Lv : Option Addr) (nv cv : Nat) (l : List Sv) (w : World) (hA : SAt encL 4 w A n hs) (hB : CAt w B m mn) (hok : ShipOk id light lever height turn least hs mn merr mt terr) (hY : SAt encY 3 w Y ny ys) (hG : SAt encG 5 w G ng gs) (hny : ny ≤ 1000000) (hng : ng ≤ 1000000) (hys : YsOk ys) (hgs : GsOk gs) (hV : SAt encV 18 w Lv nv l) (hl : ∀ x ∈ l, MaOk mn merr ys gs x) (hnv : nv ≤ 1000) :
    Calls Tryz.prog 26 #[.agg (cSp id light lever height A n c B m d merr C q r terr turn least), .agg #[.slice Y ny cy, .slice G ng cg], .slice Lv nv cv] w fun e w' => e = .returned (vSp (togS light (roomS light hs) mn merr ys gs l).1 (togS light (roomS light hs) mn merr ys gs l).2) ∧ Below w.heap.size w w' := by
  have HSt := Lib.hid (fun k1 B1 B2 B3 p hp0 p1 p2 p3 W0 hpW hW h1 h2 h3 => smasses_stops id light lever height A n c B m d merr C q r terr turn least hs mn mt Y ny cy G ng cg ys gs Lv nv cv l w hA hB hok hY hG hny hng hys hgs hV hl hnv k1 B1 B2 B3 p hp0 p1 p2 p3 W0 hpW hW h1 h2 h3)
  have HHe := Lib.hid (fun (u : World) (hu : Below w.heap.size w u) => heaviest_any id light lever height A n c B m d merr C q r terr turn least hs u (hA.below hu) (fun x hx => (hok.hl x hx).1) hok.len hok.lightB)
  have HMs := Lib.hid (fun (u : World) => smasses_any id light lever height A n c B m d merr C q r terr turn least Y ny cy G ng cg Lv nv cv u)
  clear hA hB hok hY hG hV hl hys hgs
  have HSn := Lib.hid (fun (pre : List Sv) (x : Sv) => togS_snoc light (roomS light hs) mn merr ys gs pre x)
  have HS0 := Lib.hid (show togS light (roomS light hs) mn merr ys gs [] = (light, roomS light hs) from rfl)
  generalize hRo : roomS light hs = R at *
  clear hRo
  have HO := Lib.hid (show ∀ xs, xs = l → togS light R mn merr ys gs xs = togS light R mn merr ys gs l from fun xs e => by rw [e])
  generalize togS light R mn merr ys gs l = oS at *
  obtain ⟨o1, o2⟩ := oS
  dsimp only
  have hb0 := ((Below.refl w.heap.size w).alloc (Nat.le_refl _) (.cells (cSp id light lever height A n c B m d merr C q r terr turn least) 27)).alloc (by simp) (.cells #[.slice Y ny cy, .slice G ng cg] 31)
  have hb1 := hb0.alloc (by simp; omega) (.cells #[.int .i64 0, .int .i64 0] 43)
  have t0 := ((Blk.new w 27 (cSp id light lever height A n c B m d merr C q r terr turn least)).alloc (.cells #[.slice Y ny cy, .slice G ng cg] 31)).alloc (.cells #[.int .i64 0, .int .i64 0] 43)
  have g0 := (Blk.at_new (W := w.alloc (.cells (cSp id light lever height A n c B m d merr C q r terr turn least) 27)) (g := w.heap.size + 1) 31 #[.slice Y ny cy, .slice G ng cg] (by simp)).alloc (.cells #[.int .i64 0, .int .i64 0] 43)
  have r0 := Blk.at_new (W := (w.alloc (.cells (cSp id light lever height A n c B m d merr C q r terr turn least) 27)).alloc (.cells #[.slice Y ny cy, .slice G ng cg] 31)) (g := w.heap.size + 2) 43 #[.int .i64 0, .int .i64 0] (by simp)
  clear hb0
  refine (callsIn_wide (n := 3)).1 (callsIn_of_wp_marks Tryz.func26 rfl trivial ?_ rfl)
  simp only [Tryz.ntmps26, List.size_toArray, List.length_cons, List.length_nil, Nat.reduceAdd, Nat.reduceSub, Array.replicate_succ, Array.replicate_zero, List.push_toArray, List.append_toArray, List.nil_append, List.cons_append]
  gi_wp2
  generalize hW : ((w.alloc (.cells (cSp id light lever height A n c B m d merr C q r terr turn least) 27)).alloc (.cells #[.slice Y ny cy, .slice G ng cg] 31)).alloc (.cells #[.int .i64 0, .int .i64 0] 43) = W at *
  have HWs := Lib.hid (show W.heap.size = w.heap.size + 3 by rw [← hW]; simp)
  clear hW
  have HT0 := Lib.hid t0
  have HG0 := Lib.hid g0
  have HR0 := Lib.hid r0
  have HB0 := Lib.hid hb1
  clear t0 g0 r0 hb1
  refine wpIn_region_new 6 5 7 43 #[.int .i64 0, .int .i64 0] (openWide _) (by kernel_rfl) (by kernel_rfl) ?_ ?_
  · intro a' v R hR o ho
    simp only [List.getElem?_cons_succ, List.getElem?_cons_zero, Option.some.injEq] at ho
    subst ho
    simpa [loudAt, loudUpon, go_sem, execOp] using hR
  apply Exists.intro
  refine ⟨?_, ?_⟩
  · intro U hV
    obtain ⟨tl, s0, s1, s2, s3, s4, s5, s6, s7, s8, s9, s10⟩ := blk11 (HT0.out.below hV)
    obtain ⟨xc, xf'⟩ := xcell (W := U)
    have HBU := Lib.hid (HB0.out.trans (hV.mono HB0.out.size))
    simp only [List.take_succ_cons, List.take_zero, qOf, isLoud, List.any_cons, List.any_nil, Nat.reduceBEq, Bool.or_false, Nat.reduceAdd, Bool.false_eq_true, if_true, if_false, beq_self_eq_true, Nat.zero_add]
    repeat (first | go_big_quiet_step (first | (go_at_call 51; with_reducible refine calls_ext (HHe.out _ ?_); exact HBU.out.trans ((Ext.below _).mono HBU.out.size))) | quiet_step (first | (go_at_call 51; with_reducible refine calls_ext (HHe.out _ ?_); exact HBU.out.trans ((Ext.below _).mono HBU.out.size))))
    exact wpQuiet_nil rfl
  intro g7 v7 h7 hv7 hb7
  simp only [List.drop_succ_cons, List.drop_zero, Act.put, List.setIfInBounds_toArray, List.set_cons_succ, List.set_cons_zero]
  have hWs := HWs.out
  have hT7 := HT0.out.below hv7
  have hG7 := HG0.out.below hv7
  obtain ⟨z0, z1, zl⟩ := cells2 hb7
  have f0 := hb7.frozen 0
  have f1 := hb7.frozen 1
  have g3 := grown_set2 v7 g7 (.int .i64 light) (.int .i64 R)
  have hTa := hT7.grown g3 (by intro e; have := Option.some.inj e; omega)
  have hGa := hG7.grown g3 (by intro e; have := Option.some.inj e; omega)
  have HRa := Lib.hid ((HR0.out.below hv7).grown g3 (by intro e; have := Option.some.inj e; omega))
  have HBa := Lib.hid (below_set2 (HB0.out.trans (hv7.mono HB0.out.size)) (g := g7) (by omega) (.int .i64 light) (.int .i64 R))
  have HNa := Lib.hid (blk_set2 hb7 (.int .i64 light) (.int .i64 R))
  obtain ⟨tl, s0, s1, s2, s3, s4, s5, s6, s7, s8, s9, s10⟩ := blk11 hTa
  obtain ⟨y0, y1, yl⟩ := cells2 hGa
  clear hT7 hG7 g3 hTa hGa hb7 hv7 HT0 HG0 HR0 HB0
  gi_wp2_with (refine ⟨trivial, ?_⟩; gi_at_call 52; refine (callsIn_wide.2 (HMs.out _)).mono ?_; rintro e w' ⟨rfl, rfl⟩)
  have HV7 := Lib.hid (show v7.heap.size ≥ w.heap.size + 3 by omega)
  have h7l : g7 < v7.heap.size := zl
  generalize hV : (v7.setCell ⟨g7, 0, none⟩ (.int .i64 light)).setCell ⟨g7, 1, none⟩ (.int .i64 R) = v8 at *
  have hv8 : v8.heap.size = v7.heap.size := by rw [← hV]; simp [World.setCell]
  generalize hU : ((v8.alloc (.cells (cSp id light lever height A n c B m d merr C q r terr turn least) 27)).alloc (.cells #[.slice Y ny cy, .slice G ng cg] 31)).alloc (.cells #[.slice Lv nv cv] 39) = U at *
  have hUs : U.heap.size = v7.heap.size + 3 := by rw [← hU]; simp [hv8]
  have hUb : Below v7.heap.size v8 U := by rw [← hU, ← hv8]; exact (((Below.refl _ _).alloc (Nat.le_refl _) _).alloc (by simp) _).alloc (by simp; omega) _
  have k1 : Blk U v7.heap.size 27 (cSp id light lever height A n c B m d merr C q r terr turn least) := by rw [← hU]; exact ((Blk.at_new _ _ hv8.symm).alloc _).alloc _
  have k2 : Blk U (v7.heap.size + 1) 31 #[.slice Y ny cy, .slice G ng cg] := by rw [← hU]; exact (Blk.at_new _ _ (by simp [hv8])).alloc _
  have k3 : Blk U (v7.heap.size + 2) 39 #[.slice Lv nv cv] := by rw [← hU]; exact Blk.at_new _ _ (by simp [hv8])
  rw [← hv8] at hUb
  have kr := HRa.out.below hUb
  have kn := HNa.out.below hUb
  have hbU := HBa.out.trans (hUb.mono HBa.out.size)
  rw [hv8] at hUb
  clear hV hU z0 z1 f0 f1 tl s0 s1 s2 s3 s4 s5 s6 s7 s8 s9 s10 y0 y1 yl HRa HNa HBa HMs HHe
  have hpU : ∀ g, (g < w.heap.size ∨ g = v7.heap.size ∨ g = v7.heap.size + 1 ∨ g = v7.heap.size + 2) → g < U.heap.size := fun g hg => by omega
  refine wpIn_rangeFunc_ownH (α := Sv) rfl (by omega) (gf := 75) (lb := #[.pointer (some ⟨v7.heap.size + 2, 0, none⟩), .pointer (some ⟨v7.heap.size, 0, none⟩), .pointer (some ⟨v7.heap.size + 1, 0, none⟩)]) rfl trivial (enters_of Tryz.func75 (by kernel_rfl) rfl)
    (HSt.out _ v7.heap.size (v7.heap.size + 1) (v7.heap.size + 2) (fun g => g < w.heap.size ∨ g = v7.heap.size ∨ g = v7.heap.size + 1 ∨ g = v7.heap.size + 2) (fun g hg => .inl hg) (.inr (.inl rfl)) (.inr (.inr (.inl rfl))) (.inr (.inr (.inr rfl))) U hpU (fun g hg => hbU.block g hg) k1 k2 k3) keepP_t (keepP_b hpU) (Below.refl _ _) (fun x => (rfl : (encM light R mn merr ys gs x).size = 2))
    (fun pre W => Blk W g7 43 #[.int .i64 (togS light R mn merr ys gs pre).1, .int .i64 (togS light R mn merr ys gs pre).2] ∧ Blk W (w.heap.size + 2) 43 #[.int .i64 0, .int .i64 0] ∧ Below w.heap.size w W ∧ U.heap.size ≤ W.heap.size)
    (fun _ _ _ => False)
    (fun pre X Y' row hs hg hr => ⟨Blk.own (β := Unit) _ _ _ _ () X Y' row hs.1 hg hr, Blk.own (β := Unit) _ _ _ _ () X Y' row hs.2.1 hg hr, ownFrom_below (β := Unit) (Nat.le_refl _) (show w.heap.size ≤ U.heap.size by omega) () X Y' row hs.2.2.1 hg hr, Nat.le_trans hs.2.2.2 hg.size⟩)
    (fun _ _ _ _ _ h => h.elim) ⟨by rw [HS0.out]; exact kn, kr, hbU, Nat.le_refl _⟩
    (fun x a' W => ∃ Bx, U.heap.size ≤ Bx ∧ Blk W Bx 43 #[.int .i64 (maS light R mn merr ys gs x).1, .int .i64 (maS light R mn merr ys gs x).2] ∧
      a' = { tmps := #[.agg (cSp id light lever height A n c B m d merr C q r terr turn least), .agg #[.slice Y ny cy, .slice G ng cg], .slice Lv nv cv, .pointer (some ⟨w.heap.size, 0, none⟩), .pointer (some ⟨w.heap.size + 1, 0, none⟩), undef, .pointer (some ⟨w.heap.size + 1 + 1, 0, none⟩), .pointer (some ⟨g7, 0, none⟩), undef, .pointer (some ⟨Bx, 0, none⟩), .pointer (some ⟨w.heap.size, 1, none⟩), .int .i64 light, .agg (cSp id light lever height A n c B m d merr C q r terr turn least), .int .i64 R, .agg #[.int .i64 light, .int .i64 R], .agg (cSp id light lever height A n c B m d merr C q r terr turn least), .agg #[.slice Y ny cy, .slice G ng cg], .slice Lv nv cv, .func (.func 75) #[] #[.pointer (some ⟨v7.heap.size + 2, 0, none⟩), .pointer (some ⟨v7.heap.size, 0, none⟩), .pointer (some ⟨v7.heap.size + 1, 0, none⟩)], .int .i64 x.id, vSp (maS light R mn merr ys gs x).1 (maS light R mn merr ys gs x).2, undef, undef, undef, undef], defers := [] })
    ?hAx ?assign ?body ?done ?stop
  case hAx =>
    rintro x a' _ X Y' row ⟨Bx, h1, h2, h3⟩ hg hr
    exact ⟨Bx, h1, Blk.own (β := Unit) _ _ _ _ () X Y' row h2 hg hr, h3⟩
  case assign =>
    rintro l' pre x W' K ⟨hi1, hi2, hi3, hi4⟩ hK
    unfold encM
    gi_wp2
    exact hK _ _ ((KeepsOthers.alloc _ _).from _) (keepP_below ((Below.refl _ W').alloc (Nat.le_refl _) _) (fun g hg => Nat.lt_of_lt_of_le (hpU g hg) hi4)) ⟨hi1.alloc _, hi2.alloc _, hi3.alloc hi3.size _, by simp; omega⟩ ⟨W'.heap.size, hi4, Blk.new W' _ _, rfl⟩
  case body =>
    rintro l' pre x _ W' hl' ⟨r', hr'⟩ ⟨hi1, hi2, hi3, hi4⟩ ⟨Bx, hBx, hpc, rfl⟩ hlen
    have HS := Lib.hid (HSn.out pre x)
    generalize maS light R mn merr ys gs x = mx at *
    obtain ⟨sp, hsp⟩ : ∃ sp, togS light R mn merr ys gs pre = sp := ⟨_, rfl⟩
    rw [hsp] at hi1 HS
    obtain ⟨s1, s2⟩ := sp
    obtain ⟨m1, m2⟩ := mx
    dsimp only at hi1 HS hpc ⊢
    have HI1 := Lib.hid hi1
    have HI2 := Lib.hid hi2
    have HI3 := Lib.hid hi3
    obtain ⟨a0, a1, al⟩ := cells2 hi1
    obtain ⟨b0, b1, bl⟩ := cells2 hpc
    clear hi1 hi2 hi3 hpc k1 k2 k3 kr kn hbU hUb hsp
    gi_wp2_with (refine ⟨trivial, ?_⟩; gi_at_call 53; refine (CallsIn.inRound _ (callsIn_wide.2 (meet_any _ _ _ _ _))).mono ?_; rintro e w2 ⟨rfl, hb2⟩; obtain ⟨c0, c1, cl⟩ := cells2 (HI1.out.below hb2); have f0 := (HI1.out.below hb2).frozen 0; have f1 := (HI1.out.below hb2).frozen 1)
    have hg2 := grown_set2 w2 g7 (.int .i64 (max s1 m1)) (.int .i64 (min s2 m2))
    refine ⟨(keepsFrom_below hb2).trans (((KeepsOthers.setCell _ _ _).trans (KeepsOthers.setCell _ _ _)).from _), keepP_t (keepP_below hb2 (fun g hg => Nat.lt_of_lt_of_le (hpU g hg) hi4)) (keepP_t (keepP_set (by dsimp only; omega)) (keepP_set (by dsimp only; omega))), ?_, (HI2.out.below hb2).grown hg2 (by intro e; have := Option.some.inj e; omega), below_set2 (HI3.out.trans (hb2.mono HI3.out.size)) (by omega) _ _, by have := hb2.size; simp; omega⟩
    rw [HS.out]
    exact blk_set2 (HI1.out.below hb2) _ _
  case done =>
    rintro D xs W' hD hxs ⟨hi1, hi2, hi3, hi4⟩ hK
    rw [HO.out xs hxs] at hi1
    have HI2 := Lib.hid hi2
    have HI3 := Lib.hid hi3
    dsimp only at hi1
    obtain ⟨a0, a1, al⟩ := cells2 hi1
    obtain ⟨r0, r1, rl⟩ := cells2 hi2
    have f0 := hi2.frozen 0
    have f1 := hi2.frozen 1
    have HKD := Lib.hid (show ((W'.setCell ⟨w.heap.size + 2, 0, none⟩ (.int .i64 o1)).setCell ⟨w.heap.size + 2, 1, none⟩ (.int .i64 o2)).heap[D]? = some (.deferred (some [])) from
      (Below.heap_setCell _ ⟨w.heap.size + 2, 1, none⟩ _ D (by simp; omega)).trans ((Below.heap_setCell _ ⟨w.heap.size + 2, 0, none⟩ _ D (by simp; omega)).trans hK))
    clear hi1 hi2 hi3 hK k1 k2 k3 kr kn hbU hUb
    gi_wp2
    refine leave_one (D := D) HKD.out ?_
    obtain ⟨z0, z1, _⟩ := cells2 (Blk.put (D := D) (o := .deferred none) (blk_set2 HI2.out (.int .i64 o1) (.int .i64 o2)) (by omega))
    exact ⟨vSp o1 o2, by simp [results, Tryz.results26, go_sem, z0, z1], rfl, below_put (below_set2 HI3.out (by omega) _ _) (by omega)⟩
  case stop => exact fun _ _ _ _ _ _ h => h.elim
end Go.Proofs.YtgojpgggbflgoaaGreat

namespace Go.Proofs.YtgojpgggbflgoaaGreat
open Go.RowKit

set_option maxRecDepth 100000 in
set_option maxHeartbeats 6400000 in
theorem checked_any (id light lever height : Int) (A : Option Addr) (n c : Nat) (B : Option Addr) (m d : Nat) (merr : Int) (C : Option Addr) (q r : Nat) (terr turn least : Int) (hs : List Hl) (mn mt : List (Int × Int)) (Y : Option Addr) (ny cy : Nat) (G : Option Addr) (ng cg : Nat) (ys : List Hy) (gs : List Gs) (x : Sv) (w : World) (hA : SAt encL 4 w A n hs) (hB : CAt w B m mn) (hC : CAt w C q mt) (hn : n ≤ 9223372036854775807) (hm : m ≤ 9223372036854775807) (hq : q ≤ 9223372036854775807) (hc : n ≤ c) (hE : shipE id light lever height turn least hs mn merr mt terr = 0) (hY : SAt encY 3 w Y ny ys) (hG : SAt encG 5 w G ng gs) (hny : ny ≤ 1000000) (hng : ng ≤ 1000000) (hK : chkA ys gs x = 0) :
    Calls Tryz.prog 47 #[.agg (cSp id light lever height A n c B m d merr C q r terr turn least), .agg #[.slice Y ny cy, .slice G ng cg], vSv x] w fun e w' => e = .returned (.int .i64 0) ∧ Below w.heap.size w w' := by
  have HCk := Lib.hid (fun (u : World) (hu : Below w.heap.size w u) => HCheck_any id light lever height A n c B m d merr C q r terr turn least hs mn mt u (hA.below hu) (hB.below hu) (hC.below hu) hn hm hq hc)
  rw [hE] at HCk
  have HSc := Lib.hid (fun (u : World) (hu : Below w.heap.size w u) => SCheck_any Y ny cy G ng cg ys gs x u (hY.below hu) (hG.below hu) (by omega) (by omega))
  rw [hK] at HSc
  clear hA hB hC hE hY hG hK
  obtain ⟨xi, xt, a0, b0, a1, b1, a2, b2, a3, b3, a4, b4, a5, b5, xs, xh, xl, xu⟩ := x
  dsimp only [vSv] at HSc ⊢
  have hb0 := ((Below.refl w.heap.size w).alloc (Nat.le_refl _) (.cells (cSp id light lever height A n c B m d merr C q r terr turn least) 27)).alloc (by simp) (.cells #[.slice Y ny cy, .slice G ng cg] 31)
  have hb1 := hb0.alloc (by simp; omega) (.cells #[.int .i64 xi, .int .i64 xt, .int .i64 a0, .int .i64 b0, .int .i64 a1, .int .i64 b1, .int .i64 a2, .int .i64 b2, .int .i64 a3, .int .i64 b3, .int .i64 a4, .int .i64 b4, .int .i64 a5, .int .i64 b5, .int .i64 xs, .int .i64 xh, .int .i64 xl, .int .i64 xu] 62)
  have t0 := ((Blk.new w 27 (cSp id light lever height A n c B m d merr C q r terr turn least)).alloc (.cells #[.slice Y ny cy, .slice G ng cg] 31)).alloc (.cells #[.int .i64 xi, .int .i64 xt, .int .i64 a0, .int .i64 b0, .int .i64 a1, .int .i64 b1, .int .i64 a2, .int .i64 b2, .int .i64 a3, .int .i64 b3, .int .i64 a4, .int .i64 b4, .int .i64 a5, .int .i64 b5, .int .i64 xs, .int .i64 xh, .int .i64 xl, .int .i64 xu] 62)
  have g0 := (Blk.at_new (W := w.alloc (.cells (cSp id light lever height A n c B m d merr C q r terr turn least) 27)) (g := w.heap.size + 1) 31 #[.slice Y ny cy, .slice G ng cg] (by simp)).alloc (.cells #[.int .i64 xi, .int .i64 xt, .int .i64 a0, .int .i64 b0, .int .i64 a1, .int .i64 b1, .int .i64 a2, .int .i64 b2, .int .i64 a3, .int .i64 b3, .int .i64 a4, .int .i64 b4, .int .i64 a5, .int .i64 b5, .int .i64 xs, .int .i64 xh, .int .i64 xl, .int .i64 xu] 62)
  have x0 := Blk.at_new (W := (w.alloc (.cells (cSp id light lever height A n c B m d merr C q r terr turn least) 27)).alloc (.cells #[.slice Y ny cy, .slice G ng cg] 31)) (g := w.heap.size + 2) 62 #[.int .i64 xi, .int .i64 xt, .int .i64 a0, .int .i64 b0, .int .i64 a1, .int .i64 b1, .int .i64 a2, .int .i64 b2, .int .i64 a3, .int .i64 b3, .int .i64 a4, .int .i64 b4, .int .i64 a5, .int .i64 b5, .int .i64 xs, .int .i64 xh, .int .i64 xl, .int .i64 xu] (by simp)
  clear hb0
  go_enter Tryz.func47, Tryz.ntmps47
  go_upto_region 1 with fail
  generalize hW : ((w.alloc (.cells (cSp id light lever height A n c B m d merr C q r terr turn least) 27)).alloc (.cells #[.slice Y ny cy, .slice G ng cg] 31)).alloc (.cells #[.int .i64 xi, .int .i64 xt, .int .i64 a0, .int .i64 b0, .int .i64 a1, .int .i64 b1, .int .i64 a2, .int .i64 b2, .int .i64 a3, .int .i64 b3, .int .i64 a4, .int .i64 b4, .int .i64 a5, .int .i64 b5, .int .i64 xs, .int .i64 xh, .int .i64 xl, .int .i64 xu] 62) = W at *
  clear hW
  have HT0 := Lib.hid t0
  have HG0 := Lib.hid g0
  have HX0 := Lib.hid x0
  have HB0 := Lib.hid hb1
  clear t0 g0 x0 hb1
  obtain ⟨tl, s0, s1, s2, s3, s4, s5, s6, s7, s8, s9, s10⟩ := blk11 HT0.out
  go_upto_region 4 with (go_at_call 34; (with_reducible refine (HCk.out _ HB0.out).mono ?_); rintro e u1 ⟨rfl, hb1⟩)
  have HRx := Lib.hid (range_blk (cs := [.int .i64 xi, .int .i64 xt, .int .i64 a0, .int .i64 b0, .int .i64 a1, .int .i64 b1, .int .i64 a2, .int .i64 b2, .int .i64 a3, .int .i64 b3, .int .i64 a4, .int .i64 b4, .int .i64 a5, .int .i64 b5, .int .i64 xs, .int .i64 xh, .int .i64 xl, .int .i64 xu]) (HX0.out.below hb1))
  obtain ⟨y0, y1, yl⟩ := cells2 (HG0.out.below hb1)
  have HB1 := Lib.hid (HB0.out.trans (hb1.mono HB0.out.size))
  clear hb1 tl s0 s1 s2 s3 s4 s5 s6 s7 s8 s9 s10 HT0 HG0 HX0
  go_wp2_with (first | (refine wpList_load_mid rfl 62 (.tmp 5) rfl (w.heap.size + 2) 0 rfl [.int .i64 xi, .int .i64 xt, .int .i64 a0, .int .i64 b0, .int .i64 a1, .int .i64 b1, .int .i64 a2, .int .i64 b2, .int .i64 a3, .int .i64 b3, .int .i64 a4, .int .i64 b4, .int .i64 a5, .int .i64 b5, .int .i64 xs, .int .i64 xh, .int .i64 xl, .int .i64 xu] _ HRx.out Tryz.underlying62 rfl info_sv ?_) | (go_at_call 22; (with_reducible refine (HSc.out _ HB1.out).mono ?_); rintro e u2 ⟨rfl, hb2⟩))
  exact bodyPost_ret (v := .int .i64 0) (by simp [results, Tryz.results47, go_sem]) rfl ⟨rfl, HB1.out.trans (hb2.mono HB1.out.size)⟩
set_option maxRecDepth 100000 in
set_option maxHeartbeats 6400000 in
theorem Possible_any (id light lever height : Int) (A : Option Addr) (n c : Nat) (B : Option Addr) (m d : Nat) (merr : Int) (C : Option Addr) (q r : Nat) (terr turn least : Int) (hs : List Hl) (mn mt : List (Int × Int)) (Y : Option Addr) (ny cy : Nat) (G : Option Addr) (ng cg : Nat) (ys : List Hy) (gs : List Gs) (x : Sv) (k : Int) (w : World) (hA : SAt encL 4 w A n hs) (hB : CAt w B m mn) (hC : CAt w C q mt) (hn : n ≤ 9223372036854775807) (hm : m ≤ 9223372036854775807) (hq : q ≤ 9223372036854775807) (hc : n ≤ c) (hE : shipE id light lever height turn least hs mn merr mt terr = 0) (hY : SAt encY 3 w Y ny ys) (hG : SAt encG 5 w G ng gs) (hny : ny ≤ 1000000) (hng : ng ≤ 1000000) (hK : chkA ys gs x = 0) (hbu : bulbE ys gs = 0) (hx : MaOk mn merr ys gs x) :
    Calls Tryz.prog 24 #[.agg (cSp id light lever height A n c B m d merr C q r terr turn least), .agg #[.slice Y ny cy, .slice G ng cg], vSv x, .int .i64 k] w fun e w' => e = .returned (.tuple #[.bool (inB k (maS light (roomS light hs) mn merr ys gs x).1 (maS light (roomS light hs) mn merr ys gs x).2), .int .i64 0]) ∧ Below w.heap.size w w' := by
  have HCh := Lib.hid (fun (u : World) (hu : Below w.heap.size w u) => checked_any id light lever height A n c B m d merr C q r terr turn least hs mn mt Y ny cy G ng cg ys gs x u (hA.below hu) (hB.below hu) (hC.below hu) hn hm hq hc hE (hY.below hu) (hG.below hu) hny hng hK)
  have HMa := Lib.hid (fun (u : World) (hu : Below w.heap.size w u) => mass_any id light lever height A n c B m d merr C q r terr turn least hs mn mt Y ny cy G ng cg ys gs x u (hA.below hu) (hB.below hu) (shipE_zero hE) (hY.below hu) (hG.below hu) hny hng (bulb_YsOk hbu) (bulb_GsOk hbu) hx)
  clear hA hB hC hE hY hG hK hbu hx
  generalize maS light (roomS light hs) mn merr ys gs x = S at *
  obtain ⟨S1, S2⟩ := S
  obtain ⟨xi, xt, a0, b0, a1, b1, a2, b2, a3, b3, a4, b4, a5, b5, xs, xh, xl, xu⟩ := x
  dsimp only [vSv] at HCh HMa ⊢
  obtain ⟨vb, hvb⟩ : ∃ vb, inB k S1 S2 = vb := ⟨_, rfl⟩
  have HVb := Lib.hid hvb
  rw [hvb]
  clear hvb
  have hb0 := ((Below.refl w.heap.size w).alloc (Nat.le_refl _) (.cells (cSp id light lever height A n c B m d merr C q r terr turn least) 27)).alloc (by simp) (.cells #[.slice Y ny cy, .slice G ng cg] 31)
  have hb1 := hb0.alloc (by simp; omega) (.cells #[.int .i64 xi, .int .i64 xt, .int .i64 a0, .int .i64 b0, .int .i64 a1, .int .i64 b1, .int .i64 a2, .int .i64 b2, .int .i64 a3, .int .i64 b3, .int .i64 a4, .int .i64 b4, .int .i64 a5, .int .i64 b5, .int .i64 xs, .int .i64 xh, .int .i64 xl, .int .i64 xu] 62)
  have t0 := ((Blk.new w 27 (cSp id light lever height A n c B m d merr C q r terr turn least)).alloc (.cells #[.slice Y ny cy, .slice G ng cg] 31)).alloc (.cells #[.int .i64 xi, .int .i64 xt, .int .i64 a0, .int .i64 b0, .int .i64 a1, .int .i64 b1, .int .i64 a2, .int .i64 b2, .int .i64 a3, .int .i64 b3, .int .i64 a4, .int .i64 b4, .int .i64 a5, .int .i64 b5, .int .i64 xs, .int .i64 xh, .int .i64 xl, .int .i64 xu] 62)
  have g0 := (Blk.at_new (W := w.alloc (.cells (cSp id light lever height A n c B m d merr C q r terr turn least) 27)) (g := w.heap.size + 1) 31 #[.slice Y ny cy, .slice G ng cg] (by simp)).alloc (.cells #[.int .i64 xi, .int .i64 xt, .int .i64 a0, .int .i64 b0, .int .i64 a1, .int .i64 b1, .int .i64 a2, .int .i64 b2, .int .i64 a3, .int .i64 b3, .int .i64 a4, .int .i64 b4, .int .i64 a5, .int .i64 b5, .int .i64 xs, .int .i64 xh, .int .i64 xl, .int .i64 xu] 62)
  have x0 := Blk.at_new (W := (w.alloc (.cells (cSp id light lever height A n c B m d merr C q r terr turn least) 27)).alloc (.cells #[.slice Y ny cy, .slice G ng cg] 31)) (g := w.heap.size + 2) 62 #[.int .i64 xi, .int .i64 xt, .int .i64 a0, .int .i64 b0, .int .i64 a1, .int .i64 b1, .int .i64 a2, .int .i64 b2, .int .i64 a3, .int .i64 b3, .int .i64 a4, .int .i64 b4, .int .i64 a5, .int .i64 b5, .int .i64 xs, .int .i64 xh, .int .i64 xl, .int .i64 xu] (by simp)
  clear hb0
  go_enter Tryz.func24, Tryz.ntmps24
  go_upto_region 1 with fail
  generalize hW : ((w.alloc (.cells (cSp id light lever height A n c B m d merr C q r terr turn least) 27)).alloc (.cells #[.slice Y ny cy, .slice G ng cg] 31)).alloc (.cells #[.int .i64 xi, .int .i64 xt, .int .i64 a0, .int .i64 b0, .int .i64 a1, .int .i64 b1, .int .i64 a2, .int .i64 b2, .int .i64 a3, .int .i64 b3, .int .i64 a4, .int .i64 b4, .int .i64 a5, .int .i64 b5, .int .i64 xs, .int .i64 xh, .int .i64 xl, .int .i64 xu] 62) = W at *
  clear hW
  have HT0 := Lib.hid t0
  have HG0 := Lib.hid g0
  have HX0 := Lib.hid x0
  have HB0 := Lib.hid hb1
  clear t0 g0 x0 hb1
  obtain ⟨tl, s0, s1, s2, s3, s4, s5, s6, s7, s8, s9, s10⟩ := blk11 HT0.out
  obtain ⟨y0, y1, yl⟩ := cells2 HG0.out
  have HRx := Lib.hid (range_blk (cs := [.int .i64 xi, .int .i64 xt, .int .i64 a0, .int .i64 b0, .int .i64 a1, .int .i64 b1, .int .i64 a2, .int .i64 b2, .int .i64 a3, .int .i64 b3, .int .i64 a4, .int .i64 b4, .int .i64 a5, .int .i64 b5, .int .i64 xs, .int .i64 xh, .int .i64 xl, .int .i64 xu]) HX0.out)
  go_upto_region 4 with (first | (refine wpList_load_mid rfl 62 (.tmp 6) rfl (w.heap.size + 2) 0 rfl [.int .i64 xi, .int .i64 xt, .int .i64 a0, .int .i64 b0, .int .i64 a1, .int .i64 b1, .int .i64 a2, .int .i64 b2, .int .i64 a3, .int .i64 b3, .int .i64 a4, .int .i64 b4, .int .i64 a5, .int .i64 b5, .int .i64 xs, .int .i64 xh, .int .i64 xl, .int .i64 xu] _ HRx.out Tryz.underlying62 rfl info_sv ?_) | (go_at_call 47; (with_reducible refine (HCh.out _ HB0.out).mono ?_); rintro e u1 ⟨rfl, hb1⟩))
  have HT1 := Lib.hid (HT0.out.below hb1)
  have HB1 := Lib.hid (HB0.out.trans (hb1.mono HB0.out.size))
  have HR1 := Lib.hid (range_blk (cs := [.int .i64 xi, .int .i64 xt, .int .i64 a0, .int .i64 b0, .int .i64 a1, .int .i64 b1, .int .i64 a2, .int .i64 b2, .int .i64 a3, .int .i64 b3, .int .i64 a4, .int .i64 b4, .int .i64 a5, .int .i64 b5, .int .i64 xs, .int .i64 xh, .int .i64 xl, .int .i64 xu]) (HX0.out.below hb1))
  have hg1 := HG0.out.below hb1
  clear hb1 y0 y1 yl tl s0 s1 s2 s3 s4 s5 s6 s7 s8 s9 s10 HT0 HX0 HRx HCh
  obtain ⟨tl, s0, s1, s2, s3, s4, s5, s6, s7, s8, s9, s10⟩ := blk11 HT1.out
  obtain ⟨y0, y1, yl⟩ := cells2 hg1
  clear hg1
  go_upto_region 5 with (first | (refine wpList_load_mid rfl 62 (.tmp 6) rfl (w.heap.size + 2) 0 rfl [.int .i64 xi, .int .i64 xt, .int .i64 a0, .int .i64 b0, .int .i64 a1, .int .i64 b1, .int .i64 a2, .int .i64 b2, .int .i64 a3, .int .i64 b3, .int .i64 a4, .int .i64 b4, .int .i64 a5, .int .i64 b5, .int .i64 xs, .int .i64 xh, .int .i64 xl, .int .i64 xu] _ HR1.out Tryz.underlying62 rfl info_sv ?_) | (go_at_call 48; (with_reducible refine (HMa.out _ HB1.out).mono ?_); rintro e u2 ⟨rfl, hb2⟩))
  have bq := below_new u2 (.cells #[.int .i64 S1, .int .i64 S2] 43)
  have HB2 := Lib.hid (HB1.out.trans ((hb2.trans (bq.mono hb2.size)).mono HB1.out.size))
  have hn2 := Blk.new u2 43 #[.int .i64 S1, .int .i64 S2]
  generalize hV : u2.alloc (.cells #[.int .i64 S1, .int .i64 S2] 43) = V at *
  generalize hg : u2.heap.size = g9 at *
  clear hV hg bq hb2 y0 y1 yl tl s0 s1 s2 s3 s4 s5 s6 s7 s8 s9 s10 HT1 HR1 HMa
  obtain ⟨z0, z1, zl⟩ := cells2 hn2
  clear hn2
  go_wp2_with (go_at_call 36; (with_reducible refine (swithin_any _ _ _ _).mono ?_); rintro e u3 ⟨rfl, rfl⟩)
  rw [HVb.out]
  exact bodyPost_ret (v := .tuple #[.bool vb, .int .i64 0]) (by simp [results, Tryz.results24, go_sem]) rfl ⟨rfl, HB2.out⟩
end Go.Proofs.YtgojpgggbflgoaaGreat

namespace Go.Proofs.YtgojpgggbflgoaaGreat
open Go.RowKit

/-- A list of surveys that is right. -/
structure LvOk (ys : List Hy) (gs : List Gs) (l : List Sv) : Prop where
  pos : 0 < l.length
  le : l.length ≤ 12
  chk : ∀ x ∈ l, chkE ys gs x = 0
  ids : ∀ i (h : i < l.length), idx (fun y => y.id == (l[i]).id) l = (i : Int)
/-- A list as it is handed over. -/
structure Lv where
  A : Option Addr
  n : Nat
  c : Nat
  l : List Sv
abbrev vLv (s : Lv) : Value := .slice s.A s.n s.c
set_option maxRecDepth 100000 in
set_option maxHeartbeats 6400000 in
theorem listed_any (id light lever height : Int) (A : Option Addr) (n c : Nat) (B : Option Addr) (m d : Nat) (merr : Int) (C : Option Addr) (q r : Nat) (terr turn least : Int) (hs : List Hl) (mn mt : List (Int × Int)) (Y : Option Addr) (ny cy : Nat) (G : Option Addr) (ng cg : Nat) (ys : List Hy) (gs : List Gs) (gl k : Nat) (ls : List Lv) (w : World) (hA : SAt encL 4 w A n hs) (hB : CAt w B m mn) (hC : CAt w C q mt) (hn : n ≤ 9223372036854775807) (hm : m ≤ 9223372036854775807) (hq : q ≤ 9223372036854775807) (hc : n ≤ c) (hE : shipE id light lever height turn least hs mn merr mt terr = 0) (hY : SAt encY 3 w Y ny ys) (hG : SAt encG 5 w G ng gs) (hny : ny ≤ 1000000) (hng : ng ≤ 1000000) (hbu : bulbE ys gs = 0) (hgl : Blk w gl 39 (ls.map vLv).toArray) (hk : ls.length = k) (hkm : k ≤ 1000) (hL : ∀ s ∈ ls, SAt encV 18 w s.A s.n s.l ∧ LvOk ys gs s.l) :
    Calls Tryz.prog 25 #[.agg (cSp id light lever height A n c B m d merr C q r terr turn least), .agg #[.slice Y ny cy, .slice G ng cg], .slice (some ⟨gl, 0, none⟩) k k] w fun e w' => e = .returned (.int .i64 0) ∧ Below w.heap.size w w' := by
  have hb0 := ((Below.refl w.heap.size w).alloc (Nat.le_refl _) (.cells (cSp id light lever height A n c B m d merr C q r terr turn least) 27)).alloc (by simp) (.cells #[.slice Y ny cy, .slice G ng cg] 31)
  have t0 := (Blk.new w 27 (cSp id light lever height A n c B m d merr C q r terr turn least)).alloc (.cells #[.slice Y ny cy, .slice G ng cg] 31)
  have g0 := Blk.at_new (W := w.alloc (.cells (cSp id light lever height A n c B m d merr C q r terr turn least) 27)) (g := w.heap.size + 1) 31 #[.slice Y ny cy, .slice G ng cg] (by simp)
  have HGl := Lib.hid (fun (u : World) (hu : Below w.heap.size w u) => hgl.below hu)
  have hgll := hgl.lt
  have HCk := Lib.hid (fun (u : World) (hu : Below w.heap.size w u) => HCheck_any id light lever height A n c B m d merr C q r terr turn least hs mn mt u (hA.below hu) (hB.below hu) (hC.below hu) hn hm hq hc)
  rw [hE] at HCk
  have HCb := Lib.hid (fun (u : World) (hu : Below w.heap.size w u) => CheckBulbs_any Y ny cy G ng cg ys gs u (hY.below hu) (hG.below hu) (by omega) (by omega))
  rw [hbu] at HCb
  have HSc := Lib.hid (fun (u : World) (hu : Below w.heap.size w u) (x : Sv) (hx : chkE ys gs x = 0) => by
    have h := scheck_any Y ny cy G ng cg ys gs x u (hY.below hu) (hG.below hu) hny hng (bulb_YsOk hbu) (bulb_GsOk hbu)
    rw [hx] at h
    exact h)
  have HLs := Lib.hid (fun (i : Nat) (hi : i < ls.length) => hL _ (List.getElem_mem hi))
  have HLn := Lib.hid hk
  clear hA hB hC hE hY hG hbu hL hgl hk
  go_enter Tryz.func25, Tryz.ntmps25
  go_upto_region 1 with fail
  generalize hW : (w.alloc (.cells (cSp id light lever height A n c B m d merr C q r terr turn least) 27)).alloc (.cells #[.slice Y ny cy, .slice G ng cg] 31) = W at *
  clear hW
  have HG0 := Lib.hid g0
  have HB0 := Lib.hid hb0
  obtain ⟨tl, s0, s1, s2, s3, s4, s5, s6, s7, s8, s9, s10⟩ := blk11 t0
  clear t0 g0 hb0
  go_upto_region 4 with (go_at_call 34; (with_reducible refine (HCk.out _ HB0.out).mono ?_); rintro e u1 ⟨rfl, hb1⟩)
  have HG1 := Lib.hid (HG0.out.below hb1)
  have HB1 := Lib.hid (HB0.out.trans (hb1.mono HB0.out.size))
  clear hb1 tl s0 s1 s2 s3 s4 s5 s6 s7 s8 s9 s10 HG0 HB0 HCk
  obtain ⟨y0, y1, yl⟩ := cells2 HG1.out
  go_upto_region 7 with (go_at_call 21; (with_reducible refine (HCb.out _ HB1.out).mono ?_); rintro e u2 ⟨rfl, hb2⟩)
  have HG2 := Lib.hid (HG1.out.below hb2)
  have HB2 := Lib.hid (HB1.out.trans (hb2.mono HB1.out.size))
  clear hb2 y0 y1 yl HG1 HB1 HCb
  go_upto_region 8 with fail
  go_loopw [6, 10, 11, 12, 13, 14, 15, 28, 32, 36, 42] (fun _ _ _ _ _ _ _ i _ _ _ wx => ∃ j : Nat, j ≤ k ∧ i = .int .i64 (j : Int) ∧ Below u2.heap.size u2 wx) (fun _ _ _ _ _ _ _ i _ _ _ _ => k - (intOf i).toNat)
  case atStart => exact ⟨0, Nat.zero_le _, rfl, Below.refl _ _⟩
  case round =>
    obtain ⟨j, hj, rfl, hb⟩ := hrel
    have HB := Lib.hid hb
    clear hb
    by_cases hjk : j < k
    case neg =>
      have hjk2 : j = k := by omega
      subst j
      go_wp2
      exact bodyPost_ret (v := .int .i64 0) (by simp [results, Tryz.results25, go_sem]) rfl ⟨rfl, HB2.out.trans (HB.out.mono HB2.out.size)⟩
    case pos =>
      have hjl : j < ls.length := by rw [HLn.out]; exact hjk
      have hgc := (HGl.out wr (HB2.out.trans (HB.out.mono HB2.out.size))).cell j
      have hgl2 := (HGl.out wr (HB2.out.trans (HB.out.mono HB2.out.size))).lt
      rw [List.getElem?_toArray, List.getElem?_map, List.getElem?_eq_getElem hjl, Option.map_some] at hgc
      obtain ⟨hsv, hok⟩ := HLs.out j hjl
      generalize ls[j] = s at *
      obtain ⟨LA, ln, lc, ll⟩ := s
      dsimp only [vLv] at hgc hsv hok
      have hln : ll.length = ln := hsv.len
      have hlp := hok.pos
      have hll := hok.le
      have HOk := Lib.hid hok
      have HSv := Lib.hid (fun (u : World) (hu : Below wr.heap.size wr u) => hsv.below (HB2.out.trans ((HB.out.trans (hu.mono HB.out.size)).mono HB2.out.size)))
      clear hsv hok
      have hz1 : ((ln : Int) == 0) = false := by simp; omega
      have hz2 : decide ((12 : Int) < (ln : Int)) = false := decide_eq_false (by omega)
      go_upto_region 15 with fail
      clear hgc hgl2
      go_loopw [6, 11, 12, 13, 14, 15, 42] (fun _ _ _ _ _ _ t wx => ∃ i : Nat, i ≤ ln ∧ t = .int .i64 (i : Int) ∧ Below wr.heap.size wr wx) (fun _ _ _ _ _ _ t _ => ln - (intOf t).toNat)
      case atStart => exact ⟨0, Nat.zero_le _, rfl, Below.refl _ _⟩
      case round =>
        rename World => wq
        obtain ⟨i, hi, rfl, hb⟩ := hrel
        have HBq := Lib.hid hb
        by_cases hin : i < ln
        case neg =>
          have hin2 : i = ln := by omega
          subst i
          clear hb
          go_wp2
          go_roundw
          case rel => exact ⟨j + 1, by omega, by go_num, HB.out.trans (HBq.out.mono HB.out.size)⟩
          case measure => simp [intOf]; omega
        case pos =>
          have hil : i < ll.length := by rw [hln]; exact hin
          obtain ⟨b, off, rfl, hls⟩ := (HSv.out wq hb).at_ (by omega)
          have hra : wq.rangeAt b (off + i * 18) (encV ll[i]) := fun v u hv => hls.c i _ (List.getElem?_eq_getElem hil) v u hv
          have cl := hls.lt
          have hch := HOk.out.chk _ (List.getElem_mem hil)
          have hid := HOk.out.ids i hil
          clear hls
          generalize ll[i] = x at *
          obtain ⟨x0, x1, x2, x3, x4, x5, x6, x7, x8, x9, x10, x11, x12, x13, x14, x15, x16, x17⟩ := x
          dsimp only [encV] at hra hid
          have HRa := Lib.hid hra
          have HId := Lib.hid hid
          have hbx := below_new wq (.cells #[.int .i64 x0, .int .i64 x1, .int .i64 x2, .int .i64 x3, .int .i64 x4, .int .i64 x5, .int .i64 x6, .int .i64 x7, .int .i64 x8, .int .i64 x9, .int .i64 x10, .int .i64 x11, .int .i64 x12, .int .i64 x13, .int .i64 x14, .int .i64 x15, .int .i64 x16, .int .i64 x17] 62)
          have hx := Blk.new wq 62 #[.int .i64 x0, .int .i64 x1, .int .i64 x2, .int .i64 x3, .int .i64 x4, .int .i64 x5, .int .i64 x6, .int .i64 x7, .int .i64 x8, .int .i64 x9, .int .i64 x10, .int .i64 x11, .int .i64 x12, .int .i64 x13, .int .i64 x14, .int .i64 x15, .int .i64 x16, .int .i64 x17]
          have hbw := HB2.out.trans ((HB.out.trans ((hb.trans (hbx.mono hb.size)).mono HB.out.size)).mono HB2.out.size)
          have HCs := Lib.hid (HSc.out _ hbw _ hch)
          dsimp only [vSv] at HCs
          obtain ⟨y0, y1, yl⟩ := cells2 (HG2.out.below ((HB.out.trans (hb.mono HB.out.size)).trans (hbx.mono (by have := HB.out.size; have := hb.size; omega))))
          have HRx := Lib.hid (range_blk (cs := [.int .i64 x0, .int .i64 x1, .int .i64 x2, .int .i64 x3, .int .i64 x4, .int .i64 x5, .int .i64 x6, .int .i64 x7, .int .i64 x8, .int .i64 x9, .int .i64 x10, .int .i64 x11, .int .i64 x12, .int .i64 x13, .int .i64 x14, .int .i64 x15, .int .i64 x16, .int .i64 x17]) hx)
          have HX := Lib.hid hx
          have HBx := Lib.hid (hb.trans (hbx.mono hb.size))
          clear hra hid hch hx hbw hbx hb
          go_upto_region 18 with (first | (refine wpList_load_mid rfl 62 (.tmp 45) rfl b (off + i * 18) rfl [.int .i64 x0, .int .i64 x1, .int .i64 x2, .int .i64 x3, .int .i64 x4, .int .i64 x5, .int .i64 x6, .int .i64 x7, .int .i64 x8, .int .i64 x9, .int .i64 x10, .int .i64 x11, .int .i64 x12, .int .i64 x13, .int .i64 x14, .int .i64 x15, .int .i64 x16, .int .i64 x17] _ HRa.out Tryz.underlying62 rfl info_sv ?_) | (refine wpList_store_new rfl 62 (.tmp 12) (.tmp 46) rfl _ #[.int .i64 x0, .int .i64 x1, .int .i64 x2, .int .i64 x3, .int .i64 x4, .int .i64 x5, .int .i64 x6, .int .i64 x7, .int .i64 x8, .int .i64 x9, .int .i64 x10, .int .i64 x11, .int .i64 x12, .int .i64 x13, .int .i64 x14, .int .i64 x15, .int .i64 x16, .int .i64 x17] rfl rfl info_sv rfl (all18 x0 x1 x2 x3 x4 x5 x6 x7 x8 x9 x10 x11 x12 x13 x14 x15 x16 x17) ?_) | (refine wpList_load_mid rfl 62 (.tmp 12) rfl wq.heap.size 0 rfl [.int .i64 x0, .int .i64 x1, .int .i64 x2, .int .i64 x3, .int .i64 x4, .int .i64 x5, .int .i64 x6, .int .i64 x7, .int .i64 x8, .int .i64 x9, .int .i64 x10, .int .i64 x11, .int .i64 x12, .int .i64 x13, .int .i64 x14, .int .i64 x15, .int .i64 x16, .int .i64 x17] _ HRx.out Tryz.underlying62 rfl info_sv ?_) | (go_at_call 43; (with_reducible refine HCs.out.mono ?_); rintro e u3 ⟨rfl, hb3⟩))
          have HB3 := Lib.hid (HBx.out.trans (hb3.mono HBx.out.size))
          have HF := Lib.hid (fdV_any (some ⟨b, off, none⟩) ln lc ll x0 wq.heap.size i u3 (HSv.out u3 HB3.out) (by omega) (HX.out.below hb3).lt ((HX.out.below hb3).cell 0) HId.out hil)
          clear hb3 y0 y1 yl HRa HRx HX HCs HId
          go_upto_region 20 with fail
          go_upto_region 21 with (first | (go_at_call 49; (with_reducible refine HF.out.mono ?_); rintro e u4 ⟨⟨y0, y1, y2, y3, y4, y5, y6, y7, y8, y9, y10, y11, y12, y13, y14, y15, y16, y17⟩, rfl, hb4⟩) | (refine wpList_store_new rfl 62 (.tmp 14) (.tmp 57) rfl _ #[.int .i64 y0, .int .i64 y1, .int .i64 y2, .int .i64 y3, .int .i64 y4, .int .i64 y5, .int .i64 y6, .int .i64 y7, .int .i64 y8, .int .i64 y9, .int .i64 y10, .int .i64 y11, .int .i64 y12, .int .i64 y13, .int .i64 y14, .int .i64 y15, .int .i64 y16, .int .i64 y17] rfl rfl info_sv rfl (all18 y0 y1 y2 y3 y4 y5 y6 y7 y8 y9 y10 y11 y12 y13 y14 y15 y16 y17) ?_))
          have HB4 := Lib.hid ((HB3.out.trans (hb4.mono HB3.out.size)).trans ((below_new u4 (.cells #[.int .i64 y0, .int .i64 y1, .int .i64 y2, .int .i64 y3, .int .i64 y4, .int .i64 y5, .int .i64 y6, .int .i64 y7, .int .i64 y8, .int .i64 y9, .int .i64 y10, .int .i64 y11, .int .i64 y12, .int .i64 y13, .int .i64 y14, .int .i64 y15, .int .i64 y16, .int .i64 y17] 62)).mono (by have := HB3.out.size; have := hb4.size; omega)))
          clear hb4
          generalize u4.alloc (.cells #[.int .i64 y0, .int .i64 y1, .int .i64 y2, .int .i64 y3, .int .i64 y4, .int .i64 y5, .int .i64 y6, .int .i64 y7, .int .i64 y8, .int .i64 y9, .int .i64 y10, .int .i64 y11, .int .i64 y12, .int .i64 y13, .int .i64 y14, .int .i64 y15, .int .i64 y16, .int .i64 y17] 62) = V4 at *
          go_wp2
          go_roundw
          case rel => exact ⟨i + 1, by omega, by go_num, HB4.out⟩
          case measure => simp [intOf]; omega
end Go.Proofs.YtgojpgggbflgoaaGreat

namespace Go.Proofs.YtgojpgggbflgoaaGreat
open Go.RowKit

theorem LvOk.len {ys : List Hy} {gs : List Gs} {l : List Sv} (h : LvOk ys gs l) {w : World} {Lv : Option Addr} {nv : Nat} (hV : SAt encV 18 w Lv nv l) : nv ≤ 12 := by rw [← hV.len]; exact h.le
set_option maxRecDepth 100000 in
set_option maxHeartbeats 6400000 in
theorem Together_any (id light lever height : Int) (A : Option Addr) (n c : Nat) (B : Option Addr) (m d : Nat) (merr : Int) (C : Option Addr) (q r : Nat) (terr turn least : Int) (hs : List Hl) (mn mt : List (Int × Int)) (Y : Option Addr) (ny cy : Nat) (G : Option Addr) (ng cg : Nat) (ys : List Hy) (gs : List Gs) (Lv : Option Addr) (nv cv : Nat) (l : List Sv) (w : World) (hA : SAt encL 4 w A n hs) (hB : CAt w B m mn) (hC : CAt w C q mt) (hn : n ≤ 9223372036854775807) (hm : m ≤ 9223372036854775807) (hq : q ≤ 9223372036854775807) (hc : n ≤ c) (hE : shipE id light lever height turn least hs mn merr mt terr = 0) (hY : SAt encY 3 w Y ny ys) (hG : SAt encG 5 w G ng gs) (hny : ny ≤ 1000000) (hng : ng ≤ 1000000) (hbu : bulbE ys gs = 0) (hV : SAt encV 18 w Lv nv l) (hvo : LvOk ys gs l) (hl : ∀ x ∈ l, MaOk mn merr ys gs x) (hle : (togS light (roomS light hs) mn merr ys gs l).1 ≤ (togS light (roomS light hs) mn merr ys gs l).2) :
    Calls Tryz.prog 15 #[.agg (cSp id light lever height A n c B m d merr C q r terr turn least), .agg #[.slice Y ny cy, .slice G ng cg], .slice Lv nv cv] w fun e w' => e = .returned (.tuple #[vSp (togS light (roomS light hs) mn merr ys gs l).1 (togS light (roomS light hs) mn merr ys gs l).2, .int .i64 0]) ∧ Below w.heap.size w w' := by
  have hnv := hvo.len hV
  have HLi := Lib.hid (fun (u : World) (hu : Below w.heap.size w u) (gl : Nat) (hg : Blk u gl 39 #[.slice Lv nv cv]) => listed_any id light lever height A n c B m d merr C q r terr turn least hs mn mt Y ny cy G ng cg ys gs gl 1 [⟨Lv, nv, cv, l⟩] u (hA.below hu) (hB.below hu) (hC.below hu) hn hm hq hc hE (hY.below hu) (hG.below hu) hny hng hbu hg rfl (by omega) (fun s hs' => by
    have e : s = ⟨Lv, nv, cv, l⟩ := by simpa using hs'
    subst e
    exact ⟨hV.below hu, hvo⟩))
  have HTg := Lib.hid (fun (u : World) (hu : Below w.heap.size w u) => together_any id light lever height A n c B m d merr C q r terr turn least hs mn mt Y ny cy G ng cg ys gs Lv nv cv l u (hA.below hu) (hB.below hu) (shipE_zero hE) (hY.below hu) (hG.below hu) hny hng (bulb_YsOk hbu) (bulb_GsOk hbu) (hV.below hu) hl (by omega))
  clear hA hB hC hE hY hG hbu hV hvo hl
  generalize togS light (roomS light hs) mn merr ys gs l = S at *
  obtain ⟨S1, S2⟩ := S
  dsimp only at hle HTg ⊢
  have hb0 := ((Below.refl w.heap.size w).alloc (Nat.le_refl _) (.cells (cSp id light lever height A n c B m d merr C q r terr turn least) 27)).alloc (by simp) (.cells #[.slice Y ny cy, .slice G ng cg] 31)
  have hb1 := hb0.alloc (by simp; omega) (.cells #[.int .i64 0, .int .i64 0] 43)
  have t0 := ((Blk.new w 27 (cSp id light lever height A n c B m d merr C q r terr turn least)).alloc (.cells #[.slice Y ny cy, .slice G ng cg] 31)).alloc (.cells #[.int .i64 0, .int .i64 0] 43)
  have g0 := (Blk.at_new (W := w.alloc (.cells (cSp id light lever height A n c B m d merr C q r terr turn least) 27)) (g := w.heap.size + 1) 31 #[.slice Y ny cy, .slice G ng cg] (by simp)).alloc (.cells #[.int .i64 0, .int .i64 0] 43)
  have r0 := Blk.at_new (W := (w.alloc (.cells (cSp id light lever height A n c B m d merr C q r terr turn least) 27)).alloc (.cells #[.slice Y ny cy, .slice G ng cg] 31)) (g := w.heap.size + 2) 43 #[.int .i64 0, .int .i64 0] (by simp)
  clear hb0
  go_enter Tryz.func15, Tryz.ntmps15
  go_upto_region 1 with fail
  generalize hW : ((w.alloc (.cells (cSp id light lever height A n c B m d merr C q r terr turn least) 27)).alloc (.cells #[.slice Y ny cy, .slice G ng cg] 31)).alloc (.cells #[.int .i64 0, .int .i64 0] 43) = W at *
  have HWs := Lib.hid (show W.heap.size = w.heap.size + 3 by rw [← hW]; simp)
  clear hW
  have HT0 := Lib.hid t0
  have HG0 := Lib.hid g0
  have HR0 := Lib.hid r0
  have HB0 := Lib.hid hb1
  clear t0 g0 r0 hb1
  obtain ⟨tl, s0, s1, s2, s3, s4, s5, s6, s7, s8, s9, s10⟩ := blk11 HT0.out
  obtain ⟨y0, y1, yl⟩ := cells2 HG0.out
  have hbx := below_new W (.cells #[.slice Lv nv cv] 39)
  have HC := Lib.hid (HLi.out _ (HB0.out.trans (hbx.mono HB0.out.size)) W.heap.size (Blk.new W _ _))
  have HBx := Lib.hid hbx
  clear hbx
  go_upto_region 4 with (go_at_call 25; (with_reducible refine HC.out.mono ?_); rintro e u1 ⟨rfl, hb1⟩)
  have hbu := HBx.out.trans (hb1.mono HBx.out.size)
  have HT1 := Lib.hid (HT0.out.below hbu)
  have HR1 := Lib.hid (HR0.out.below hbu)
  have HB1 := Lib.hid (HB0.out.trans (hbu.mono HB0.out.size))
  have hg1 := HG0.out.below hbu
  clear hb1 hbu y0 y1 yl tl s0 s1 s2 s3 s4 s5 s6 s7 s8 s9 s10 HT0 HG0 HR0 HB0 HC HLi HBx
  obtain ⟨tl, s0, s1, s2, s3, s4, s5, s6, s7, s8, s9, s10⟩ := blk11 HT1.out
  obtain ⟨y0, y1, yl⟩ := cells2 hg1
  have HC := Lib.hid (HTg.out u1 HB1.out)
  clear hg1
  go_upto_region 5 with (go_at_call 26; (with_reducible refine HC.out.mono ?_); rintro e u2 ⟨rfl, hb2⟩)
  have bq := below_new u2 (.cells #[.int .i64 S1, .int .i64 S2] 43)
  have bn := hb2.trans (bq.mono hb2.size)
  have HR2 := Lib.hid (HR1.out.below bn)
  have HB2 := Lib.hid (HB1.out.trans (bn.mono HB1.out.size))
  have HN2 := Lib.hid (Blk.new u2 43 #[.int .i64 S1, .int .i64 S2])
  generalize hV : u2.alloc (.cells #[.int .i64 S1, .int .i64 S2] 43) = V at *
  generalize hg : u2.heap.size = g9 at *
  clear hV hg bq bn hb2 y0 y1 yl tl s0 s1 s2 s3 s4 s5 s6 s7 s8 s9 s10 HT1 HR1 HB1 HTg HC
  obtain ⟨z0, z1, zl⟩ := cells2 HN2.out
  have hd : decide (S2 < S1) = false := decide_eq_false (by omega)
  go_upto_region 7 with (go_at_call 27; (with_reducible refine (void_any _ _ _).mono ?_); rintro e u3 ⟨rfl, hb3⟩)
  have HRc := Lib.hid (HR2.out.below hb3)
  have HBc := Lib.hid (HB2.out.trans (hb3.mono HB2.out.size))
  have hn3 := HN2.out.below hb3
  clear hb3 z0 z1 zl HR2 HB2 HN2
  obtain ⟨z0, z1, zl⟩ := cells2 hn3
  obtain ⟨r0, r1, rl⟩ := cells2 HRc.out
  have f0 := HRc.out.frozen 0
  have f1 := HRc.out.frozen 1
  clear hn3
  go_wp2
  obtain ⟨x0, x1, _⟩ := cells2 (blk_set2 HRc.out (.int .i64 S1) (.int .i64 S2))
  exact bodyPost_ret (v := .tuple #[vSp S1 S2, .int .i64 0]) (by simp [results, Tryz.results15, go_sem, x0, x1]) rfl ⟨rfl, below_set2 HBc.out (by omega) _ _⟩
end Go.Proofs.YtgojpgggbflgoaaGreat

namespace Go.Proofs.YtgojpgggbflgoaaGreat
open Go.RowKit

structure TwD (B : Nat) (t : TypeId) (a1 a2 b1 b2 : Value) (ls : Nat → Bool) (vs : Nat → Value) (v : World) : Prop where
  p1 : ls 8 = true → ∃ g, vs 8 = .pointer (some ⟨g, 0, none⟩) ∧ B ≤ g ∧ Blk v g t (cond (ls 10) #[a1, a2] #[.int .i64 0, .int .i64 0])
  p2 : ls 9 = true → ∃ g, vs 9 = .pointer (some ⟨g, 0, none⟩) ∧ B ≤ g ∧ Blk v g t (cond (ls 11) #[b1, b2] #[.int .i64 0, .int .i64 0])
  ne : ls 8 = true → ls 9 = true → vs 8 ≠ vs 9
  o1 : ls 10 = true → ls 8 = true
  o2 : ls 11 = true → ls 9 = true
section
variable {B : Nat} {t : TypeId} {a1 a2 b1 b2 : Value} {ls : Nat → Bool} {vs : Nat → Value} {v v' : World}
theorem TwD.init : TwD B t a1 a2 b1 b2 (fun _ => false) (fun _ => undef) v := ⟨fun a => (by cases a), fun a => (by cases a), fun a => (by cases a), fun a => (by cases a), fun a => (by cases a)⟩
theorem TwD.below (h : TwD B t a1 a2 b1 b2 ls vs v) (hb : Below v.heap.size v v') : TwD B t a1 a2 b1 b2 ls vs v' :=
  ⟨fun a => let ⟨g, e, q, k⟩ := h.p1 a; ⟨g, e, q, k.below hb⟩, fun a => let ⟨g, e, q, k⟩ := h.p2 a; ⟨g, e, q, k.below hb⟩, h.ne, h.o1, h.o2⟩
theorem TwD.n1 (h : TwD B t a1 a2 b1 b2 ls vs v) (hl : ls 8 = false) : ls 10 = false := by
  cases c : ls 10 with
  | false => rfl
  | true => rw [h.o1 c] at hl; cases hl
theorem TwD.n2 (h : TwD B t a1 a2 b1 b2 ls vs v) (hl : ls 9 = false) : ls 11 = false := by
  cases c : ls 11 with
  | false => rfl
  | true => rw [h.o2 c] at hl; cases hl
theorem TwD.s1 (h : TwD B t a1 a2 b1 b2 ls vs v) (hl : ls 8 = false) (hB : B ≤ v.heap.size) : TwD B t a1 a2 b1 b2 (updB ls 8) (upd vs 8 (.pointer (some ⟨v.heap.size, 0, none⟩))) (v.alloc (.cells #[.int .i64 0, .int .i64 0] t)) := by
  have hj := h.n1 hl
  have h2 := h.below (below_new v (.cells #[.int .i64 0, .int .i64 0] t))
  refine ⟨fun _ => ⟨v.heap.size, by simp [upd], hB, by simpa [updB, hj] using Blk.new v t #[.int .i64 0, .int .i64 0]⟩, fun a => by simpa [updB, upd] using h2.p2 (by simpa [updB] using a), fun _ b => ?_, fun a => by simp [updB, hj] at a, fun a => by simpa [updB] using h.o2 (by simpa [updB] using a)⟩
  obtain ⟨g, e, _, k⟩ := h.p2 (by simpa [updB] using b)
  have := k.lt
  simp only [upd]
  rw [if_pos trivial, if_neg (by decide), e]
  intro q
  simp only [Value.pointer.injEq, Option.some.injEq, Addr.mk.injEq] at q
  omega
theorem TwD.s2 (h : TwD B t a1 a2 b1 b2 ls vs v) (hl : ls 9 = false) (hB : B ≤ v.heap.size) : TwD B t a1 a2 b1 b2 (updB ls 9) (upd vs 9 (.pointer (some ⟨v.heap.size, 0, none⟩))) (v.alloc (.cells #[.int .i64 0, .int .i64 0] t)) := by
  have hj := h.n2 hl
  have h2 := h.below (below_new v (.cells #[.int .i64 0, .int .i64 0] t))
  refine ⟨fun a => by simpa [updB, upd] using h2.p1 (by simpa [updB] using a), fun _ => ⟨v.heap.size, by simp [upd], hB, by simpa [updB, hj] using Blk.new v t #[.int .i64 0, .int .i64 0]⟩, fun a _ => ?_, fun a => by simpa [updB] using h.o1 (by simpa [updB] using a), fun a => by simp [updB, hj] at a⟩
  obtain ⟨g, e, _, k⟩ := h.p1 (by simpa [updB] using a)
  have := k.lt
  simp only [upd]
  rw [if_neg (by decide), if_pos trivial, e]
  intro q
  simp only [Value.pointer.injEq, Option.some.injEq, Addr.mk.injEq] at q
  omega
theorem TwD.w1 (h : TwD B t a1 a2 b1 b2 ls vs v) (h1 : ls 8 = true) (_ : ls 10 = false) {g : Nat} (e : vs 8 = .pointer (some ⟨g, 0, none⟩)) (hk : Blk v g t #[.int .i64 0, .int .i64 0]) (u : Value) : TwD B t a1 a2 b1 b2 (updB ls 10) (upd vs 10 u) ((v.setCell ⟨g, 0, none⟩ a1).setCell ⟨g, 1, none⟩ a2) := by
  obtain ⟨g1, e1, q1, _⟩ := h.p1 h1
  refine ⟨fun _ => ⟨g, by simpa [upd] using e, by rw [e] at e1; cases e1; exact q1, by simpa [updB] using blk_set2 hk a1 a2⟩, fun a => ?_, fun a b => by simpa [upd] using h.ne (by simpa [updB] using a) (by simpa [updB] using b), fun _ => by simpa [updB] using h1, fun a => by simpa [updB] using h.o2 (by simpa [updB] using a)⟩
  have a := (by simpa [updB] using a : ls 9 = true)
  obtain ⟨g2, e2, q2, k2⟩ := h.p2 a
  refine ⟨g2, by simpa [upd] using e2, q2, ?_⟩
  have hne : (some g : Option Nat) ≠ some g2 := fun q => h.ne h1 a (by rw [e, e2]; cases q; rfl)
  have := k2.grown (grown_set2 v g a1 a2) (fun q => hne q)
  simpa [updB] using this
theorem TwD.w2 (h : TwD B t a1 a2 b1 b2 ls vs v) (h1 : ls 9 = true) (_ : ls 11 = false) {g : Nat} (e : vs 9 = .pointer (some ⟨g, 0, none⟩)) (hk : Blk v g t #[.int .i64 0, .int .i64 0]) (u : Value) : TwD B t a1 a2 b1 b2 (updB ls 11) (upd vs 11 u) ((v.setCell ⟨g, 0, none⟩ b1).setCell ⟨g, 1, none⟩ b2) := by
  obtain ⟨g1, e1, q1, _⟩ := h.p2 h1
  refine ⟨fun a => ?_, fun _ => ⟨g, by simpa [upd] using e, by rw [e] at e1; cases e1; exact q1, by simpa [updB] using blk_set2 hk b1 b2⟩, fun a b => by simpa [upd] using h.ne (by simpa [updB] using a) (by simpa [updB] using b), fun a => by simpa [updB] using h.o1 (by simpa [updB] using a), fun _ => by simpa [updB] using h1⟩
  have a := (by simpa [updB] using a : ls 8 = true)
  obtain ⟨g2, e2, q2, k2⟩ := h.p1 a
  refine ⟨g2, by simpa [upd] using e2, q2, ?_⟩
  have hne : (some g : Option Nat) ≠ some g2 := fun q => h.ne a h1 (by rw [e, e2]; cases q; rfl)
  have := k2.grown (grown_set2 v g b1 b2) (fun q => hne q)
  simpa [updB] using this
theorem TwD.done (h : TwD B t a1 a2 b1 b2 ls vs v) (h1 : ls 10 = true) (h2 : ls 11 = true) : ∃ g g', vs 8 = .pointer (some ⟨g, 0, none⟩) ∧ vs 9 = .pointer (some ⟨g', 0, none⟩) ∧ B ≤ g ∧ B ≤ g' ∧ g ≠ g' ∧ Blk v g t #[a1, a2] ∧ Blk v g' t #[b1, b2] := by
  obtain ⟨g, e, q, k⟩ := h.p1 (h.o1 h1)
  obtain ⟨g', e', q', k'⟩ := h.p2 (h.o2 h2)
  rw [h1] at k
  rw [h2] at k'
  exact ⟨g, g', e, e', q, q', fun c => h.ne (h.o1 h1) (h.o2 h2) (by rw [e, e', c]), k, k'⟩
end
theorem togS_bd {light R : Int} {mn : List (Int × Int)} {merr : Int} {ys : List Hy} {gs : List Gs} (l : List Sv) (_ : (togS light R mn merr ys gs l).1 ≤ (togS light R mn merr ys gs l).2) : light ≤ (togS light R mn merr ys gs l).1 ∧ (togS light R mn merr ys gs l).2 ≤ R := by
  have key : ∀ (l : List Sv) (s : Int × Int), s.1 ≤ (l.foldl (togF light R mn merr ys gs) s).1 ∧ (l.foldl (togF light R mn merr ys gs) s).2 ≤ s.2 := by
    intro l
    induction l with
    | nil => intro s; exact ⟨Int.le_refl _, Int.le_refl _⟩
    | cons x t ih =>
      intro s
      have := ih (togF light R mn merr ys gs s x)
      rw [List.foldl_cons]
      unfold togF at this ⊢
      dsimp only at this ⊢
      omega
  exact key l (light, R)
set_option maxRecDepth 100000 in
set_option maxHeartbeats 6400000 in
theorem Taken_any (id light lever height : Int) (A : Option Addr) (n c : Nat) (B : Option Addr) (m d : Nat) (merr : Int) (C : Option Addr) (q r : Nat) (terr turn least : Int) (hs : List Hl) (mn mt : List (Int × Int)) (Y : Option Addr) (ny cy : Nat) (G : Option Addr) (ng cg : Nat) (ys : List Hy) (gs : List Gs) (Lv : Option Addr) (nv cv : Nat) (l : List Sv) (Kv : Option Addr) (nk ck : Nat) (l2 : List Sv) (w : World) (hA : SAt encL 4 w A n hs) (hB : CAt w B m mn) (hC : CAt w C q mt) (hn : n ≤ 9223372036854775807) (hm : m ≤ 9223372036854775807) (hq : q ≤ 9223372036854775807) (hc : n ≤ c) (hE : shipE id light lever height turn least hs mn merr mt terr = 0) (hY : SAt encY 3 w Y ny ys) (hG : SAt encG 5 w G ng gs) (hny : ny ≤ 1000000) (hng : ng ≤ 1000000) (hbu : bulbE ys gs = 0) (hV : SAt encV 18 w Lv nv l) (hvo : LvOk ys gs l) (hl : ∀ x ∈ l, MaOk mn merr ys gs x) (hle : (togS light (roomS light hs) mn merr ys gs l).1 ≤ (togS light (roomS light hs) mn merr ys gs l).2) (hV2 : SAt encV 18 w Kv nk l2) (hvo2 : LvOk ys gs l2) (hl2 : ∀ x ∈ l2, MaOk mn merr ys gs x) (hle2 : (togS light (roomS light hs) mn merr ys gs l2).1 ≤ (togS light (roomS light hs) mn merr ys gs l2).2) :
    Calls Tryz.prog 9 #[.agg (cSp id light lever height A n c B m d merr C q r terr turn least), .agg #[.slice Y ny cy, .slice G ng cg], .slice Lv nv cv, .slice Kv nk ck] w fun e w' => e = .returned (.tuple #[vSp ((togS light (roomS light hs) mn merr ys gs l).1 - (togS light (roomS light hs) mn merr ys gs l2).2) ((togS light (roomS light hs) mn merr ys gs l).2 - (togS light (roomS light hs) mn merr ys gs l2).1), .int .i64 0]) ∧ Below w.heap.size w w' := by
  have hnv := hvo.len hV
  have hnk := hvo2.len hV2
  have hok := shipE_zero hE
  have hb1' := togS_bd l hle
  have hb2' := togS_bd l2 hle2
  have hlb := hok.lightB
  have hrb := hok.rooms
  have HLi := Lib.hid (fun (u : World) (hu : Below w.heap.size w u) (gl : Nat) (hg : Blk u gl 39 #[.slice Lv nv cv, .slice Kv nk ck]) => listed_any id light lever height A n c B m d merr C q r terr turn least hs mn mt Y ny cy G ng cg ys gs gl 2 [⟨Lv, nv, cv, l⟩, ⟨Kv, nk, ck, l2⟩] u (hA.below hu) (hB.below hu) (hC.below hu) hn hm hq hc hE (hY.below hu) (hG.below hu) hny hng hbu hg rfl (by omega) (fun s hs' => by
    have e : s = ⟨Lv, nv, cv, l⟩ ∨ s = ⟨Kv, nk, ck, l2⟩ := by simpa using hs'
    rcases e with e | e
    · subst e
      exact ⟨hV.below hu, hvo⟩
    · subst e
      exact ⟨hV2.below hu, hvo2⟩))
  have HT1g := Lib.hid (fun (u : World) (hu : Below w.heap.size w u) => together_any id light lever height A n c B m d merr C q r terr turn least hs mn mt Y ny cy G ng cg ys gs Lv nv cv l u (hA.below hu) (hB.below hu) hok (hY.below hu) (hG.below hu) hny hng (bulb_YsOk hbu) (bulb_GsOk hbu) (hV.below hu) hl (by omega))
  have HT2g := Lib.hid (fun (u : World) (hu : Below w.heap.size w u) => together_any id light lever height A n c B m d merr C q r terr turn least hs mn mt Y ny cy G ng cg ys gs Kv nk ck l2 u (hA.below hu) (hB.below hu) hok (hY.below hu) (hG.below hu) hny hng (bulb_YsOk hbu) (bulb_GsOk hbu) (hV2.below hu) hl2 (by omega))
  clear hA hB hC hE hY hG hbu hV hvo hl hV2 hvo2 hl2 hok
  generalize roomS light hs = R at *
  generalize togS light R mn merr ys gs l = S at *
  generalize togS light R mn merr ys gs l2 = T at *
  obtain ⟨S1, S2⟩ := S
  obtain ⟨T1, T2⟩ := T
  dsimp only at hle hle2 HT1g HT2g hb1' hb2' ⊢
  have hb0 := ((Below.refl w.heap.size w).alloc (Nat.le_refl _) (.cells (cSp id light lever height A n c B m d merr C q r terr turn least) 27)).alloc (by simp) (.cells #[.slice Y ny cy, .slice G ng cg] 31)
  have hb1 := hb0.alloc (by simp; omega) (.cells #[.int .i64 0, .int .i64 0] 43)
  have t0 := ((Blk.new w 27 (cSp id light lever height A n c B m d merr C q r terr turn least)).alloc (.cells #[.slice Y ny cy, .slice G ng cg] 31)).alloc (.cells #[.int .i64 0, .int .i64 0] 43)
  have g0 := (Blk.at_new (W := w.alloc (.cells (cSp id light lever height A n c B m d merr C q r terr turn least) 27)) (g := w.heap.size + 1) 31 #[.slice Y ny cy, .slice G ng cg] (by simp)).alloc (.cells #[.int .i64 0, .int .i64 0] 43)
  have r0 := Blk.at_new (W := (w.alloc (.cells (cSp id light lever height A n c B m d merr C q r terr turn least) 27)).alloc (.cells #[.slice Y ny cy, .slice G ng cg] 31)) (g := w.heap.size + 2) 43 #[.int .i64 0, .int .i64 0] (by simp)
  clear hb0
  go_enter Tryz.func9, Tryz.ntmps9
  go_upto_region 1 with fail
  generalize hW : ((w.alloc (.cells (cSp id light lever height A n c B m d merr C q r terr turn least) 27)).alloc (.cells #[.slice Y ny cy, .slice G ng cg] 31)).alloc (.cells #[.int .i64 0, .int .i64 0] 43) = W at *
  have HWs := Lib.hid (show W.heap.size = w.heap.size + 3 by rw [← hW]; simp)
  clear hW
  have HT0 := Lib.hid t0
  have HG0 := Lib.hid g0
  have HR0 := Lib.hid r0
  have HB0 := Lib.hid hb1
  clear t0 g0 r0 hb1
  obtain ⟨tl, s0, s1, s2, s3, s4, s5, s6, s7, s8, s9, s10⟩ := blk11 HT0.out
  obtain ⟨y0, y1, yl⟩ := cells2 HG0.out
  have hbx := below_new W (.cells #[.slice Lv nv cv, .slice Kv nk ck] 39)
  have HC := Lib.hid (HLi.out _ (HB0.out.trans (hbx.mono HB0.out.size)) W.heap.size (Blk.new W _ _))
  have HBx := Lib.hid hbx
  clear hbx
  go_upto_region 4 with (go_at_call 25; (with_reducible refine HC.out.mono ?_); rintro e u1 ⟨rfl, hb1⟩)
  have hbu := HBx.out.trans (hb1.mono HBx.out.size)
  have HT1 := Lib.hid (HT0.out.below hbu)
  have HR1 := Lib.hid (HR0.out.below hbu)
  have HB1 := Lib.hid (HB0.out.trans (hbu.mono HB0.out.size))
  have HG1 := Lib.hid (HG0.out.below hbu)
  have HRl := Lib.hid (show w.heap.size + 2 < u1.heap.size by have := HR0.out.lt; have := hbu.size; omega)
  clear hb1 hbu y0 y1 yl tl s0 s1 s2 s3 s4 s5 s6 s7 s8 s9 s10 HT0 HG0 HR0 HB0 HC HLi HBx
  refine wp_region_preC 12 [(8, 11), (9, 12), (10, 1000), (11, 1001)] (fun v => Below u1.heap.size u1 v) (TwD u1.heap.size 43 (.int .i64 S1) (.int .i64 S2) (.int .i64 T1) (.int .i64 T2)) (by kernel_rfl) (by kernel_rfl) (Below.refl _ _) (fun v1 v2 h kk => h.trans (kk.mono h.size)) (fun v' hv' => TwD.init) (fun ls vs v v' _ h kk => h.below kk) ?ex
  case ex =>
  apply Exists.intro
  refine ⟨?walk, ?loud, ?last⟩
  case walk =>
    intro U hU
    obtain ⟨tl, s0, s1, s2, s3, s4, s5, s6, s7, s8, s9, s10⟩ := blk11 (HT1.out.below hU)
    obtain ⟨y0, y1, yl⟩ := cells2 (HG1.out.below hU)
    obtain ⟨xc, xf'⟩ := xcell (W := U)
    have HBU := Lib.hid (HB1.out.trans (hU.mono HB1.out.size))
    simp only [List.take_succ_cons, List.take_nil, qOf, isLoud, List.any_cons, List.any_nil, Nat.reduceBEq, Bool.or_false, Bool.or_true, Nat.reduceAdd, Bool.false_eq_true, if_true, if_false, beq_self_eq_true, Nat.zero_add]
    repeat (first | go_big_quiet_step (first | (go_at_call 26; with_reducible refine calls_ext (HT1g.out _ ?_); exact HBU.out.trans ((Ext.below _).mono HBU.out.size)) | (go_at_call 26; with_reducible refine calls_ext (HT2g.out _ ?_); exact HBU.out.trans ((Ext.below _).mono HBU.out.size))) | quiet_step (first | (go_at_call 26; with_reducible refine calls_ext (HT1g.out _ ?_); exact HBU.out.trans ((Ext.below _).mono HBU.out.size)) | (go_at_call 26; with_reducible refine calls_ext (HT2g.out _ ?_); exact HBU.out.trans ((Ext.below _).mono HBU.out.size))))
    exact wpQuiet_nil rfl
  case loud =>
    rintro pp hpp vs v hC ls hI hls hw o ho
    simp only [List.mem_cons, List.not_mem_nil, or_false] at hpp
    rcases hpp with rfl | rfl | rfl | rfl
    · simp only [List.getElem?_cons_succ, List.getElem?_cons_zero, Option.some.injEq] at ho
      subst ho
      simp [loudAt, loudUpon, go_sem, execOp]
      exact ⟨hC.alloc hC.size _, hI.s1 hls hC.size⟩
    · simp only [List.getElem?_cons_succ, List.getElem?_cons_zero, Option.some.injEq] at ho
      subst ho
      simp [loudAt, loudUpon, go_sem, execOp]
      exact ⟨hC.alloc hC.size _, hI.s2 hls hC.size⟩
    · have h1 := hw (8, 11) (by simp) (by kernel_rfl)
      obtain ⟨g, e1, hg, hbk⟩ := hI.p1 h1
      have hl1 : ls 10 = false := hls
      rw [hl1, cond_false] at hbk
      obtain ⟨b0, b1, bl⟩ := cells2 hbk
      have f0 := hbk.frozen 0
      have f1 := hbk.frozen 1
      simp only [List.getElem?_cons_succ, List.getElem?_cons_zero, Option.some.injEq] at ho
      subst ho
      simp [loudAt, loudUpon, go_sem, execOp, putsL, Act.put, e1, f0, f1, b0, b1]
      exact ⟨below_set2 hC hg _ _, hI.w1 h1 hls e1 hbk _⟩
    · have h1 := hw (9, 12) (by simp) (by kernel_rfl)
      obtain ⟨g, e1, hg, hbk⟩ := hI.p2 h1
      have hl1 : ls 11 = false := hls
      rw [hl1, cond_false] at hbk
      obtain ⟨b0, b1, bl⟩ := cells2 hbk
      have f0 := hbk.frozen 0
      have f1 := hbk.frozen 1
      simp only [List.getElem?_cons_succ, List.getElem?_cons_zero, Option.some.injEq] at ho
      subst ho
      simp [loudAt, loudUpon, go_sem, execOp, putsL, Act.put, e1, f0, f1, b0, b1]
      exact ⟨below_set2 hC hg _ _, hI.w2 h1 hls e1 hbk _⟩
  case last =>
  rintro ls vs v4 hV hI hls
  obtain ⟨ga, gb, e6, e7, h6, h7, hne, hb6, hb7⟩ := hI.done (hls (10, 1000) (by simp)) (hls (11, 1001) (by simp))
  simp only [putsL, List.foldl_cons, List.foldl_nil, List.drop_succ_cons, List.drop_nil, Act.put, e6, e7, List.setIfInBounds_toArray, List.set_cons_succ, List.set_cons_zero, List.set_nil]
  have H6b := Lib.hid hb6
  have H7b := Lib.hid hb7
  have HR3 := Lib.hid (HR1.out.below hV)
  have HB3 := Lib.hid (HB1.out.trans (hV.mono HB1.out.size))
  clear hI hls e6 e7 hV hb6 hb7 HT1 HG1 HR1 HB1 HT1g HT2g
  generalize vs 10 = x13 at *
  generalize vs 11 = x14 at *
  clear vs ls
  go_upto_region 5 with fail
  obtain ⟨a0', a1', al⟩ := cells2 H6b.out
  obtain ⟨b0', b1', bl⟩ := cells2 H7b.out
  have hd1 : decide (S2 < S1) = false := decide_eq_false (by omega)
  have hd2 : decide (T2 < T1) = false := decide_eq_false (by omega)
  have HF := Lib.hid (fun (u : World) (hu : Below v4.heap.size v4 u) => And.intro (cells2 (H6b.out.below hu)) (cells2 (H7b.out.below hu)))
  go_upto_region 7 with (first | (go_at_call 27; (with_reducible refine (void_any S1 S2 v4).mono ?_); rintro e u3 ⟨rfl, hb3⟩; obtain ⟨⟨a0', a1', al⟩, ⟨b0', b1', bl⟩⟩ := HF.out _ hb3) | (go_at_call 27; (with_reducible refine (void_any T1 T2 _).mono ?_); rintro e u4 ⟨rfl, hb4⟩))
  have hb5 := hb3.trans (hb4.mono hb3.size)
  obtain ⟨⟨a0', a1', al⟩, ⟨b0', b1', bl⟩⟩ := HF.out _ hb5
  have HRc := Lib.hid (HR3.out.below hb5)
  have HBc := Lib.hid (HB3.out.trans (hb5.mono HB3.out.size))
  clear hb3 hb4 hb5 HF HR3 HB3 H6b H7b
  obtain ⟨r0, r1, rl⟩ := cells2 HRc.out
  have f0 := HRc.out.frozen 0
  have f1 := HRc.out.frozen 1
  go_wp2
  obtain ⟨x0, x1, _⟩ := cells2 (blk_set2 HRc.out (.int .i64 (S1 - T2)) (.int .i64 (S2 - T1)))
  exact bodyPost_ret (v := .tuple #[vSp (S1 - T2) (S2 - T1), .int .i64 0]) (by simp [results, Tryz.results9, go_sem, x0, x1]) rfl ⟨rfl, below_set2 HBc.out (by omega) _ _⟩
end Go.Proofs.YtgojpgggbflgoaaGreat

namespace Go.Proofs.YtgojpgggbflgoaaGreat
open Go.RowKit

theorem info_span : (Tryz.prog.info? 43).map (fun i => (i.zero, i.size, i.bytes)) = some (some (.agg #[.int .i64 0, .int .i64 0]), 2, 16) := by kernel_rfl
theorem blk_st3 {W : World} {g : Nat} {t : TypeId} {p q r : Value} (h : Blk W g t #[p, q, r]) (a b c : Value) : Blk (((W.setCell ⟨g, 0, none⟩ a).setCell ⟨g, 1, none⟩ b).setCell ⟨g, 2, none⟩ c) g t #[a, b, c] := by
  have := ((h.set_ 0 a).set_ 1 b).set_ 2 c
  simpa using this
theorem below_st3 {B : Nat} {w W : World} {g : Nat} (h : Below B w W) (hg : B ≤ g) (a b c : Value) : Below B w (((W.setCell ⟨g, 0, none⟩ a).setCell ⟨g, 1, none⟩ b).setCell ⟨g, 2, none⟩ c) :=
  ((h.setCell (p := ⟨g, 0, none⟩) hg a).setCell (p := ⟨g, 1, none⟩) hg b).setCell (p := ⟨g, 2, none⟩) hg c
theorem LdOk.of {id light lever height turn least : Int} {hs : List Hl} {mn mt : List (Int × Int)} {merr terr : Int} {ys : List Hy} {gs : List Gs} {l : List Sv} (k : ShipOk id light lever height turn least hs mn merr mt terr) (h : (togS light (roomS light hs) mn merr ys gs l).1 ≤ (togS light (roomS light hs) mn merr ys gs l).2) :
    LdOk hs ((togS light (roomS light hs) mn merr ys gs l).1 - light) ((togS light (roomS light hs) mn merr ys gs l).2 - light) := by
  have hb := togS_bd l h
  refine ⟨by omega, by omega, ?_, fun x hx => (k.hl x hx).1, k.len⟩
  have : roomS light hs = light + isum (hs.map Hl.room) := rfl
  omega
set_option maxRecDepth 100000 in
set_option maxHeartbeats 6400000 in
theorem Load_any (id light lever height : Int) (A : Option Addr) (n c : Nat) (B : Option Addr) (m d : Nat) (merr : Int) (C : Option Addr) (q r : Nat) (terr turn least : Int) (hs : List Hl) (mn mt : List (Int × Int)) (Y : Option Addr) (ny cy : Nat) (G : Option Addr) (ng cg : Nat) (ys : List Hy) (gs : List Gs) (Lv : Option Addr) (nv cv : Nat) (l : List Sv) (w : World) (hA : SAt encL 4 w A n hs) (hB : CAt w B m mn) (hC : CAt w C q mt) (hn : n ≤ 9223372036854775807) (hm : m ≤ 9223372036854775807) (hq : q ≤ 9223372036854775807) (hc : n ≤ c) (hE : shipE id light lever height turn least hs mn merr mt terr = 0) (hY : SAt encY 3 w Y ny ys) (hG : SAt encG 5 w G ng gs) (hny : ny ≤ 1000000) (hng : ng ≤ 1000000) (hbu : bulbE ys gs = 0) (hV : SAt encV 18 w Lv nv l) (hvo : LvOk ys gs l) (hl : ∀ x ∈ l, MaOk mn merr ys gs x) (hle : (togS light (roomS light hs) mn merr ys gs l).1 ≤ (togS light (roomS light hs) mn merr ys gs l).2) :
    Calls Tryz.prog 11 #[.agg (cSp id light lever height A n c B m d merr C q r terr turn least), .agg #[.slice Y ny cy, .slice G ng cg], .slice Lv nv cv] w fun e w' => (∃ Lh nh ch a z s, e = .returned (.tuple #[vLd Lh nh ch a z, .int .i64 s]) ∧ ((4000 ≤ (togS light (roomS light hs) mn merr ys gs l).2 - (togS light (roomS light hs) mn merr ys gs l).1 ∧ s = 2) ∨ ((togS light (roomS light hs) mn merr ys gs l).2 - (togS light (roomS light hs) mn merr ys gs l).1 < 4000 ∧ s = 0 ∧ nh = n ∧ a = (togS light (roomS light hs) mn merr ys gs l).1 - light ∧ z = (togS light (roomS light hs) mn merr ys gs l).2 - light ∧ SAt encS 2 w' Lh n (rsL hs)))) ∧ Below w.heap.size w w' := by
  have hok := shipE_zero hE
  have k := LdOk.of hok hle
  have hbd := k.bd
  have hka := k.lo
  have hkz := k.le
  have hnl : hs.length = n := hA.len
  have hlen := hok.len
  have hlb := hok.lightB
  have HTg := Lib.hid (fun (u : World) (hu : Below w.heap.size w u) => Together_any id light lever height A n c B m d merr C q r terr turn least hs mn mt Y ny cy G ng cg ys gs Lv nv cv l u (hA.below hu) (hB.below hu) (hC.below hu) hn hm hq hc hE (hY.below hu) (hG.below hu) hny hng hbu (hV.below hu) hvo hl hle)
  have HCl := Lib.hid (fun (u : World) (hu : Below w.heap.size w u) (Lh : Option Addr) (ch : Nat) (hL : SAt encS 2 u Lh n (rsL hs)) => CheckLoad_any id light lever height A n c B m d merr C q r terr turn least hs mn mt Lh ch _ _ u (hA.below hu) (hB.below hu) (hC.below hu) hn hm hq hc hE hL k)
  have HAs := Lib.hid (fun (u : World) (hu : Below w.heap.size w u) => hA.below hu)
  have HRl := Lib.hid (show (rsL hs).length = n by rw [rs_len]; exact hnl)
  have HRt := Lib.hid (show ∀ j (q : j < hs.length), (rsL hs).take (j + 1) = (rsL hs).take j ++ [((0 : Int), (hs[j]).room)] from fun j q => by rw [List.take_succ_eq_append_getElem (by rw [rs_len]; exact q)]; simp [rsL])
  have HRm := Lib.hid k.rm
  clear hA hB hC hE hY hG hbu hV hvo hl hok k
  generalize togS light (roomS light hs) mn merr ys gs l = S at *
  obtain ⟨S1, S2⟩ := S
  dsimp only at hle HTg HCl hbd hka hkz ⊢
  dsimp only [vLd] at HCl
  obtain ⟨a, ha⟩ : ∃ a, S1 - light = a := ⟨_, rfl⟩
  obtain ⟨z, hz⟩ : ∃ z, S2 - light = z := ⟨_, rfl⟩
  have HAz := Lib.hid (And.intro ha hz)
  simp only [ha, hz] at HCl hbd hka hkz
  have hb0 := ((Below.refl w.heap.size w).alloc (Nat.le_refl _) (.cells (cSp id light lever height A n c B m d merr C q r terr turn least) 27)).alloc (by simp) (.cells #[.slice Y ny cy, .slice G ng cg] 31)
  have hb1 := hb0.alloc (by simp; omega) (.cells #[.slice none 0 0, .int .i64 0, .int .i64 0] 49)
  have t0 := ((Blk.new w 27 (cSp id light lever height A n c B m d merr C q r terr turn least)).alloc (.cells #[.slice Y ny cy, .slice G ng cg] 31)).alloc (.cells #[.slice none 0 0, .int .i64 0, .int .i64 0] 49)
  have g0 := (Blk.at_new (W := w.alloc (.cells (cSp id light lever height A n c B m d merr C q r terr turn least) 27)) (g := w.heap.size + 1) 31 #[.slice Y ny cy, .slice G ng cg] (by simp)).alloc (.cells #[.slice none 0 0, .int .i64 0, .int .i64 0] 49)
  have r0 := Blk.at_new (W := (w.alloc (.cells (cSp id light lever height A n c B m d merr C q r terr turn least) 27)).alloc (.cells #[.slice Y ny cy, .slice G ng cg] 31)) (g := w.heap.size + 2) 49 #[.slice none 0 0, .int .i64 0, .int .i64 0] (by simp)
  clear hb0
  obtain ⟨ii, hi0, hi1, hi2, hi3⟩ := info_parts info_span
  go_enter Tryz.func11, Tryz.ntmps11
  go_upto_region 1 with fail
  generalize hW : ((w.alloc (.cells (cSp id light lever height A n c B m d merr C q r terr turn least) 27)).alloc (.cells #[.slice Y ny cy, .slice G ng cg] 31)).alloc (.cells #[.slice none 0 0, .int .i64 0, .int .i64 0] 49) = W at *
  have HWs := Lib.hid (show W.heap.size = w.heap.size + 3 by rw [← hW]; simp)
  clear hW
  have HT0 := Lib.hid t0
  have HR0 := Lib.hid r0
  have HB0 := Lib.hid hb1
  obtain ⟨tl, s0, s1, s2, s3, s4, s5, s6, s7, s8, s9, s10⟩ := blk11 t0
  obtain ⟨y0, y1, yl⟩ := cells2 g0
  have HC := Lib.hid (HTg.out _ hb1)
  clear t0 g0 r0 hb1
  go_upto_region 4 with (go_at_call 15; (with_reducible refine HC.out.mono ?_); rintro e u1 ⟨rfl, hb1⟩)
  have bq := below_new u1 (.cells #[.int .i64 S1, .int .i64 S2] 43)
  have bn := hb1.trans (bq.mono hb1.size)
  have HT1 := Lib.hid (HT0.out.below bn)
  have HR1 := Lib.hid (HR0.out.below bn)
  have HB1 := Lib.hid (HB0.out.trans (bn.mono HB0.out.size))
  have hn1 := Blk.new u1 43 #[.int .i64 S1, .int .i64 S2]
  have HRl2 := Lib.hid (show w.heap.size + 2 < u1.heap.size by have := HR0.out.lt; have := hb1.size; omega)
  generalize hV : u1.alloc (.cells #[.int .i64 S1, .int .i64 S2] 43) = V at *
  generalize hg : u1.heap.size = g8 at *
  clear hV hg bq bn hb1 y0 y1 yl tl s0 s1 s2 s3 s4 s5 s6 s7 s8 s9 s10 HT0 HR0 HB0 HTg HC
  obtain ⟨tl, s0, s1, s2, s3, s4, s5, s6, s7, s8, s9, s10⟩ := blk11 HT1.out
  obtain ⟨z0, z1, zl⟩ := cells2 hn1
  clear hn1
  go_upto_region 5 with fail
  have bq := below_new V (.cells #[.slice none 0 0, .int .i64 a, .int .i64 z] 49)
  have HT2 := Lib.hid (HT1.out.below bq)
  have HR2 := Lib.hid (HR1.out.below bq)
  have HB2 := Lib.hid (HB1.out.trans (bq.mono HB1.out.size))
  have HN2 := Lib.hid (Blk.new V 49 #[.slice none 0 0, .int .i64 a, .int .i64 z])
  have hgs : V.heap.size + 1 ≤ (V.alloc (.cells #[.slice none 0 0, .int .i64 a, .int .i64 z] 49)).heap.size := by simp
  have hRg := HR1.out.lt
  have hTg := HT1.out.lt
  generalize hV2 : V.alloc (.cells #[.slice none 0 0, .int .i64 a, .int .i64 z] 49) = V2 at *
  generalize hg : V.heap.size = g10 at *
  clear hV2 hg bq z0 z1 zl tl s0 s1 s2 s3 s4 s5 s6 s7 s8 s9 s10 HT1 HR1 HB1 HRl2
  obtain ⟨tl, s0, s1, s2, s3, s4, s5, s6, s7, s8, s9, s10⟩ := blk11 HT2.out
  go_upto_region 6 with fail
  clear tl s0 s1 s2 s3 s4 s5 s6 s7 s8 s9 s10
  go_loopw [12, 40] (fun _ i wx => ∃ j : Nat, j ≤ n ∧ i = .int .i64 (j : Int) ∧ ∃ vh, Blk wx g10 49 #[vh, .int .i64 a, .int .i64 z] ∧ wx.ownsRow (g10 + 1) 43 2 vh j (((rsL hs).take j).flatMap encS) ∧ Below g10 V2 wx) (fun _ i _ => n - (intOf i).toNat)
  case atStart => exact ⟨0, Nat.zero_le _, rfl, _, HN2.out, by simpa using World.ownsRow_nil _ _ _ _, Below.refl _ _⟩
  case round =>
    obtain ⟨j, hj, rfl, vh, hvh, how, hb⟩ := hrel
    have HB := Lib.hid hb
    have HVh := Lib.hid hvh
    have HOw := Lib.hid how
    have hws := hb.size
    have hbw : Below w.heap.size w wr := HB2.out.trans (hb.mono (by omega))
    obtain ⟨Ao, co, rfl⟩ := owns_slice how
    by_cases hjn : j < n
    case pos =>
      have hjl : j < hs.length := by rw [hnl]; exact hjn
      obtain ⟨b, off, rfl, hls⟩ := (HAs.out wr hbw).at_ (by omega)
      obtain ⟨c0, c1, c2, c3⟩ := Hls.at_ hls (List.getElem?_eq_getElem hjl)
      have cl := hls.lt
      have HT := Lib.hid (HRt.out j hjl)
      clear hls
      generalize hs[j] = x at *
      obtain ⟨xi, xr, xv, xh⟩ := x
      dsimp only at *
      have b3 := ((Below.refl wr.heap.size wr).alloc (Nat.le_refl _) (.cells #[.int .i64 xi, .int .i64 xr, .int .i64 xv, .int .i64 xh] 82)).alloc (by simp) (.cells #[.int .i64 0, .int .i64 xr] 43)
      have HB3 := Lib.hid (HB.out.trans (b3.mono (by omega)))
      have HVh2 := Lib.hid (HVh.out.below b3)
      have HOw2 := Lib.hid ((HOw.out.alloc (.cells #[.int .i64 xi, .int .i64 xr, .int .i64 xv, .int .i64 xh] 82)).alloc (.cells #[.int .i64 0, .int .i64 xr] 43))
      have HNe := Lib.hid (own_ne HOw2.out HVh2.out (by decide))
      have hsz3 := b3.size
      obtain ⟨e0, e1, e2, el⟩ := cells3 hvh
      clear b3 hvh how hb
      go_wp2_with (at_builtin; go_loud (refine wpList_append_own_at _ rfl (.tmp 45) (.tmp 49) 47 rfl (g10 + 1) 43 ii (.agg #[.int .i64 0, .int .i64 0]) 2 16 Tryz.underlying47 hi0 hi1 hi2 hi3 rfl (by decide) _ j (((rsL hs).take j).flatMap encS) rfl HOw2.out ⟨wr.heap.size + 1, 0, none⟩ 1 1 [.int .i64 0, .int .i64 xr] rfl rfl (fun i u h => by match i, h with | 0, h => (simp at h; subst h; exact (Blk.at_new (W := wr.alloc _) (g := wr.heap.size + 1) _ _ (by simp)).cell 0) | 1, h => (simp at h; subst h; exact (Blk.at_new (W := wr.alloc _) (g := wr.heap.size + 1) _ _ (by simp)).cell 1)) (one_intsL [0, xr]) (by unfold maxLen; omega) (by omega) (by simp; omega) ?_))
      intro v' w4 ho hgr _ hbl
      obtain ⟨g5, c5, rfl⟩ := ownsRow_succ ho
      have q0 := HVh2.out.grown hgr HNe.out
      obtain ⟨e0, e1, e2, el⟩ := cells3 q0
      have ef := q0.frozen 0
      have HQ := Lib.hid q0
      have HO := Lib.hid ho
      have HB4 := Lib.hid (HB3.out.trans (below_of_grown hgr (by simp; omega) (fun g hg => by have := (own_lt HOw2.out hg).1; omega)))
      have HN4 := Lib.hid (own_ne ho q0 (by decide))
      clear q0 ho hgr hbl
      go_wp2
      go_roundw
      case rel => exact ⟨j + 1, by omega, by go_num, _, by simpa using HQ.out.set_ 0 _, owns_grown (by rw [HT.out, List.flatMap_append]; exact HO.out) (grownBy_set _ _ _ _) (fun g hg e => HN4.out (by rw [hg, Option.some.inj e])), HB4.out.setCell (p := ⟨g10, 0, none⟩) (Nat.le_refl _) _⟩
      case measure => simp [intOf]; omega
    case neg =>
      have hjn2 : j = n := by omega
      subst j
      have how' := HOw.out
      rw [List.take_of_length_le (by rw [HRl.out]; exact Nat.le_refl _)] at how'
      have hLl := fun g (hg : _) => (own_lt (g := g) how' hg).2
      obtain ⟨Lh, ch, eL, hsL, hLb, _⟩ := SAt_of_row encS_len HRl.out how'
      obtain ⟨e1, e2⟩ : Ao = Lh ∧ co = ch := by simpa using eL
      subst e1 e2
      have HC := Lib.hid (HCl.out wr hbw Ao co hsL)
      have HSl := Lib.hid hsL
      have HLb := Lib.hid (show ∀ aa, Ao = some aa → some (w.heap.size + 2) ≠ some aa.block from fun aa e q => by have := hLb aa e; have := Option.some.inj q; omega)
      clear hLb
      have HBw := Lib.hid hbw
      have HRz := Lib.hid (HR2.out.under hb (by omega))
      obtain ⟨tl, s0, s1, s2, s3, s4, s5, s6, s7, s8, s9, s10⟩ := blk11 (HT2.out.under hb (by omega))
      obtain ⟨e0, e1, e2, el⟩ := cells3 hvh
      clear how' hLl eL hsL hb hbw hvh how HOw HB
      have haz := HAz.out
      have HF := Lib.hid (fun (u : World) (hu : Below wr.heap.size wr u) => And.intro (cells3 (HRz.out.below hu)) (And.intro (cells3 (HVh.out.below hu)) (frz4 (HRz.out.below hu))))
      by_cases h4 : 4000 ≤ z - a
      case pos =>
        rw [if_pos h4] at HC
        go_wp2_with (go_at_call 28; (with_reducible refine HC.out.mono ?_); rintro e u3 ⟨rfl, hb3⟩; obtain ⟨⟨r0, r1, r2, rl⟩, ⟨e0, e1, e2, el⟩, ⟨f0, f1, f2, f3⟩⟩ := HF.out _ hb3)
        obtain ⟨x0, x1, x2, _⟩ := cells3 (blk_st3 (HRz.out.below hb3) (.slice none 0 0) (.int .i64 0) (.int .i64 0))
        exact bodyPost_ret (v := .tuple #[.agg #[.slice none 0 0, .int .i64 0, .int .i64 0], .int .i64 2]) (by simp [results, Tryz.results11, go_sem, x0, x1, x2]) rfl ⟨⟨none, 0, 0, 0, 0, 2, rfl, .inl ⟨by omega, rfl⟩⟩, below_st3 (HBw.out.trans (hb3.mono HBw.out.size)) (by omega) _ _ _⟩
      case neg =>
        rw [if_neg h4] at HC
        go_wp2_with (go_at_call 28; (with_reducible refine HC.out.mono ?_); rintro e u3 ⟨rfl, hb3⟩; obtain ⟨⟨r0, r1, r2, rl⟩, ⟨e0, e1, e2, el⟩, ⟨f0, f1, f2, f3⟩⟩ := HF.out _ hb3)
        obtain ⟨x0, x1, x2, _⟩ := cells3 (blk_st3 (HRz.out.below hb3) (.slice Ao n co) (.int .i64 a) (.int .i64 z))
        exact bodyPost_ret (v := .tuple #[.agg #[.slice Ao n co, .int .i64 a, .int .i64 z], .int .i64 0]) (by simp [results, Tryz.results11, go_sem, x0, x1, x2]) rfl ⟨⟨Ao, n, co, a, z, 0, rfl, .inr ⟨by omega, rfl, rfl, by omega, by omega, ((((HSl.out.below hb3).grown (grownBy_set _ _ _ _) HLb.out).grown (grownBy_set _ _ _ _) HLb.out).grown (grownBy_set _ _ _ _) HLb.out)⟩⟩, below_st3 (HBw.out.trans (hb3.mono HBw.out.size)) (by omega) _ _ _⟩
end Go.Proofs.YtgojpgggbflgoaaGreat

namespace Go.Proofs.YtgojpgggbflgoaaGreat
open Go.RowKit

set_option maxRecDepth 100000 in
set_option maxHeartbeats 6400000 in
theorem Release_any (id light lever height : Int) (A : Option Addr) (n c : Nat) (B : Option Addr) (m d : Nat) (merr : Int) (C : Option Addr) (q r : Nat) (terr turn least : Int) (hs : List Hl) (mn mt : List (Int × Int)) (Y : Option Addr) (ny cy : Nat) (G : Option Addr) (ng cg : Nat) (ys : List Hy) (gs : List Gs) (Lv : Option Addr) (nv cv : Nat) (l : List Sv) (depth keel : Int) (w : World) (hA : SAt encL 4 w A n hs) (hB : CAt w B m mn) (hC : CAt w C q mt) (hn : n ≤ 9223372036854775807) (hm : m ≤ 9223372036854775807) (hq : q ≤ 9223372036854775807) (hc : n ≤ c) (hE : shipE id light lever height turn least hs mn merr mt terr = 0) (hY : SAt encY 3 w Y ny ys) (hG : SAt encG 5 w G ng gs) (hny : ny ≤ 1000000) (hng : ng ≤ 1000000) (hbu : bulbE ys gs = 0) (hV : SAt encV 18 w Lv nv l) (hvo : LvOk ys gs l) (hl : ∀ x ∈ l, MaOk mn merr ys gs x) (hle : (togS light (roomS light hs) mn merr ys gs l).1 ≤ (togS light (roomS light hs) mn merr ys gs l).2) (h4 : (togS light (roomS light hs) mn merr ys gs l).2 - (togS light (roomS light hs) mn merr ys gs l).1 < 4000) :
    Calls Tryz.prog 13 #[.agg (cSp id light lever height A n c B m d merr C q r terr turn least), .agg #[.slice Y ny cy, .slice G ng cg], .slice Lv nv cv, .int .i64 depth, .int .i64 keel] w fun e w' => (∃ b s, e = .returned (.tuple #[.bool b, .int .i64 s]) ∧ (b = true → (∀ t, (togS light (roomS light hs) mn merr ys gs l).1 - light ≤ t → t ≤ (togS light (roomS light hs) mn merr ys gs l).2 - light → ShkP light height hs mt terr least t) ∧ ClrP light lever hs mn merr turn ((togS light (roomS light hs) mn merr ys gs l).1 - light) ((togS light (roomS light hs) mn merr ys gs l).2 - light) depth keel)) ∧ Below w.heap.size w w' := by
  have hok := shipE_zero hE
  have k := LdOk.of hok hle
  have HLd := Lib.hid (fun (u : World) (hu : Below w.heap.size w u) => Load_any id light lever height A n c B m d merr C q r terr turn least hs mn mt Y ny cy G ng cg ys gs Lv nv cv l u (hA.below hu) (hB.below hu) (hC.below hu) hn hm hq hc hE (hY.below hu) (hG.below hu) hny hng hbu (hV.below hu) hvo hl hle)
  have HSt := Lib.hid (fun (u : World) (hu : Below w.heap.size w u) (Lh : Option Addr) (ch : Nat) (hL : SAt encS 2 u Lh n (rsL hs)) => Steady_any id light lever height A n c B m d merr C q r terr turn least hs mn mt Lh ch _ _ u (hA.below hu) (hB.below hu) (hC.below hu) hn hm hq hc hE hL k (by omega))
  have HCl := Lib.hid (fun (u : World) (hu : Below w.heap.size w u) (Lh : Option Addr) (ch : Nat) (hL : SAt encS 2 u Lh n (rsL hs)) => Clear_any id light lever height A n c B m d merr C q r terr turn least hs mn mt Lh ch _ _ depth keel u (hA.below hu) (hB.below hu) (hC.below hu) hn hm hq hc hE hL k (by omega))
  clear hA hB hC hE hY hG hbu hV hvo hl hok k
  generalize togS light (roomS light hs) mn merr ys gs l = S at *
  obtain ⟨S1, S2⟩ := S
  dsimp only at hle h4 HLd HSt HCl ⊢
  dsimp only [vLd] at HLd HSt HCl
  obtain ⟨a, ha⟩ : ∃ a, S1 - light = a := ⟨_, rfl⟩
  obtain ⟨z, hz⟩ : ∃ z, S2 - light = z := ⟨_, rfl⟩
  simp only [ha, hz] at HLd HSt HCl ⊢
  clear ha hz
  have hb0 := ((Below.refl w.heap.size w).alloc (Nat.le_refl _) (.cells (cSp id light lever height A n c B m d merr C q r terr turn least) 27)).alloc (by simp) (.cells #[.slice Y ny cy, .slice G ng cg] 31)
  have t0 := (Blk.new w 27 (cSp id light lever height A n c B m d merr C q r terr turn least)).alloc (.cells #[.slice Y ny cy, .slice G ng cg] 31)
  have g0 := Blk.at_new (W := w.alloc (.cells (cSp id light lever height A n c B m d merr C q r terr turn least) 27)) (g := w.heap.size + 1) 31 #[.slice Y ny cy, .slice G ng cg] (by simp)
  go_enter Tryz.func13, Tryz.ntmps13
  go_upto_region 1 with fail
  generalize hW : (w.alloc (.cells (cSp id light lever height A n c B m d merr C q r terr turn least) 27)).alloc (.cells #[.slice Y ny cy, .slice G ng cg] 31) = W at *
  clear hW
  have HT0 := Lib.hid t0
  have HB0 := Lib.hid hb0
  obtain ⟨tl, s0, s1, s2, s3, s4, s5, s6, s7, s8, s9, s10⟩ := blk11 t0
  obtain ⟨y0, y1, yl⟩ := cells2 g0
  have HC := Lib.hid (HLd.out _ hb0)
  clear t0 g0 hb0
  have hn4 : ¬ 4000 ≤ S2 - S1 := by omega
  go_upto_region 4 with (go_at_call 11; (with_reducible refine HC.out.mono ?_); rintro e u1 ⟨⟨Lh, nh, ch, a', z', s', rfl, (⟨hbad, _⟩ | ⟨_, es, en, ea, ez, hsL⟩)⟩, hb1⟩; exact absurd hbad hn4; subst s'; subst nh; subst a'; subst z')
  have bq := below_new u1 (.cells #[.slice Lh n ch, .int .i64 a, .int .i64 z] 49)
  have bn := hb1.trans (bq.mono hb1.size)
  have HT1 := Lib.hid (HT0.out.below bn)
  have HB1 := Lib.hid (HB0.out.trans (bn.mono HB0.out.size))
  have HS1 := Lib.hid (hsL.below bq)
  have HL1 := Lib.hid (Blk.new u1 49 #[.slice Lh n ch, .int .i64 a, .int .i64 z])
  generalize hV : u1.alloc (.cells #[.slice Lh n ch, .int .i64 a, .int .i64 z] 49) = V at *
  generalize hg : u1.heap.size = g12 at *
  clear hV hg bq bn hb1 hsL y0 y1 yl tl s0 s1 s2 s3 s4 s5 s6 s7 s8 s9 s10 HT0 HB0 HLd HC
  obtain ⟨tl, s0, s1, s2, s3, s4, s5, s6, s7, s8, s9, s10⟩ := blk11 HT1.out
  obtain ⟨e0, e1, e2, el⟩ := cells3 HL1.out
  have HC := Lib.hid (HSt.out V HB1.out Lh ch HS1.out)
  go_upto_region 7 with (go_at_call 30; (with_reducible refine HC.out.mono ?_); rintro e u2 ⟨⟨X, p, pc, b1, rfl, hp⟩, hb2⟩)
  have HP := Lib.hid hp
  have HT2 := Lib.hid (HT1.out.below hb2)
  have HB2 := Lib.hid (HB1.out.trans (hb2.mono HB1.out.size))
  have HS2 := Lib.hid (HS1.out.below hb2)
  have hl2 := HL1.out.below hb2
  clear hp hb2 e0 e1 e2 el tl s0 s1 s2 s3 s4 s5 s6 s7 s8 s9 s10 HT1 HB1 HS1 HL1 HSt HC
  obtain ⟨tl, s0, s1, s2, s3, s4, s5, s6, s7, s8, s9, s10⟩ := blk11 HT2.out
  obtain ⟨e0, e1, e2, el⟩ := cells3 hl2
  have HC := Lib.hid (HCl.out u2 HB2.out Lh ch HS2.out)
  clear hl2
  go_upto_region 8 with (go_at_call 31; (with_reducible refine HC.out.mono ?_); rintro e u3 ⟨⟨b2, s2', rfl, hq2⟩, hb3⟩)
  have HQ := Lib.hid hq2
  have HB3 := Lib.hid (HB2.out.trans (hb3.mono HB2.out.size))
  clear hq2 hb3 e0 e1 e2 el tl s0 s1 s2 s3 s4 s5 s6 s7 s8 s9 s10 HT2 HB2 HS2 HCl HC
  by_cases hs0 : s2' = 0
  case neg =>
    have hsb : (s2' != 0) = true := by simpa using hs0
    go_wp2
    exact bodyPost_ret (v := .tuple #[.bool false, .int .i64 s2']) (by simp [results, Tryz.results13, go_sem]) rfl ⟨⟨_, _, rfl, fun h => (by cases h)⟩, HB3.out⟩
  case pos =>
    subst hs0
    cases b1 with
    | false =>
      go_wp2
      exact bodyPost_ret (v := .tuple #[.bool false, .int .i64 0]) (by simp [results, Tryz.results13, go_sem]) rfl ⟨⟨_, _, rfl, fun h => (by cases h)⟩, HB3.out⟩
    | true =>
      go_wp2
      exact bodyPost_ret (v := .tuple #[.bool b2, .int .i64 0]) (by simp [results, Tryz.results13, go_sem]) rfl ⟨by cases b2 with | false => exact .inl ⟨_, rfl⟩ | true => exact .inr ⟨⟨_, rfl⟩, HP.out (by simp), HQ.out (by simp)⟩, HB3.out⟩
end Go.Proofs.YtgojpgggbflgoaaGreat
