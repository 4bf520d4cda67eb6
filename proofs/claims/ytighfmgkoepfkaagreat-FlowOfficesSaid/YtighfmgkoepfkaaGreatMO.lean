/- The search for a way: what it keeps in memory. -/
import Derived.OwnWalk
import Derived.RangeFuncBox
import Derived.IntWalk
import Derived.Deep.DeepCutAuto
import Derived.Lib.SmallJoins
import Derived.Test.YtighfmgkoepfkaaGreatMN
import Derived.Test.YtighfmgkoepfkaaGreatMP
import Derived.Test.YtighfmgkoepfkaaGreatMA
namespace Go.Proofs.YtighfmgkoepfkaaGreat
open Go.RowKit

def encE (e : Eg) : List Value := [.int .i64 e.id, .int .i64 e.fr, .int .i64 e.to, .int .i64 e.lo, .int .i64 e.hi, .int .i64 (e.a : Int), .int .i64 (e.b : Int), .int .i64 e.fl]
theorem encE_len (e : Eg) : (encE e).length = 8 := rfl
def encHp (h : Hp) : List Value := [.int .i64 (h.e : Int), .int .i64 (h.to : Int), .int .i64 h.by_, .int .i64 h.sg]
theorem encHp_len (h : Hp) : (encHp h).length = 4 := rfl
theorem info_edge : (Tryz.prog.info? 186).map (fun i => (i.zero, i.size, i.bytes)) = some (some (.agg #[.int .i64 0, .int .i64 0, .int .i64 0, .int .i64 0, .int .i64 0, .int .i64 0, .int .i64 0, .int .i64 0]), 8, 64) := by kernel_rfl
theorem info_hop : (Tryz.prog.info? 191).map (fun i => (i.zero, i.size, i.bytes)) = some (some (.agg #[.int .i64 0, .int .i64 0, .int .i64 0, .int .i64 0]), 4, 32) := by kernel_rfl
theorem info_int : (Tryz.prog.info? 3).map (fun i => (i.zero, i.size, i.bytes)) = some (some (.int .i64 0), 1, 8) := by kernel_rfl
theorem grownBy_set (W : World) (b o : Nat) (v : Value) : W.grownBy (W.setCell ⟨b, o, none⟩ v) (some b) :=
  ⟨rfl, rfl, rfl, by simp [World.setCell], fun k _ hk => Below.heap_setCell W ⟨b, o, none⟩ v k (fun e => hk (by rw [e]))⟩
theorem owns_slice {W : World} {B e size n : Nat} {v : Value} {xs : List Value} (h : W.ownsRow B e size v n xs) : ∃ A c, v = .slice A n c := by
  rcases h.2 with ⟨e, h0⟩ | ⟨g, cp, cur, e, _⟩
  · exact ⟨none, 0, by rw [e, h0]⟩
  · exact ⟨_, _, e⟩
/-- A cell of a row that is owned is turned. -/
theorem owns_set {W : World} {B e size n g c : Nat} {xs : List Value} (h : W.ownsRow B e size (.slice (some ⟨g, 0, none⟩) n c) n xs) (j : Nat) (hj : j < xs.length) (u : Value) :
    (W.setCell ⟨g, j, none⟩ u).ownsRow B e size (.slice (some ⟨g, 0, none⟩) n c) n (xs.set j u) := by
  refine ⟨by rw [List.length_set]; exact h.1, ?_⟩
  rcases h.2 with ⟨e, _⟩ | ⟨g', cap, cur, e, hb, hg, h1, h2, h3, h4⟩
  · cases e
  · cases e
    have hblk : Blk W g e cur := hg
    have hl : j < n * size := by rw [← h.1]; exact hj
    refine .inr ⟨g, c, _, rfl, hb, hblk.set_ j u, h1, h2, by simp [h3], ?_⟩
    have : j < cur.size := by rw [h3]; exact Nat.lt_of_lt_of_le hl (Nat.mul_le_mul_right _ h1)
    rw [← h4]
    simp [List.take_set]

/-- The net of edges es with N nodes: its block p, and the row of its edges, which lies from base on. -/
structure Net (w : World) (p base : Nat) (A : Option Addr) (c : Nat) (es : List Eg) (N : Nat) : Prop where
  blk : Blk w p 183 #[.int .i64 (N : Int), .slice A es.length c]
  lt : p < base
  row : w.ownsRow base 186 8 (.slice A es.length c) es.length (es.flatMap encE)
theorem Net.below {w w' : World} {p base : Nat} {A : Option Addr} {c : Nat} {es : List Eg} {N : Nat} (h : Net w p base A c es N) (hb : Below w.heap.size w w') : Net w' p base A c es N :=
  ⟨h.blk.below hb, h.lt, owns_below h.row hb⟩
theorem Net.plt {w : World} {p base : Nat} {A : Option Addr} {c : Nat} {es : List Eg} {N : Nat} (h : Net w p base A c es N) : p < w.heap.size := h.blk.lt
theorem Net.sat {w : World} {p base : Nat} {A : Option Addr} {c : Nat} {es : List Eg} {N : Nat} (h : Net w p base A c es N) : SAt encE 8 w A es.length es := by
  obtain ⟨A', c', e, hs, _⟩ := SAt_of_row encE_len rfl h.row
  have e2 : A = A' ∧ c = c' := by simpa using e
  rw [e2.1]; exact hs
theorem Net.form {w : World} {p base : Nat} {A : Option Addr} {c : Nat} {es : List Eg} {N : Nat} (h : Net w p base A c es N) (h0 : 0 < es.length) : ∃ g, A = some ⟨g, 0, none⟩ ∧ base ≤ g ∧ g < w.heap.size := by
  obtain ⟨g, cap, e⟩ := Joins.ownsRow_form h.row h0
  have e2 : A = some ⟨g, 0, none⟩ ∧ c = cap := by simpa using e
  obtain ⟨rfl, rfl⟩ := e2
  exact ⟨g, rfl, own_lt h.row rfl⟩
theorem Egs.at_ {w : World} {b off : Nat} {es : List Eg} (h : Ls encE 8 w b off es) {i : Nat} {x : Eg} (hi : es[i]? = some x) :
    w.cell? ⟨b, off + i * 8, none⟩ = some (.int .i64 x.id) ∧ w.cell? ⟨b, off + i * 8 + 1, none⟩ = some (.int .i64 x.fr) ∧ w.cell? ⟨b, off + i * 8 + 2, none⟩ = some (.int .i64 x.to) ∧
    w.cell? ⟨b, off + i * 8 + 3, none⟩ = some (.int .i64 x.lo) ∧ w.cell? ⟨b, off + i * 8 + 4, none⟩ = some (.int .i64 x.hi) ∧ w.cell? ⟨b, off + i * 8 + 5, none⟩ = some (.int .i64 (x.a : Int)) ∧
    w.cell? ⟨b, off + i * 8 + 6, none⟩ = some (.int .i64 (x.b : Int)) ∧ w.cell? ⟨b, off + i * 8 + 7, none⟩ = some (.int .i64 x.fl) :=
  ⟨h.c i x hi 0 _ rfl, h.c i x hi 1 _ rfl, h.c i x hi 2 _ rfl, h.c i x hi 3 _ rfl, h.c i x hi 4 _ rfl, h.c i x hi 5 _ rfl, h.c i x hi 6 _ rfl, h.c i x hi 7 _ rfl⟩
theorem Hps.at_ {w : World} {b off : Nat} {l : List Hp} (h : Ls encHp 4 w b off l) {i : Nat} {x : Hp} (hi : l[i]? = some x) :
    w.cell? ⟨b, off + i * 4, none⟩ = some (.int .i64 (x.e : Int)) ∧ w.cell? ⟨b, off + i * 4 + 1, none⟩ = some (.int .i64 (x.to : Int)) ∧ w.cell? ⟨b, off + i * 4 + 2, none⟩ = some (.int .i64 x.by_) ∧
    w.cell? ⟨b, off + i * 4 + 3, none⟩ = some (.int .i64 x.sg) :=
  ⟨h.c i x hi 0 _ rfl, h.c i x hi 1 _ rfl, h.c i x hi 2 _ rfl, h.c i x hi 3 _ rfl⟩
/-- One more flows on an edge: the row's cell. -/
theorem flat_set : ∀ (es : List Eg) (i : Nat) (e : Eg) (d : Int), es[i]? = some e → (es.flatMap encE).set (i * 8 + 7) (.int .i64 (e.fl + d)) = (bump es i d).flatMap encE
  | [], i, e, d, h => by simp at h
  | x :: es, 0, e, d, h => by
    have : x = e := by simpa using h
    subst this
    rfl
  | x :: es, i + 1, e, d, h => by
    have ih := flat_set es i e d (by simpa using h)
    show (encE x ++ es.flatMap encE).set ((i + 1) * 8 + 7) _ = encE x ++ (bump es i d).flatMap encE
    rw [List.set_append, if_neg (by rw [encE_len]; omega), encE_len, show (i + 1) * 8 + 7 - 8 = i * 8 + 7 by omega, ih]
end Go.Proofs.YtighfmgkoepfkaaGreat

namespace Go.Proofs.YtighfmgkoepfkaaGreat
open Go.RowKit
def eS1 (hs : List Hd) (k : Nat) : List Eg := (hs.take k).mapIdx (egS hs.length)
def eS2 (hs : List Hd) (k : Nat) : List Eg := hs.mapIdx (egS hs.length) ++ (hs.take k).mapIdx (egE hs.length)
def eS3 (hs : List Hd) (ms : List Mv) (k : Nat) : List Eg := hs.mapIdx (egS hs.length) ++ (hs.mapIdx (egE hs.length) ++ (ms.take k).map (egM hs))
theorem eS1_step {hs : List Hd} {k : Nat} (h : k < hs.length) : eS1 hs (k + 1) = eS1 hs k ++ [egS hs.length k hs[k]] := by
  unfold eS1
  rw [List.take_succ_eq_append_getElem h, List.mapIdx_append]
  have : (hs.take k).length = k := by simp; omega
  simp [this]
theorem eS2_step {hs : List Hd} {k : Nat} (h : k < hs.length) : eS2 hs (k + 1) = eS2 hs k ++ [egE hs.length k hs[k]] := by
  unfold eS2
  rw [List.take_succ_eq_append_getElem h, List.mapIdx_append, List.append_assoc]
  have : (hs.take k).length = k := by simp; omega
  simp [this]
theorem eS3_step {hs : List Hd} {ms : List Mv} {k : Nat} (h : k < ms.length) : eS3 hs ms (k + 1) = eS3 hs ms k ++ [egM hs ms[k]] := by
  unfold eS3
  rw [List.take_succ_eq_append_getElem h, List.map_append]
  simp
theorem eS1_len {hs : List Hd} {k : Nat} (h : k ≤ hs.length) : (eS1 hs k).length = k := by simp [eS1]; omega
theorem eS2_len {hs : List Hd} {k : Nat} (h : k ≤ hs.length) : (eS2 hs k).length = hs.length + k := by simp [eS2]; omega
theorem eS3_len {hs : List Hd} {ms : List Mv} {k : Nat} (h : k ≤ ms.length) : (eS3 hs ms k).length = 2 * hs.length + k := by simp [eS3]; omega
theorem eS2_zero (hs : List Hd) : eS2 hs 0 = eS1 hs hs.length := by simp [eS2, eS1]
theorem eS3_zero (hs : List Hd) (ms : List Mv) : eS3 hs ms 0 = eS2 hs hs.length := by simp [eS3, eS2]
theorem eS3_end (hs : List Hd) (ms : List Mv) : eS3 hs ms ms.length = edges hs ms := by simp [eS3, edges]
theorem pos_in {hs : List Hd} {id : Int} (h : posN hs id < hs.length) : pos hs id = (posN hs id : Int) := by unfold pos; rw [if_pos h]

set_option maxRecDepth 100000 in
set_option maxHeartbeats 12800000 in
theorem of_any (A : Option Addr) (n c : Nat) (B : Option Addr) (m d : Nat) (hs : List Hd) (ms : List Mv) (w : World) (h : SAt encH 6 w A n hs) (h' : SAt encM 5 w B m ms) (hv : TV hs ms) :
    Calls Tryz.prog 81 #[vT A n c B m d] w fun e w' => ∃ p A' c', e = .returned (.pointer (some ⟨p, 0, none⟩)) ∧ w.heap.size ≤ p ∧ Net w' p (p + 1) A' c' (edges hs ms) (n + 1) ∧ Below w.heap.size w w' := by
  have HH := Lib.hid h
  have HM := Lib.hid h'
  have HLh := Lib.hid h.len
  have HLm := Lib.hid h'.len
  have hn : n ≤ 9 := by rw [← h.len]; exact hv.lenH
  have hm : m ≤ 24 := by rw [← h'.len]; exact hv.lenM
  have HV := Lib.hid (fun k (q : k < ms.length) => (hv.pos (List.getElem_mem q) : posN hs (ms[k]).fr < hs.length ∧ posN hs (ms[k]).to < hs.length))
  have HP := Lib.hid (fun W (hW : Below w.heap.size w W) id => holder_any A n c B m d hs id W (h.below hW) (by omega))
  obtain ⟨i0, hi0, hi1, hi2, hi3⟩ := info_parts info_edge
  have HI := Lib.hid (show Tryz.prog.info? 186 = some i0 ∧ i0.zero = some (.agg #[.int .i64 0, .int .i64 0, .int .i64 0, .int .i64 0, .int .i64 0, .int .i64 0, .int .i64 0, .int .i64 0]) ∧ i0.size = 8 ∧ i0.bytes = 64 from ⟨hi0, hi1, hi2, hi3⟩)
  clear h h' hv hi0 hi1 hi2 hi3
  generalize hW : w.alloc (.cells #[.slice A n c, .slice B m d] 25) = W
  have B0 : Below w.heap.size w W := by rw [← hW]; exact ((Below.refl w.heap.size w).alloc (Nat.le_refl _) _)
  have t_0 : Blk W w.heap.size 25 #[.slice A n c, .slice B m d] := by rw [← hW]; exact (Blk.at_new _ _ rfl)
  have HWE := Lib.hid hW
  clear hW
  go_enter Tryz.func81, Tryz.ntmps81
  have t_0c0 := t_0.cell 0
  have t_0c1 := t_0.cell 1
  simp only [List.getElem?_toArray, List.getElem?_cons_zero, List.getElem?_cons_succ] at t_0c0 t_0c1
  have t_0l := t_0.lt
  go_upto_region 2 with fail
  rw [HWE.out]
  have hWs : W.heap.size = w.heap.size + 1 := by rw [← HWE.out]; simp
  have HWs := Lib.hid hWs
  clear hWs
  have B1 := B0
  have B1a := B1.alloc B1.size (.cells #[.int .i64 ((n : Int) + 1), .slice none 0 0] 183)
  go_wp2_with fail
  clear t_0c0 t_0c1 t_0l
  have t_1 := (t_0.alloc (.cells #[.int .i64 ((n : Int) + 1), .slice none 0 0] 183))
  clear t_0
  have p_1 := (Blk.new W 183 #[.int .i64 ((n : Int) + 1), .slice none 0 0])
  generalize hV1 : W.alloc (.cells #[.int .i64 ((n : Int) + 1), .slice none 0 0] 183) = V1 at *
  generalize hg1 : W.heap.size = g1 at *
  clear hV1 hg1
  have t_1c0 := t_1.cell 0
  have t_1c1 := t_1.cell 1
  simp only [List.getElem?_toArray, List.getElem?_cons_zero, List.getElem?_cons_succ] at t_1c0 t_1c1
  have t_1l := t_1.lt
  have p_1c0 := p_1.cell 0
  have p_1c1 := p_1.cell 1
  simp only [List.getElem?_toArray, List.getElem?_cons_zero, List.getElem?_cons_succ] at p_1c0 p_1c1
  have p_1l := p_1.lt
  have hG : w.heap.size < g1 := by have := HWs.out; omega
  have HG := Lib.hid hG
  have hbs : (g1 + 1) ≤ V1.heap.size := p_1l
  clear t_1c0 t_1c1 t_1l p_1c0 p_1c1 p_1l
  go_loopw [5, 21] (fun _ i wx => ∃ (k q : Nat) (A1 : Option Addr) (c1 : Nat), k ≤ n ∧ i = .int .i64 k ∧ (eS1 hs k).length = q ∧ q ≤ 100 ∧ wx.ownsRow (g1 + 1) 186 8 (.slice A1 q c1) q ((eS1 hs k).flatMap encE) ∧ (g1 + 1) ≤ wx.heap.size ∧ Below w.heap.size w wx ∧ Blk wx w.heap.size 25 #[.slice A n c, .slice B m d] ∧ Blk wx g1 183 #[.int .i64 ((n : Int) + 1), .slice A1 q c1]) (fun _ i _ => n - (intOf i).toNat)
  case atStart => exact ⟨0, 0, none, 0, Nat.zero_le _, rfl, rfl, by omega, World.ownsRow_nil _ _ _ _, hbs, (B1a), t_1, p_1⟩
  case round =>
    obtain ⟨k, q, A1, c1, hk, rfl, htl, hq, ow, hbr, Br, t_20, p_20⟩ := hrel
    have HTl := Lib.hid htl
    have OW := Lib.hid ow
    have HLT := Lib.hid (fun (r : Nat) hr => own_lt (g := r) ow hr)
    clear htl ow
    by_cases hkn : k < n
    case pos =>
      obtain ⟨e0, off, hA, hl⟩ := HH.out.at_ (by omega)
      subst hA
      have hkl : k < hs.length := by rw [HLh.out]; exact hkn
      have hl2 := hl.below Br
      obtain ⟨y0, y1, y2, y3, y4, y5⟩ := Hds.at_ hl2 (List.getElem?_eq_getElem hkl)
      have hlt := hl2.lt
      have HSt := Lib.hid (eS1_step hkl)
      clear hl hl2
      generalize hs[k] = x at *
      obtain ⟨i, sl, sh, el, eh, bk⟩ := x
      dsimp only at *
      have t_20c0 := t_20.cell 0
      have t_20c1 := t_20.cell 1
      simp only [List.getElem?_toArray, List.getElem?_cons_zero, List.getElem?_cons_succ] at t_20c0 t_20c1
      have t_20l := t_20.lt
      have p_20c0 := p_20.cell 0
      have p_20c1 := p_20.cell 1
      simp only [List.getElem?_toArray, List.getElem?_cons_zero, List.getElem?_cons_succ] at p_20c0 p_20c1
      have p_20l := p_20.lt
      have hqs := Br.size
      have OW1 := Lib.hid (OW.out.alloc (.cells #[.int .i64 i, .int .i64 sl, .int .i64 sh, .int .i64 el, .int .i64 eh, .int .i64 bk] 118))
      have hbr1 : (g1 + 1) ≤ (wr.alloc (.cells #[.int .i64 i, .int .i64 sl, .int .i64 sh, .int .i64 el, .int .i64 eh, .int .i64 bk] 118)).heap.size := by simp; omega
      have HXi := Lib.hid (show ∀ r, (Value.slice A1 q c1).ownBlock = some r → r < wr.heap.size from fun r hr => (HLT.out r hr).2)
      have B21 := Br
      have B21a := B21.alloc B21.size (.cells #[.int .i64 i, .int .i64 sl, .int .i64 sh, .int .i64 el, .int .i64 eh, .int .i64 bk] 118)
      go_upto_region 6 with fail
      clear t_20c0 t_20c1 t_20l p_20c0 p_20c1 p_20l
      have t_21 := (t_20.alloc (.cells #[.int .i64 i, .int .i64 sl, .int .i64 sh, .int .i64 el, .int .i64 eh, .int .i64 bk] 118))
      have p_21 := (p_20.alloc (.cells #[.int .i64 i, .int .i64 sl, .int .i64 sh, .int .i64 el, .int .i64 eh, .int .i64 bk] 118))
      clear t_20 p_20
      have x_21 := (Blk.new wr 118 #[.int .i64 i, .int .i64 sl, .int .i64 sh, .int .i64 el, .int .i64 eh, .int .i64 bk])
      generalize hV21 : wr.alloc (.cells #[.int .i64 i, .int .i64 sl, .int .i64 sh, .int .i64 el, .int .i64 eh, .int .i64 bk] 118) = V21 at *
      generalize hg21 : wr.heap.size = g21 at *
      clear hV21 hg21
      have t_21c0 := t_21.cell 0
      have t_21c1 := t_21.cell 1
      simp only [List.getElem?_toArray, List.getElem?_cons_zero, List.getElem?_cons_succ] at t_21c0 t_21c1
      have t_21l := t_21.lt
      have p_21c0 := p_21.cell 0
      have p_21c1 := p_21.cell 1
      simp only [List.getElem?_toArray, List.getElem?_cons_zero, List.getElem?_cons_succ] at p_21c0 p_21c1
      have p_21l := p_21.lt
      have x_21c0 := x_21.cell 0
      have x_21c1 := x_21.cell 1
      have x_21c2 := x_21.cell 2
      have x_21c3 := x_21.cell 3
      have x_21c4 := x_21.cell 4
      have x_21c5 := x_21.cell 5
      simp only [List.getElem?_toArray, List.getElem?_cons_zero, List.getElem?_cons_succ] at x_21c0 x_21c1 x_21c2 x_21c3 x_21c4 x_21c5
      have x_21l := x_21.lt
      clear hlt y0 y1 y2 y3 y4 y5
      have HLT2 := Lib.hid (fun (r : Nat) hr => (⟨(HLT.out r hr).1, HXi.out r hr⟩ : (g1 + 1) ≤ r ∧ r < g21))
      refine wp_region_preC 19 [(15, 41), (16, 42)] (fun v' => Below w.heap.size w v' ∧ (g1 + 1) ≤ v'.heap.size ∧ Blk v' w.heap.size 25 #[.slice (some ⟨e0, off, none⟩) n c, .slice B m d] ∧ Blk v' g1 183 #[.int .i64 ((n : Int) + 1), .slice A1 q c1] ∧ Blk v' g21 118 #[.int .i64 i, .int .i64 sl, .int .i64 sh, .int .i64 el, .int .i64 eh, .int .i64 bk]) (OneRow 186 8 ((g1 + 1)) (q) 15 16 (.slice A1 q c1) ((eS1 hs k).flatMap encE) [.int .i64 0, .int .i64 0, .int .i64 0, .int .i64 sl, .int .i64 sh, .int .i64 (n : Int), .int .i64 (k : Int), .int .i64 sl]) (by kernel_rfl) (by kernel_rfl) ?hw ?hC ?h0 ?hP ?ex
      case hw => exact ⟨B21a, hbr1, t_21, p_21, x_21⟩
      case hC =>
        rintro v1 v2 ⟨h0, hb0, qt, qp, qx⟩ kk
        exact ⟨h0.trans (kk.mono h0.size), Nat.le_trans hb0 kk.size, qt.below kk, qp.below kk, qx.below kk⟩
      case h0 =>
        intro v' hv'
        refine OneRow.below (W := V21) ?_ hv'
        exact ⟨by simpa using OW1.out, fun h => (by cases h)⟩
      case hP => exact fun ls vs v v' _ h kk => h.below kk
      case ex =>
        apply Exists.intro
        refine ⟨?walk, ?loud⟩
        case walk =>
          rintro V ⟨h0, hb0, qt, qp, qx⟩
          have t_vc0 := qt.cell 0
          have t_vc1 := qt.cell 1
          simp only [List.getElem?_toArray, List.getElem?_cons_zero, List.getElem?_cons_succ] at t_vc0 t_vc1
          have t_vl := qt.lt
          have p_vc0 := qp.cell 0
          have p_vc1 := qp.cell 1
          simp only [List.getElem?_toArray, List.getElem?_cons_zero, List.getElem?_cons_succ] at p_vc0 p_vc1
          have p_vl := qp.lt
          have x_vc0 := qx.cell 0
          have x_vc1 := qx.cell 1
          have x_vc2 := qx.cell 2
          have x_vc3 := qx.cell 3
          have x_vc4 := qx.cell 4
          have x_vc5 := qx.cell 5
          simp only [List.getElem?_toArray, List.getElem?_cons_zero, List.getElem?_cons_succ] at x_vc0 x_vc1 x_vc2 x_vc3 x_vc4 x_vc5
          have x_vl := qx.lt
          have BV := h0
          obtain ⟨xc, xf⟩ := xcell (W := V)
          simp only [List.take_succ_cons, List.take_zero, qOf, isLoud, List.any_cons, List.any_nil, Nat.reduceBEq, Bool.or_false, Bool.or_true, Nat.reduceAdd, Bool.false_eq_true, if_true, if_false, beq_self_eq_true, Nat.zero_add]
          repeat (first | go_big_quiet_step (fail) | quiet_step (fail))
          exact wpQuiet_nil rfl
        case loud =>
          simp only [List.drop_succ_cons, List.drop_zero]
          refine ⟨?_, ?_⟩
          · rintro p hp vs V ⟨h0, hb0, qt, qp, qx⟩ ls hI hls hw o ho
            simp only [List.mem_cons, List.not_mem_nil, or_false] at hp
            rcases hp with rfl | rfl
            · simp only [List.getElem?_cons_succ, List.getElem?_cons_zero, Option.some.injEq] at ho
              subst ho
              simp [loudAt, loudUpon, go_sem, execOp, putsL, Act.put]
              exact ⟨⟨h0.alloc h0.size _, by omega, qt.alloc _, qp.alloc _, qx.alloc _⟩, hI.lay (by decide)⟩
            · have h9 := hw (15, 41) (by simp) (by kernel_rfl)
              obtain ⟨g, e, hbk⟩ := hI.new h9 hls
              have hrow := hI.row
              have h8 := hls
              simp only [h8, cond_false, Nat.add_zero, List.append_nil] at hrow
              simp only [List.getElem?_cons_succ, List.getElem?_cons_zero, Option.some.injEq] at ho
              subst ho
              refine loudAt_append (.tmp 30) (.tmp 41) 181 rfl ((g1 + 1)) 186 i0 (.agg #[.int .i64 0, .int .i64 0, .int .i64 0, .int .i64 0, .int .i64 0, .int .i64 0, .int .i64 0, .int .i64 0]) 8 64 Tryz.underlying181 HI.out.1 HI.out.2.1 HI.out.2.2.1 HI.out.2.2.2 rfl (by decide) (.slice A1 q c1) (q) ((eS1 hs k).flatMap encE) rfl hrow ⟨g, 0, none⟩ 1 1 [.int .i64 0, .int .i64 0, .int .i64 0, .int .i64 sl, .int .i64 sh, .int .i64 (n : Int), .int .i64 (k : Int), .int .i64 sl] e rfl ?c1 ?c2 ?c3 ?c4 hb0 ?_
              case c1 =>
                have g0 := hbk.cell 0
                have g1 := hbk.cell 1
                have g2 := hbk.cell 2
                have g3 := hbk.cell 3
                have g4 := hbk.cell 4
                have g5 := hbk.cell 5
                have g6 := hbk.cell 6
                have g7 := hbk.cell 7
                simp only [List.getElem?_toArray, List.getElem?_cons_zero, List.getElem?_cons_succ] at g0 g1 g2 g3 g4 g5 g6 g7
                intro j' u hj'
                match j', hj' with
                | 0, hj' => simp at hj'; subst hj'; simpa [Addr.add] using g0
                | 1, hj' => simp at hj'; subst hj'; simpa [Addr.add] using g1
                | 2, hj' => simp at hj'; subst hj'; simpa [Addr.add] using g2
                | 3, hj' => simp at hj'; subst hj'; simpa [Addr.add] using g3
                | 4, hj' => simp at hj'; subst hj'; simpa [Addr.add] using g4
                | 5, hj' => simp at hj'; subst hj'; simpa [Addr.add] using g5
                | 6, hj' => simp at hj'; subst hj'; simpa [Addr.add] using g6
                | 7, hj' => simp at hj'; subst hj'; simpa [Addr.add] using g7
              case c2 => intro u hu; simp at hu; rcases hu with rfl | rfl | rfl | rfl | rfl | rfl | rfl | rfl <;> rfl
              case c3 => unfold maxLen; omega
              case c4 => omega
              intro v' w2 hown' hgrow hat
              refine ⟨⟨h0.grown hgrow h0.size (fun kk hk => by have := HLT2.out _ hk; omega), Nat.le_trans hb0 hgrow.size, qt.grown hgrow (fun h => by have := HLT2.out _ h; omega), qp.grown hgrow (fun h => by have := HLT2.out _ h; omega), qx.grown hgrow (fun h => by have := HLT2.out _ h; omega)⟩, hI.app v' hown'⟩
          · rintro ls vs V22 ⟨B22, hbase22, t_22, p_22, x_22⟩ hI hls
            have h8 := hls (16, 42) (by simp)
            have hrow := hI.row
            simp only [h8, cond_true] at hrow
            have HN := Lib.hid hrow
            clear hrow hI hls h8
            simp only [putsL, List.foldl_cons, List.foldl_nil, Act.put, List.setIfInBounds_toArray, List.set_cons_succ, List.set_cons_zero]
            generalize vs 16 = v7 at *
            generalize vs 15 = v6 at *
            obtain ⟨g', cap', rfl⟩ := ownsRow_succ HN.out
            have t_22c0 := t_22.cell 0
            have t_22c1 := t_22.cell 1
            simp only [List.getElem?_toArray, List.getElem?_cons_zero, List.getElem?_cons_succ] at t_22c0 t_22c1
            have t_22l := t_22.lt
            have p_22c0 := p_22.cell 0
            have p_22c1 := p_22.cell 1
            simp only [List.getElem?_toArray, List.getElem?_cons_zero, List.getElem?_cons_succ] at p_22c0 p_22c1
            have p_22l := p_22.lt
            have x_22c0 := x_22.cell 0
            have x_22c1 := x_22.cell 1
            have x_22c2 := x_22.cell 2
            have x_22c3 := x_22.cell 3
            have x_22c4 := x_22.cell 4
            have x_22c5 := x_22.cell 5
            simp only [List.getElem?_toArray, List.getElem?_cons_zero, List.getElem?_cons_succ] at x_22c0 x_22c1 x_22c2 x_22c3 x_22c4 x_22c5
            have x_22l := x_22.lt
            have hrow := HN.out
            have pf1 := p_22.frozen 1
            have HSt2 := Lib.hid (show (eS1 hs (k + 1)).flatMap encE = (eS1 hs k).flatMap encE ++ [.int .i64 0, .int .i64 0, .int .i64 0, .int .i64 sl, .int .i64 sh, .int .i64 (n : Int), .int .i64 (k : Int), .int .i64 sl] by rw [HSt.out, List.flatMap_append, HLh.out]; rfl)
            clear hrow
            go_wp2
            go_roundw
            case rel =>
              refine ⟨k + 1, q + 1, some ⟨g', 0, none⟩, cap', by omega, by go_num, by rw [HSt.out, List.length_append, HTl.out]; rfl, ?_, ?_, by simpa [World.setCell] using hbase22, ?_⟩
              · have := HTl.out; have hh := HLh.out; have hm := HLm.out; rw [eS1_len (by omega)] at this; omega
              · rw [HSt2.out]
                exact owns_grown HN.out (grownBy_set V22 g1 1 _) (fun r hr e => by have := (own_lt HN.out hr).1; have e2 := Option.some.inj e; omega)
              · exact ⟨(B22).setCell (p := ⟨g1, 1, none⟩) (Nat.le_of_lt HG.out) _, t_22.far (p := ⟨g1, 1, none⟩) (by simp; have := HG.out; omega) _, by simpa using p_22.set_ 1 (.slice (some ⟨g', 0, none⟩) (q + 1) cap')⟩
            case measure => simp [intOf]; omega
    case neg =>
      have hkk : n = k := by omega
      subst hkk
      have t_20c0 := t_20.cell 0
      have t_20c1 := t_20.cell 1
      simp only [List.getElem?_toArray, List.getElem?_cons_zero, List.getElem?_cons_succ] at t_20c0 t_20c1
      have t_20l := t_20.lt
      have p_20c0 := p_20.cell 0
      have p_20c1 := p_20.cell 1
      simp only [List.getElem?_toArray, List.getElem?_cons_zero, List.getElem?_cons_succ] at p_20c0 p_20c1
      have p_20l := p_20.lt
      have HTn := HTl
      go_wp2_with fail
      clear t_20c0 t_20c1 t_20l p_20c0 p_20c1 p_20l
      go_loopw [7, 49] (fun _ i wx => ∃ (k q : Nat) (A1 : Option Addr) (c1 : Nat), k ≤ n ∧ i = .int .i64 k ∧ (eS2 hs k).length = q ∧ q ≤ 100 ∧ wx.ownsRow (g1 + 1) 186 8 (.slice A1 q c1) q ((eS2 hs k).flatMap encE) ∧ (g1 + 1) ≤ wx.heap.size ∧ Below w.heap.size w wx ∧ Blk wx w.heap.size 25 #[.slice A n c, .slice B m d] ∧ Blk wx g1 183 #[.int .i64 ((n : Int) + 1), .slice A1 q c1]) (fun _ i _ => n - (intOf i).toNat)
      case atStart => exact ⟨0, q, A1, c1, Nat.zero_le _, rfl, by rw [eS2_zero hs, HLh.out]; exact HTl.out, by omega, by rw [eS2_zero hs, HLh.out]; exact OW.out, hbr, (Br), t_20, p_20⟩
      case round =>
        clear HTl OW HLT
        obtain ⟨k, q, A1, c1, hk, rfl, htl, hq, ow, hbr, Br, t_20, p_20⟩ := hrel
        have HTl := Lib.hid htl
        have OW := Lib.hid ow
        have HLT := Lib.hid (fun (r : Nat) hr => own_lt (g := r) ow hr)
        clear htl ow
        by_cases hkn : k < n
        case pos =>
          obtain ⟨e0, off, hA, hl⟩ := HH.out.at_ (by omega)
          subst hA
          have hkl : k < hs.length := by rw [HLh.out]; exact hkn
          have hl2 := hl.below Br
          obtain ⟨y0, y1, y2, y3, y4, y5⟩ := Hds.at_ hl2 (List.getElem?_eq_getElem hkl)
          have hlt := hl2.lt
          have HSt := Lib.hid (eS2_step hkl)
          clear hl hl2
          generalize hs[k] = x at *
          obtain ⟨i, sl, sh, el, eh, bk⟩ := x
          dsimp only at *
          have t_20c0 := t_20.cell 0
          have t_20c1 := t_20.cell 1
          simp only [List.getElem?_toArray, List.getElem?_cons_zero, List.getElem?_cons_succ] at t_20c0 t_20c1
          have t_20l := t_20.lt
          have p_20c0 := p_20.cell 0
          have p_20c1 := p_20.cell 1
          simp only [List.getElem?_toArray, List.getElem?_cons_zero, List.getElem?_cons_succ] at p_20c0 p_20c1
          have p_20l := p_20.lt
          have hqs := Br.size
          have OW1 := Lib.hid (OW.out.alloc (.cells #[.int .i64 i, .int .i64 sl, .int .i64 sh, .int .i64 el, .int .i64 eh, .int .i64 bk] 118))
          have hbr1 : (g1 + 1) ≤ (wr.alloc (.cells #[.int .i64 i, .int .i64 sl, .int .i64 sh, .int .i64 el, .int .i64 eh, .int .i64 bk] 118)).heap.size := by simp; omega
          have HXi := Lib.hid (show ∀ r, (Value.slice A1 q c1).ownBlock = some r → r < wr.heap.size from fun r hr => (HLT.out r hr).2)
          have B21 := Br
          have B21a := B21.alloc B21.size (.cells #[.int .i64 i, .int .i64 sl, .int .i64 sh, .int .i64 el, .int .i64 eh, .int .i64 bk] 118)
          go_upto_region 11 with fail
          clear t_20c0 t_20c1 t_20l p_20c0 p_20c1 p_20l
          have t_21 := (t_20.alloc (.cells #[.int .i64 i, .int .i64 sl, .int .i64 sh, .int .i64 el, .int .i64 eh, .int .i64 bk] 118))
          have p_21 := (p_20.alloc (.cells #[.int .i64 i, .int .i64 sl, .int .i64 sh, .int .i64 el, .int .i64 eh, .int .i64 bk] 118))
          clear t_20 p_20
          have x_21 := (Blk.new wr 118 #[.int .i64 i, .int .i64 sl, .int .i64 sh, .int .i64 el, .int .i64 eh, .int .i64 bk])
          generalize hV21 : wr.alloc (.cells #[.int .i64 i, .int .i64 sl, .int .i64 sh, .int .i64 el, .int .i64 eh, .int .i64 bk] 118) = V21 at *
          generalize hg21 : wr.heap.size = g21 at *
          clear hV21 hg21
          have t_21c0 := t_21.cell 0
          have t_21c1 := t_21.cell 1
          simp only [List.getElem?_toArray, List.getElem?_cons_zero, List.getElem?_cons_succ] at t_21c0 t_21c1
          have t_21l := t_21.lt
          have p_21c0 := p_21.cell 0
          have p_21c1 := p_21.cell 1
          simp only [List.getElem?_toArray, List.getElem?_cons_zero, List.getElem?_cons_succ] at p_21c0 p_21c1
          have p_21l := p_21.lt
          have x_21c0 := x_21.cell 0
          have x_21c1 := x_21.cell 1
          have x_21c2 := x_21.cell 2
          have x_21c3 := x_21.cell 3
          have x_21c4 := x_21.cell 4
          have x_21c5 := x_21.cell 5
          simp only [List.getElem?_toArray, List.getElem?_cons_zero, List.getElem?_cons_succ] at x_21c0 x_21c1 x_21c2 x_21c3 x_21c4 x_21c5
          have x_21l := x_21.lt
          clear hlt y0 y1 y2 y3 y4 y5
          have HLT2 := Lib.hid (fun (r : Nat) hr => (⟨(HLT.out r hr).1, HXi.out r hr⟩ : (g1 + 1) ≤ r ∧ r < g21))
          refine wp_region_preC 19 [(15, 69), (16, 70)] (fun v' => Below w.heap.size w v' ∧ (g1 + 1) ≤ v'.heap.size ∧ Blk v' w.heap.size 25 #[.slice (some ⟨e0, off, none⟩) n c, .slice B m d] ∧ Blk v' g1 183 #[.int .i64 ((n : Int) + 1), .slice A1 q c1] ∧ Blk v' g21 118 #[.int .i64 i, .int .i64 sl, .int .i64 sh, .int .i64 el, .int .i64 eh, .int .i64 bk]) (OneRow 186 8 ((g1 + 1)) (q) 15 16 (.slice A1 q c1) ((eS2 hs k).flatMap encE) [.int .i64 0, .int .i64 0, .int .i64 0, .int .i64 el, .int .i64 eh, .int .i64 (k : Int), .int .i64 (n : Int), .int .i64 el]) (by kernel_rfl) (by kernel_rfl) ?hw ?hC ?h0 ?hP ?ex
          case hw => exact ⟨B21a, hbr1, t_21, p_21, x_21⟩
          case hC =>
            rintro v1 v2 ⟨h0, hb0, qt, qp, qx⟩ kk
            exact ⟨h0.trans (kk.mono h0.size), Nat.le_trans hb0 kk.size, qt.below kk, qp.below kk, qx.below kk⟩
          case h0 =>
            intro v' hv'
            refine OneRow.below (W := V21) ?_ hv'
            exact ⟨by simpa using OW1.out, fun h => (by cases h)⟩
          case hP => exact fun ls vs v v' _ h kk => h.below kk
          case ex =>
            apply Exists.intro
            refine ⟨?walk, ?loud⟩
            case walk =>
              rintro V ⟨h0, hb0, qt, qp, qx⟩
              have t_vc0 := qt.cell 0
              have t_vc1 := qt.cell 1
              simp only [List.getElem?_toArray, List.getElem?_cons_zero, List.getElem?_cons_succ] at t_vc0 t_vc1
              have t_vl := qt.lt
              have p_vc0 := qp.cell 0
              have p_vc1 := qp.cell 1
              simp only [List.getElem?_toArray, List.getElem?_cons_zero, List.getElem?_cons_succ] at p_vc0 p_vc1
              have p_vl := qp.lt
              have x_vc0 := qx.cell 0
              have x_vc1 := qx.cell 1
              have x_vc2 := qx.cell 2
              have x_vc3 := qx.cell 3
              have x_vc4 := qx.cell 4
              have x_vc5 := qx.cell 5
              simp only [List.getElem?_toArray, List.getElem?_cons_zero, List.getElem?_cons_succ] at x_vc0 x_vc1 x_vc2 x_vc3 x_vc4 x_vc5
              have x_vl := qx.lt
              have BV := h0
              obtain ⟨xc, xf⟩ := xcell (W := V)
              simp only [List.take_succ_cons, List.take_zero, qOf, isLoud, List.any_cons, List.any_nil, Nat.reduceBEq, Bool.or_false, Bool.or_true, Nat.reduceAdd, Bool.false_eq_true, if_true, if_false, beq_self_eq_true, Nat.zero_add]
              repeat (first | go_big_quiet_step (fail) | quiet_step (fail))
              exact wpQuiet_nil rfl
            case loud =>
              simp only [List.drop_succ_cons, List.drop_zero]
              refine ⟨?_, ?_⟩
              · rintro p hp vs V ⟨h0, hb0, qt, qp, qx⟩ ls hI hls hw o ho
                simp only [List.mem_cons, List.not_mem_nil, or_false] at hp
                rcases hp with rfl | rfl
                · simp only [List.getElem?_cons_succ, List.getElem?_cons_zero, Option.some.injEq] at ho
                  subst ho
                  simp [loudAt, loudUpon, go_sem, execOp, putsL, Act.put]
                  exact ⟨⟨h0.alloc h0.size _, by omega, qt.alloc _, qp.alloc _, qx.alloc _⟩, hI.lay (by decide)⟩
                · have h9 := hw (15, 69) (by simp) (by kernel_rfl)
                  obtain ⟨g, e, hbk⟩ := hI.new h9 hls
                  have hrow := hI.row
                  have h8 := hls
                  simp only [h8, cond_false, Nat.add_zero, List.append_nil] at hrow
                  simp only [List.getElem?_cons_succ, List.getElem?_cons_zero, Option.some.injEq] at ho
                  subst ho
                  refine loudAt_append (.tmp 58) (.tmp 69) 181 rfl ((g1 + 1)) 186 i0 (.agg #[.int .i64 0, .int .i64 0, .int .i64 0, .int .i64 0, .int .i64 0, .int .i64 0, .int .i64 0, .int .i64 0]) 8 64 Tryz.underlying181 HI.out.1 HI.out.2.1 HI.out.2.2.1 HI.out.2.2.2 rfl (by decide) (.slice A1 q c1) (q) ((eS2 hs k).flatMap encE) rfl hrow ⟨g, 0, none⟩ 1 1 [.int .i64 0, .int .i64 0, .int .i64 0, .int .i64 el, .int .i64 eh, .int .i64 (k : Int), .int .i64 (n : Int), .int .i64 el] e rfl ?c1 ?c2 ?c3 ?c4 hb0 ?_
                  case c1 =>
                    have g0 := hbk.cell 0
                    have g1 := hbk.cell 1
                    have g2 := hbk.cell 2
                    have g3 := hbk.cell 3
                    have g4 := hbk.cell 4
                    have g5 := hbk.cell 5
                    have g6 := hbk.cell 6
                    have g7 := hbk.cell 7
                    simp only [List.getElem?_toArray, List.getElem?_cons_zero, List.getElem?_cons_succ] at g0 g1 g2 g3 g4 g5 g6 g7
                    intro j' u hj'
                    match j', hj' with
                    | 0, hj' => simp at hj'; subst hj'; simpa [Addr.add] using g0
                    | 1, hj' => simp at hj'; subst hj'; simpa [Addr.add] using g1
                    | 2, hj' => simp at hj'; subst hj'; simpa [Addr.add] using g2
                    | 3, hj' => simp at hj'; subst hj'; simpa [Addr.add] using g3
                    | 4, hj' => simp at hj'; subst hj'; simpa [Addr.add] using g4
                    | 5, hj' => simp at hj'; subst hj'; simpa [Addr.add] using g5
                    | 6, hj' => simp at hj'; subst hj'; simpa [Addr.add] using g6
                    | 7, hj' => simp at hj'; subst hj'; simpa [Addr.add] using g7
                  case c2 => intro u hu; simp at hu; rcases hu with rfl | rfl | rfl | rfl | rfl | rfl | rfl | rfl <;> rfl
                  case c3 => unfold maxLen; omega
                  case c4 => omega
                  intro v' w2 hown' hgrow hat
                  refine ⟨⟨h0.grown hgrow h0.size (fun kk hk => by have := HLT2.out _ hk; omega), Nat.le_trans hb0 hgrow.size, qt.grown hgrow (fun h => by have := HLT2.out _ h; omega), qp.grown hgrow (fun h => by have := HLT2.out _ h; omega), qx.grown hgrow (fun h => by have := HLT2.out _ h; omega)⟩, hI.app v' hown'⟩
              · rintro ls vs V22 ⟨B22, hbase22, t_22, p_22, x_22⟩ hI hls
                have h8 := hls (16, 70) (by simp)
                have hrow := hI.row
                simp only [h8, cond_true] at hrow
                have HN := Lib.hid hrow
                clear hrow hI hls h8
                simp only [putsL, List.foldl_cons, List.foldl_nil, Act.put, List.setIfInBounds_toArray, List.set_cons_succ, List.set_cons_zero]
                generalize vs 16 = v7 at *
                generalize vs 15 = v6 at *
                obtain ⟨g', cap', rfl⟩ := ownsRow_succ HN.out
                have t_22c0 := t_22.cell 0
                have t_22c1 := t_22.cell 1
                simp only [List.getElem?_toArray, List.getElem?_cons_zero, List.getElem?_cons_succ] at t_22c0 t_22c1
                have t_22l := t_22.lt
                have p_22c0 := p_22.cell 0
                have p_22c1 := p_22.cell 1
                simp only [List.getElem?_toArray, List.getElem?_cons_zero, List.getElem?_cons_succ] at p_22c0 p_22c1
                have p_22l := p_22.lt
                have x_22c0 := x_22.cell 0
                have x_22c1 := x_22.cell 1
                have x_22c2 := x_22.cell 2
                have x_22c3 := x_22.cell 3
                have x_22c4 := x_22.cell 4
                have x_22c5 := x_22.cell 5
                simp only [List.getElem?_toArray, List.getElem?_cons_zero, List.getElem?_cons_succ] at x_22c0 x_22c1 x_22c2 x_22c3 x_22c4 x_22c5
                have x_22l := x_22.lt
                have hrow := HN.out
                have pf1 := p_22.frozen 1
                have HSt2 := Lib.hid (show (eS2 hs (k + 1)).flatMap encE = (eS2 hs k).flatMap encE ++ [.int .i64 0, .int .i64 0, .int .i64 0, .int .i64 el, .int .i64 eh, .int .i64 (k : Int), .int .i64 (n : Int), .int .i64 el] by rw [HSt.out, List.flatMap_append, HLh.out]; rfl)
                clear hrow
                go_wp2
                go_roundw
                case rel =>
                  refine ⟨k + 1, q + 1, some ⟨g', 0, none⟩, cap', by omega, by go_num, by rw [HSt.out, List.length_append, HTl.out]; rfl, ?_, ?_, by simpa [World.setCell] using hbase22, ?_⟩
                  · have := HTl.out; have hh := HLh.out; have hm := HLm.out; rw [eS2_len (by omega)] at this; omega
                  · rw [HSt2.out]
                    exact owns_grown HN.out (grownBy_set V22 g1 1 _) (fun r hr e => by have := (own_lt HN.out hr).1; have e2 := Option.some.inj e; omega)
                  · exact ⟨(B22).setCell (p := ⟨g1, 1, none⟩) (Nat.le_of_lt HG.out) _, t_22.far (p := ⟨g1, 1, none⟩) (by simp; have := HG.out; omega) _, by simpa using p_22.set_ 1 (.slice (some ⟨g', 0, none⟩) (q + 1) cap')⟩
                case measure => simp [intOf]; omega
        case neg =>
          have hkk : n = k := by omega
          subst hkk
          have t_20c0 := t_20.cell 0
          have t_20c1 := t_20.cell 1
          simp only [List.getElem?_toArray, List.getElem?_cons_zero, List.getElem?_cons_succ] at t_20c0 t_20c1
          have t_20l := t_20.lt
          have p_20c0 := p_20.cell 0
          have p_20c1 := p_20.cell 1
          simp only [List.getElem?_toArray, List.getElem?_cons_zero, List.getElem?_cons_succ] at p_20c0 p_20c1
          have p_20l := p_20.lt
          go_wp2_with fail
          clear t_20c0 t_20c1 t_20l p_20c0 p_20c1 p_20l
          go_loopw [77] (fun i wx => ∃ (k q : Nat) (A1 : Option Addr) (c1 : Nat), k ≤ m ∧ i = .int .i64 k ∧ (eS3 hs ms k).length = q ∧ q ≤ 100 ∧ wx.ownsRow (g1 + 1) 186 8 (.slice A1 q c1) q ((eS3 hs ms k).flatMap encE) ∧ (g1 + 1) ≤ wx.heap.size ∧ Below w.heap.size w wx ∧ Blk wx w.heap.size 25 #[.slice A n c, .slice B m d] ∧ Blk wx g1 183 #[.int .i64 ((n : Int) + 1), .slice A1 q c1]) (fun i _ => m - (intOf i).toNat)
          case atStart => exact ⟨0, q, A1, c1, Nat.zero_le _, rfl, by rw [eS3_zero hs ms, HLh.out]; exact HTl.out, by omega, by rw [eS3_zero hs ms, HLh.out]; exact OW.out, hbr, (Br), t_20, p_20⟩
          case round =>
            clear HTl OW HLT
            obtain ⟨k, q, A1, c1, hk, rfl, htl, hq, ow, hbr, Br, t_20, p_20⟩ := hrel
            have HTl := Lib.hid htl
            have OW := Lib.hid ow
            have HLT := Lib.hid (fun (r : Nat) hr => own_lt (g := r) ow hr)
            clear htl ow
            by_cases hkn : k < m
            case pos =>
              obtain ⟨e0, off, hA, hl⟩ := HM.out.at_ (by omega)
              subst hA
              have hkl : k < ms.length := by rw [HLm.out]; exact hkn
              have hl2 := hl.below Br
              obtain ⟨y0, y1, y2, y3, y4⟩ := Mvs.at_ hl2 (List.getElem?_eq_getElem hkl)
              have hlt := hl2.lt
              have HSt := Lib.hid (eS3_step (hs := hs) hkl)
              have HVk := Lib.hid (HV.out k hkl)
              clear hl hl2
              generalize ms[k] = x at *
              obtain ⟨i, a, b, lo, hi⟩ := x
              dsimp only at *
              have HPa := Lib.hid (fun W hW => HP.out W hW a)
              have HPb := Lib.hid (fun W hW => HP.out W hW b)
              have HQa := Lib.hid (pos_in HVk.out.1)
              have HQb := Lib.hid (pos_in HVk.out.2)
              generalize pos hs a = pa at *
              generalize pos hs b = pb at *
              have t_20c0 := t_20.cell 0
              have t_20c1 := t_20.cell 1
              simp only [List.getElem?_toArray, List.getElem?_cons_zero, List.getElem?_cons_succ] at t_20c0 t_20c1
              have t_20l := t_20.lt
              have p_20c0 := p_20.cell 0
              have p_20c1 := p_20.cell 1
              simp only [List.getElem?_toArray, List.getElem?_cons_zero, List.getElem?_cons_succ] at p_20c0 p_20c1
              have p_20l := p_20.lt
              have hqs := Br.size
              have OW1 := Lib.hid (OW.out.alloc (.cells #[.int .i64 i, .int .i64 a, .int .i64 b, .int .i64 lo, .int .i64 hi] 59))
              have hbr1 : (g1 + 1) ≤ (wr.alloc (.cells #[.int .i64 i, .int .i64 a, .int .i64 b, .int .i64 lo, .int .i64 hi] 59)).heap.size := by simp; omega
              have HXi := Lib.hid (show ∀ r, (Value.slice A1 q c1).ownBlock = some r → r < wr.heap.size from fun r hr => (HLT.out r hr).2)
              have B21 := Br
              have B21a := B21.alloc B21.size (.cells #[.int .i64 i, .int .i64 a, .int .i64 b, .int .i64 lo, .int .i64 hi] 59)
              go_upto_region 16 with fail
              clear t_20c0 t_20c1 t_20l p_20c0 p_20c1 p_20l
              have t_21 := (t_20.alloc (.cells #[.int .i64 i, .int .i64 a, .int .i64 b, .int .i64 lo, .int .i64 hi] 59))
              have p_21 := (p_20.alloc (.cells #[.int .i64 i, .int .i64 a, .int .i64 b, .int .i64 lo, .int .i64 hi] 59))
              clear t_20 p_20
              have x_21 := (Blk.new wr 59 #[.int .i64 i, .int .i64 a, .int .i64 b, .int .i64 lo, .int .i64 hi])
              generalize hV21 : wr.alloc (.cells #[.int .i64 i, .int .i64 a, .int .i64 b, .int .i64 lo, .int .i64 hi] 59) = V21 at *
              generalize hg21 : wr.heap.size = g21 at *
              clear hV21 hg21
              have t_21c0 := t_21.cell 0
              have t_21c1 := t_21.cell 1
              simp only [List.getElem?_toArray, List.getElem?_cons_zero, List.getElem?_cons_succ] at t_21c0 t_21c1
              have t_21l := t_21.lt
              have p_21c0 := p_21.cell 0
              have p_21c1 := p_21.cell 1
              simp only [List.getElem?_toArray, List.getElem?_cons_zero, List.getElem?_cons_succ] at p_21c0 p_21c1
              have p_21l := p_21.lt
              have x_21c0 := x_21.cell 0
              have x_21c1 := x_21.cell 1
              have x_21c2 := x_21.cell 2
              have x_21c3 := x_21.cell 3
              have x_21c4 := x_21.cell 4
              simp only [List.getElem?_toArray, List.getElem?_cons_zero, List.getElem?_cons_succ] at x_21c0 x_21c1 x_21c2 x_21c3 x_21c4
              have x_21l := x_21.lt
              clear hlt y0 y1 y2 y3 y4
              have HLT2 := Lib.hid (fun (r : Nat) hr => (⟨(HLT.out r hr).1, HXi.out r hr⟩ : (g1 + 1) ≤ r ∧ r < g21))
              refine wp_region_preC 23 [(19, 100), (20, 101)] (fun v' => Below w.heap.size w v' ∧ (g1 + 1) ≤ v'.heap.size ∧ Blk v' w.heap.size 25 #[.slice A n c, .slice (some ⟨e0, off, none⟩) m d] ∧ Blk v' g1 183 #[.int .i64 ((n : Int) + 1), .slice A1 q c1] ∧ Blk v' g21 59 #[.int .i64 i, .int .i64 a, .int .i64 b, .int .i64 lo, .int .i64 hi]) (OneRow 186 8 ((g1 + 1)) (q) 19 20 (.slice A1 q c1) ((eS3 hs ms k).flatMap encE) [.int .i64 i, .int .i64 a, .int .i64 b, .int .i64 lo, .int .i64 hi, .int .i64 pa, .int .i64 pb, .int .i64 lo]) (by kernel_rfl) (by kernel_rfl) ?hw ?hC ?h0 ?hP ?ex
              case hw => exact ⟨B21a, hbr1, t_21, p_21, x_21⟩
              case hC =>
                rintro v1 v2 ⟨h0, hb0, qt, qp, qx⟩ kk
                exact ⟨h0.trans (kk.mono h0.size), Nat.le_trans hb0 kk.size, qt.below kk, qp.below kk, qx.below kk⟩
              case h0 =>
                intro v' hv'
                refine OneRow.below (W := V21) ?_ hv'
                exact ⟨by simpa using OW1.out, fun h => (by cases h)⟩
              case hP => exact fun ls vs v v' _ h kk => h.below kk
              case ex =>
                apply Exists.intro
                refine ⟨?walk, ?loud⟩
                case walk =>
                  rintro V ⟨h0, hb0, qt, qp, qx⟩
                  have t_vc0 := qt.cell 0
                  have t_vc1 := qt.cell 1
                  simp only [List.getElem?_toArray, List.getElem?_cons_zero, List.getElem?_cons_succ] at t_vc0 t_vc1
                  have t_vl := qt.lt
                  have p_vc0 := qp.cell 0
                  have p_vc1 := qp.cell 1
                  simp only [List.getElem?_toArray, List.getElem?_cons_zero, List.getElem?_cons_succ] at p_vc0 p_vc1
                  have p_vl := qp.lt
                  have x_vc0 := qx.cell 0
                  have x_vc1 := qx.cell 1
                  have x_vc2 := qx.cell 2
                  have x_vc3 := qx.cell 3
                  have x_vc4 := qx.cell 4
                  simp only [List.getElem?_toArray, List.getElem?_cons_zero, List.getElem?_cons_succ] at x_vc0 x_vc1 x_vc2 x_vc3 x_vc4
                  have x_vl := qx.lt
                  have BV := h0
                  obtain ⟨xc, xf⟩ := xcell (W := V)
                  simp only [List.take_succ_cons, List.take_zero, qOf, isLoud, List.any_cons, List.any_nil, Nat.reduceBEq, Bool.or_false, Bool.or_true, Nat.reduceAdd, Bool.false_eq_true, if_true, if_false, beq_self_eq_true, Nat.zero_add]
                  repeat (first | go_big_quiet_step (first | (go_at_call 77; with_reducible refine calls_ext (HPa.out _ (BV.trans ((Ext.below _).mono BV.size)))) | (go_at_call 77; with_reducible refine calls_ext (HPb.out _ (BV.trans ((Ext.below _).mono BV.size))))) | quiet_step (first | (go_at_call 77; with_reducible refine calls_ext (HPa.out _ (BV.trans ((Ext.below _).mono BV.size)))) | (go_at_call 77; with_reducible refine calls_ext (HPb.out _ (BV.trans ((Ext.below _).mono BV.size))))))
                  exact wpQuiet_nil rfl
                case loud =>
                  simp only [List.drop_succ_cons, List.drop_zero]
                  refine ⟨?_, ?_⟩
                  · rintro p hp vs V ⟨h0, hb0, qt, qp, qx⟩ ls hI hls hw o ho
                    simp only [List.mem_cons, List.not_mem_nil, or_false] at hp
                    rcases hp with rfl | rfl
                    · simp only [List.getElem?_cons_succ, List.getElem?_cons_zero, Option.some.injEq] at ho
                      subst ho
                      simp [loudAt, loudUpon, go_sem, execOp, putsL, Act.put]
                      exact ⟨⟨h0.alloc h0.size _, by omega, qt.alloc _, qp.alloc _, qx.alloc _⟩, hI.lay (by decide)⟩
                    · have h9 := hw (19, 100) (by simp) (by kernel_rfl)
                      obtain ⟨g, e, hbk⟩ := hI.new h9 hls
                      have hrow := hI.row
                      have h8 := hls
                      simp only [h8, cond_false, Nat.add_zero, List.append_nil] at hrow
                      simp only [List.getElem?_cons_succ, List.getElem?_cons_zero, Option.some.injEq] at ho
                      subst ho
                      refine loudAt_append (.tmp 85) (.tmp 100) 181 rfl ((g1 + 1)) 186 i0 (.agg #[.int .i64 0, .int .i64 0, .int .i64 0, .int .i64 0, .int .i64 0, .int .i64 0, .int .i64 0, .int .i64 0]) 8 64 Tryz.underlying181 HI.out.1 HI.out.2.1 HI.out.2.2.1 HI.out.2.2.2 rfl (by decide) (.slice A1 q c1) (q) ((eS3 hs ms k).flatMap encE) rfl hrow ⟨g, 0, none⟩ 1 1 [.int .i64 i, .int .i64 a, .int .i64 b, .int .i64 lo, .int .i64 hi, .int .i64 pa, .int .i64 pb, .int .i64 lo] e rfl ?c1 ?c2 ?c3 ?c4 hb0 ?_
                      case c1 =>
                        have g0 := hbk.cell 0
                        have g1 := hbk.cell 1
                        have g2 := hbk.cell 2
                        have g3 := hbk.cell 3
                        have g4 := hbk.cell 4
                        have g5 := hbk.cell 5
                        have g6 := hbk.cell 6
                        have g7 := hbk.cell 7
                        simp only [List.getElem?_toArray, List.getElem?_cons_zero, List.getElem?_cons_succ] at g0 g1 g2 g3 g4 g5 g6 g7
                        intro j' u hj'
                        match j', hj' with
                        | 0, hj' => simp at hj'; subst hj'; simpa [Addr.add] using g0
                        | 1, hj' => simp at hj'; subst hj'; simpa [Addr.add] using g1
                        | 2, hj' => simp at hj'; subst hj'; simpa [Addr.add] using g2
                        | 3, hj' => simp at hj'; subst hj'; simpa [Addr.add] using g3
                        | 4, hj' => simp at hj'; subst hj'; simpa [Addr.add] using g4
                        | 5, hj' => simp at hj'; subst hj'; simpa [Addr.add] using g5
                        | 6, hj' => simp at hj'; subst hj'; simpa [Addr.add] using g6
                        | 7, hj' => simp at hj'; subst hj'; simpa [Addr.add] using g7
                      case c2 => intro u hu; simp at hu; rcases hu with rfl | rfl | rfl | rfl | rfl | rfl | rfl | rfl <;> rfl
                      case c3 => unfold maxLen; omega
                      case c4 => omega
                      intro v' w2 hown' hgrow hat
                      refine ⟨⟨h0.grown hgrow h0.size (fun kk hk => by have := HLT2.out _ hk; omega), Nat.le_trans hb0 hgrow.size, qt.grown hgrow (fun h => by have := HLT2.out _ h; omega), qp.grown hgrow (fun h => by have := HLT2.out _ h; omega), qx.grown hgrow (fun h => by have := HLT2.out _ h; omega)⟩, hI.app v' hown'⟩
                  · rintro ls vs V22 ⟨B22, hbase22, t_22, p_22, x_22⟩ hI hls
                    have h8 := hls (20, 101) (by simp)
                    have hrow := hI.row
                    simp only [h8, cond_true] at hrow
                    have HN := Lib.hid hrow
                    clear hrow hI hls h8
                    simp only [putsL, List.foldl_cons, List.foldl_nil, Act.put, List.setIfInBounds_toArray, List.set_cons_succ, List.set_cons_zero]
                    generalize vs 20 = v7 at *
                    generalize vs 19 = v6 at *
                    obtain ⟨g', cap', rfl⟩ := ownsRow_succ HN.out
                    have t_22c0 := t_22.cell 0
                    have t_22c1 := t_22.cell 1
                    simp only [List.getElem?_toArray, List.getElem?_cons_zero, List.getElem?_cons_succ] at t_22c0 t_22c1
                    have t_22l := t_22.lt
                    have p_22c0 := p_22.cell 0
                    have p_22c1 := p_22.cell 1
                    simp only [List.getElem?_toArray, List.getElem?_cons_zero, List.getElem?_cons_succ] at p_22c0 p_22c1
                    have p_22l := p_22.lt
                    have x_22c0 := x_22.cell 0
                    have x_22c1 := x_22.cell 1
                    have x_22c2 := x_22.cell 2
                    have x_22c3 := x_22.cell 3
                    have x_22c4 := x_22.cell 4
                    simp only [List.getElem?_toArray, List.getElem?_cons_zero, List.getElem?_cons_succ] at x_22c0 x_22c1 x_22c2 x_22c3 x_22c4
                    have x_22l := x_22.lt
                    have hrow := HN.out
                    have pf1 := p_22.frozen 1
                    have HSt2 := Lib.hid (show (eS3 hs ms (k + 1)).flatMap encE = (eS3 hs ms k).flatMap encE ++ [.int .i64 i, .int .i64 a, .int .i64 b, .int .i64 lo, .int .i64 hi, .int .i64 pa, .int .i64 pb, .int .i64 lo] by rw [HSt.out, List.flatMap_append, HQa.out, HQb.out]; rfl)
                    clear hrow
                    go_wp2
                    go_roundw
                    case rel =>
                      refine ⟨k + 1, q + 1, some ⟨g', 0, none⟩, cap', by omega, by go_num, by rw [HSt.out, List.length_append, HTl.out]; rfl, ?_, ?_, by simpa [World.setCell] using hbase22, ?_⟩
                      · have := HTl.out; have hh := HLh.out; have hm := HLm.out; rw [eS3_len (by omega)] at this; omega
                      · rw [HSt2.out]
                        exact owns_grown HN.out (grownBy_set V22 g1 1 _) (fun r hr e => by have := (own_lt HN.out hr).1; have e2 := Option.some.inj e; omega)
                      · exact ⟨(B22).setCell (p := ⟨g1, 1, none⟩) (Nat.le_of_lt HG.out) _, t_22.far (p := ⟨g1, 1, none⟩) (by simp; have := HG.out; omega) _, by simpa using p_22.set_ 1 (.slice (some ⟨g', 0, none⟩) (q + 1) cap')⟩
                    case measure => simp [intOf]; omega
            case neg =>
              have hkk : m = k := by omega
              subst hkk
              have t_20c0 := t_20.cell 0
              have t_20c1 := t_20.cell 1
              simp only [List.getElem?_toArray, List.getElem?_cons_zero, List.getElem?_cons_succ] at t_20c0 t_20c1
              have t_20l := t_20.lt
              have p_20c0 := p_20.cell 0
              have p_20c1 := p_20.cell 1
              simp only [List.getElem?_toArray, List.getElem?_cons_zero, List.getElem?_cons_succ] at p_20c0 p_20c1
              have p_20l := p_20.lt
              have HR := Lib.hid (show eS3 hs ms m = edges hs ms by rw [← HLm.out]; exact eS3_end hs ms)
              go_wp2
              go_ret
              refine ⟨g1, A1, c1, rfl, Nat.le_of_lt HG.out, ⟨?_, Nat.lt_succ_self _, ?_⟩, Br⟩
              · have e : (edges hs ms).length = q := by rw [← HR.out]; exact HTl.out
                rw [e]; exact p_20
              · have e : (edges hs ms).length = q := by rw [← HR.out]; exact HTl.out
                rw [e, ← HR.out]; exact OW.out
end Go.Proofs.YtighfmgkoepfkaaGreat

namespace Go.Proofs.YtighfmgkoepfkaaGreat
open Go.RowKit

/-- A net whose numbers are masses, and whose flows lie in their spans. -/
structure Small (es : List Eg) : Prop where
  len : es.length ≤ 100
  bd : ∀ e ∈ es, 0 ≤ e.lo ∧ e.lo ≤ e.fl ∧ e.fl ≤ e.hi ∧ e.hi ≤ 65536
theorem Small.inb {es : List Eg} (h : Small es) : InB es := fun e he => ⟨(h.bd e he).2.1, (h.bd e he).2.2.1⟩
theorem sur_bd {es : List Eg} (v : Nat) (h : ∀ e ∈ es, 0 ≤ e.fl ∧ e.fl ≤ 65536) : -(es.length * 65536 : Int) ≤ sur es v ∧ sur es v ≤ es.length * 65536 := by
  induction es with
  | nil => exact ⟨by simp [sur], by simp [sur]⟩
  | cons e es ih =>
    obtain ⟨h1, h2⟩ := ih fun x hx => h x (by simp [hx])
    obtain ⟨h3, h4⟩ := h e (by simp)
    have e1 : sur (e :: es) v = e.at v + sur es v := rfl
    have e2 : -65536 ≤ e.at v ∧ e.at v ≤ 65536 := by
      unfold Eg.at ind
      split <;> split <;> omega
    rw [e1, List.length_cons]
    omega
theorem Small.take_bd {es : List Eg} (h : Small es) (v k : Nat) : -6553600 ≤ sur (es.take k) v ∧ sur (es.take k) v ≤ 6553600 := by
  have := sur_bd (es := es.take k) v fun e he => by
    have := h.bd e (List.mem_of_mem_take he); omega
  have hl : (es.take k).length ≤ 100 := by have := h.len; simp; omega
  generalize sur (es.take k) v = s at *
  generalize (es.take k).length = l at *
  omega
theorem Small.sur_bd {es : List Eg} (h : Small es) (v : Nat) : -6553600 ≤ sur es v ∧ sur es v ≤ 6553600 := by
  have := h.take_bd v es.length
  rwa [List.take_length] at this
theorem sur_step {es : List Eg} {k : Nat} (v : Nat) (h : k < es.length) : sur (es.take (k + 1)) v = sur (es.take k) v + (ind ((es[k]).b = v) (es[k]).fl - ind ((es[k]).a = v) (es[k]).fl) := by
  rw [List.take_succ_eq_append_getElem h, sur_append]
  show _ + ((es[k]).at v + 0) = _
  unfold Eg.at
  omega

set_option maxHeartbeats 3200000 in
theorem surplus_any (p base : Nat) (A : Option Addr) (c : Nat) (es : List Eg) (N v : Nat) (w : World) (h : Net w p base A c es N) (hs : Small es) :
    Calls Tryz.prog 119 #[.pointer (some ⟨p, 0, none⟩), .int .i64 (v : Int)] w fun e w' => e = .returned (.int .i64 (sur es v)) ∧ Below w.heap.size w w' := by
  have HN := Lib.hid h
  have HS := Lib.hid hs
  have hl := hs.len
  have p0 := h.blk.cell 1
  simp only [List.getElem?_toArray, List.getElem?_cons_zero, List.getElem?_cons_succ] at p0
  have hp := h.plt
  have HB := Lib.hid (fun k => hs.take_bd v k)
  clear h hs
  generalize hn : es.length = n at *
  have HL := Lib.hid hn
  clear hn
  go_enter Tryz.func119, Tryz.ntmps119
  go_wp2
  go_loopw [5, 13] (fun s i wr => ∃ k : Nat, k ≤ n ∧ i = .int .i64 k ∧ s = .int .i64 (sur (es.take k) v) ∧ Below w.heap.size w wr) (fun _ i _ => n - (intOf i).toNat)
  case atStart => exact ⟨0, Nat.zero_le _, rfl, rfl, Below.refl _ _⟩
  case round =>
    obtain ⟨k, hk, rfl, rfl, hb⟩ := hrel
    by_cases hkn : k < n
    · have hkl : k < es.length := by rw [HL.out]; exact hkn
      have hat := (HN.out.below hb).sat.at_ (by omega)
      obtain ⟨g, off, rfl, hl2⟩ := hat
      obtain ⟨c0, c1, c2, c3, c4, c5, c6, c7⟩ := Egs.at_ hl2 (List.getElem?_eq_getElem hkl)
      have hlt := hl2.lt
      have HSt := Lib.hid (sur_step v hkl)
      obtain ⟨b1, b2⟩ := HB.out k
      have hbd := HS.out.bd _ (List.getElem_mem hkl)
      clear hl2
      generalize es[k] = x at *
      generalize sur (es.take k) v = s at *
      obtain ⟨xi, xf, xt, xl, xh, xa, xb, fl⟩ := x
      dsimp only at *
      obtain ⟨d1, d2, d3, d4⟩ := hbd
      have hsz := hb.size
      by_cases hB : xb = v
      · have qb : ((xb : Int) == (v : Int)) = true := by simp [hB]
        by_cases hA : xa = v
        · have qa : ((xa : Int) == (v : Int)) = true := by simp [hA]
          have HE := Lib.hid (show sur (es.take (k + 1)) v = s + fl - fl by rw [HSt.out, hB, hA]; unfold ind; rw [if_pos rfl]; omega)
          clear hA hB
          go_wp2
          go_roundw
          case rel => exact ⟨k + 1, by omega, by go_num, (by rw [HE.out]; try (congr 1; omega)), hb.alloc hsz _⟩
          case measure => simp [intOf]; omega
        · have qa : ((xa : Int) == (v : Int)) = false := by simp; omega
          have HE := Lib.hid (show sur (es.take (k + 1)) v = s + fl by rw [HSt.out, hB]; unfold ind; rw [if_pos rfl, if_neg hA]; omega)
          clear hA hB
          go_wp2
          go_roundw
          case rel => exact ⟨k + 1, by omega, by go_num, (by rw [HE.out]; try (congr 1; omega)), hb.alloc hsz _⟩
          case measure => simp [intOf]; omega
      · have qb : ((xb : Int) == (v : Int)) = false := by simp; omega
        by_cases hA : xa = v
        · have qa : ((xa : Int) == (v : Int)) = true := by simp [hA]
          have HE := Lib.hid (show sur (es.take (k + 1)) v = s - fl by rw [HSt.out, hA]; unfold ind; rw [if_pos rfl, if_neg hB]; omega)
          clear hA hB
          go_wp2
          go_roundw
          case rel => exact ⟨k + 1, by omega, by go_num, (by rw [HE.out]; try (congr 1; omega)), hb.alloc hsz _⟩
          case measure => simp [intOf]; omega
        · have qa : ((xa : Int) == (v : Int)) = false := by simp; omega
          have HE := Lib.hid (show sur (es.take (k + 1)) v = s by rw [HSt.out]; unfold ind; rw [if_neg hA, if_neg hB]; omega)
          clear hA hB
          go_wp2
          go_roundw
          case rel => exact ⟨k + 1, by omega, by go_num, (by rw [HE.out]; try (congr 1; omega)), hb.alloc hsz _⟩
          case measure => simp [intOf]; omega
    · have HE := Lib.hid (show sur (es.take k) v = sur es v by rw [List.take_of_length_le (by have := HL.out; omega)])
      go_wp2
      go_ret
      exact ⟨ret_int HE.out, hb⟩
end Go.Proofs.YtighfmgkoepfkaaGreat

namespace Go.Proofs.YtighfmgkoepfkaaGreat
open Go.RowKit

theorem grown_trans {a b c : World} {r : Option Nat} (h : a.grownBy b r) (k : b.grownBy c r) : a.grownBy c r :=
  ⟨k.os.trans h.os, k.tape.trans h.tape, k.output.trans h.output, Nat.le_trans h.size k.size, fun i hi hr => (k.block i (Nat.lt_of_lt_of_le hi h.size) hr).trans (h.block i hi hr)⟩
theorem grown_below {a b c : World} {r : Option Nat} (h : a.grownBy b r) (k : Below b.heap.size b c) : a.grownBy c r :=
  grown_trans h ⟨k.os, k.tape, k.output, k.size, fun i hi _ => k.block i hi⟩
theorem below_grown {b c : World} {r : Option Nat} (k : Below b.heap.size b c) : b.grownBy c r := ⟨k.os, k.tape, k.output, k.size, fun i hi _ => k.block i hi⟩
theorem grown_refl (a : World) (r : Option Nat) : a.grownBy a r := ⟨rfl, rfl, rfl, Nat.le_refl _, fun _ _ _ => rfl⟩
theorem below_of_grown {a b : World} {r : Option Nat} {B : Nat} (h : a.grownBy b r) (hB : B ≤ a.heap.size) (hr : ∀ g, r = some g → B ≤ g) : Below B a b :=
  ⟨h.os, h.tape, h.output, h.size, fun i hi => h.block i (Nat.lt_of_lt_of_le hi hB) (fun e => by have := hr i e.symm; omega)⟩
theorem Ls.grown {α : Type} {enc : α → List Value} {k : Nat} {w w' : World} {b off : Nat} {l : List α} {r : Option Nat} (h : Ls enc k w b off l) (hg : w.grownBy w' r) (hr : r ≠ some b) : Ls enc k w' b off l :=
  h.same (hg.block b h.lt (fun e => hr e.symm))
/-- The net of other flows, in a world in which its row is turned. -/
theorem Net.grown {w w' : World} {p base : Nat} {A : Option Addr} {c : Nat} {es : List Eg} {N : Nat} (h : Net w p base A c es N) {r : Option Nat} (hg : w.grownBy w' r) (hp : r ≠ some p) (hr : ∀ g, r = some g → g < base) : Net w' p base A c es N :=
  ⟨h.blk.grown hg hp, h.lt, owns_grown h.row hg fun g hq e => by have := (own_lt h.row hq).1; have := hr g e; omega⟩

theorem room_step (l : List Hp) (k : Nat) (m : Int) (h : k < l.length) : room (l.drop k) m = room (l.drop (k + 1)) (min m (l[k]).by_) := by
  rw [List.drop_eq_getElem_cons h]; rfl
theorem pushL_step {es : List Eg} {l : List Hp} {m : Int} {k : Nat} (h : k < l.length) : pushL es (l.take (k + 1)) m = bump (pushL es (l.take k) m) (l[k]).e ((l[k]).sg * m) := by
  unfold pushL
  rw [List.take_succ_eq_append_getElem h, List.foldl_append]
  rfl
theorem bump_fl {es : List Eg} {i : Nat} {d B D : Int} (h : ∀ e ∈ es, -B ≤ e.fl ∧ e.fl ≤ B) (h1 : -D ≤ d) (h2 : d ≤ D) : ∀ e ∈ bump es i d, -(B + D) ≤ e.fl ∧ e.fl ≤ B + D := by
  intro e he
  obtain ⟨j, hj⟩ := List.mem_iff_getElem?.1 he
  rw [bump_at] at hj
  split at hj
  · cases hx : es[j]? with
    | none => rw [hx] at hj; cases hj
    | some x =>
      rw [hx] at hj
      have e1 : x.more d = e := by simpa using hj
      subst e1
      have := h x (List.mem_of_getElem? hx)
      show -(B + D) ≤ x.fl + d ∧ x.fl + d ≤ B + D
      omega
  · have := h e (List.mem_of_getElem? hj); omega
theorem push_fl {es : List Eg} {m : Int} (hm : 0 ≤ m) (hm2 : m ≤ 10000000) (hs : Small es) (l : List Hp) (hl : ∀ h ∈ l, h.sg = 1 ∨ h.sg = -1) : ∀ k, k ≤ l.length → ∀ e ∈ pushL es (l.take k) m, -(65536 + (k : Int) * 10000000) ≤ e.fl ∧ e.fl ≤ 65536 + (k : Int) * 10000000
  | 0, _, e, he => by have := hs.bd e he; omega
  | k + 1, hk, e, he => by
    have hkl : k < l.length := by omega
    rw [pushL_step hkl] at he
    have ih := push_fl hm hm2 hs l hl k (by omega)
    have h1 := hl _ (List.getElem_mem hkl)
    have := bump_fl (D := 10000000) ih (d := (l[k]).sg * m) (by rcases h1 with h1 | h1 <;> rw [h1] <;> omega) (by rcases h1 with h1 | h1 <;> rw [h1] <;> omega) e he
    omega
theorem pushL_all (es : List Eg) (l : List Hp) (m : Int) : pushL es (l.take l.length) m = pushL es l m := by rw [List.take_length]

theorem Net.frozen {w : World} {p base : Nat} {c : Nat} {es : List Eg} {N g : Nat} (h : Net w p base (some ⟨g, 0, none⟩) c es N) (o : Nat) : w.frozen? ⟨g, o, none⟩ = false := by
  obtain ⟨cur, hc⟩ := own_blk h.row (g := g) rfl
  exact Blk.frozen (show Blk w g _ cur from hc) o
theorem Net.bump {w : World} {p base : Nat} {c : Nat} {es : List Eg} {N g : Nat} (h : Net w p base (some ⟨g, 0, none⟩) c es N) {i : Nat} {e : Eg} (he : es[i]? = some e) (d : Int) :
    Net (w.setCell ⟨g, i * 8 + 7, none⟩ (.int .i64 (e.fl + d))) p base (some ⟨g, 0, none⟩) c (bump es i d) N := by
  have hg := own_lt h.row (g := g) rfl
  have hlt := h.lt
  have hi : i < es.length := (List.getElem?_eq_some_iff.1 he).1
  refine ⟨?_, h.lt, ?_⟩
  · rw [bump_len]; exact h.blk.far (by show p ≠ g; omega) _
  · rw [bump_len, ← flat_set es i e d he]
    exact owns_set h.row _ (by rw [h.row.1]; omega) _
set_option maxHeartbeats 3200000 in
theorem push_any (p base : Nat) (A : Option Addr) (c : Nat) (es : List Eg) (N : Nat) (H : Option Addr) (n hc : Nat) (l : List Hp) (m0 : Int) (w : World) (h : Net w p base A c es N) (hs : Small es) (hH : SAt encHp 4 w H n l) (hne : ∀ a, H = some a → some a.block ≠ (Value.slice A es.length c).ownBlock)
    (hn : n ≤ 100) (hm0 : 0 ≤ m0) (hm1 : m0 ≤ 10000000) (hl : ∀ x ∈ l, x.e < es.length ∧ (x.sg = 1 ∨ x.sg = -1) ∧ 0 ≤ x.by_ ∧ x.by_ ≤ 10000000) :
    Calls Tryz.prog 122 #[.pointer (some ⟨p, 0, none⟩), .slice H n hc, .int .i64 m0] w fun e w' => e = .returned (.int .i64 (room l m0)) ∧ Net w' p base A c (pushL es l (room l m0)) N ∧ w.grownBy w' (Value.slice A es.length c).ownBlock := by
  have HN := Lib.hid h
  have HHp := Lib.hid hH
  have HLn := Lib.hid hH.len
  have HNe := Lib.hid hne
  have HL := Lib.hid hl
  have p0 := h.blk.cell 1
  simp only [List.getElem?_toArray, List.getElem?_cons_zero, List.getElem?_cons_succ] at p0
  have hp := h.plt
  have HS := Lib.hid hs
  have hel := hs.len
  clear h hs hH hne hl
  go_enter Tryz.func122, Tryz.ntmps122
  go_wp2
  go_loopw [2, 13] (fun mv i wr => ∃ (k : Nat) (mc : Int), k ≤ n ∧ i = .int .i64 k ∧ mv = .int .i64 mc ∧ 0 ≤ mc ∧ mc ≤ 10000000 ∧ room l m0 = room (l.drop k) mc ∧ Below w.heap.size w wr) (fun _ i _ => n - (intOf i).toNat)
  case atStart => exact ⟨0, m0, Nat.zero_le _, rfl, rfl, hm0, hm1, rfl, Below.refl _ _⟩
  case round =>
    obtain ⟨k, m, hk, rfl, rfl, hmc0, hmc1, hrm, hb⟩ := hrel
    have HR := Lib.hid hrm
    clear hrm
    by_cases hkn : k < n
    · obtain ⟨g, off, rfl, hl2⟩ := (HHp.out.below hb).at_ (by omega)
      have hkl : k < l.length := by rw [HLn.out]; exact hkn
      obtain ⟨y0, y1, y2, y3⟩ := Hps.at_ hl2 (List.getElem?_eq_getElem hkl)
      have hlt := hl2.lt
      have hxb := (HL.out _ (List.getElem_mem hkl)).2.2
      have HSt := Lib.hid (room_step l k m hkl)
      clear hl2
      generalize l[k] = x at *
      obtain ⟨xe, xt, xb, xs⟩ := x
      dsimp only at *
      have hsz := hb.size
      go_wp2
      go_roundw
      case rel => exact ⟨k + 1, min m xb, by omega, by go_num, by first | rfl | (congr 1; omega), by omega, by omega, by rw [HR.out, HSt.out], hb.alloc hsz _⟩
      case measure => simp [intOf]; omega
    · have hkk : n = k := by omega
      have HR2 := Lib.hid (show room l m0 = m by rw [HR.out, List.drop_eq_nil_of_le (by rw [HLn.out]; omega)]; rfl)
      clear HR
      have HF := Lib.hid (push_fl hmc0 hmc1 HS.out l (fun x hx => (HL.out x hx).2.1))
      go_wp2
      go_loopw [24] (fun i wr => ∃ k : Nat, k ≤ n ∧ i = .int .i64 k ∧ Net wr p base A c (pushL es (l.take k) m) N ∧ w.grownBy wr (Value.slice A es.length c).ownBlock) (fun i _ => n - (intOf i).toNat)
      case atStart => exact ⟨0, Nat.zero_le _, rfl, HN.out.below hb, below_grown hb⟩
      case round =>
        obtain ⟨k', hk', rfl, hnet, hgr⟩ := hrel
        by_cases hkn' : k' < n
        · have hkl : k' < l.length := by rw [HLn.out]; exact hkn'
          obtain ⟨hx1, hx2, _, _⟩ := HL.out _ (List.getElem_mem hkl)
          obtain ⟨b, off, rfl, hl0⟩ := HHp.out.at_ (by omega)
          have hl2 := hl0.grown hgr (fun e => HNe.out _ rfl e.symm)
          obtain ⟨y0, y1, y2, y3⟩ := Hps.at_ hl2 (List.getElem?_eq_getElem hkl)
          have hlt := hl2.lt
          obtain ⟨g, rfl, hg1, hg2⟩ := hnet.form (by rw [pushL_len]; omega)
          have hei : (l[k']).e < (pushL es (l.take k') m).length := by rw [pushL_len]; exact hx1
          have hee := List.getElem?_eq_getElem hei
          have hfl := HF.out k' (by omega) _ (List.getElem_mem hei)
          have HSt := Lib.hid (pushL_step (es := es) (m := m) hkl)
          have hsat := hnet.sat.at_ (by omega)
          obtain ⟨g', off', e2, hrow⟩ := hsat
          have e3 : g = g' ∧ 0 = off' := by simpa using e2
          obtain ⟨rfl, rfl⟩ := e3
          obtain ⟨_, _, _, _, _, _, _, z7⟩ := Egs.at_ hrow hee
          rw [Nat.zero_add] at z7
          have hlen : (pushL es (l.take k') m).length = es.length := pushL_len _ _ _
          have hp1 := hnet.blk.cell 1
          simp only [List.getElem?_toArray, List.getElem?_cons_zero, List.getElem?_cons_succ] at hp1
          have hpl := hnet.plt
          rw [hlen] at hp1
          have HNet := Lib.hid hnet
          have HGr := Lib.hid hgr
          have HHl := Lib.hid hl2
          have hbump := fun (W : World) (hW : Below wr.heap.size wr W) => (hnet.below hW).bump hee ((l[k']).sg * m)
          have HBump := Lib.hid hbump
          have HFz := Lib.hid (fun (W : World) (hW : Below wr.heap.size wr W) o => (hnet.below hW).frozen o)
          clear hl0 hl2 hnet hgr e2 hrow hbump hlen hee
          generalize hfe : ((pushL es (l.take k') m)[(l[k']).e]).fl = fl at *
          clear hfe
          generalize hxx : l[k'] = x at *
          clear hxx
          obtain ⟨xe, xt, xb, xs⟩ := x
          dsimp only at *
          have hw1 : IntKind.i64.wrap (xs * m) = xs * m := IntWalk.i64_in _ (by rcases hx2 with h | h <;> rw [h] <;> omega)
          have hw2 : IntKind.i64.wrap (fl + xs * m) = fl + xs * m := IntWalk.i64_in _ (by rcases hx2 with h | h <;> rw [h] <;> omega)
          have HX2 := Lib.hid hx2
          clear hx2
          go_wp2_with fail
          have x_21 := Blk.new wr 191 #[.int .i64 (xe : Int), .int .i64 (xt : Int), .int .i64 xb, .int .i64 xs]
          have B21 := (Below.refl wr.heap.size wr).alloc (Nat.le_refl _) (.cells #[.int .i64 (xe : Int), .int .i64 (xt : Int), .int .i64 xb, .int .i64 xs] 191)
          have hp2 := (B21.cell (p := ⟨p, 1, none⟩) hpl).trans hp1
          have z72 := (B21.cell (p := ⟨g, _, none⟩) hg2).trans z7
          have hsz := B21.size
          generalize hV : wr.alloc (.cells #[.int .i64 (xe : Int), .int .i64 (xt : Int), .int .i64 xb, .int .i64 xs] 191) = V at *
          clear hV y0 y1 y2 y3 hlt z7 hp1
          have x_21c0 := x_21.cell 0
          have x_21c1 := x_21.cell 1
          have x_21c2 := x_21.cell 2
          have x_21c3 := x_21.cell 3
          simp only [List.getElem?_toArray, List.getElem?_cons_zero, List.getElem?_cons_succ] at x_21c0 x_21c1 x_21c2 x_21c3
          have x_21l := x_21.lt
          have hpl2 : p < V.heap.size := by omega
          have hgl2 : g < V.heap.size := by omega
          obtain ⟨xc, xf⟩ := xcell (W := V)
          refine wp_region_quiet_tail 16 (by kernel_rfl) (by kernel_rfl) ?_
          simp only [List.take_succ_cons, List.take_zero, List.drop_succ_cons, List.drop_zero]
          repeat (first | go_big_quiet_step (fail) | quiet_step (fail))
          refine wpQuiet_nil ?_
          intro w22 hb22
          have B22 := B21.trans (hb22.mono B21.size)
          have hz := HFz.out w22 B22 (xe * 8 + 7)
          have z73 := (hb22.cell (p := ⟨g, _, none⟩) hgl2).trans z72
          have hgl3 := Nat.lt_of_lt_of_le hgl2 hb22.size
          clear xc xf x_21 x_21c0 x_21c1 x_21c2 x_21c3 z72 hp2
          go_wp2
          go_roundw
          case rel =>
            refine ⟨k' + 1, by omega, by go_num, ?_, ?_⟩
            · rw [HSt.out]; exact HBump.out w22 B22
            · exact grown_trans (grown_below HGr.out B22) (grownBy_set w22 g _ _)
          case measure => simp [intOf]; omega
        · have hkk' : k' = n := by omega
          have HFin := Lib.hid (show pushL es (l.take k') m = pushL es l m by rw [hkk', ← HLn.out, pushL_all])
          have HNet := Lib.hid hnet
          have HGr := Lib.hid hgr
          clear hnet hgr
          go_wp2
          go_ret
          exact ⟨ret_int HR2.out.symm, by rw [HR2.out, ← HFin.out]; exact HNet.out, HGr.out⟩
end Go.Proofs.YtighfmgkoepfkaaGreat

namespace Go.Proofs.YtighfmgkoepfkaaGreat
open Go.RowKit
attribute [local go_sem] Oper.semAt_some
abbrev vHop (h : Hp) : Value := .agg #[.int .i64 (h.e : Int), .int .i64 (h.to : Int), .int .i64 h.by_, .int .i64 h.sg]
theorem hops_any (p : Addr) (u but : Int) (w : World) :
    Calls Tryz.prog 145 #[.pointer (some p), .int .i64 u, .int .i64 but] w fun e w' => e = .returned (.func (.func 155) #[] #[.pointer (some ⟨w.heap.size, 0, none⟩), .pointer (some ⟨w.heap.size + 1 + 1, 0, none⟩), .pointer (some ⟨w.heap.size + 1, 0, none⟩)]) ∧ ((w.alloc (.cells #[.pointer (some p)] 141)).alloc (.cells #[.int .i64 u] 3)).alloc (.cells #[.int .i64 but] 3) = w' := by
  go_enter Tryz.func145, Tryz.ntmps145
  go_wp2
  go_ret
  exact ⟨rfl, rfl⟩

/-- What a round must leave alone: some blocks, and all edges. -/
structure KeepE (G : List Nat) (W W' : World) : Prop where
  at_ : ∀ k ∈ G, W'.heap[k]? = W.heap[k]?
  size : W.heap.size ≤ W'.heap.size
  eg : ∀ k cs, Blk W k 186 cs → Blk W' k 186 cs
theorem KeepE.refl (G : List Nat) (W : World) : KeepE G W W := ⟨fun _ _ => rfl, Nat.le_refl _, fun _ _ h => h⟩
theorem keepE_t {G : List Nat} {X Y Z : World} (h : KeepE G X Y) (k : KeepE G Y Z) : KeepE G X Z := ⟨fun i hi => (k.at_ i hi).trans (h.at_ i hi), Nat.le_trans h.size k.size, fun i cs hb => k.eg i cs (h.eg i cs hb)⟩
theorem keepE_below {G : List Nat} {W W' : World} (h : Below W.heap.size W W') (hG : ∀ k ∈ G, k < W.heap.size) : KeepE G W W' := ⟨fun k hk => h.block k (hG k hk), h.size, fun _ _ hb => hb.below h⟩
theorem keepE_b {G : List Nat} {w : World} (hG : ∀ k ∈ G, k < w.heap.size) (W : World) (l : Nat) (o o' : Obj) (hl : w.heap.size ≤ l) (ho : W.heap[l]? = some o) (hc : o.isCells = false) (_ : o.isWalk = false) : KeepE G W (W.putObj l o') :=
  ⟨fun k hk => World.putObj_heap_other (by have := hG k hk; omega), by simp [World.putObj], fun k cs hb => (World.putObj_heap_other (fun e => by
    subst e
    rw [show W.heap[k]? = _ from hb] at ho
    cases ho
    cases hc)).trans hb⟩
theorem KeepE.cell {G : List Nat} {W W' : World} (h : KeepE G W W') {b o : Nat} (hb : b ∈ G) {v : Value} (hc : W.cell? ⟨b, o, none⟩ = some v) : W'.cell? ⟨b, o, none⟩ = some v :=
  (World.cell?_of_block (w := W) (h.at_ b hb)).trans hc
def hopG (B p : Nat) (r : Option Nat) : List Nat := [B, B + 1, B + 1 + 1, p] ++ r.toList
abbrev HopOf (es : List Eg) (but : Int) (u : Nat) := {x : Hp // x ∈ hopsL es but u}
def encP (es : List Eg) (but : Int) (u : Nat) (x : HopOf es but u) : Array Value := #[vHop x.val]

set_option maxHeartbeats 6400000 in
theorem hops1_in (n l B p base : Nat) (A : Option Addr) (c : Nat) (es : List Eg) (N u : Nat) (but : Int) (hs : Small es) (J Jx : List (HopOf es but u) → World → Prop)
    (hY : ∀ pre x W1, J pre W1 → pre.length < (hopsL es but u).length → YieldAt Fence.wide (n - 1) Tryz.prog l (encP es but u x) W1 fun e W' =>
      (e = .returned (.bool true) ∧ J (pre ++ [x]) W' ∧ KeepE (hopG B p (Value.slice A es.length c).ownBlock) W1 W') ∨ (e = .returned (.bool false) ∧ Jx (pre ++ [x]) W'))
    (hJ : ∀ s W W', J s W → Below W.heap.size W W' → J s W') (W : World) (hB0 : W.cell? ⟨B, 0, none⟩ = some (.pointer (some ⟨p, 0, none⟩))) (hB1 : W.cell? ⟨B + 1, 0, none⟩ = some (.int .i64 (u : Int))) (hB2 : W.cell? ⟨B + 1 + 1, 0, none⟩ = some (.int .i64 but)) (hBl : B + 1 + 1 < W.heap.size)
    (hN : Net W p base A c es N) (h0 : J [] W) :
    CallsIn Fence.wide n Tryz.prog 155 #[.func (.yield l) #[] #[], .pointer (some ⟨B, 0, none⟩), .pointer (some ⟨B + 1 + 1, 0, none⟩), .pointer (some ⟨B + 1, 0, none⟩)] W fun e W' => (∃ v, e = .returned v) ∧
      ((∃ xs : List (HopOf es but u), xs.map Subtype.val = hopsL es but u ∧ J xs W') ∨ (∃ pre, True ∧ Jx pre W')) := by
  have HN := Lib.hid hN
  have HS := Lib.hid hs
  have hel := hs.len
  have p0 := hN.blk.cell 1
  simp only [List.getElem?_toArray, List.getElem?_cons_zero, List.getElem?_cons_succ] at p0
  have hpl := hN.plt
  have HG := Lib.hid (show ∀ k ∈ hopG B p (Value.slice A es.length c).ownBlock, k < W.heap.size from fun k hk => by
    unfold hopG at hk
    simp only [List.mem_append, List.mem_cons, List.not_mem_nil, or_false, Option.mem_toList] at hk
    rcases hk with (rfl | rfl | rfl | rfl) | hk
    · omega
    · omega
    · omega
    · exact hpl
    · exact (own_lt hN.row hk).2)
  clear hN hs
  generalize hne : es.length = ne at *
  have HNe := Lib.hid hne
  clear hne
  refine callsIn_of_wp Tryz.func155 rfl trivial ?_ rfl
  simp only [Tryz.ntmps155, List.size_toArray, List.length_cons, List.length_nil, Nat.reduceAdd, Nat.reduceSub, Array.replicate_succ, Array.replicate_zero, List.push_toArray, List.append_toArray, List.nil_append, List.cons_append]
  gi_wp2
  gi_loopw [5, 12] (fun _ i wr => ∃ (j : Nat) (pre : List (HopOf es but u)), j ≤ ne ∧ i = .int .i64 (j : Int) ∧ pre.map Subtype.val = hopsT es but u j ∧ J pre wr ∧ KeepE (hopG B p (Value.slice A ne c).ownBlock) W wr) (fun _ i _ => ne - (intOf i).toNat)
  case atStart => exact ⟨0, [], Nat.zero_le _, rfl, rfl, h0, KeepE.refl _ _⟩
  case round =>
    obtain ⟨j, pre, hj, rfl, hpre, hJs, hkp⟩ := hrel
    have HPre := Lib.hid hpre
    clear hpre
    have hsz := hkp.size
    by_cases hlt : j < ne
    case pos =>
      have hjl : j < es.length := by rw [HNe.out]; exact hlt
      have hee := List.getElem?_eq_getElem hjl
      obtain ⟨g, hA, hg1, hg2⟩ := HN.out.form (by omega)
      subst hA
      obtain ⟨g', off', e2, hrow⟩ := HN.out.sat.at_ (by omega)
      have e3 : g = g' ∧ 0 = off' := by simpa using e2
      obtain ⟨rfl, rfl⟩ := e3
      have hgm : g ∈ hopG B p (Value.slice (some ⟨g, 0, none⟩) ne c).ownBlock := by simp [hopG, Value.ownBlock]
      have hrow2 := hrow.same (w' := wr) (hkp.at_ g hgm)
      obtain ⟨z0, z1, z2, z3, z4, z5, z6, z7⟩ := Egs.at_ hrow2 hee
      simp only [Nat.zero_add] at z0 z1 z2 z3 z4 z5 z6 z7
      have hglt := hrow2.lt
      have q0 := hkp.cell (o := 0) (show B ∈ hopG B p (Value.slice (some ⟨g, 0, none⟩) ne c).ownBlock by simp [hopG]) hB0
      have q1 := hkp.cell (o := 0) (show B + 1 ∈ hopG B p (Value.slice (some ⟨g, 0, none⟩) ne c).ownBlock by simp [hopG]) hB1
      have q2 := hkp.cell (o := 0) (show B + 1 + 1 ∈ hopG B p (Value.slice (some ⟨g, 0, none⟩) ne c).ownBlock by simp [hopG]) hB2
      have hb2 : B + 1 + 1 < wr.heap.size := by omega
      have hb1 : B + 1 < wr.heap.size := by omega
      have hb0 : B < wr.heap.size := by omega
      have hbd := HS.out.bd _ (List.getElem_mem hjl)
      have HSt := Lib.hid (hopsT_step (but := but) (u := u) hjl)
      have HMem := Lib.hid (fun (x : Hp) (h : x ∈ hopsE but u j es[j]) => hops_mem hee h)
      have HLe := Lib.hid (hopsT_le (es := es) (but := but) (u := u) (k := j + 1) hjl)
      clear hee hrow hrow2 e2
      generalize es[j] = x at *
      obtain ⟨xi, xf, xt, xl, xh, xa, xb, fl⟩ := x
      dsimp only at *
      obtain ⟨d1, d2, d3, d4⟩ := hbd
      have HL1 := Lib.hid (show pre.length = (hopsT es but u j).length by rw [← HPre.out, List.length_map])
      have BV := (Below.refl wr.heap.size wr).alloc (Nat.le_refl _) (.cells #[.int .i64 xi, .int .i64 xf, .int .i64 xt, .int .i64 xl, .int .i64 xh, .int .i64 (xa : Int), .int .i64 (xb : Int), .int .i64 fl] 186)
      have x_0 := Blk.new wr 186 #[.int .i64 xi, .int .i64 xf, .int .i64 xt, .int .i64 xl, .int .i64 xh, .int .i64 (xa : Int), .int .i64 (xb : Int), .int .i64 fl]
      have hJV := hJ _ _ _ hJs BV
      have hkV := keepE_t hkp (keepE_below BV (fun k hk => Nat.lt_of_lt_of_le (HG.out k hk) hsz))
      have HkV := Lib.hid hkV
      have HJV := Lib.hid hJV
      clear hJV hkV
      by_cases hbut : (j : Int) = but
      case pos =>
        have hq : ((j : Int) == but) = true := by simp [hbut]
        have HE := Lib.hid (show hopsE but u j ⟨xi, xf, xt, xl, xh, xa, xb, fl⟩ = [] by unfold hopsE; rw [if_pos hbut])
        clear hbut
        clear x_0
        gi_wp2
        go_roundw
        case rel => exact ⟨j + 1, pre, by omega, by go_num, by rw [HSt.out, HE.out]; simp [HPre.out], HJV.out, HkV.out⟩
        case measure => simp [intOf]; omega
      have hq : ((j : Int) == but) = false := by simpa using hbut
      have HE0 := Lib.hid (show hopsE but u j ⟨xi, xf, xt, xl, xh, xa, xb, fl⟩ = (if xa = u ∧ fl < xh then [⟨j, xb, xh - fl, 1⟩] else []) ++ (if xb = u ∧ xl < fl then [⟨j, xa, fl - xl, -1⟩] else []) by unfold hopsE; rw [if_neg hbut])
      clear hbut
      by_cases ha : xa = u
      case neg =>
        have qa : ((xa : Int) == (u : Int)) = false := by simp; omega
        have HE1 := Lib.hid (show (if xa = u ∧ fl < xh then [(⟨j, xb, xh - fl, 1⟩ : Hp)] else []) = [] from if_neg fun h => ha h.1)
        clear ha x_0
        gi_wp2
        refine ⟨fun f h => (by cases h), ?_⟩
        by_cases hb : xb = u
        case neg =>
          have qb : ((xb : Int) == (u : Int)) = false := by simp; omega
          have HE := Lib.hid (show hopsE but u j ⟨xi, xf, xt, xl, xh, xa, xb, fl⟩ = [] ++ [] by rw [HE0.out, HE1.out, if_neg (show ¬ (xb = u ∧ xl < fl) from fun h => hb h.1)])
          clear hb
          gi_wp2
          first | (refine ⟨fun f h => (by cases h), ?_⟩; gi_wp2; go_roundw) | go_roundw
          case rel => exact ⟨j + 1, pre, by omega, by go_num, by rw [HSt.out, HE.out]; simp [HPre.out], HJV.out, HkV.out⟩
          case measure => simp [intOf]; omega
        have qb : ((xb : Int) == (u : Int)) = true := by simp [hb]
        by_cases hc : xl < fl
        case neg =>
          have HE := Lib.hid (show hopsE but u j ⟨xi, xf, xt, xl, xh, xa, xb, fl⟩ = [] ++ [] by rw [HE0.out, HE1.out, if_neg (show ¬ (xb = u ∧ xl < fl) from fun h => hc h.2)])
          clear hb
          gi_wp2
          first | (refine ⟨fun f h => (by cases h), ?_⟩; gi_wp2; go_roundw) | go_roundw
          case rel => exact ⟨j + 1, pre, by omega, by go_num, by rw [HSt.out, HE.out]; simp [HPre.out], HJV.out, HkV.out⟩
          case measure => simp [intOf]; omega
        have HE := Lib.hid (show hopsE but u j ⟨xi, xf, xt, xl, xh, xa, xb, fl⟩ = [] ++ [⟨j, xa, fl - xl, -1⟩] by rw [HE0.out, HE1.out, if_pos (show xb = u ∧ xl < fl from ⟨hb, hc⟩)])
        clear hb
        have HM2 := Lib.hid (show (⟨j, xa, fl - xl, -1⟩ : Hp) ∈ hopsL es but u from HMem.out _ (by rw [HE.out]; simp))
        obtain ⟨fn2, tmps2, assign2, body2, hy2, hR2⟩ := hY (pre) ⟨⟨j, xa, fl - xl, -1⟩, HM2.out⟩ _ HJV.out (Nat.lt_of_lt_of_le (show _ < (hopsT es but u (j + 1)).length by rw [HSt.out, HE.out]; simp [HL1.out]) HLe.out.length_le)
        have HR2 := Lib.hid hR2
        clear hR2
        unfold encP at hy2
        dsimp only at hy2
        gi_wp2
        refine ⟨fun h => (by cases h), HR2.out.mono ?_⟩
        rintro e W3 (⟨rfl, hJ3, hk3⟩ | ⟨rfl, hJx3⟩)
        case inl =>
          have hk4 := keepE_t HkV.out hk3
          gi_wp2
          go_roundw
          case rel => exact ⟨j + 1, (pre) ++ [⟨⟨j, xa, fl - xl, -1⟩, HM2.out⟩], by omega, by go_num, by rw [HSt.out, HE.out]; simp [HPre.out], hJ3, hk4⟩
          case measure => simp [intOf]; omega
        gi_wp2
        refine bodyPost_ret (results_none rfl _ _ _) rfl ?_
        exact ⟨⟨_, rfl⟩, .inr ⟨_, trivial, hJx3⟩⟩
      have qa : ((xa : Int) == (u : Int)) = true := by simp [ha]
      by_cases hf : fl < xh
      case neg =>
        have HE1 := Lib.hid (show (if xa = u ∧ fl < xh then [(⟨j, xb, xh - fl, 1⟩ : Hp)] else []) = [] from if_neg fun h => hf h.2)
        clear ha x_0
        gi_wp2
        refine ⟨fun f h => (by cases h), ?_⟩
        by_cases hb : xb = u
        case neg =>
          have qb : ((xb : Int) == (u : Int)) = false := by simp; omega
          have HE := Lib.hid (show hopsE but u j ⟨xi, xf, xt, xl, xh, xa, xb, fl⟩ = [] ++ [] by rw [HE0.out, HE1.out, if_neg (show ¬ (xb = u ∧ xl < fl) from fun h => hb h.1)])
          clear hb
          gi_wp2
          first | (refine ⟨fun f h => (by cases h), ?_⟩; gi_wp2; go_roundw) | go_roundw
          case rel => exact ⟨j + 1, pre, by omega, by go_num, by rw [HSt.out, HE.out]; simp [HPre.out], HJV.out, HkV.out⟩
          case measure => simp [intOf]; omega
        have qb : ((xb : Int) == (u : Int)) = true := by simp [hb]
        by_cases hc : xl < fl
        case neg =>
          have HE := Lib.hid (show hopsE but u j ⟨xi, xf, xt, xl, xh, xa, xb, fl⟩ = [] ++ [] by rw [HE0.out, HE1.out, if_neg (show ¬ (xb = u ∧ xl < fl) from fun h => hc h.2)])
          clear hb
          gi_wp2
          first | (refine ⟨fun f h => (by cases h), ?_⟩; gi_wp2; go_roundw) | go_roundw
          case rel => exact ⟨j + 1, pre, by omega, by go_num, by rw [HSt.out, HE.out]; simp [HPre.out], HJV.out, HkV.out⟩
          case measure => simp [intOf]; omega
        have HE := Lib.hid (show hopsE but u j ⟨xi, xf, xt, xl, xh, xa, xb, fl⟩ = [] ++ [⟨j, xa, fl - xl, -1⟩] by rw [HE0.out, HE1.out, if_pos (show xb = u ∧ xl < fl from ⟨hb, hc⟩)])
        clear hb
        have HM2 := Lib.hid (show (⟨j, xa, fl - xl, -1⟩ : Hp) ∈ hopsL es but u from HMem.out _ (by rw [HE.out]; simp))
        obtain ⟨fn2, tmps2, assign2, body2, hy2, hR2⟩ := hY (pre) ⟨⟨j, xa, fl - xl, -1⟩, HM2.out⟩ _ HJV.out (Nat.lt_of_lt_of_le (show _ < (hopsT es but u (j + 1)).length by rw [HSt.out, HE.out]; simp [HL1.out]) HLe.out.length_le)
        have HR2 := Lib.hid hR2
        clear hR2
        unfold encP at hy2
        dsimp only at hy2
        gi_wp2
        refine ⟨fun h => (by cases h), HR2.out.mono ?_⟩
        rintro e W3 (⟨rfl, hJ3, hk3⟩ | ⟨rfl, hJx3⟩)
        case inl =>
          have hk4 := keepE_t HkV.out hk3
          gi_wp2
          go_roundw
          case rel => exact ⟨j + 1, (pre) ++ [⟨⟨j, xa, fl - xl, -1⟩, HM2.out⟩], by omega, by go_num, by rw [HSt.out, HE.out]; simp [HPre.out], hJ3, hk4⟩
          case measure => simp [intOf]; omega
        gi_wp2
        refine bodyPost_ret (results_none rfl _ _ _) rfl ?_
        exact ⟨⟨_, rfl⟩, .inr ⟨_, trivial, hJx3⟩⟩
      have HE1 := Lib.hid (show (if xa = u ∧ fl < xh then [(⟨j, xb, xh - fl, 1⟩ : Hp)] else []) = [⟨j, xb, xh - fl, 1⟩] from if_pos ⟨ha, hf⟩)
      clear ha
      have HM1 := Lib.hid (show (⟨j, xb, xh - fl, 1⟩ : Hp) ∈ hopsL es but u from HMem.out _ (by rw [HE0.out, HE1.out]; simp))
      obtain ⟨fn1, tmps1, assign1, body1, hy1, hR1⟩ := hY pre ⟨⟨j, xb, xh - fl, 1⟩, HM1.out⟩ (wr.alloc (.cells #[.int .i64 xi, .int .i64 xf, .int .i64 xt, .int .i64 xl, .int .i64 xh, .int .i64 (xa : Int), .int .i64 (xb : Int), .int .i64 fl] 186)) HJV.out (Nat.lt_of_lt_of_le (show _ < (hopsT es but u (j + 1)).length by rw [HSt.out, HE0.out, HE1.out]; simp [HL1.out]) HLe.out.length_le)
      have HR1 := Lib.hid hR1
      clear hR1
      unfold encP at hy1
      dsimp only at hy1
      gi_wp2
      refine ⟨fun h => (by cases h), HR1.out.mono ?_⟩
      rintro e W2 (⟨rfl, hJ2, hk2⟩ | ⟨rfl, hJx2⟩)
      case inr =>
        gi_wp2
        refine bodyPost_ret (results_none rfl _ _ _) rfl ?_
        exact ⟨⟨_, rfl⟩, .inr ⟨_, trivial, hJx2⟩⟩
      have x_2 := hk2.eg _ _ x_0
      have hk2V := keepE_t HkV.out hk2
      have x_2c3 := x_2.cell 3
      have x_2c4 := x_2.cell 4
      have x_2c5 := x_2.cell 5
      have x_2c6 := x_2.cell 6
      have x_2c7 := x_2.cell 7
      simp only [List.getElem?_toArray, List.getElem?_cons_zero, List.getElem?_cons_succ] at x_2c3 x_2c4 x_2c5 x_2c6 x_2c7
      have r1 := hk2V.cell (o := 0) (show B + 1 ∈ hopG B p (Value.slice (some ⟨g, 0, none⟩) ne c).ownBlock by simp [hopG]) hB1
      have r2 := hk2V.cell (o := 0) (show B ∈ hopG B p (Value.slice (some ⟨g, 0, none⟩) ne c).ownBlock by simp [hopG]) hB0
      have HJ2 := Lib.hid hJ2
      have HK2 := Lib.hid hk2V
      clear hJ2 hk2 hk2V x_0 x_2 hy1 z0 z1 z2 z3 z4 z5 z6 z7 q0 q1 q2
      by_cases hb : xb = u
      case neg =>
        have qb : ((xb : Int) == (u : Int)) = false := by simp; omega
        have HE := Lib.hid (show hopsE but u j ⟨xi, xf, xt, xl, xh, xa, xb, fl⟩ = [⟨j, xb, xh - fl, 1⟩] ++ [] by rw [HE0.out, HE1.out, if_neg (show ¬ (xb = u ∧ xl < fl) from fun h => hb h.1)])
        clear hb
        gi_wp2
        first | (refine ⟨fun f h => (by cases h), ?_⟩; gi_wp2; go_roundw) | go_roundw
        case rel => exact ⟨j + 1, pre ++ [⟨⟨j, xb, xh - fl, 1⟩, HM1.out⟩], by omega, by go_num, by rw [HSt.out, HE.out]; simp [HPre.out], HJ2.out, HK2.out⟩
        case measure => simp [intOf]; omega
      have qb : ((xb : Int) == (u : Int)) = true := by simp [hb]
      by_cases hc : xl < fl
      case neg =>
        have HE := Lib.hid (show hopsE but u j ⟨xi, xf, xt, xl, xh, xa, xb, fl⟩ = [⟨j, xb, xh - fl, 1⟩] ++ [] by rw [HE0.out, HE1.out, if_neg (show ¬ (xb = u ∧ xl < fl) from fun h => hc h.2)])
        clear hb
        gi_wp2
        first | (refine ⟨fun f h => (by cases h), ?_⟩; gi_wp2; go_roundw) | go_roundw
        case rel => exact ⟨j + 1, pre ++ [⟨⟨j, xb, xh - fl, 1⟩, HM1.out⟩], by omega, by go_num, by rw [HSt.out, HE.out]; simp [HPre.out], HJ2.out, HK2.out⟩
        case measure => simp [intOf]; omega
      have HE := Lib.hid (show hopsE but u j ⟨xi, xf, xt, xl, xh, xa, xb, fl⟩ = [⟨j, xb, xh - fl, 1⟩] ++ [⟨j, xa, fl - xl, -1⟩] by rw [HE0.out, HE1.out, if_pos (show xb = u ∧ xl < fl from ⟨hb, hc⟩)])
      clear hb
      have HM2 := Lib.hid (show (⟨j, xa, fl - xl, -1⟩ : Hp) ∈ hopsL es but u from HMem.out _ (by rw [HE.out]; simp))
      obtain ⟨fn2, tmps2, assign2, body2, hy2, hR2⟩ := hY (pre ++ [⟨⟨j, xb, xh - fl, 1⟩, HM1.out⟩]) ⟨⟨j, xa, fl - xl, -1⟩, HM2.out⟩ _ HJ2.out (Nat.lt_of_lt_of_le (show _ < (hopsT es but u (j + 1)).length by rw [HSt.out, HE.out]; simp [HL1.out]) HLe.out.length_le)
      have HR2 := Lib.hid hR2
      clear hR2
      unfold encP at hy2
      dsimp only at hy2
      gi_wp2
      refine ⟨fun h => (by cases h), HR2.out.mono ?_⟩
      rintro e W3 (⟨rfl, hJ3, hk3⟩ | ⟨rfl, hJx3⟩)
      case inl =>
        have hk4 := keepE_t HK2.out hk3
        gi_wp2
        go_roundw
        case rel => exact ⟨j + 1, (pre ++ [⟨⟨j, xb, xh - fl, 1⟩, HM1.out⟩]) ++ [⟨⟨j, xa, fl - xl, -1⟩, HM2.out⟩], by omega, by go_num, by rw [HSt.out, HE.out]; simp [HPre.out], hJ3, hk4⟩
        case measure => simp [intOf]; omega
      gi_wp2
      refine bodyPost_ret (results_none rfl _ _ _) rfl ?_
      exact ⟨⟨_, rfl⟩, .inr ⟨_, trivial, hJx3⟩⟩
    case neg =>
      have hj' : j = es.length := by rw [HNe.out]; omega
      have HJ := Lib.hid hj'
      clear hj'
      gi_wp2
      go_end0
      exact ⟨⟨_, rfl⟩, .inl ⟨pre, by rw [HPre.out, HJ.out]; rfl, hJs⟩⟩
theorem hops_stops (n B p base : Nat) (A : Option Addr) (c : Nat) (es : List Eg) (N u : Nat) (but : Int) (hs : Small es) (w : World) (hB0 : w.cell? ⟨B, 0, none⟩ = some (.pointer (some ⟨p, 0, none⟩))) (hB1 : w.cell? ⟨B + 1, 0, none⟩ = some (.int .i64 (u : Int))) (hB2 : w.cell? ⟨B + 1 + 1, 0, none⟩ = some (.int .i64 but)) (hBl : B + 1 + 1 < w.heap.size)
    (hN : Net w p base A c es N) :
    SeqStopsK Fence.wide n Tryz.prog 155 #[.pointer (some ⟨B, 0, none⟩), .pointer (some ⟨B + 1 + 1, 0, none⟩), .pointer (some ⟨B + 1, 0, none⟩)] (encP es but u) (KeepE (hopG B p (Value.slice A es.length c).ownBlock)) (fun xs => xs.map Subtype.val = hopsL es but u) (fun _ => True) (hopsL es but u).length w :=
  fun l J Jx W hW hJ _ hY h0 => hops1_in n l B p base A c es N u but hs J Jx hY (fun s X Y hx hb => hJ s X Y none hx (grownBy_of_below hb) (fun r e => by cases e)) W
    ((hW.cell (p := ⟨B, 0, none⟩) (by show B < _; omega)).trans hB0) ((hW.cell (p := ⟨B + 1, 0, none⟩) (by show B + 1 < _; omega)).trans hB1) ((hW.cell (p := ⟨B + 1 + 1, 0, none⟩) hBl).trans hB2) (Nat.lt_of_lt_of_le hBl hW.size) (hN.below hW) h0
end Go.Proofs.YtighfmgkoepfkaaGreat

namespace Go.Proofs.YtighfmgkoepfkaaGreat
open Go.RowKit

/-! ### Deferred blocks of ranges that are done -/
def marks (Ds : List Nat) : List Deferred := Ds.map fun D => { target := .collected D, args := #[] }
def closed (Ds : List Nat) (W : World) : World := Ds.foldl (fun W D => W.putObj D (.deferred none)) W
theorem closed_size : ∀ (Ds : List Nat) (W : World), (closed Ds W).heap.size = W.heap.size
  | [], _ => rfl
  | D :: Ds, W => by show (closed Ds (W.putObj D (.deferred none))).heap.size = _; rw [closed_size Ds]; simp [World.putObj]
theorem closed_at : ∀ (Ds : List Nat) (W : World) (k : Nat), k ∉ Ds → (closed Ds W).heap[k]? = W.heap[k]?
  | [], _, _, _ => rfl
  | D :: Ds, W, k, h => by
    show (closed Ds (W.putObj D (.deferred none))).heap[k]? = _
    rw [closed_at Ds _ k (fun c => h (by simp [c]))]
    exact World.putObj_heap_other (fun e => h (by simp [e]))
theorem closed_os : ∀ (Ds : List Nat) (W : World), (closed Ds W).os = W.os ∧ (closed Ds W).tape = W.tape ∧ (closed Ds W).output = W.output
  | [], _ => ⟨rfl, rfl, rfl⟩
  | D :: Ds, W => closed_os Ds (W.putObj D (.deferred none))
theorem closed_below {b : Nat} {Ds : List Nat} {W : World} (h : ∀ D ∈ Ds, b ≤ D) : Below b W (closed Ds W) :=
  ⟨(closed_os Ds W).1, (closed_os Ds W).2.1, (closed_os Ds W).2.2, by rw [closed_size]; exact Nat.le_refl _, fun k hk => closed_at Ds W k fun c => by have := h k c; omega⟩
structure Dfs (b : Nat) (Ds : List Nat) (W : World) : Prop where
  nodup : Ds.Nodup
  ge : ∀ D ∈ Ds, b ≤ D
  at_ : ∀ D ∈ Ds, W.heap[D]? = some (.deferred (some []))
theorem Dfs.blk {b : Nat} {Ds : List Nat} {W : World} (h : Dfs b Ds W) {k : Nat} {t : TypeId} {cs : Array Value} (hb : Blk W k t cs) : Blk (closed Ds W) k t cs :=
  (closed_at Ds W k fun c => by
    have := h.at_ k c
    rw [show W.heap[k]? = _ from hb] at this
    cases this).trans hb
theorem Dfs.keeps {b B : Nat} {Ds : List Nat} {W W' : World} (h : Dfs b Ds W) (hB : B ≤ b) (k : KeepsFrom B W W') : Dfs b Ds W' :=
  ⟨h.nodup, h.ge, fun D hD => k.same D _ (Nat.le_trans hB (h.ge D hD)) (h.at_ D hD) rfl⟩
theorem Dfs.lt {b : Nat} {Ds : List Nat} {W : World} (h : Dfs b Ds W) : ∀ D ∈ Ds, D < W.heap.size := fun D hD => (Array.getElem?_eq_some_iff.1 (h.at_ D hD)).1
theorem Dfs.below {b : Nat} {Ds : List Nat} {W W' : World} (h : Dfs b Ds W) (k : Below W.heap.size W W') : Dfs b Ds W' :=
  ⟨h.nodup, h.ge, fun D hD => (k.block D (h.lt D hD)).trans (h.at_ D hD)⟩
theorem leave_many {P : Program} {m : Nat} {fn : Func} {tmps : Array Value} {R : Ending → World → Prop} {b : Nat} : ∀ {Ds : List Nat} {W : World}, Dfs b Ds W →
    (∃ v, (results fn tmps).run P (closed Ds W) = .ok v (closed Ds W) ∧ R (.returned v) (closed Ds W)) → LeavesInM Fence.wide m P fn tmps R (marks Ds) .returning W
  | [], _, _, h => h
  | D :: Ds, W, hd, h => by
    refine ⟨by simp, .inl ⟨_, _, rfl, run_takeDeferred (hd.at_ D (by simp)), ?_⟩⟩
    have hn := List.nodup_cons.1 hd.nodup
    exact leave_many (b := b) ⟨hn.2, fun x hx => hd.ge x (by simp [hx]), fun x hx => (World.putObj_heap_other (fun e => hn.1 (by first | exact e ▸ hx | exact e.symm ▸ hx))).trans (hd.at_ x (by simp [hx]))⟩ h

/-! ### Rows of functions -/
def rowI {α : Type} (N : Nat) (g : α → Value) (f : Nat → α) : Array Value := ((List.range N).map fun v => g (f v)).toArray
theorem rowI_set {α : Type} (N : Nat) (g : α → Value) (f : Nat → α) (k : Nat) (x : α) : (rowI N g f).setIfInBounds k (g x) = rowI N g (updF f k x) := by
  unfold rowI
  apply Array.ext_getElem?
  intro i
  rw [Array.getElem?_setIfInBounds]
  by_cases c : k = i
  · subst c
    by_cases d : k < N
    · simp [d, updF_at]
    · simp [d]
  · by_cases d : i < N
    · simp [c, d, updF_ne (show i ≠ k from fun e => c e.symm)]
    · simp [c, d]
theorem rowI_at {α : Type} {N : Nat} {g : α → Value} {f : Nat → α} {k : Nat} (h : k < N) : (rowI N g f)[k]? = some (g (f k)) := by
  unfold rowI
  simp [h]
theorem rowI_made (z : Value) (N : Nat) : madeCells #[z] N = rowI N (fun _ : Unit => z) (fun _ => ()) := by
  unfold madeCells rowI
  apply Array.ext_getElem?
  intro i
  by_cases d : i < N
  · simp [d, Nat.mod_one]
  · simp [d]
/-- Hops: four cells each. -/
def rowH (N : Nat) (f : Nat → Hp) : Array Value := ((List.range N).flatMap fun v => encHp (f v)).toArray
theorem rowH_at {N : Nat} {f : Nat → Hp} {k j : Nat} (h : k < N) (hj : j < 4) : (rowH N f)[k * 4 + j]? = (encHp (f k))[j]? := by
  unfold rowH
  have := flat_at 4 (fun v => encHp (f v)) (fun _ => rfl) (List.range N) k j 0 (by simpa using h) hj
  simpa [h] using this
theorem rowH_size (N : Nat) (f : Nat → Hp) : (rowH N f).size = N * 4 := by
  have : ∀ l : List Nat, (l.flatMap fun v => encHp (f v)).length = l.length * 4 := fun l => by
    induction l with
    | nil => rfl
    | cons v t ih => rw [List.flatMap_cons, List.length_append, ih, encHp_len, List.length_cons]; omega
  unfold rowH
  rw [List.size_toArray, this, List.length_range]
theorem rowH_get {N : Nat} {f : Nat → Hp} (i : Nat) : (rowH N f)[i]? = if i < N * 4 then (encHp (f (i / 4)))[i % 4]? else none := by
  by_cases c : i < N * 4
  · rw [if_pos c]
    have := rowH_at (f := f) (k := i / 4) (j := i % 4) (N := N) (by omega) (by omega)
    rwa [show i / 4 * 4 + i % 4 = i by omega] at this
  · rw [if_neg c]
    exact Array.getElem?_eq_none (by rw [rowH_size]; omega)
theorem rowH_set (N : Nat) (f : Nat → Hp) (k : Nat) (hk : k < N) (x : Hp) :
    ((((rowH N f).setIfInBounds (k * 4) (.int .i64 (x.e : Int))).setIfInBounds (k * 4 + 1) (.int .i64 (x.to : Int))).setIfInBounds (k * 4 + 2) (.int .i64 x.by_)).setIfInBounds (k * 4 + 3) (.int .i64 x.sg) = rowH N (updF f k x) := by
  apply Array.ext_getElem?
  intro i
  rw [rowH_get]
  simp only [Array.getElem?_setIfInBounds, Array.size_setIfInBounds, rowH_size, rowH_get]
  by_cases c : i < N * 4
  · rw [if_pos c]
    by_cases d : i / 4 = k
    · rw [d, updF_at]
      rcases (show i = k * 4 ∨ i = k * 4 + 1 ∨ i = k * 4 + 2 ∨ i = k * 4 + 3 by omega) with e | e | e | e <;> subst e
      · simp [encHp]; try omega
      · rw [show (k * 4 + 1) % 4 = 1 by omega]; simp [encHp]; try omega
      · rw [show (k * 4 + 2) % 4 = 2 by omega]; simp [encHp]; try omega
      · rw [show (k * 4 + 3) % 4 = 3 by omega]; simp [encHp]; try omega
    · rw [updF_ne d, if_neg (by omega), if_neg (by omega), if_neg (by omega), if_neg (by omega), if_pos c]
  · rw [if_neg c, if_neg (by omega), if_neg (by omega), if_neg (by omega), if_neg (by omega), if_neg c]
theorem rowH_made (N : Nat) : madeCells #[.int .i64 0, .int .i64 0, .int .i64 0, .int .i64 0] (N * 4) = rowH N (fun _ => ⟨0, 0, 0, 0⟩) := by
  apply Array.ext_getElem?
  intro i
  rw [rowH_get]
  unfold madeCells
  by_cases c : i < N * 4
  · have h4 : i % 4 < 4 := Nat.mod_lt _ (by decide)
    simp only [Array.getElem?_map, Array.getElem?_range, c, if_true, Option.map_some, List.size_toArray, List.length_cons, List.length_nil]
    generalize i % 4 = j at *
    match j, h4 with
    | 0, _ => rfl
    | 1, _ => rfl
    | 2, _ => rfl
    | 3, _ => rfl
  · simp [c]
end Go.Proofs.YtighfmgkoepfkaaGreat
