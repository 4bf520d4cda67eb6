/- both, copied, spanAt. -/
import Derived.Test.YtighfmgkoepfkaaGreatMS
import Derived.Test.YtighfmgkoepfkaaGreatMA
namespace Go.Proofs.YtighfmgkoepfkaaGreat

theorem flow_list {hs : List Hd} {ms : List Mv} {es : List Eg} (_ : Alike es (edges hs ms)) : stOf hs es ++ (enOf hs es ++ maOf hs es) = es.map Eg.fl := by
  unfold stOf enOf maOf
  rw [← List.map_append, ← List.map_append]
  congr 1
  have h1 : es.drop (2 * hs.length) = (es.drop hs.length).drop hs.length := by rw [List.drop_drop]; congr 1; omega
  rw [h1, List.take_append_drop, List.take_append_drop]
theorem valAt_net {hs : List Hd} {ms : List Mv} {es : List Eg} (ha : Alike es (edges hs ms)) {at_ : Nat} {e : Eg} (he : es[at_]? = some e) : valAt (stOf hs es) (enOf hs es) (maOf hs es) at_ = e.fl := by
  unfold valAt iget
  rw [flow_list ha, List.getD_eq_getElem?_getD, List.getElem?_map, he]
  rfl
theorem span_net {hs : List Hd} {ms : List Mv} {es : List Eg} (ha : Alike es (edges hs ms)) {at_ : Nat} {e : Eg} (he : es[at_]? = some e) : spanLo hs ms at_ = e.lo ∧ spanHi hs ms at_ = e.hi := by
  obtain ⟨f, hf, e1⟩ := alike_at ha he
  have h1 : e.lo = f.lo := by rw [e1]
  have h2 : e.hi = f.hi := by rw [e1]
  rw [h1, h2]
  have hlt : at_ < 2 * hs.length + ms.length := by rw [← edges_len hs ms]; exact (List.getElem?_eq_some_iff.1 hf).1
  rw [edges_at] at hf
  unfold spanLo spanHi
  by_cases c1 : at_ < hs.length
  · rw [if_pos c1] at hf ⊢
    rw [if_pos c1, ← Option.some.inj hf]; exact ⟨rfl, rfl⟩
  · rw [if_neg c1] at hf ⊢
    rw [if_neg c1]
    by_cases c2 : at_ < 2 * hs.length
    · rw [if_pos c2] at hf ⊢
      rw [if_pos c2, ← Option.some.inj hf]; exact ⟨rfl, rfl⟩
    · rw [if_neg c2, if_pos hlt] at hf
      rw [if_neg c2, if_neg c2, ← Option.some.inj hf]; exact ⟨rfl, rfl⟩
/-- A limit that is proved, its cut formed. -/
structure LimF (hs : List Hd) (ms : List Mv) (at_ : Nat) (gr : Bool) (st en ma : List Int) (way : Int) (s : List Int) : Prop where
  ok : LimOk hs ms at_ gr st en ma way s
  form : valAt st en ma at_ ≠ (if gr = true then spanHi hs ms at_ else spanLo hs ms at_) → formedL hs way s = true
  len : s.length ≤ 9
def roomOf (gr : Bool) (at_ : Nat) (es : List Eg) : Int := match es[at_]? with | some e => (if gr = true then e.hi - e.fl else e.fl - e.lo) | none => 0
theorem roomOf_at {gr : Bool} {at_ : Nat} {es : List Eg} {e : Eg} (he : es[at_]? = some e) : roomOf gr at_ es = if gr = true then e.hi - e.fl else e.fl - e.lo := by unfold roomOf; rw [he]
/-- The end: there is no room. -/
theorem lim_end {hs : List Hd} {ms : List Mv} (h : TV hs ms) {es : List Eg} (ha : Alike es (edges hs ms)) (hb : Bal es (hs.length + 1)) {at_ : Nat} {e : Eg} (he : es[at_]? = some e) {gr : Bool} (hr : (if gr = true then e.hi - e.fl else e.fl - e.lo) = 0) :
    LimF hs ms at_ gr (stOf hs es) (enOf hs es) (maOf hs es) 0 [] := by
  have hv := valAt_net ha he
  obtain ⟨hl, hh⟩ := span_net ha he
  have he' : valAt (stOf hs es) (enOf hs es) (maOf hs es) at_ = if gr = true then spanHi hs ms at_ else spanLo hs ms at_ := by
    rw [hv, hl, hh]
    cases gr
    · rw [if_neg (by decide)] at hr ⊢; omega
    · rw [if_pos rfl] at hr ⊢; omega
  exact ⟨⟨fits_net h ha hb.small.inb fun v hv => hb.zero v (by omega), fun _ => ⟨rfl, rfl⟩, fun c => absurd he' c⟩, fun c => absurd he' c, by simp⟩
/-- The end: nodes out of which no more can flow. -/
theorem lim_stuck {hs : List Hd} {ms : List Mv} (h : TV hs ms) {es : List Eg} (ha : Alike es (edges hs ms)) (hb : Bal es (hs.length + 1)) {at_ : Nat} {e : Eg} (he : es[at_]? = some e) {gr : Bool} (hr : 0 < if gr = true then e.hi - e.fl else e.fl - e.lo)
    {S : Nat → Bool} (hsh : Shut es at_ S) (hf : S (if gr = true then e.b else e.a) = true) (ht : S (if gr = true then e.a else e.b) = false) :
    LimF hs ms at_ gr (stOf hs es) (enOf hs es) (maOf hs es) (if S hs.length = true then 1 else 2) (sortI (sideL hs S (!(S hs.length)))) := by
  have hv := valAt_net ha he
  obtain ⟨hl, hh⟩ := span_net ha he
  have hat' : at_ < 2 * hs.length + ms.length := by rw [← edges_len hs ms, ← alike_len ha]; exact (List.getElem?_eq_some_iff.1 he).1
  have hk := span_ok h hat'
  have hbe := hb.small.bd e (List.mem_of_getElem? he)
  have key : ∀ lo hi, okSp lo hi = true → ((S e.b = true ∧ S e.a = false ∧ lo = e.fl + 1) ∨ (S e.a = true ∧ S e.b = false ∧ hi = e.fl - 1)) → 0 < thrL (putH hs at_ lo hi) (putM hs ms at_ lo hi) (if S hs.length = true then 1 else 2) (sortI (sideL hs S (!(S hs.length)))) :=
    fun lo hi ho hc => lim_cut h ha hb.zero hat' he hsh ho hc fun id => sortI_mem
  have hform : ∀ hs' ms', 0 < thrL hs' ms' (if S hs.length = true then 1 else 2) (sortI (sideL hs S (!(S hs.length)))) → formedL hs (if S hs.length = true then 1 else 2) (sortI (sideL hs S (!(S hs.length)))) = true := fun hs' ms' hp => by
    refine formed_cut h.ids (fun c => ?_) (way_12 _)
    rw [c, show sortI [] = [] by simp [sortI], thrL_nil] at hp
    omega
  have hlen : (sortI (sideL hs S (!(S hs.length)))).length ≤ 9 := by
    rw [sortI_len]
    have : (sideL hs S (!(S hs.length))).length ≤ hs.length := by rw [← sideT_all]; exact sideT_len _ _ _ _
    have := h.lenH
    omega
  have hfit := fits_net h ha hb.small.inb fun v hv => hb.zero v (by omega)
  cases gr
  · rw [if_neg (by decide)] at hr hf ht
    have hp := key (spanLo hs ms at_) (e.fl - 1) (by simp [okSp]; omega) (.inr ⟨hf, ht, rfl⟩)
    refine ⟨⟨hfit, fun c => ?_, fun _ => ?_⟩, fun _ => hform _ _ hp, hlen⟩
    · rw [hv, if_neg (by decide), hl] at c; omega
    · rw [if_neg (by decide), hv]; exact hp
  · rw [if_pos rfl] at hr hf ht
    have hp := key (e.fl + 1) (spanHi hs ms at_) (by simp [okSp]; omega) (.inl ⟨hf, ht, rfl⟩)
    refine ⟨⟨hfit, fun c => ?_, fun _ => ?_⟩, fun _ => hform _ _ hp, hlen⟩
    · rw [hv, if_pos rfl, hh] at c; omega
    · rw [if_pos rfl, hv]; exact hp
end Go.Proofs.YtighfmgkoepfkaaGreat

namespace Go.Proofs.YtighfmgkoepfkaaGreat
open Go.RowKit

theorem limit1_any (v B t : Nat) (w : World) (_ : B < w.heap.size) (hc : w.cell? ⟨B, 0, none⟩ = some (.int .i64 (t : Int))) :
    Calls Tryz.prog 147 #[.int .i64 (v : Int), .pointer (some ⟨B, 0, none⟩)] w fun e w' => e = .returned (.bool (decide (v = t))) ∧ Below w.heap.size w w' := by
  go_enter Tryz.func147, Tryz.ntmps147
  go_wp2
  go_ret
  refine ⟨ret_bool ?_, Below.refl _ _⟩
  · by_cases h : v = t
    · simp [h]
    · have h2 : ¬ ((v : Int) = (t : Int)) := by omega
      simp [h, h2]
theorem enter_limit1 : ∀ args w, (callFunc 147 args).run Tryz.prog w = .ok (.enter 147 args) w := enters_of Tryz.func147 (by kernel_rfl) rfl
abbrev vLi (val : Int) (A1 : Option Addr) (n1 c1 : Nat) (A2 : Option Addr) (n2 c2 : Nat) (A3 : Option Addr) (n3 c3 : Nat) (way : Int) (A4 : Option Addr) (n4 c4 : Nat) : Value :=
  .agg #[.int .i64 val, .slice A1 n1 c1, .slice A2 n2 c2, .slice A3 n3 c3, .int .i64 way, .slice A4 n4 c4]
abbrev vLi0 : Value := vLi 0 none 0 0 none 0 0 none 0 0 0 none 0 0
/-- A limit as it lies, from block L on. -/
def LiAt (w : World) (L : Nat) (v : Value) (val : Int) (st en ma : List Int) (way : Int) (s : List Int) : Prop :=
  ∃ A1 n1 c1 A2 n2 c2 A3 n3 c3 A4 n4 c4, v = vLi val A1 n1 c1 A2 n2 c2 A3 n3 c3 way A4 n4 c4 ∧ CoAt w L (vCo A1 n1 c1 A2 n2 c2 A3 n3 c3) st en ma ∧ CuAt w L (.agg #[.int .i64 way, .slice A4 n4 c4]) way s
theorem LiAt.grown {w w' : World} {L : Nat} {v : Value} {val : Int} {st en ma : List Int} {way : Int} {s : List Int} {r : Option Nat} (h : LiAt w L v val st en ma way s) (hg : w.grownBy w' r) (hr : ∀ g, r = some g → g < L) : LiAt w' L v val st en ma way s := by
  obtain ⟨A1, n1, c1, A2, n2, c2, A3, n3, c3, A4, n4, c4, e, h1, h2⟩ := h
  exact ⟨A1, n1, c1, A2, n2, c2, A3, n3, c3, A4, n4, c4, e, h1.grown hg hr, h2.grown hg hr⟩
theorem LiAt.below {w w' : World} {L : Nat} {v : Value} {val : Int} {st en ma : List Int} {way : Int} {s : List Int} (h : LiAt w L v val st en ma way s) (hb : Below w.heap.size w w') : LiAt w' L v val st en ma way s :=
  h.grown (r := none) (below_grown hb) (fun g e => by cases e)
theorem LiAt.weak {w : World} {L L' : Nat} {v : Value} {val : Int} {st en ma : List Int} {way : Int} {s : List Int} (h : LiAt w L v val st en ma way s) (hL : L' ≤ L) : LiAt w L' v val st en ma way s := by
  obtain ⟨A1, n1, c1, A2, n2, c2, A3, n3, c3, A4, n4, c4, e, h1, h2⟩ := h
  exact ⟨A1, n1, c1, A2, n2, c2, A3, n3, c3, A4, n4, c4, e, h1.weak hL, h2.weak hL⟩
theorem blk_set6 {W : World} {g : Nat} {t : TypeId} {p q r u v x : Value} (h : Blk W g t #[p, q, r, u, v, x]) (a b c d e f : Value) :
    Blk ((((((W.setCell ⟨g, 0, none⟩ a).setCell ⟨g, 1, none⟩ b).setCell ⟨g, 2, none⟩ c).setCell ⟨g, 3, none⟩ d).setCell ⟨g, 4, none⟩ e).setCell ⟨g, 5, none⟩ f) g t #[a, b, c, d, e, f] := by
  have := (((((h.set_ 0 a).set_ 1 b).set_ 2 c).set_ 3 d).set_ 4 e).set_ 5 f
  simpa using this
theorem below_set6 {B : Nat} {w W : World} {g : Nat} (h : Below B w W) (hg : B ≤ g) (a b c d e f : Value) :
    Below B w ((((((W.setCell ⟨g, 0, none⟩ a).setCell ⟨g, 1, none⟩ b).setCell ⟨g, 2, none⟩ c).setCell ⟨g, 3, none⟩ d).setCell ⟨g, 4, none⟩ e).setCell ⟨g, 5, none⟩ f) :=
  (((((h.setCell (p := ⟨g, 0, none⟩) hg a).setCell (p := ⟨g, 1, none⟩) hg b).setCell (p := ⟨g, 2, none⟩) hg c).setCell (p := ⟨g, 3, none⟩) hg d).setCell (p := ⟨g, 4, none⟩) hg e).setCell (p := ⟨g, 5, none⟩) hg f
theorem grown_set6 (W : World) (g : Nat) (a b c d e f : Value) : W.grownBy ((((((W.setCell ⟨g, 0, none⟩ a).setCell ⟨g, 1, none⟩ b).setCell ⟨g, 2, none⟩ c).setCell ⟨g, 3, none⟩ d).setCell ⟨g, 4, none⟩ e).setCell ⟨g, 5, none⟩ f) (some g) :=
  grown_trans (grown_trans (grown_trans (grown_trans (grown_trans (grownBy_set _ _ 0 _) (grownBy_set _ _ 1 _)) (grownBy_set _ _ 2 _)) (grownBy_set _ _ 3 _)) (grownBy_set _ _ 4 _)) (grownBy_set _ _ 5 _)
def LimOut (w : World) (hs : List Hd) (ms : List Mv) (at_ : Nat) (gr : Bool) (en : Ending) (w' : World) : Prop :=
  Below w.heap.size w w' ∧ ((agrL hs ms = false ∧ en = .returned (.tuple #[vLi0, .int .i64 9])) ∨
    (agrL hs ms = true ∧ ∃ v st ed ma way s, en = .returned (.tuple #[v, .int .i64 0]) ∧ LiAt w' w.heap.size v (valAt st ed ma at_) st ed ma way s ∧ LimF hs ms at_ gr st ed ma way s))

set_option maxRecDepth 100000 in
set_option maxHeartbeats 12800000 in
theorem limit_lo (t : TR) (at_ : Nat) (w : World) (h : t.Ok w) (hv : TV t.hs t.ms) (hat : at_ < 2 * t.hs.length + t.ms.length) :
    Calls Tryz.prog 126 #[t.v, .int .i64 (at_ : Int), .bool false] w (LimOut w t.hs t.ms at_ false) := by
  obtain ⟨A, n, c, B, m, d, hs, ms⟩ := t
  dsimp only [TR.v] at *
  have HOk := Lib.hid h
  have HV := Lib.hid hv
  have HAt := Lib.hid hat
  have HL := Lib.hid h.h.len
  have hat2 : at_ < 100 := by have := hv.lenH; have := hv.lenM; omega
  have hb0 := ((Below.refl w.heap.size w).alloc (Nat.le_refl _) (.cells #[.slice A n c, .slice B m d] 25)).alloc (by simp) (.cells #[.int .i64 0, .slice none 0 0, .slice none 0 0, .slice none 0 0, .int .i64 0, .slice none 0 0] 95)
  have r0 := (Blk.at_new (W := w.alloc (.cells #[.slice A n c, .slice B m d] 25)) (g := w.heap.size + 1) 95 #[.int .i64 0, .slice none 0 0, .slice none 0 0, .slice none 0 0, .int .i64 0, .slice none 0 0] (by simp))
  have t0 := ((Blk.new w 25 #[.slice A n c, .slice B m d]).alloc (.cells #[.int .i64 0, .slice none 0 0, .slice none 0 0, .slice none 0 0, .int .i64 0, .slice none 0 0] 95))
  have HC := Lib.hid (of_any A n c B m d hs ms _ (h.h.below hb0) (h.m.below hb0) hv)
  clear h hv hat
  go_enter Tryz.func126, Tryz.ntmps126
  generalize hW : (w.alloc (.cells #[.slice A n c, .slice B m d] 25)).alloc (.cells #[.int .i64 0, .slice none 0 0, .slice none 0 0, .slice none 0 0, .int .i64 0, .slice none 0 0] 95) = W at *
  have HWE := Lib.hid hW
  clear hW
  have HR0 := Lib.hid r0
  have HT0 := Lib.hid t0
  have HB0 := Lib.hid hb0
  clear r0 t0 hb0
  go_wp2_with fail
  rw [HWE.out]
  refine HC.out.mono ?_; rintro e w1 ⟨p, A', c', rfl, hp, hn, hb1⟩
  have HB1 := Lib.hid (HB0.out.trans (hb1.mono HB0.out.size))
  have HR1 := Lib.hid (HR0.out.below hb1)
  have HT1 := Lib.hid (HT0.out.below hb1)
  have hWs : w.heap.size + 1 < W.heap.size := HR0.out.lt
  have hpw : w.heap.size + 1 < p := by omega
  have HS := Lib.hid (settle_any p (p + 1) A' c' (edges hs ms) (n + 1) w1 hn (small_edges HV.out) (by rw [← HL.out]; exact edges_in HV.out) (by have := HV.out.lenH; have := HL.out; omega))
  have HN1 := Lib.hid hn
  clear hb1 HC HR0 HT0 HB0 hn HWE
  go_wp2_with fail
  refine HS.out.mono ?_
  rintro e w2 hso
  have hlow := hso.low HN1.out HB1.out (by omega)
  have hr2 := HR1.out.grown hso.1 (fun e => by have := (own_lt HN1.out.row e).1; omega)
  have ht2 := HT1.out.grown hso.1 (fun e => by have := (own_lt HN1.out.row e).1; omega)
  have HR2 := Lib.hid hr2
  have HT2 := Lib.hid ht2
  have HLo := Lib.hid hlow
  have z0 := hr2.cell 0
  have z1 := hr2.cell 1
  have z2 := hr2.cell 2
  have z3 := hr2.cell 3
  have z4 := hr2.cell 4
  have z5 := hr2.cell 5
  have f0 := hr2.frozen 0
  have f1 := hr2.frozen 1
  have f2 := hr2.frozen 2
  have f3 := hr2.frozen 3
  have f4 := hr2.frozen 4
  have f5 := hr2.frozen 5
  simp only [List.getElem?_toArray, List.getElem?_cons_zero, List.getElem?_cons_succ] at z0 z1 z2 z3 z4 z5
  have l2 := hr2.lt
  clear hr2 ht2 hlow HS
  obtain ⟨_, es', ha, hs', hn', ⟨rfl, hzz⟩ | ⟨g, S, rfl, hg, _, hsh, hpos⟩⟩ := hso
  case inr =>
    have hag := (settle_no HV.out ha hsh (by rw [HL.out]; exact hpos)).2
    have HA := Lib.hid hag
    clear ha hs' hn' hsh hpos hag hg
    go_wp2
    have hf := blk_set6 HR2.out (.int .i64 0) (.slice none 0 0) (.slice none 0 0) (.slice none 0 0) (.int .i64 0) (.slice none 0 0)
    have x0 := hf.cell 0
    have x1 := hf.cell 1
    have x2 := hf.cell 2
    have x3 := hf.cell 3
    have x4 := hf.cell 4
    have x5 := hf.cell 5
    simp only [List.getElem?_toArray, List.getElem?_cons_zero, List.getElem?_cons_succ] at x0 x1 x2 x3 x4 x5
    exact bodyPost_ret (v := .tuple #[vLi0, .int .i64 9]) (by simp [results, Tryz.results126, go_sem, x0, x1, x2, x3, x4, x5]) rfl ⟨below_set6 HLo.out (by omega) _ _ _ _ _ _, .inl ⟨HA.out, rfl⟩⟩
  case inl =>
    obtain ⟨hz0, hfit, hag⟩ := settle_yes HV.out ha hs' (by rw [HL.out]; exact hzz)
    have HA := Lib.hid hag
    have HBal := Lib.hid (show Bal es' (hs.length + 1) from ⟨hs', hz0⟩)
    have HAl := Lib.hid ha
    have HN2 := Lib.hid hn'
    clear ha hs' hn' hzz hz0 hfit hag z0 z1 z2 z3 z4 z5 f0 f1 f2 f3 f4 f5 l2
    have HRow := Lib.hid (fun (r : Nat) (hr : (Value.slice A' (edges hs ms).length c').ownBlock = some r) => own_lt (g := r) HN1.out.row hr)
    go_wp2
    go_loopw [12] (fun _ wr => ∃ es1, Alike es1 (edges hs ms) ∧ Bal es1 (hs.length + 1) ∧ Net wr p (p + 1) A' c' es1 (n + 1) ∧ Blk wr (w.heap.size + 1) 95 #[.int .i64 0, .slice none 0 0, .slice none 0 0, .slice none 0 0, .int .i64 0, .slice none 0 0] ∧ Blk wr w.heap.size 25 #[.slice A n c, .slice B m d] ∧ Below w.heap.size w wr) (fun _ wr => (roomOf false at_ (Classical.epsilon (fun es1 => Net wr p (p + 1) A' c' es1 (n + 1)))).toNat)
    case atStart => exact ⟨es', HAl.out, HBal.out, HN2.out, HR2.out, HT2.out, HLo.out⟩
    case round =>
      clear HN2 HAl HBal HR2 HT2 HLo HN1 HR1 HT1
      obtain ⟨es1, hal, hbal, hn1, hr1, ht1, hbw⟩ := hrel
      rw [hn1.eps]
      have hle : es1.length = 2 * hs.length + ms.length := by rw [alike_len hal, edges_len]
      have hatl : at_ < es1.length := by rw [hle]; exact HAt.out
      have hee := List.getElem?_eq_getElem hatl
      obtain ⟨g, rfl, hg1, hg2⟩ := hn1.form (by omega)
      obtain ⟨g', off', e2, hrow⟩ := hn1.sat.at_ (by omega)
      have e3 : g = g' ∧ 0 = off' := by simpa using e2
      obtain ⟨rfl, rfl⟩ := e3
      obtain ⟨z0, z1, z2, z3, z4, z5, z6, z7⟩ := Egs.at_ hrow hee
      simp only [Nat.zero_add] at z0 z1 z2 z3 z4 z5 z6 z7
      have hbd := hbal.small.bd _ (List.getElem_mem hatl)
      have hin := inN_alike hal (edges_in HV.out) _ (List.getElem_mem hatl)
      have HE := Lib.hid hee
      have HAl := Lib.hid hal
      have HBal := Lib.hid hbal
      have HN2 := Lib.hid hn1
      have HR2 := Lib.hid hr1
      have HT2 := Lib.hid ht1
      have HLo := Lib.hid hbw
      have HLe := Lib.hid hle
      have HRo := Lib.hid (roomOf_at (gr := false) hee)
      have p1 := hn1.blk.cell 1
      simp only [List.getElem?_toArray, List.getElem?_cons_zero, List.getElem?_cons_succ] at p1
      have hpl := hn1.plt
      clear hal hbal hn1 hr1 ht1 hbw hle hrow e2 hee
      generalize hx : es1[at_] = x at *
      clear hx
      obtain ⟨xi, xf, xt, xl, xh, xa, xb, fl⟩ := x
      dsimp only at *
      obtain ⟨d1, d2, d3, d4⟩ := hbd
      generalize hel : es1.length = ne at *
      go_upto_region 6 with fail
      have bq := (Below.refl wr.heap.size wr).alloc (Nat.le_refl _) (.cells #[.int .i64 xi, .int .i64 xf, .int .i64 xt, .int .i64 xl, .int .i64 xh, .int .i64 (xa : Int), .int .i64 (xb : Int), .int .i64 fl] 186)
      have xq := Blk.new wr 186 #[.int .i64 xi, .int .i64 xf, .int .i64 xt, .int .i64 xl, .int .i64 xh, .int .i64 (xa : Int), .int .i64 (xb : Int), .int .i64 fl]
      have hsz := HLo.out.size
      have hpV : p < wr.heap.size := hpl
      generalize hV : wr.alloc (.cells #[.int .i64 xi, .int .i64 xf, .int .i64 xt, .int .i64 xl, .int .i64 xh, .int .i64 (xa : Int), .int .i64 (xb : Int), .int .i64 fl] 186) = V at *
      clear hV z0 z1 z2 z3 z4 z5 z6 z7 p1
      refine wp_region_preC 18 [(13, 13), (15, 1000)] (fun v => Below V.heap.size V v) (fun ls vs v => (ls 13 = true → ∃ g, vs 13 = .pointer (some ⟨g, 0, none⟩) ∧ V.heap.size ≤ g ∧ Blk v g 3 #[.int .i64 (if ls 15 = true then (xb : Int) else 0)]) ∧ (ls 15 = true → ls 13 = true)) (by kernel_rfl) (by kernel_rfl) (Below.refl _ _) (fun v v' h k => h.trans (k.mono h.size)) (fun v _ => ⟨fun h => (by cases h), fun h => (by cases h)⟩) (fun ls vs v v' _ h k => ⟨fun hl => by
        obtain ⟨g, e, hg, hb⟩ := h.1 hl
        exact ⟨g, e, hg, hb.below k⟩, h.2⟩) ?_
      apply Exists.intro
      refine ⟨?_, ?_, ?_⟩
      · intro V2 hV2
        have xq2 := xq.below hV2
        have y0 := xq2.cell 0
        have y3 := xq2.cell 3
        have y4 := xq2.cell 4
        have y5 := xq2.cell 5
        have y6 := xq2.cell 6
        have y7 := xq2.cell 7
        simp only [List.getElem?_toArray, List.getElem?_cons_zero, List.getElem?_cons_succ] at y0 y3 y4 y5 y6 y7
        have yl := xq2.lt
        have hw1 : IntKind.i64.wrap (fl - xl) = fl - xl := IntWalk.i64_in _ (by omega)
        obtain ⟨xc, xf⟩ := xcell (W := V2)
        simp only [List.take_succ_cons, List.take_nil, qOf, isLoud, List.any_cons, List.any_nil, Nat.reduceBEq, Bool.or_false, Bool.or_true, Nat.reduceAdd, Bool.false_eq_true, if_true, if_false, beq_self_eq_true, Nat.zero_add]
        repeat (first | go_big_quiet_step (fail) | quiet_step (fail))
        exact wpQuiet_nil rfl
      · rintro pp hpp vs v hC ls hI hls hw o ho
        simp only [List.mem_cons, List.not_mem_nil, or_false] at hpp
        rcases hpp with rfl | rfl
        · have h13 : ls 13 = false := hls
          have h15 : ls 15 = false := by
            cases h : ls 15 with
            | false => rfl
            | true => rw [hI.2 h] at h13; cases h13
          have u1 : updB ls 13 13 = true := by simp [updB]
          have u2 : updB ls 13 15 = false := by simp [updB, h15]
          simp only [List.getElem?_cons_succ, List.getElem?_cons_zero, Option.some.injEq] at ho
          subst ho
          simp [loudAt, loudUpon, go_sem, execOp]
          exact ⟨hC.alloc hC.size _, fun _ => ⟨v.heap.size, by simp [upd], hC.size, by rw [u2]; exact Blk.new _ _ _⟩, fun h => by rw [u2] at h; cases h⟩
        · have h13 := hw (13, 13) (by simp) (by kernel_rfl)
          obtain ⟨g, e, hg, hb⟩ := hI.1 h13
          simp only [List.getElem?_cons_succ, List.getElem?_cons_zero, Option.some.injEq] at ho
          have b0 := hb.cell 0
          have b1 := hb.frozen 0
          have b2 := hb.lt
          have u1 : updB ls 15 15 = true := by simp [updB]
          have u2 : updB ls 15 13 = true := by simp [updB, h13]
          simp only [List.getElem?_toArray, List.getElem?_cons_zero] at b0
          subst ho
          simp [loudAt, loudUpon, go_sem, execOp, putsL, Act.put, e, b0, b1]
          exact ⟨hC.setCell (p := ⟨g, 0, none⟩) hg _, fun _ => ⟨g, by simpa [upd] using e, hg, by rw [u1, if_pos rfl]; simpa using hb.set_ 0 (.int .i64 (xb : Int))⟩, fun _ => u2⟩
      rintro ls vs V2 hv2 hI hls
      obtain ⟨gP, e, hgP, hbP⟩ := hI.1 (hls (13, 13) (by simp))
      replace e : vs 13 = .pointer (some ⟨gP, 0, none⟩) := e
      have h15 := hls (15, 1000) (by simp)
      replace h15 : ls 15 = true := h15
      rw [h15, if_pos rfl] at hbP
      clear hls hI
      simp only [putsL, List.foldl_cons, List.foldl_nil, List.drop_succ_cons, List.drop_nil, Act.put, e, List.setIfInBounds_toArray, List.set_cons_succ, List.set_cons_zero, List.set_nil]
      clear e h15
      have HBp := Lib.hid hbP
      have hgl := hbP.lt
      obtain ⟨V3, hV3e⟩ : ∃ V3, V3 = V2 := ⟨_, rfl⟩
      subst hV3e
      have hv3 := hv2
      have BV3 := bq.trans (hv3.mono bq.size)
      have HN3 := Lib.hid (HN2.out.below BV3)
      have HR3 := Lib.hid (HR2.out.below BV3)
      have HT3 := Lib.hid (HT2.out.below BV3)
      have HL3 := Lib.hid (HLo.out.trans (BV3.mono hsz))
      have HX3 := Lib.hid (xq.below hv3)
      have gp0 := hbP.cell 0
      simp only [List.getElem?_toArray, List.getElem?_cons_zero] at gp0
      have hsz3 := BV3.size
      have HGP := Lib.hid (show wr.heap.size < gP from by have := bq.size; have := xq.lt; omega)
      clear hbP hv3 hv2 BV3 HN2 HR2 HT2 HLo hgP bq xq
      generalize hrr : fl - xl = rr at *
      have HRr := Lib.hid hrr
      have hrr0 : 0 ≤ rr := by omega
      have hrr9 : rr ≤ 65536 := by omega
      clear hrr
      by_cases hz : rr = 0
      case pos =>
        subst hz
        go_upto_region 10 with fail
        have HEnd := Lib.hid (lim_end HV.out HAl.out HBal.out HE.out (gr := false) (by simpa using HRr.out))
        have HVal := Lib.hid (valAt_net HAl.out HE.out)
        refine wp_region_preC 4 [(3, 68)] (fun v => Below V3.heap.size V3 v) (fun ls vs v => ls 3 = true → CoAt v V3.heap.size (vs 3) (stOf hs es1) (enOf hs es1) (maOf hs es1)) (by kernel_rfl) (by kernel_rfl) (Below.refl _ _) (fun v v' h k => h.trans (k.mono h.size)) (fun v _ h => by cases h) (fun ls vs v v' _ h k hl => (h hl).below k) ?_
        apply Exists.intro
        refine ⟨?_, ?_, ?_⟩
        · intro V4 hV4
          have xq2 := HX3.out.below hV4
          have y7 := xq2.cell 7
          simp only [List.getElem?_toArray, List.getElem?_cons_zero, List.getElem?_cons_succ] at y7
          have yl := xq2.lt
          obtain ⟨xc, xf⟩ := xcell (W := V4)
          simp only [List.take_succ_cons, List.take_zero, qOf, isLoud, List.any_cons, List.any_nil, Nat.reduceBEq, Bool.or_false, Nat.reduceAdd, Bool.false_eq_true, if_true, if_false, beq_self_eq_true, Nat.zero_add]
          repeat (first | go_big_quiet_step (fail) | quiet_step (fail))
          exact wpQuiet_nil rfl
        · rintro pp hpp vs v hC ls hI hls hw o ho
          simp only [List.mem_cons, List.not_mem_nil, or_false] at hpp
          subst hpp
          have hco := course_any p (p + 1) _ c' es1 (n + 1) n v (HN3.out.below hC) HBal.out.small rfl (by rw [hel, HLe.out, HL.out]; omega) (by have := HV.out.lenH; have := HL.out; omega)
          simp only [List.getElem?_cons_succ, List.getElem?_cons_zero, Option.some.injEq] at ho
          subst ho
          simp [loudAt, loudUpon, go_sem, putsL, Act.put]
          refine hco.mono ?_
          rintro e w' ⟨v5, rfl, h5, hb5⟩
          refine ⟨_, rfl, hC.trans (hb5.mono hC.size), fun _ => ?_⟩
          unfold stOf enOf maOf
          rw [HL.out]
          simpa [upd] using h5.weak hC.size
        rintro ls vs V5 hv5 hI hls
        have hco := hI (hls (3, 68) (by simp))
        have HCo := Lib.hid hco
        obtain ⟨A1, n1, c1, A2, n2, c2, A3, n3, c3, e, _⟩ := hco
        replace e : vs 3 = vCo A1 n1 c1 A2 n2 c2 A3 n3 c3 := e
        clear hls hI
        simp only [putsL, List.foldl_cons, List.foldl_nil, List.drop_succ_cons, List.drop_zero, Act.put, e, List.setIfInBounds_toArray, List.set_cons_succ, List.set_cons_zero]
        rw [e] at HCo
        clear e
        have hr5 := HR3.out.below hv5
        have HR5 := Lib.hid hr5
        have HB5 := Lib.hid (HL3.out.trans (hv5.mono HL3.out.size))
        have z0 := hr5.cell 0
        have z1 := hr5.cell 1
        have z2 := hr5.cell 2
        have z3 := hr5.cell 3
        have z4 := hr5.cell 4
        have z5 := hr5.cell 5
        have f0 := hr5.frozen 0
        have f1 := hr5.frozen 1
        have f2 := hr5.frozen 2
        have f3 := hr5.frozen 3
        have f4 := hr5.frozen 4
        have f5 := hr5.frozen 5
        simp only [List.getElem?_toArray, List.getElem?_cons_zero, List.getElem?_cons_succ] at z0 z1 z2 z3 z4 z5
        have l2 := hr5.lt
        have hV3s := HL3.out.size
        clear hr5 hv5
        go_wp2
        have hf := blk_set6 HR5.out (.int .i64 fl) (.slice A1 n1 c1) (.slice A2 n2 c2) (.slice A3 n3 c3) (.int .i64 0) (.slice none 0 0)
        have x0 := hf.cell 0
        have x1 := hf.cell 1
        have x2 := hf.cell 2
        have x3 := hf.cell 3
        have x4 := hf.cell 4
        have x5 := hf.cell 5
        simp only [List.getElem?_toArray, List.getElem?_cons_zero, List.getElem?_cons_succ] at x0 x1 x2 x3 x4 x5
        refine bodyPost_ret (v := .tuple #[vLi fl A1 n1 c1 A2 n2 c2 A3 n3 c3 0 none 0 0, .int .i64 0]) (by simp [results, Tryz.results126, go_sem, x0, x1, x2, x3, x4, x5]) rfl ⟨below_set6 HB5.out (by omega) _ _ _ _ _ _, .inr ⟨HA.out, _, stOf hs es1, enOf hs es1, maOf hs es1, 0, [], rfl, ?_, HEnd.out⟩⟩
        rw [HVal.out]
        refine ⟨A1, n1, c1, A2, n2, c2, A3, n3, c3, none, 0, 0, rfl, ?_, none, 0, 0, rfl, SAt.nil _ _ _ _, Nat.le_refl _, fun a h => (by cases h)⟩
        exact (HCo.out.grown (grown_set6 V5 (w.heap.size + 1) (.int .i64 fl) (.slice A1 n1 c1) (.slice A2 n2 c2) (.slice A3 n3 c3) (.int .i64 0) (.slice none 0 0)) (fun g hg => by have e2 : w.heap.size + 1 = g := Option.some.inj hg; have := HR3.out.lt; omega)).weak (by omega)
      case neg =>
        have hzb : (rr == 0) = false := by simpa using hz
        have hinN : InN es1 (n + 1) := by rw [← HL.out]; exact inN_alike HAl.out (edges_in HV.out)
        have hfN : xa < n + 1 := by have := HL.out; omega
        have htN : xb < n + 1 := by have := HL.out; omega
        have HP := Lib.hid ((callsIn_wide (n := 3)).1 (path_in 0 p (p + 1) _ c' es1 (n + 1) xa (at_ : Int) (fun v => decide (v = xb)) 147 #[.pointer (some ⟨gP, 0, none⟩)] V3 HN3.out HBal.out.small hinN hfN (by have := HV.out.lenH; have := HL.out; omega) enter_limit1 (fun W v _ hW => limit1_any v gP xb W (Nat.lt_of_lt_of_le hgl hW.size) ((hW.cell (p := ⟨gP, 0, none⟩) hgl).trans gp0))))
        go_wp2_with fail
        refine HP.out.mono ?_
        clear HP
        rintro e V4 ⟨hb4, ⟨H, nH, cH, l, rfl, hl, hway, hfr, hPt, hlt, hn100, hfar⟩ | ⟨gS, S, rfl, hgS, hSf, hSn, hsh, hgw⟩⟩
        case inr =>
          have HN4 := Lib.hid (HN3.out.below hb4)
          have HR4 := Lib.hid (HR3.out.below hb4)
          have HT4 := Lib.hid (HT3.out.below hb4)
          have HL4 := Lib.hid (HL3.out.trans (hb4.mono HL3.out.size))
          have HX4 := Lib.hid (HX3.out.below hb4)
          have HGS := Lib.hid hgS
          have hSt : S xb = false := by
            cases h : S xb with
            | false => rfl
            | true => have := hSn _ htN h; simp at this
          have HEnd := Lib.hid (lim_stuck HV.out HAl.out HBal.out HE.out (gr := false) (by simpa [HRr.out] using (show 0 < rr by omega)) hsh (by simpa using hSf) (by simpa using hSt))
          have HVal := Lib.hid (valAt_net HAl.out HE.out)
          have hsz4 := hb4.size
          clear HN3 HR3 HT3 HX3 hgS hSf hSn hsh hSt hb4 HBp gp0 hgl
          go_upto_region 13 with fail
          have hln : hs.length = n := HL.out
          rw [hln] at HEnd
          generalize hway : (if S n = true then (1 : Int) else 2) = way at HEnd
          generalize hsl : sortI (sideL hs S (!(S n))) = sl at HEnd
          have HW := Lib.hid hway
          have HSl := Lib.hid hsl
          clear hway hsl hln
          refine wp_region_preC 7 [(3, 83), (6, 86)] (fun v => Below V4.heap.size V4 v) (fun ls vs v => (ls 3 = true → CoAt v V4.heap.size (vs 3) (stOf hs es1) (enOf hs es1) (maOf hs es1)) ∧ (ls 6 = true → CuAt v V4.heap.size (vs 6) way sl)) (by kernel_rfl) (by kernel_rfl) (Below.refl _ _) (fun v v' h k => h.trans (k.mono h.size)) (fun v _ => ⟨fun h => (by cases h), fun h => (by cases h)⟩) (fun ls vs v v' _ h k => ⟨fun hl => (h.1 hl).below k, fun hl => (h.2 hl).below k⟩) ?_
          apply Exists.intro
          refine ⟨?_, ?_, ?_⟩
          · intro V5 hV5
            have xq2 := HX4.out.below hV5
            have tq2 := HT4.out.below hV5
            have y7 := xq2.cell 7
            have t0 := tq2.cell 0
            have t1 := tq2.cell 1
            simp only [List.getElem?_toArray, List.getElem?_cons_zero, List.getElem?_cons_succ] at y7 t0 t1
            have yl := xq2.lt
            have tl := tq2.lt
            obtain ⟨xc, xf⟩ := xcell (W := V5)
            simp only [List.take_succ_cons, List.take_zero, qOf, isLoud, List.any_cons, List.any_nil, Nat.reduceBEq, Bool.or_false, Bool.or_true, Nat.reduceAdd, Bool.false_eq_true, if_true, if_false, beq_self_eq_true, Nat.zero_add]
            repeat (first | go_big_quiet_step (fail) | quiet_step (fail))
            exact wpQuiet_nil rfl
          · rintro pp hpp vs v hC ls hI hls hw o ho
            simp only [List.mem_cons, List.not_mem_nil, or_false] at hpp
            rcases hpp with rfl | rfl
            · have hco := course_any p (p + 1) _ c' es1 (n + 1) n v (HN4.out.below hC) HBal.out.small rfl (by rw [hel, HLe.out, HL.out]; omega) (by have := HV.out.lenH; have := HL.out; omega)
              have u2 : updB ls 3 6 = ls 6 := by simp [updB]
              simp only [List.getElem?_cons_succ, List.getElem?_cons_zero, Option.some.injEq] at ho
              subst ho
              simp [loudAt, loudUpon, go_sem, putsL, Act.put]
              refine hco.mono ?_
              rintro e w' ⟨v5, rfl, h5, hb5⟩
              refine ⟨_, rfl, hC.trans (hb5.mono hC.size), fun _ => ?_, fun h6 => ?_⟩
              · unfold stOf enOf maOf
                rw [HL.out]
                simpa [upd] using h5.weak hC.size
              · rw [u2] at h6
                simpa [upd] using (hI.2 h6).below hb5
            · have hcu := cut_any A n c B m d hs gS (n + 1) S v (HOk.out.h.below (HL4.out.trans (hC.mono HL4.out.size))) (by have := HV.out.lenH; have := HL.out; omega) rfl (HGS.out.below hC)
              have u2 : updB ls 6 3 = ls 3 := by simp [updB]
              simp only [List.getElem?_cons_succ, List.getElem?_cons_zero, Option.some.injEq] at ho
              subst ho
              simp [loudAt, loudUpon, go_sem, putsL, Act.put]
              refine hcu.mono ?_
              rintro e w' ⟨v5, rfl, h5, hb5⟩
              rw [HW.out, HSl.out] at h5
              refine ⟨_, rfl, hC.trans (hb5.mono hC.size), fun h3 => ?_, fun _ => ?_⟩
              · rw [u2] at h3
                simpa [upd] using (hI.1 h3).below hb5
              · simpa [upd] using h5.weak hC.size
          rintro ls vs V5 hv5 hI hls
          have hco := hI.1 (hls (3, 83) (by simp))
          have hcu := hI.2 (hls (6, 86) (by simp))
          have HCo := Lib.hid hco
          have HCu := Lib.hid hcu
          obtain ⟨A1, n1, c1, A2, n2, c2, A3, n3, c3, e, _⟩ := hco
          replace e : vs 3 = vCo A1 n1 c1 A2 n2 c2 A3 n3 c3 := e
          obtain ⟨A4, n4, c4, e4, _⟩ := hcu
          replace e4 : vs 6 = .agg #[.int .i64 way, .slice A4 n4 c4] := e4
          clear hls hI
          simp only [putsL, List.foldl_cons, List.foldl_nil, List.drop_succ_cons, List.drop_zero, Act.put, e, e4, List.setIfInBounds_toArray, List.set_cons_succ, List.set_cons_zero]
          rw [e] at HCo
          rw [e4] at HCu
          clear e e4
          have hr5 := HR4.out.below hv5
          have HR5 := Lib.hid hr5
          have HB5 := Lib.hid (HL4.out.trans (hv5.mono HL4.out.size))
          have z0 := hr5.cell 0
          have z1 := hr5.cell 1
          have z2 := hr5.cell 2
          have z3 := hr5.cell 3
          have z4 := hr5.cell 4
          have z5 := hr5.cell 5
          have f0 := hr5.frozen 0
          have f1 := hr5.frozen 1
          have f2 := hr5.frozen 2
          have f3 := hr5.frozen 3
          have f4 := hr5.frozen 4
          have f5 := hr5.frozen 5
          simp only [List.getElem?_toArray, List.getElem?_cons_zero, List.getElem?_cons_succ] at z0 z1 z2 z3 z4 z5
          have l2 := hr5.lt
          have hV4s := HL4.out.size
          have hRl := HR4.out.lt
          clear hr5 hv5
          go_wp2
          have hf := blk_set6 HR5.out (.int .i64 fl) (.slice A1 n1 c1) (.slice A2 n2 c2) (.slice A3 n3 c3) (.int .i64 way) (.slice A4 n4 c4)
          have x0 := hf.cell 0
          have x1 := hf.cell 1
          have x2 := hf.cell 2
          have x3 := hf.cell 3
          have x4 := hf.cell 4
          have x5 := hf.cell 5
          simp only [List.getElem?_toArray, List.getElem?_cons_zero, List.getElem?_cons_succ] at x0 x1 x2 x3 x4 x5
          refine bodyPost_ret (v := .tuple #[vLi fl A1 n1 c1 A2 n2 c2 A3 n3 c3 way A4 n4 c4, .int .i64 0]) (by simp [results, Tryz.results126, go_sem, x0, x1, x2, x3, x4, x5]) rfl ⟨below_set6 HB5.out (by omega) _ _ _ _ _ _, .inr ⟨HA.out, _, stOf hs es1, enOf hs es1, maOf hs es1, way, sl, rfl, ?_, HEnd.out⟩⟩
          rw [HVal.out]
          have hgr := grown_set6 V5 (w.heap.size + 1) (.int .i64 fl) (.slice A1 n1 c1) (.slice A2 n2 c2) (.slice A3 n3 c3) (.int .i64 way) (.slice A4 n4 c4)
          have hlt2 : ∀ g, some (w.heap.size + 1) = some g → g < V4.heap.size := fun g hg => by have e2 : w.heap.size + 1 = g := Option.some.inj hg; omega
          exact ⟨A1, n1, c1, A2, n2, c2, A3, n3, c3, A4, n4, c4, rfl, (HCo.out.grown hgr hlt2).weak (by omega), (HCu.out.grown hgr hlt2).weak (by omega)⟩
        case inl =>
          have hendt : wayEnd xa l = xb := by simpa using hPt
          have hrr1 : 0 < rr := by omega
          have hst := lim_step HBal.out HE.out false (l := l) (by simpa using hway) (by simpa using hfr) (by simpa using hendt) (r := rr) (by simpa using HRr.out.symm) hrr1
          have HWok := Lib.hid (way_ok HBal.out.small hway)
          have HL5 := Lib.hid hl
          have HN4 := Lib.hid (HN3.out.below hb4)
          have HR4 := Lib.hid (HR3.out.below hb4)
          have HT4 := Lib.hid (HT3.out.below hb4)
          have HL4 := Lib.hid (HL3.out.trans (hb4.mono HL3.out.size))
          have HStep := Lib.hid hst
          have hgV3 : g < V3.heap.size := by omega
          have HPu := Lib.hid (push_any p (p + 1) _ c' es1 (n + 1) H nH cH l rr V4 HN4.out HBal.out.small HL5.out (fun a ha e => by
            have h1 := hfar a ha
            have e2 : a.block = g := Option.some.inj e
            omega) hn100 (by omega) (by omega) HWok.out)
          have hgb4 := hb4.size
          clear HN3 HR3 HT3 HX3 hway hfr hPt hlt hfar hl hb4 HBp gp0 hgl hst hendt
          go_wp2_with fail
          refine HPu.out.mono ?_
          rintro e V5 ⟨rfl, hn5, hg5⟩
          have hrow : (Value.slice (some ⟨g, 0, none⟩) es1.length c').ownBlock = some g := rfl
          rw [hrow] at hg5
          obtain ⟨m1, m2, m3, m4, m5, m6⟩ := HStep.out
          have HR5 := Lib.hid (HR4.out.grown hg5 (fun e => by have e2 : g = w.heap.size + 1 := Option.some.inj e; omega))
          have HT5 := Lib.hid (HT4.out.grown hg5 (fun e => by have e2 : g = w.heap.size := Option.some.inj e; omega))
          have HB5 := Lib.hid (HL4.out.grown hg5 HL4.out.size (fun r hr => by have e2 : g = r := Option.some.inj hr; omega))
          have hlen5 : (pushL es1 l (room l rr)).length = es1.length := pushL_len _ _ _
          obtain ⟨g', off', e2, hrow5⟩ := hn5.sat.at_ (by rw [hlen5]; omega)
          have e3 : g = g' ∧ 0 = off' := by simpa using e2
          obtain ⟨rfl, rfl⟩ := e3
          obtain ⟨_, _, _, _, _, _, _, z7⟩ := Egs.at_ hrow5 m3
          rw [Nat.zero_add] at z7
          have hp1 := hn5.blk.cell 1
          simp only [List.getElem?_toArray, List.getElem?_cons_zero, List.getElem?_cons_succ] at hp1
          rw [hlen5, hel] at hp1
          have hpl5 := hn5.plt
          have hgl5 := hrow5.lt
          have hz := hn5.frozen (at_ * 8 + 7)
          have HBm := Lib.hid (hn5.bump m3 ((if false = true then 1 else -1) * room l rr))
          have HM := Lib.hid (show _ ∧ _ ∧ _ ∧ _ from ⟨m4, m5, m6, m1⟩)
          clear hn5 hg5 hrow5 e2 m3 m4 m5 m6 HPu HStep hlen5 hrow
          generalize hmm : room l rr = mm at *
          clear hmm
          have hw1 : IntKind.i64.wrap (-mm) = -mm := IntWalk.i64_in _ (by omega)
          have hw2 : IntKind.i64.wrap (fl + -mm) = fl + -mm := IntWalk.i64_in _ (by omega)
          dsimp only at z7
          go_wp2
          go_roundw
          case rel =>
            refine ⟨bump (pushL es1 l mm) at_ ((if false = true then 1 else -1) * mm), HM.out.2.1.trans HAl.out, HM.out.1, ?_, HR5.out.far (p := ⟨g, at_ * 8 + 7, none⟩) (by show w.heap.size + 1 ≠ g; omega) _, HT5.out.far (p := ⟨g, at_ * 8 + 7, none⟩) (by show w.heap.size ≠ g; omega) _, HB5.out.setCell (p := ⟨g, at_ * 8 + 7, none⟩) (by show w.heap.size ≤ g; omega) _⟩
            have := HBm.out
            simpa using this
          case measure =>
            have hb' : Net (V5.setCell ⟨g, at_ * 8 + 7, none⟩ (.int .i64 (fl + -mm))) p (p + 1) (some ⟨g, 0, none⟩) c' (bump (pushL es1 l mm) at_ ((if false = true then 1 else -1) * mm)) (n + 1) := by
              have := HBm.out
              simpa using this
            rw [hb'.eps]
            have h1 := HRr.out
            have e5 := roomOf_at (gr := false) HM.out.2.2.1
            have e6 := roomOf_at (gr := false) HE.out
            simp [Eg.more] at e5 e6 ⊢
            omega
set_option maxRecDepth 100000 in
set_option maxHeartbeats 12800000 in
theorem limit_hi (t : TR) (at_ : Nat) (w : World) (h : t.Ok w) (hv : TV t.hs t.ms) (hat : at_ < 2 * t.hs.length + t.ms.length) :
    Calls Tryz.prog 126 #[t.v, .int .i64 (at_ : Int), .bool true] w (LimOut w t.hs t.ms at_ true) := by
  obtain ⟨A, n, c, B, m, d, hs, ms⟩ := t
  dsimp only [TR.v] at *
  have HOk := Lib.hid h
  have HV := Lib.hid hv
  have HAt := Lib.hid hat
  have HL := Lib.hid h.h.len
  have hat2 : at_ < 100 := by have := hv.lenH; have := hv.lenM; omega
  have hb0 := ((Below.refl w.heap.size w).alloc (Nat.le_refl _) (.cells #[.slice A n c, .slice B m d] 25)).alloc (by simp) (.cells #[.int .i64 0, .slice none 0 0, .slice none 0 0, .slice none 0 0, .int .i64 0, .slice none 0 0] 95)
  have r0 := (Blk.at_new (W := w.alloc (.cells #[.slice A n c, .slice B m d] 25)) (g := w.heap.size + 1) 95 #[.int .i64 0, .slice none 0 0, .slice none 0 0, .slice none 0 0, .int .i64 0, .slice none 0 0] (by simp))
  have t0 := ((Blk.new w 25 #[.slice A n c, .slice B m d]).alloc (.cells #[.int .i64 0, .slice none 0 0, .slice none 0 0, .slice none 0 0, .int .i64 0, .slice none 0 0] 95))
  have HC := Lib.hid (of_any A n c B m d hs ms _ (h.h.below hb0) (h.m.below hb0) hv)
  clear h hv hat
  go_enter Tryz.func126, Tryz.ntmps126
  generalize hW : (w.alloc (.cells #[.slice A n c, .slice B m d] 25)).alloc (.cells #[.int .i64 0, .slice none 0 0, .slice none 0 0, .slice none 0 0, .int .i64 0, .slice none 0 0] 95) = W at *
  have HWE := Lib.hid hW
  clear hW
  have HR0 := Lib.hid r0
  have HT0 := Lib.hid t0
  have HB0 := Lib.hid hb0
  clear r0 t0 hb0
  go_wp2_with fail
  rw [HWE.out]
  refine HC.out.mono ?_; rintro e w1 ⟨p, A', c', rfl, hp, hn, hb1⟩
  have HB1 := Lib.hid (HB0.out.trans (hb1.mono HB0.out.size))
  have HR1 := Lib.hid (HR0.out.below hb1)
  have HT1 := Lib.hid (HT0.out.below hb1)
  have hWs : w.heap.size + 1 < W.heap.size := HR0.out.lt
  have hpw : w.heap.size + 1 < p := by omega
  have HS := Lib.hid (settle_any p (p + 1) A' c' (edges hs ms) (n + 1) w1 hn (small_edges HV.out) (by rw [← HL.out]; exact edges_in HV.out) (by have := HV.out.lenH; have := HL.out; omega))
  have HN1 := Lib.hid hn
  clear hb1 HC HR0 HT0 HB0 hn HWE
  go_wp2_with fail
  refine HS.out.mono ?_
  rintro e w2 hso
  have hlow := hso.low HN1.out HB1.out (by omega)
  have hr2 := HR1.out.grown hso.1 (fun e => by have := (own_lt HN1.out.row e).1; omega)
  have ht2 := HT1.out.grown hso.1 (fun e => by have := (own_lt HN1.out.row e).1; omega)
  have HR2 := Lib.hid hr2
  have HT2 := Lib.hid ht2
  have HLo := Lib.hid hlow
  have z0 := hr2.cell 0
  have z1 := hr2.cell 1
  have z2 := hr2.cell 2
  have z3 := hr2.cell 3
  have z4 := hr2.cell 4
  have z5 := hr2.cell 5
  have f0 := hr2.frozen 0
  have f1 := hr2.frozen 1
  have f2 := hr2.frozen 2
  have f3 := hr2.frozen 3
  have f4 := hr2.frozen 4
  have f5 := hr2.frozen 5
  simp only [List.getElem?_toArray, List.getElem?_cons_zero, List.getElem?_cons_succ] at z0 z1 z2 z3 z4 z5
  have l2 := hr2.lt
  clear hr2 ht2 hlow HS
  obtain ⟨_, es', ha, hs', hn', ⟨rfl, hzz⟩ | ⟨g, S, rfl, hg, _, hsh, hpos⟩⟩ := hso
  case inr =>
    have hag := (settle_no HV.out ha hsh (by rw [HL.out]; exact hpos)).2
    have HA := Lib.hid hag
    clear ha hs' hn' hsh hpos hag hg
    go_wp2
    have hf := blk_set6 HR2.out (.int .i64 0) (.slice none 0 0) (.slice none 0 0) (.slice none 0 0) (.int .i64 0) (.slice none 0 0)
    have x0 := hf.cell 0
    have x1 := hf.cell 1
    have x2 := hf.cell 2
    have x3 := hf.cell 3
    have x4 := hf.cell 4
    have x5 := hf.cell 5
    simp only [List.getElem?_toArray, List.getElem?_cons_zero, List.getElem?_cons_succ] at x0 x1 x2 x3 x4 x5
    exact bodyPost_ret (v := .tuple #[vLi0, .int .i64 9]) (by simp [results, Tryz.results126, go_sem, x0, x1, x2, x3, x4, x5]) rfl ⟨below_set6 HLo.out (by omega) _ _ _ _ _ _, .inl ⟨HA.out, rfl⟩⟩
  case inl =>
    obtain ⟨hz0, hfit, hag⟩ := settle_yes HV.out ha hs' (by rw [HL.out]; exact hzz)
    have HA := Lib.hid hag
    have HBal := Lib.hid (show Bal es' (hs.length + 1) from ⟨hs', hz0⟩)
    have HAl := Lib.hid ha
    have HN2 := Lib.hid hn'
    clear ha hs' hn' hzz hz0 hfit hag z0 z1 z2 z3 z4 z5 f0 f1 f2 f3 f4 f5 l2
    have HRow := Lib.hid (fun (r : Nat) (hr : (Value.slice A' (edges hs ms).length c').ownBlock = some r) => own_lt (g := r) HN1.out.row hr)
    go_wp2
    go_loopw [12] (fun _ wr => ∃ es1, Alike es1 (edges hs ms) ∧ Bal es1 (hs.length + 1) ∧ Net wr p (p + 1) A' c' es1 (n + 1) ∧ Blk wr (w.heap.size + 1) 95 #[.int .i64 0, .slice none 0 0, .slice none 0 0, .slice none 0 0, .int .i64 0, .slice none 0 0] ∧ Blk wr w.heap.size 25 #[.slice A n c, .slice B m d] ∧ Below w.heap.size w wr) (fun _ wr => (roomOf true at_ (Classical.epsilon (fun es1 => Net wr p (p + 1) A' c' es1 (n + 1)))).toNat)
    case atStart => exact ⟨es', HAl.out, HBal.out, HN2.out, HR2.out, HT2.out, HLo.out⟩
    case round =>
      clear HN2 HAl HBal HR2 HT2 HLo HN1 HR1 HT1
      obtain ⟨es1, hal, hbal, hn1, hr1, ht1, hbw⟩ := hrel
      rw [hn1.eps]
      have hle : es1.length = 2 * hs.length + ms.length := by rw [alike_len hal, edges_len]
      have hatl : at_ < es1.length := by rw [hle]; exact HAt.out
      have hee := List.getElem?_eq_getElem hatl
      obtain ⟨g, rfl, hg1, hg2⟩ := hn1.form (by omega)
      obtain ⟨g', off', e2, hrow⟩ := hn1.sat.at_ (by omega)
      have e3 : g = g' ∧ 0 = off' := by simpa using e2
      obtain ⟨rfl, rfl⟩ := e3
      obtain ⟨z0, z1, z2, z3, z4, z5, z6, z7⟩ := Egs.at_ hrow hee
      simp only [Nat.zero_add] at z0 z1 z2 z3 z4 z5 z6 z7
      have hbd := hbal.small.bd _ (List.getElem_mem hatl)
      have hin := inN_alike hal (edges_in HV.out) _ (List.getElem_mem hatl)
      have HE := Lib.hid hee
      have HAl := Lib.hid hal
      have HBal := Lib.hid hbal
      have HN2 := Lib.hid hn1
      have HR2 := Lib.hid hr1
      have HT2 := Lib.hid ht1
      have HLo := Lib.hid hbw
      have HLe := Lib.hid hle
      have HRo := Lib.hid (roomOf_at (gr := true) hee)
      have p1 := hn1.blk.cell 1
      simp only [List.getElem?_toArray, List.getElem?_cons_zero, List.getElem?_cons_succ] at p1
      have hpl := hn1.plt
      clear hal hbal hn1 hr1 ht1 hbw hle hrow e2 hee
      generalize hx : es1[at_] = x at *
      clear hx
      obtain ⟨xi, xf, xt, xl, xh, xa, xb, fl⟩ := x
      dsimp only at *
      obtain ⟨d1, d2, d3, d4⟩ := hbd
      generalize hel : es1.length = ne at *
      go_upto_region 6 with fail
      have bq := (Below.refl wr.heap.size wr).alloc (Nat.le_refl _) (.cells #[.int .i64 xi, .int .i64 xf, .int .i64 xt, .int .i64 xl, .int .i64 xh, .int .i64 (xa : Int), .int .i64 (xb : Int), .int .i64 fl] 186)
      have xq := Blk.new wr 186 #[.int .i64 xi, .int .i64 xf, .int .i64 xt, .int .i64 xl, .int .i64 xh, .int .i64 (xa : Int), .int .i64 (xb : Int), .int .i64 fl]
      have hsz := HLo.out.size
      have hpV : p < wr.heap.size := hpl
      generalize hV : wr.alloc (.cells #[.int .i64 xi, .int .i64 xf, .int .i64 xt, .int .i64 xl, .int .i64 xh, .int .i64 (xa : Int), .int .i64 (xb : Int), .int .i64 fl] 186) = V at *
      clear hV z0 z1 z2 z3 z4 z5 z6 z7 p1
      refine wp_region_preC 18 [(13, 13), (15, 1000)] (fun v => Below V.heap.size V v) (fun ls vs v => (ls 13 = true → ∃ g, vs 13 = .pointer (some ⟨g, 0, none⟩) ∧ V.heap.size ≤ g ∧ Blk v g 3 #[.int .i64 (if ls 15 = true then (xb : Int) else 0)]) ∧ (ls 15 = true → ls 13 = true)) (by kernel_rfl) (by kernel_rfl) (Below.refl _ _) (fun v v' h k => h.trans (k.mono h.size)) (fun v _ => ⟨fun h => (by cases h), fun h => (by cases h)⟩) (fun ls vs v v' _ h k => ⟨fun hl => by
        obtain ⟨g, e, hg, hb⟩ := h.1 hl
        exact ⟨g, e, hg, hb.below k⟩, h.2⟩) ?_
      apply Exists.intro
      refine ⟨?_, ?_, ?_⟩
      · intro V2 hV2
        have xq2 := xq.below hV2
        have y0 := xq2.cell 0
        have y3 := xq2.cell 3
        have y4 := xq2.cell 4
        have y5 := xq2.cell 5
        have y6 := xq2.cell 6
        have y7 := xq2.cell 7
        simp only [List.getElem?_toArray, List.getElem?_cons_zero, List.getElem?_cons_succ] at y0 y3 y4 y5 y6 y7
        have yl := xq2.lt
        have hw1 : IntKind.i64.wrap (fl - xl) = fl - xl := IntWalk.i64_in _ (by omega)
        obtain ⟨xc, xf⟩ := xcell (W := V2)
        simp only [List.take_succ_cons, List.take_nil, qOf, isLoud, List.any_cons, List.any_nil, Nat.reduceBEq, Bool.or_false, Nat.reduceAdd, Bool.false_eq_true, if_true, if_false, beq_self_eq_true, Nat.zero_add]
        repeat (first | go_big_quiet_step (fail) | quiet_step (fail))
        exact wpQuiet_nil rfl
      · rintro pp hpp vs v hC ls hI hls hw o ho
        simp only [List.mem_cons, List.not_mem_nil, or_false] at hpp
        rcases hpp with rfl | rfl
        · have h13 : ls 13 = false := hls
          have h15 : ls 15 = false := by
            cases h : ls 15 with
            | false => rfl
            | true => rw [hI.2 h] at h13; cases h13
          have u1 : updB ls 13 13 = true := by simp [updB]
          have u2 : updB ls 13 15 = false := by simp [updB, h15]
          simp only [List.getElem?_cons_succ, List.getElem?_cons_zero, Option.some.injEq] at ho
          subst ho
          simp [loudAt, loudUpon, go_sem, execOp]
          exact ⟨hC.alloc hC.size _, fun _ => ⟨v.heap.size, by simp [upd], hC.size, by rw [u2]; exact Blk.new _ _ _⟩, fun h => by rw [u2] at h; cases h⟩
        · have h13 := hw (13, 13) (by simp) (by kernel_rfl)
          obtain ⟨g, e, hg, hb⟩ := hI.1 h13
          simp only [List.getElem?_cons_succ, List.getElem?_cons_zero, Option.some.injEq] at ho
          have b0 := hb.cell 0
          have b1 := hb.frozen 0
          have b2 := hb.lt
          have u1 : updB ls 15 15 = true := by simp [updB]
          have u2 : updB ls 15 13 = true := by simp [updB, h13]
          simp only [List.getElem?_toArray, List.getElem?_cons_zero] at b0
          subst ho
          simp [loudAt, loudUpon, go_sem, execOp, putsL, Act.put, e, b0, b1]
          exact ⟨hC.setCell (p := ⟨g, 0, none⟩) hg _, fun _ => ⟨g, by simpa [upd] using e, hg, by rw [u1, if_pos rfl]; simpa using hb.set_ 0 (.int .i64 (xb : Int))⟩, fun _ => u2⟩
      rintro ls vs V2 hv2 hI hls
      obtain ⟨gP, e, hgP, hbP⟩ := hI.1 (hls (13, 13) (by simp))
      replace e : vs 13 = .pointer (some ⟨gP, 0, none⟩) := e
      have h15 := hls (15, 1000) (by simp)
      replace h15 : ls 15 = true := h15
      rw [h15, if_pos rfl] at hbP
      clear hls hI
      simp only [putsL, List.foldl_cons, List.foldl_nil, List.drop_succ_cons, List.drop_nil, Act.put, e, List.setIfInBounds_toArray, List.set_cons_succ, List.set_cons_zero, List.set_nil]
      clear e h15
      have HBp := Lib.hid hbP
      have hgl := hbP.lt
      go_upto_region 8 with fail
      refine wp_region_preC 17 [(14, 1000)] (fun v => Below V.heap.size V v ∧ gP < v.heap.size) (fun ls _ v => Blk v gP 3 #[.int .i64 (if ls 14 = true then (xa : Int) else (xb : Int))]) (by kernel_rfl) (by kernel_rfl) ⟨hv2, hgl⟩ (fun v v' h k => ⟨h.1.trans (k.mono h.1.size), Nat.lt_of_lt_of_le h.2 k.size⟩) (fun v hv => hbP.below hv) (fun ls vs v v' _ h k => h.below k) ?_
      apply Exists.intro
      refine ⟨?_, ?_, ?_⟩
      · rintro V3 ⟨hV3, _⟩
        have xq2 := xq.below hV3
        have y0 := xq2.cell 0
        have y3 := xq2.cell 3
        have y4 := xq2.cell 4
        have y5 := xq2.cell 5
        have y6 := xq2.cell 6
        have y7 := xq2.cell 7
        simp only [List.getElem?_toArray, List.getElem?_cons_zero, List.getElem?_cons_succ] at y0 y3 y4 y5 y6 y7
        have yl := xq2.lt
        have hw1 : IntKind.i64.wrap (xh - fl) = xh - fl := IntWalk.i64_in _ (by omega)
        obtain ⟨xc, xf⟩ := xcell (W := V3)
        simp only [List.take_succ_cons, List.take_nil, qOf, isLoud, List.any_cons, List.any_nil, Nat.reduceBEq, Bool.or_false, Nat.reduceAdd, Bool.false_eq_true, if_true, if_false, beq_self_eq_true, Nat.zero_add]
        repeat (first | go_big_quiet_step (fail) | quiet_step (fail))
        exact wpQuiet_nil rfl
      · rintro pp hpp vs v ⟨hC, hC2⟩ ls hI hls hw o ho
        simp only [List.mem_cons, List.not_mem_nil, or_false] at hpp
        subst hpp
        have h14 : ls 14 = false := hls
        rw [h14, if_neg (by decide)] at hI
        have b0 := hI.cell 0
        have b1 := hI.frozen 0
        have u1 : updB ls 14 14 = true := by simp [updB]
        simp only [List.getElem?_toArray, List.getElem?_cons_zero] at b0
        simp only [List.getElem?_cons_succ, List.getElem?_cons_zero, Option.some.injEq] at ho
        subst ho
        simp [loudAt, loudUpon, go_sem, execOp, putsL, Act.put, b0, b1]
        refine ⟨⟨hC.setCell (p := ⟨gP, 0, none⟩) hgP _, hC2⟩, ?_⟩
        rw [u1, if_pos rfl]
        simpa using hI.set_ 0 (.int .i64 (xa : Int))
      clear hbP hgl HBp
      rintro ls2 vs2 V3 ⟨hv3, hgl⟩ hbP hls
      have h14 := hls (14, 1000) (by simp)
      replace h14 : ls2 14 = true := h14
      rw [h14, if_pos rfl] at hbP
      clear hls h14
      simp only [putsL, List.foldl_cons, List.foldl_nil, List.drop_succ_cons, List.drop_nil, Act.put, List.setIfInBounds_toArray, List.set_cons_succ, List.set_nil]
      have HBp := Lib.hid hbP
      have BV3 := bq.trans (hv3.mono bq.size)
      have HN3 := Lib.hid (HN2.out.below BV3)
      have HR3 := Lib.hid (HR2.out.below BV3)
      have HT3 := Lib.hid (HT2.out.below BV3)
      have HL3 := Lib.hid (HLo.out.trans (BV3.mono hsz))
      have HX3 := Lib.hid (xq.below hv3)
      have gp0 := hbP.cell 0
      simp only [List.getElem?_toArray, List.getElem?_cons_zero] at gp0
      have hsz3 := BV3.size
      have HGP := Lib.hid (show wr.heap.size < gP from by have := bq.size; have := xq.lt; omega)
      clear hbP hv3 hv2 BV3 HN2 HR2 HT2 HLo hgP bq xq
      generalize hrr : xh - fl = rr at *
      have HRr := Lib.hid hrr
      have hrr0 : 0 ≤ rr := by omega
      have hrr9 : rr ≤ 65536 := by omega
      clear hrr
      by_cases hz : rr = 0
      case pos =>
        subst hz
        go_upto_region 10 with fail
        have HEnd := Lib.hid (lim_end HV.out HAl.out HBal.out HE.out (gr := true) (by simpa using HRr.out))
        have HVal := Lib.hid (valAt_net HAl.out HE.out)
        refine wp_region_preC 4 [(3, 68)] (fun v => Below V3.heap.size V3 v) (fun ls vs v => ls 3 = true → CoAt v V3.heap.size (vs 3) (stOf hs es1) (enOf hs es1) (maOf hs es1)) (by kernel_rfl) (by kernel_rfl) (Below.refl _ _) (fun v v' h k => h.trans (k.mono h.size)) (fun v _ h => by cases h) (fun ls vs v v' _ h k hl => (h hl).below k) ?_
        apply Exists.intro
        refine ⟨?_, ?_, ?_⟩
        · intro V4 hV4
          have xq2 := HX3.out.below hV4
          have y7 := xq2.cell 7
          simp only [List.getElem?_toArray, List.getElem?_cons_zero, List.getElem?_cons_succ] at y7
          have yl := xq2.lt
          obtain ⟨xc, xf⟩ := xcell (W := V4)
          simp only [List.take_succ_cons, List.take_zero, qOf, isLoud, List.any_cons, List.any_nil, Nat.reduceBEq, Bool.or_false, Nat.reduceAdd, Bool.false_eq_true, if_true, if_false, beq_self_eq_true, Nat.zero_add]
          repeat (first | go_big_quiet_step (fail) | quiet_step (fail))
          exact wpQuiet_nil rfl
        · rintro pp hpp vs v hC ls hI hls hw o ho
          simp only [List.mem_cons, List.not_mem_nil, or_false] at hpp
          subst hpp
          have hco := course_any p (p + 1) _ c' es1 (n + 1) n v (HN3.out.below hC) HBal.out.small rfl (by rw [hel, HLe.out, HL.out]; omega) (by have := HV.out.lenH; have := HL.out; omega)
          simp only [List.getElem?_cons_succ, List.getElem?_cons_zero, Option.some.injEq] at ho
          subst ho
          simp [loudAt, loudUpon, go_sem, putsL, Act.put]
          refine hco.mono ?_
          rintro e w' ⟨v5, rfl, h5, hb5⟩
          refine ⟨_, rfl, hC.trans (hb5.mono hC.size), fun _ => ?_⟩
          unfold stOf enOf maOf
          rw [HL.out]
          simpa [upd] using h5.weak hC.size
        rintro ls vs V5 hv5 hI hls
        have hco := hI (hls (3, 68) (by simp))
        have HCo := Lib.hid hco
        obtain ⟨A1, n1, c1, A2, n2, c2, A3, n3, c3, e, _⟩ := hco
        replace e : vs 3 = vCo A1 n1 c1 A2 n2 c2 A3 n3 c3 := e
        clear hls hI
        simp only [putsL, List.foldl_cons, List.foldl_nil, List.drop_succ_cons, List.drop_zero, Act.put, e, List.setIfInBounds_toArray, List.set_cons_succ, List.set_cons_zero]
        rw [e] at HCo
        clear e
        have hr5 := HR3.out.below hv5
        have HR5 := Lib.hid hr5
        have HB5 := Lib.hid (HL3.out.trans (hv5.mono HL3.out.size))
        have z0 := hr5.cell 0
        have z1 := hr5.cell 1
        have z2 := hr5.cell 2
        have z3 := hr5.cell 3
        have z4 := hr5.cell 4
        have z5 := hr5.cell 5
        have f0 := hr5.frozen 0
        have f1 := hr5.frozen 1
        have f2 := hr5.frozen 2
        have f3 := hr5.frozen 3
        have f4 := hr5.frozen 4
        have f5 := hr5.frozen 5
        simp only [List.getElem?_toArray, List.getElem?_cons_zero, List.getElem?_cons_succ] at z0 z1 z2 z3 z4 z5
        have l2 := hr5.lt
        have hV3s := HL3.out.size
        clear hr5 hv5
        go_wp2
        have hf := blk_set6 HR5.out (.int .i64 fl) (.slice A1 n1 c1) (.slice A2 n2 c2) (.slice A3 n3 c3) (.int .i64 0) (.slice none 0 0)
        have x0 := hf.cell 0
        have x1 := hf.cell 1
        have x2 := hf.cell 2
        have x3 := hf.cell 3
        have x4 := hf.cell 4
        have x5 := hf.cell 5
        simp only [List.getElem?_toArray, List.getElem?_cons_zero, List.getElem?_cons_succ] at x0 x1 x2 x3 x4 x5
        refine bodyPost_ret (v := .tuple #[vLi fl A1 n1 c1 A2 n2 c2 A3 n3 c3 0 none 0 0, .int .i64 0]) (by simp [results, Tryz.results126, go_sem, x0, x1, x2, x3, x4, x5]) rfl ⟨below_set6 HB5.out (by omega) _ _ _ _ _ _, .inr ⟨HA.out, _, stOf hs es1, enOf hs es1, maOf hs es1, 0, [], rfl, ?_, HEnd.out⟩⟩
        rw [HVal.out]
        refine ⟨A1, n1, c1, A2, n2, c2, A3, n3, c3, none, 0, 0, rfl, ?_, none, 0, 0, rfl, SAt.nil _ _ _ _, Nat.le_refl _, fun a h => (by cases h)⟩
        exact (HCo.out.grown (grown_set6 V5 (w.heap.size + 1) (.int .i64 fl) (.slice A1 n1 c1) (.slice A2 n2 c2) (.slice A3 n3 c3) (.int .i64 0) (.slice none 0 0)) (fun g hg => by have e2 : w.heap.size + 1 = g := Option.some.inj hg; have := HR3.out.lt; omega)).weak (by omega)
      case neg =>
        have hzb : (rr == 0) = false := by simpa using hz
        have hinN : InN es1 (n + 1) := by rw [← HL.out]; exact inN_alike HAl.out (edges_in HV.out)
        have hfN : xb < n + 1 := by have := HL.out; omega
        have htN : xa < n + 1 := by have := HL.out; omega
        have HP := Lib.hid ((callsIn_wide (n := 3)).1 (path_in 0 p (p + 1) _ c' es1 (n + 1) xb (at_ : Int) (fun v => decide (v = xa)) 147 #[.pointer (some ⟨gP, 0, none⟩)] V3 HN3.out HBal.out.small hinN hfN (by have := HV.out.lenH; have := HL.out; omega) enter_limit1 (fun W v _ hW => limit1_any v gP xa W (Nat.lt_of_lt_of_le hgl hW.size) ((hW.cell (p := ⟨gP, 0, none⟩) hgl).trans gp0))))
        go_wp2_with fail
        refine HP.out.mono ?_
        clear HP
        rintro e V4 ⟨hb4, ⟨H, nH, cH, l, rfl, hl, hway, hfr, hPt, hlt, hn100, hfar⟩ | ⟨gS, S, rfl, hgS, hSf, hSn, hsh, hgw⟩⟩
        case inr =>
          have HN4 := Lib.hid (HN3.out.below hb4)
          have HR4 := Lib.hid (HR3.out.below hb4)
          have HT4 := Lib.hid (HT3.out.below hb4)
          have HL4 := Lib.hid (HL3.out.trans (hb4.mono HL3.out.size))
          have HX4 := Lib.hid (HX3.out.below hb4)
          have HGS := Lib.hid hgS
          have hSt : S xa = false := by
            cases h : S xa with
            | false => rfl
            | true => have := hSn _ htN h; simp at this
          have HEnd := Lib.hid (lim_stuck HV.out HAl.out HBal.out HE.out (gr := true) (by simpa [HRr.out] using (show 0 < rr by omega)) hsh (by simpa using hSf) (by simpa using hSt))
          have HVal := Lib.hid (valAt_net HAl.out HE.out)
          have hsz4 := hb4.size
          clear HN3 HR3 HT3 HX3 hgS hSf hSn hsh hSt hb4 HBp gp0 hgl
          go_upto_region 13 with fail
          have hln : hs.length = n := HL.out
          rw [hln] at HEnd
          generalize hway : (if S n = true then (1 : Int) else 2) = way at HEnd
          generalize hsl : sortI (sideL hs S (!(S n))) = sl at HEnd
          have HW := Lib.hid hway
          have HSl := Lib.hid hsl
          clear hway hsl hln
          refine wp_region_preC 7 [(3, 83), (6, 86)] (fun v => Below V4.heap.size V4 v) (fun ls vs v => (ls 3 = true → CoAt v V4.heap.size (vs 3) (stOf hs es1) (enOf hs es1) (maOf hs es1)) ∧ (ls 6 = true → CuAt v V4.heap.size (vs 6) way sl)) (by kernel_rfl) (by kernel_rfl) (Below.refl _ _) (fun v v' h k => h.trans (k.mono h.size)) (fun v _ => ⟨fun h => (by cases h), fun h => (by cases h)⟩) (fun ls vs v v' _ h k => ⟨fun hl => (h.1 hl).below k, fun hl => (h.2 hl).below k⟩) ?_
          apply Exists.intro
          refine ⟨?_, ?_, ?_⟩
          · intro V5 hV5
            have xq2 := HX4.out.below hV5
            have tq2 := HT4.out.below hV5
            have y7 := xq2.cell 7
            have t0 := tq2.cell 0
            have t1 := tq2.cell 1
            simp only [List.getElem?_toArray, List.getElem?_cons_zero, List.getElem?_cons_succ] at y7 t0 t1
            have yl := xq2.lt
            have tl := tq2.lt
            obtain ⟨xc, xf⟩ := xcell (W := V5)
            simp only [List.take_succ_cons, List.take_zero, qOf, isLoud, List.any_cons, List.any_nil, Nat.reduceBEq, Bool.or_false, Bool.or_true, Nat.reduceAdd, Bool.false_eq_true, if_true, if_false, beq_self_eq_true, Nat.zero_add]
            repeat (first | go_big_quiet_step (fail) | quiet_step (fail))
            exact wpQuiet_nil rfl
          · rintro pp hpp vs v hC ls hI hls hw o ho
            simp only [List.mem_cons, List.not_mem_nil, or_false] at hpp
            rcases hpp with rfl | rfl
            · have hco := course_any p (p + 1) _ c' es1 (n + 1) n v (HN4.out.below hC) HBal.out.small rfl (by rw [hel, HLe.out, HL.out]; omega) (by have := HV.out.lenH; have := HL.out; omega)
              have u2 : updB ls 3 6 = ls 6 := by simp [updB]
              simp only [List.getElem?_cons_succ, List.getElem?_cons_zero, Option.some.injEq] at ho
              subst ho
              simp [loudAt, loudUpon, go_sem, putsL, Act.put]
              refine hco.mono ?_
              rintro e w' ⟨v5, rfl, h5, hb5⟩
              refine ⟨_, rfl, hC.trans (hb5.mono hC.size), fun _ => ?_, fun h6 => ?_⟩
              · unfold stOf enOf maOf
                rw [HL.out]
                simpa [upd] using h5.weak hC.size
              · rw [u2] at h6
                simpa [upd] using (hI.2 h6).below hb5
            · have hcu := cut_any A n c B m d hs gS (n + 1) S v (HOk.out.h.below (HL4.out.trans (hC.mono HL4.out.size))) (by have := HV.out.lenH; have := HL.out; omega) rfl (HGS.out.below hC)
              have u2 : updB ls 6 3 = ls 3 := by simp [updB]
              simp only [List.getElem?_cons_succ, List.getElem?_cons_zero, Option.some.injEq] at ho
              subst ho
              simp [loudAt, loudUpon, go_sem, putsL, Act.put]
              refine hcu.mono ?_
              rintro e w' ⟨v5, rfl, h5, hb5⟩
              rw [HW.out, HSl.out] at h5
              refine ⟨_, rfl, hC.trans (hb5.mono hC.size), fun h3 => ?_, fun _ => ?_⟩
              · rw [u2] at h3
                simpa [upd] using (hI.1 h3).below hb5
              · simpa [upd] using h5.weak hC.size
          rintro ls vs V5 hv5 hI hls
          have hco := hI.1 (hls (3, 83) (by simp))
          have hcu := hI.2 (hls (6, 86) (by simp))
          have HCo := Lib.hid hco
          have HCu := Lib.hid hcu
          obtain ⟨A1, n1, c1, A2, n2, c2, A3, n3, c3, e, _⟩ := hco
          replace e : vs 3 = vCo A1 n1 c1 A2 n2 c2 A3 n3 c3 := e
          obtain ⟨A4, n4, c4, e4, _⟩ := hcu
          replace e4 : vs 6 = .agg #[.int .i64 way, .slice A4 n4 c4] := e4
          clear hls hI
          simp only [putsL, List.foldl_cons, List.foldl_nil, List.drop_succ_cons, List.drop_zero, Act.put, e, e4, List.setIfInBounds_toArray, List.set_cons_succ, List.set_cons_zero]
          rw [e] at HCo
          rw [e4] at HCu
          clear e e4
          have hr5 := HR4.out.below hv5
          have HR5 := Lib.hid hr5
          have HB5 := Lib.hid (HL4.out.trans (hv5.mono HL4.out.size))
          have z0 := hr5.cell 0
          have z1 := hr5.cell 1
          have z2 := hr5.cell 2
          have z3 := hr5.cell 3
          have z4 := hr5.cell 4
          have z5 := hr5.cell 5
          have f0 := hr5.frozen 0
          have f1 := hr5.frozen 1
          have f2 := hr5.frozen 2
          have f3 := hr5.frozen 3
          have f4 := hr5.frozen 4
          have f5 := hr5.frozen 5
          simp only [List.getElem?_toArray, List.getElem?_cons_zero, List.getElem?_cons_succ] at z0 z1 z2 z3 z4 z5
          have l2 := hr5.lt
          have hV4s := HL4.out.size
          have hRl := HR4.out.lt
          clear hr5 hv5
          go_wp2
          have hf := blk_set6 HR5.out (.int .i64 fl) (.slice A1 n1 c1) (.slice A2 n2 c2) (.slice A3 n3 c3) (.int .i64 way) (.slice A4 n4 c4)
          have x0 := hf.cell 0
          have x1 := hf.cell 1
          have x2 := hf.cell 2
          have x3 := hf.cell 3
          have x4 := hf.cell 4
          have x5 := hf.cell 5
          simp only [List.getElem?_toArray, List.getElem?_cons_zero, List.getElem?_cons_succ] at x0 x1 x2 x3 x4 x5
          refine bodyPost_ret (v := .tuple #[vLi fl A1 n1 c1 A2 n2 c2 A3 n3 c3 way A4 n4 c4, .int .i64 0]) (by simp [results, Tryz.results126, go_sem, x0, x1, x2, x3, x4, x5]) rfl ⟨below_set6 HB5.out (by omega) _ _ _ _ _ _, .inr ⟨HA.out, _, stOf hs es1, enOf hs es1, maOf hs es1, way, sl, rfl, ?_, HEnd.out⟩⟩
          rw [HVal.out]
          have hgr := grown_set6 V5 (w.heap.size + 1) (.int .i64 fl) (.slice A1 n1 c1) (.slice A2 n2 c2) (.slice A3 n3 c3) (.int .i64 way) (.slice A4 n4 c4)
          have hlt2 : ∀ g, some (w.heap.size + 1) = some g → g < V4.heap.size := fun g hg => by have e2 : w.heap.size + 1 = g := Option.some.inj hg; omega
          exact ⟨A1, n1, c1, A2, n2, c2, A3, n3, c3, A4, n4, c4, rfl, (HCo.out.grown hgr hlt2).weak (by omega), (HCu.out.grown hgr hlt2).weak (by omega)⟩
        case inl =>
          have hendt : wayEnd xb l = xa := by simpa using hPt
          have hrr1 : 0 < rr := by omega
          have hst := lim_step HBal.out HE.out true (l := l) (by simpa using hway) (by simpa using hfr) (by simpa using hendt) (r := rr) (by simpa using HRr.out.symm) hrr1
          have HWok := Lib.hid (way_ok HBal.out.small hway)
          have HL5 := Lib.hid hl
          have HN4 := Lib.hid (HN3.out.below hb4)
          have HR4 := Lib.hid (HR3.out.below hb4)
          have HT4 := Lib.hid (HT3.out.below hb4)
          have HL4 := Lib.hid (HL3.out.trans (hb4.mono HL3.out.size))
          have HStep := Lib.hid hst
          have hgV3 : g < V3.heap.size := by omega
          have HPu := Lib.hid (push_any p (p + 1) _ c' es1 (n + 1) H nH cH l rr V4 HN4.out HBal.out.small HL5.out (fun a ha e => by
            have h1 := hfar a ha
            have e2 : a.block = g := Option.some.inj e
            omega) hn100 (by omega) (by omega) HWok.out)
          have hgb4 := hb4.size
          clear HN3 HR3 HT3 HX3 hway hfr hPt hlt hfar hl hb4 HBp gp0 hgl hst hendt
          go_wp2_with fail
          refine HPu.out.mono ?_
          rintro e V5 ⟨rfl, hn5, hg5⟩
          have hrow : (Value.slice (some ⟨g, 0, none⟩) es1.length c').ownBlock = some g := rfl
          rw [hrow] at hg5
          obtain ⟨m1, m2, m3, m4, m5, m6⟩ := HStep.out
          have HR5 := Lib.hid (HR4.out.grown hg5 (fun e => by have e2 : g = w.heap.size + 1 := Option.some.inj e; omega))
          have HT5 := Lib.hid (HT4.out.grown hg5 (fun e => by have e2 : g = w.heap.size := Option.some.inj e; omega))
          have HB5 := Lib.hid (HL4.out.grown hg5 HL4.out.size (fun r hr => by have e2 : g = r := Option.some.inj hr; omega))
          have hlen5 : (pushL es1 l (room l rr)).length = es1.length := pushL_len _ _ _
          obtain ⟨g', off', e2, hrow5⟩ := hn5.sat.at_ (by rw [hlen5]; omega)
          have e3 : g = g' ∧ 0 = off' := by simpa using e2
          obtain ⟨rfl, rfl⟩ := e3
          obtain ⟨_, _, _, _, _, _, _, z7⟩ := Egs.at_ hrow5 m3
          rw [Nat.zero_add] at z7
          have hp1 := hn5.blk.cell 1
          simp only [List.getElem?_toArray, List.getElem?_cons_zero, List.getElem?_cons_succ] at hp1
          rw [hlen5, hel] at hp1
          have hpl5 := hn5.plt
          have hgl5 := hrow5.lt
          have hz := hn5.frozen (at_ * 8 + 7)
          have HBm := Lib.hid (hn5.bump m3 ((if true = true then 1 else -1) * room l rr))
          have HM := Lib.hid (show _ ∧ _ ∧ _ ∧ _ from ⟨m4, m5, m6, m1⟩)
          clear hn5 hg5 hrow5 e2 m3 m4 m5 m6 HPu HStep hlen5 hrow
          generalize hmm : room l rr = mm at *
          clear hmm
          have hw1 : IntKind.i64.wrap (mm) = mm := IntWalk.i64_in _ (by omega)
          have hw2 : IntKind.i64.wrap (fl + mm) = fl + mm := IntWalk.i64_in _ (by omega)
          dsimp only at z7
          go_wp2
          go_roundw
          case rel =>
            refine ⟨bump (pushL es1 l mm) at_ ((if true = true then 1 else -1) * mm), HM.out.2.1.trans HAl.out, HM.out.1, ?_, HR5.out.far (p := ⟨g, at_ * 8 + 7, none⟩) (by show w.heap.size + 1 ≠ g; omega) _, HT5.out.far (p := ⟨g, at_ * 8 + 7, none⟩) (by show w.heap.size ≠ g; omega) _, HB5.out.setCell (p := ⟨g, at_ * 8 + 7, none⟩) (by show w.heap.size ≤ g; omega) _⟩
            have := HBm.out
            simpa using this
          case measure =>
            have hb' : Net (V5.setCell ⟨g, at_ * 8 + 7, none⟩ (.int .i64 (fl + mm))) p (p + 1) (some ⟨g, 0, none⟩) c' (bump (pushL es1 l mm) at_ ((if true = true then 1 else -1) * mm)) (n + 1) := by
              have := HBm.out
              simpa using this
            rw [hb'.eps]
            have h1 := HRr.out
            have e5 := roomOf_at (gr := true) HM.out.2.2.1
            have e6 := roomOf_at (gr := true) HE.out
            simp [Eg.more] at e5 e6 ⊢
            omega
end Go.Proofs.YtighfmgkoepfkaaGreat

namespace Go.Proofs.YtighfmgkoepfkaaGreat
open Go.RowKit

/-- The error of something of a trade, and where it stands. -/
def plE (hs : List Hd) (ms : List Mv) (kind id : Int) : Int := if tcheck hs ms ≠ 0 then tcheck hs ms else placeE hs ms kind id
def plN (hs : List Hd) (ms : List Mv) (kind id : Int) : Nat := if plE hs ms kind id = 0 then placeN hs ms kind id else 0
theorem plE_zero {hs : List Hd} {ms : List Mv} {kind id : Int} (h : plE hs ms kind id = 0) : TV hs ms ∧ placeE hs ms kind id = 0 ∧ plN hs ms kind id = placeN hs ms kind id := by
  refine ⟨?_, ?_, by unfold plN; rw [if_pos h]⟩
  · unfold plE at h
    split at h
    · rename_i c; exact absurd h c
    · rename_i c; exact tcheck_zero.1 (Classical.byContradiction c)
  · unfold plE at h
    split at h
    · rename_i c; exact absurd h c
    · exact h
abbrev vAt (kind id : Int) : Value := .agg #[.int .i64 kind, .int .i64 id]
theorem pl_no {hs : List Hd} {ms : List Mv} {kind id e : Int} (h : plE hs ms kind id = e) (he : e ≠ 0) : plN hs ms kind id = 0 := by unfold plN; rw [h, if_neg he]
set_option maxRecDepth 100000 in
set_option maxHeartbeats 3200000 in
theorem place_any (t : TR) (kind id : Int) (w : World) (h : t.Ok w) :
    Calls Tryz.prog 87 #[t.v, vAt kind id] w fun e w' => e = .returned (.tuple #[.int .i64 (plN t.hs t.ms kind id : Int), .int .i64 (plE t.hs t.ms kind id)]) ∧ Below w.heap.size w w' := by
  have hb0 := ((Below.refl w.heap.size w).alloc (Nat.le_refl _) (.cells #[.slice t.A t.n t.c, .slice t.B t.m t.d] 25)).alloc (by simp) (.cells #[.int .i64 kind, .int .i64 id] 83)
  have HCk := Lib.hid (Check_any t _ (h.below hb0))
  obtain ⟨A, n, c, B, m, d, hs, ms⟩ := t
  dsimp only [TR.v] at *
  have HOk := Lib.hid h
  have HLn := Lib.hid h.h.len
  have hn := h.n_le
  have hm := h.m_le
  have t0 := ((Blk.new w 25 #[.slice A n c, .slice B m d]).alloc (.cells #[.int .i64 kind, .int .i64 id] 83))
  have a0 := (Blk.at_new (W := w.alloc (.cells #[.slice A n c, .slice B m d] 25)) (g := w.heap.size + 1) 83 #[.int .i64 kind, .int .i64 id] (by simp))
  clear h
  generalize hck : tcheck hs ms = ck at *
  have HTc := Lib.hid hck
  clear hck
  go_enter Tryz.func87, Tryz.ntmps87
  generalize hW : (w.alloc (.cells #[.slice A n c, .slice B m d] 25)).alloc (.cells #[.int .i64 kind, .int .i64 id] 83) = W at *
  have HWE := Lib.hid hW
  clear hW
  go_wp2_with fail
  rw [HWE.out]
  refine HCk.out.mono ?_; rintro e w1 ⟨rfl, hb1⟩
  have HB1 := Lib.hid (hb0.trans (hb1.mono hb0.size))
  have t1 := t0.below hb1
  have a1 := a0.below hb1
  have HT1 := Lib.hid t1
  have HA1 := Lib.hid a1
  clear HCk hb0 hb1 t0 a0 HWE
  have y0 := t1.cell 0
  have y1 := t1.cell 1
  have z0 := a1.cell 0
  have z1 := a1.cell 1
  simp only [List.getElem?_toArray, List.getElem?_cons_zero, List.getElem?_cons_succ] at y0 y1 z0 z1
  have l0 := t1.lt
  have l1 := a1.lt
  clear t1 a1
  by_cases hz : ck = 0
  case neg =>
    have hz1 : (ck != 0) = true := by simpa using hz
    have HE := Lib.hid (show plE hs ms kind id = ck by unfold plE; rw [HTc.out, if_pos hz])
    have HN := Lib.hid (pl_no HE.out hz)
    go_wp2
    exact bodyPost_ret (v := .tuple #[.int .i64 0, .int .i64 ck]) (by simp [results, Tryz.results87, go_sem]) rfl ⟨by rw [HE.out, HN.out]; rfl, HB1.out⟩
  case pos =>
    subst hz
    have hv := tcheck_zero.1 HTc.out
    have hn9 : n ≤ 9 := by rw [← HLn.out]; exact hv.lenH
    have hml : ms.length ≤ 24 := hv.lenM
    have HE := Lib.hid (show plE hs ms kind id = placeE hs ms kind id by unfold plE; rw [HTc.out, if_neg (by decide)])
    clear hv
    have HMv := Lib.hid (fun W (hW : Below w.heap.size w W) => move_any A n c B m d ms id W (HOk.out.m.below hW) hm)
    have HHd := Lib.hid (fun W (hW : Below w.heap.size w W) => holder_any A n c B m d hs id W (HOk.out.h.below hW) hn)
    /- KINDS -/
    by_cases k1 : kind = 1
    case pos =>
      subst k1
      by_cases hp : posM ms id < ms.length
      case pos =>
        have hq : posP (fun m => m.id == id) ms = ((posM ms id : Nat) : Int) := by rw [posP_id, if_pos hp]
        rw [hq] at HMv
        clear hq
        have HPe := Lib.hid (show placeE hs ms 1 id = 0 by unfold placeE; rw [if_pos rfl, if_pos hp])
        have HNn := Lib.hid (show plN hs ms 1 id = placeN hs ms 1 id by unfold plN; rw [HE.out, HPe.out, if_pos rfl])
        have HNv := Lib.hid (show placeN hs ms 1 id = 2 * hs.length + posM ms id by unfold placeN; rw [if_pos rfl])
        generalize posM ms id = k at *
        have hk9 : k ≤ 24 := by have := HLn.out; omega
        go_wp2
        obtain ⟨xc, xf⟩ := xcell (W := w1)
        refine wp_region_quiet_tail 10 (by kernel_rfl) (by kernel_rfl) ?_
        simp only [List.take_succ_cons, List.take_zero, List.drop_succ_cons, List.drop_zero]
        repeat (first | go_big_quiet_step ((go_at_call 125; with_reducible refine calls_ext (HMv.out _ ?_); exact HB1.out.trans ((Ext.below _).mono HB1.out.size))) | quiet_step ((go_at_call 125; with_reducible refine calls_ext (HMv.out _ ?_); exact HB1.out.trans ((Ext.below _).mono HB1.out.size))))
        refine wpQuiet_nil ?_
        intro w2 hb2
        go_wp2
        refine bodyPost_ret (v := .tuple #[.int .i64 (2 * (n : Int) + (k : Int)), .int .i64 0]) (by simp [results, Tryz.results87, go_sem]) rfl ⟨?_, HB1.out.trans (hb2.mono HB1.out.size)⟩
        rw [HE.out, HPe.out, HNn.out, HNv.out]
        have e3 : 2 * (n : Int) + (k : Int) = ((2 * hs.length + k : Nat) : Int) := by have := HLn.out; omega
        rw [e3]
      case neg =>
        have hq : posP (fun m => m.id == id) ms = (-1) := by rw [posP_id, if_neg hp]
        rw [hq] at HMv
        clear hq
        have HPe := Lib.hid (show placeE hs ms 1 id = 5 by unfold placeE; rw [if_pos rfl, if_neg hp])
        have HNn := Lib.hid (pl_no (HE.out.trans HPe.out) (by decide))
        go_wp2
        obtain ⟨xc, xf⟩ := xcell (W := w1)
        refine wp_region_quiet_tail 10 (by kernel_rfl) (by kernel_rfl) ?_
        simp only [List.take_succ_cons, List.take_zero, List.drop_succ_cons, List.drop_zero]
        repeat (first | go_big_quiet_step ((go_at_call 125; with_reducible refine calls_ext (HMv.out _ ?_); exact HB1.out.trans ((Ext.below _).mono HB1.out.size))) | quiet_step ((go_at_call 125; with_reducible refine calls_ext (HMv.out _ ?_); exact HB1.out.trans ((Ext.below _).mono HB1.out.size))))
        refine wpQuiet_nil ?_
        intro w2 hb2
        go_wp2
        exact bodyPost_ret (v := .tuple #[.int .i64 0, .int .i64 5]) (by simp [results, Tryz.results87, go_sem]) rfl ⟨by rw [HE.out, HPe.out, HNn.out]; rfl, HB1.out.trans (hb2.mono HB1.out.size)⟩
    have kb1 : (kind == 1) = false := by simpa using k1
    by_cases k2 : kind = 2
    case pos =>
      subst k2
      by_cases hp : posN hs id < hs.length
      case pos =>
        have hq : pos hs id = ((posN hs id : Nat) : Int) := by unfold pos; rw [if_pos hp]
        rw [hq] at HHd
        clear hq
        have HPe := Lib.hid (show placeE hs ms 2 id = 0 by unfold placeE; rw [if_neg (by decide), if_pos (.inl rfl), if_pos hp])
        have HNn := Lib.hid (show plN hs ms 2 id = placeN hs ms 2 id by unfold plN; rw [HE.out, HPe.out, if_pos rfl])
        have HNv := Lib.hid (show placeN hs ms 2 id = posN hs id by unfold placeN; rw [if_neg (by decide), if_pos rfl])
        generalize posN hs id = k at *
        have hk9 : k ≤ 24 := by have := HLn.out; omega
        go_wp2_with (go_at_call 77; refine (HHd.out _ HB1.out).mono ?_; rintro e w2 ⟨rfl, hb2⟩)
        refine bodyPost_ret (v := .tuple #[.int .i64 ((k : Int)), .int .i64 0]) (by simp [results, Tryz.results87, go_sem]) rfl ⟨?_, HB1.out.trans (hb2.mono HB1.out.size)⟩
        rw [HE.out, HPe.out, HNn.out, HNv.out]
      case neg =>
        have hq : pos hs id = (-1) := by unfold pos; rw [if_neg hp]
        rw [hq] at HHd
        clear hq
        have HPe := Lib.hid (show placeE hs ms 2 id = 5 by unfold placeE; rw [if_neg (by decide), if_pos (.inl rfl), if_neg hp])
        have HNn := Lib.hid (pl_no (HE.out.trans HPe.out) (by decide))
        go_wp2_with (go_at_call 77; refine (HHd.out _ HB1.out).mono ?_; rintro e w2 ⟨rfl, hb2⟩)
        exact bodyPost_ret (v := .tuple #[.int .i64 0, .int .i64 5]) (by simp [results, Tryz.results87, go_sem]) rfl ⟨by rw [HE.out, HPe.out, HNn.out]; rfl, HB1.out.trans (hb2.mono HB1.out.size)⟩
    have kb2 : (kind == 2) = false := by simpa using k2
    by_cases k3 : kind = 3
    case pos =>
      subst k3
      by_cases hp : posN hs id < hs.length
      case pos =>
        have hq : pos hs id = ((posN hs id : Nat) : Int) := by unfold pos; rw [if_pos hp]
        rw [hq] at HHd
        clear hq
        have HPe := Lib.hid (show placeE hs ms 3 id = 0 by unfold placeE; rw [if_neg (by decide), if_pos (.inr rfl), if_pos hp])
        have HNn := Lib.hid (show plN hs ms 3 id = placeN hs ms 3 id by unfold plN; rw [HE.out, HPe.out, if_pos rfl])
        have HNv := Lib.hid (show placeN hs ms 3 id = hs.length + posN hs id by unfold placeN; rw [if_neg (by decide), if_neg (by decide)])
        generalize posN hs id = k at *
        have hk9 : k ≤ 24 := by have := HLn.out; omega
        go_wp2
        obtain ⟨xc, xf⟩ := xcell (W := w1)
        refine wp_region_quiet_tail 9 (by kernel_rfl) (by kernel_rfl) ?_
        simp only [List.take_succ_cons, List.take_zero, List.drop_succ_cons, List.drop_zero]
        repeat (first | go_big_quiet_step ((go_at_call 77; with_reducible refine calls_ext (HHd.out _ ?_); exact HB1.out.trans ((Ext.below _).mono HB1.out.size))) | quiet_step ((go_at_call 77; with_reducible refine calls_ext (HHd.out _ ?_); exact HB1.out.trans ((Ext.below _).mono HB1.out.size))))
        refine wpQuiet_nil ?_
        intro w2 hb2
        go_wp2
        refine bodyPost_ret (v := .tuple #[.int .i64 ((n : Int) + (k : Int)), .int .i64 0]) (by simp [results, Tryz.results87, go_sem]) rfl ⟨?_, HB1.out.trans (hb2.mono HB1.out.size)⟩
        rw [HE.out, HPe.out, HNn.out, HNv.out]
        have e3 : (n : Int) + (k : Int) = ((hs.length + k : Nat) : Int) := by have := HLn.out; omega
        rw [e3]
      case neg =>
        have hq : pos hs id = (-1) := by unfold pos; rw [if_neg hp]
        rw [hq] at HHd
        clear hq
        have HPe := Lib.hid (show placeE hs ms 3 id = 5 by unfold placeE; rw [if_neg (by decide), if_pos (.inr rfl), if_neg hp])
        have HNn := Lib.hid (pl_no (HE.out.trans HPe.out) (by decide))
        go_wp2
        obtain ⟨xc, xf⟩ := xcell (W := w1)
        refine wp_region_quiet_tail 9 (by kernel_rfl) (by kernel_rfl) ?_
        simp only [List.take_succ_cons, List.take_zero, List.drop_succ_cons, List.drop_zero]
        repeat (first | go_big_quiet_step ((go_at_call 77; with_reducible refine calls_ext (HHd.out _ ?_); exact HB1.out.trans ((Ext.below _).mono HB1.out.size))) | quiet_step ((go_at_call 77; with_reducible refine calls_ext (HHd.out _ ?_); exact HB1.out.trans ((Ext.below _).mono HB1.out.size))))
        refine wpQuiet_nil ?_
        intro w2 hb2
        go_wp2
        exact bodyPost_ret (v := .tuple #[.int .i64 0, .int .i64 5]) (by simp [results, Tryz.results87, go_sem]) rfl ⟨by rw [HE.out, HPe.out, HNn.out]; rfl, HB1.out.trans (hb2.mono HB1.out.size)⟩
    have kb3 : (kind == 3) = false := by simpa using k3
    have HPe := Lib.hid (show placeE hs ms kind id = 1 by unfold placeE; rw [if_neg k1, if_neg (by omega)])
    have HNn := Lib.hid (pl_no (HE.out.trans HPe.out) (by decide))
    go_wp2
    exact bodyPost_ret (v := .tuple #[.int .i64 0, .int .i64 1]) (by simp [results, Tryz.results87, go_sem]) rfl ⟨by rw [HE.out, HPe.out, HNn.out]; rfl, HB1.out⟩
theorem limit_any (t : TR) (at_ : Nat) (gr : Bool) (w : World) (h : t.Ok w) (hv : TV t.hs t.ms) (hat : at_ < 2 * t.hs.length + t.ms.length) :
    Calls Tryz.prog 126 #[t.v, .int .i64 (at_ : Int), .bool gr] w (LimOut w t.hs t.ms at_ gr) := by
  cases gr
  · exact limit_lo t at_ w h hv hat
  · exact limit_hi t at_ w h hv hat
def AskOut (w : World) (hs : List Hd) (ms : List Mv) (kind id : Int) (gr : Bool) (en : Ending) (w' : World) : Prop :=
  Below w.heap.size w w' ∧ ((plE hs ms kind id ≠ 0 ∧ en = .returned (.tuple #[vLi0, .int .i64 (plE hs ms kind id)])) ∨ (plE hs ms kind id = 0 ∧ agrL hs ms = false ∧ en = .returned (.tuple #[vLi0, .int .i64 9])) ∨
    (plE hs ms kind id = 0 ∧ agrL hs ms = true ∧ ∃ v st ed ma way s, en = .returned (.tuple #[v, .int .i64 0]) ∧ LiAt w' w.heap.size v (valAt st ed ma (placeN hs ms kind id)) st ed ma way s ∧ LimF hs ms (placeN hs ms kind id) gr st ed ma way s))
set_option maxHeartbeats 3200000 in
theorem asked_any (t : TR) (kind id : Int) (gr : Bool) (w : World) (h : t.Ok w) : Calls Tryz.prog 97 #[t.v, vAt kind id, .bool gr] w (AskOut w t.hs t.ms kind id gr) := by
  have hb0 := (((Below.refl w.heap.size w).alloc (Nat.le_refl _) (.cells #[.slice t.A t.n t.c, .slice t.B t.m t.d] 25)).alloc (by simp) (.cells #[.int .i64 kind, .int .i64 id] 83)).alloc (by simp; omega) (.cells #[.int .i64 0, .slice none 0 0, .slice none 0 0, .slice none 0 0, .int .i64 0, .slice none 0 0] 95)
  have HPl := Lib.hid (place_any t kind id _ (h.below hb0))
  have HLm := Lib.hid (fun at_ W (hW : Below w.heap.size w W) => limit_any t at_ gr W (h.below hW))
  obtain ⟨A, n, c, B, m, d, hs, ms⟩ := t
  dsimp only [TR.v] at *
  have HOk := Lib.hid h
  have t0 := ((Blk.new w 25 #[.slice A n c, .slice B m d]).alloc (.cells #[.int .i64 kind, .int .i64 id] 83)).alloc (.cells #[.int .i64 0, .slice none 0 0, .slice none 0 0, .slice none 0 0, .int .i64 0, .slice none 0 0] 95)
  have r0 := (Blk.at_new (W := (w.alloc (.cells #[.slice A n c, .slice B m d] 25)).alloc (.cells #[.int .i64 kind, .int .i64 id] 83)) (g := w.heap.size + 1 + 1) 95 #[.int .i64 0, .slice none 0 0, .slice none 0 0, .slice none 0 0, .int .i64 0, .slice none 0 0] (by simp))
  clear h
  generalize hck : plE hs ms kind id = ck at *
  have HTc := Lib.hid hck
  clear hck
  generalize hnk : plN hs ms kind id = nk at *
  have HNk := Lib.hid hnk
  clear hnk
  go_enter Tryz.func97, Tryz.ntmps97
  generalize hW : ((w.alloc (.cells #[.slice A n c, .slice B m d] 25)).alloc (.cells #[.int .i64 kind, .int .i64 id] 83)).alloc (.cells #[.int .i64 0, .slice none 0 0, .slice none 0 0, .slice none 0 0, .int .i64 0, .slice none 0 0] 95) = W at *
  have HWE := Lib.hid hW
  clear hW
  go_wp2_with fail
  rw [HWE.out]
  refine HPl.out.mono ?_; rintro e w1 ⟨rfl, hb1⟩
  have HB1 := Lib.hid (hb0.trans (hb1.mono hb0.size))
  have t1 := t0.below hb1
  have r1 := r0.below hb1
  have HR1 := Lib.hid r1
  have y0 := t1.cell 0
  have y1 := t1.cell 1
  have l0 := t1.lt
  have l1 := r1.lt
  have z0 := r1.cell 0
  have z1 := r1.cell 1
  have z2 := r1.cell 2
  have z3 := r1.cell 3
  have z4 := r1.cell 4
  have z5 := r1.cell 5
  have f0 := r1.frozen 0
  have f1 := r1.frozen 1
  have f2 := r1.frozen 2
  have f3 := r1.frozen 3
  have f4 := r1.frozen 4
  have f5 := r1.frozen 5
  simp only [List.getElem?_toArray, List.getElem?_cons_zero, List.getElem?_cons_succ] at y0 y1 z0 z1 z2 z3 z4 z5
  clear HPl hb0 hb1 t0 r0 HWE t1 r1
  by_cases hz : ck = 0
  case neg =>
    have hz1 : (ck != 0) = true := by simpa using hz
    go_wp2
    have hf := blk_set6 HR1.out (.int .i64 0) (.slice none 0 0) (.slice none 0 0) (.slice none 0 0) (.int .i64 0) (.slice none 0 0)
    have x0 := hf.cell 0
    have x1 := hf.cell 1
    have x2 := hf.cell 2
    have x3 := hf.cell 3
    have x4 := hf.cell 4
    have x5 := hf.cell 5
    simp only [List.getElem?_toArray, List.getElem?_cons_zero, List.getElem?_cons_succ] at x0 x1 x2 x3 x4 x5
    exact bodyPost_ret (v := .tuple #[vLi0, .int .i64 ck]) (by simp [results, Tryz.results97, go_sem, x0, x1, x2, x3, x4, x5]) rfl ⟨below_set6 HB1.out (by omega) _ _ _ _ _ _, .inl ⟨by rw [HTc.out]; exact hz, by rw [HTc.out]⟩⟩
  case pos =>
    subst hz
    obtain ⟨hv, hp0, hpn⟩ := plE_zero HTc.out
    have HV := Lib.hid (show TV hs ms ∧ nk = placeN hs ms kind id from ⟨hv, by rw [← HNk.out, hpn]⟩)
    have HC := Lib.hid (HLm.out nk w1 HB1.out hv (by rw [← HNk.out, hpn]; exact placeN_lt hp0))
    clear hv hp0 hpn
    go_wp2_with fail
    refine HC.out.mono ?_
    have hs1 := HB1.out.size
    rintro e w2 ⟨hb2, ⟨hag, rfl⟩ | ⟨hag, v, st, ed, ma, way, s, rfl, hli, hlf⟩⟩
    · have HA := Lib.hid hag
      have r2 := HR1.out.below hb2
      have HR2 := Lib.hid r2
      have HB2 := Lib.hid (HB1.out.trans (hb2.mono HB1.out.size))
      clear z0 z1 z2 z3 z4 z5 f0 f1 f2 f3 f4 f5 HC hag
      have l2 := r2.lt
      have z0 := r2.cell 0
      have z1 := r2.cell 1
      have z2 := r2.cell 2
      have z3 := r2.cell 3
      have z4 := r2.cell 4
      have z5 := r2.cell 5
      have f0 := r2.frozen 0
      have f1 := r2.frozen 1
      have f2 := r2.frozen 2
      have f3 := r2.frozen 3
      have f4 := r2.frozen 4
      have f5 := r2.frozen 5
      simp only [List.getElem?_toArray, List.getElem?_cons_zero, List.getElem?_cons_succ] at z0 z1 z2 z3 z4 z5
      clear r2 hb2
      go_wp2
      have hf := blk_set6 HR2.out (.int .i64 0) (.slice none 0 0) (.slice none 0 0) (.slice none 0 0) (.int .i64 0) (.slice none 0 0)
      have x0 := hf.cell 0
      have x1 := hf.cell 1
      have x2 := hf.cell 2
      have x3 := hf.cell 3
      have x4 := hf.cell 4
      have x5 := hf.cell 5
      simp only [List.getElem?_toArray, List.getElem?_cons_zero, List.getElem?_cons_succ] at x0 x1 x2 x3 x4 x5
      exact bodyPost_ret (v := .tuple #[vLi0, .int .i64 9]) (by simp [results, Tryz.results97, go_sem, x0, x1, x2, x3, x4, x5]) rfl ⟨below_set6 HB2.out (by omega) _ _ _ _ _ _, .inr (.inl ⟨HTc.out, HA.out, rfl⟩)⟩
    · have HA := Lib.hid (show agrL hs ms = true ∧ LimF hs ms nk gr st ed ma way s from ⟨hag, hlf⟩)
      have HLi := Lib.hid hli
      obtain ⟨A1, n1, c1, A2, n2, c2, A3, n3, c3, A4, n4, c4, rfl, _⟩ := hli
      have r2 := HR1.out.below hb2
      have HR2 := Lib.hid r2
      have HB2 := Lib.hid (HB1.out.trans (hb2.mono HB1.out.size))
      clear z0 z1 z2 z3 z4 z5 f0 f1 f2 f3 f4 f5 HC hag hlf
      have l2 := r2.lt
      have z0 := r2.cell 0
      have z1 := r2.cell 1
      have z2 := r2.cell 2
      have z3 := r2.cell 3
      have z4 := r2.cell 4
      have z5 := r2.cell 5
      have f0 := r2.frozen 0
      have f1 := r2.frozen 1
      have f2 := r2.frozen 2
      have f3 := r2.frozen 3
      have f4 := r2.frozen 4
      have f5 := r2.frozen 5
      simp only [List.getElem?_toArray, List.getElem?_cons_zero, List.getElem?_cons_succ] at z0 z1 z2 z3 z4 z5
      clear r2 hb2
      generalize hva : valAt st ed ma nk = va at *
      have HVa := Lib.hid hva
      clear hva
      go_wp2
      have hf := blk_set6 HR2.out (.int .i64 va) (.slice A1 n1 c1) (.slice A2 n2 c2) (.slice A3 n3 c3) (.int .i64 way) (.slice A4 n4 c4)
      have x0 := hf.cell 0
      have x1 := hf.cell 1
      have x2 := hf.cell 2
      have x3 := hf.cell 3
      have x4 := hf.cell 4
      have x5 := hf.cell 5
      simp only [List.getElem?_toArray, List.getElem?_cons_zero, List.getElem?_cons_succ] at x0 x1 x2 x3 x4 x5
      refine bodyPost_ret (v := .tuple #[vLi va A1 n1 c1 A2 n2 c2 A3 n3 c3 way A4 n4 c4, .int .i64 0]) (by simp [results, Tryz.results97, go_sem, x0, x1, x2, x3, x4, x5]) rfl ⟨below_set6 HB2.out (by omega) _ _ _ _ _ _, .inr (.inr ⟨HTc.out, HA.out.1, _, st, ed, ma, way, s, rfl, ?_, by rw [← HV.out.2]; exact HA.out.2⟩)⟩
      rw [← HV.out.2, HVa.out]
      exact (HLi.out.grown (grown_set6 w2 (w.heap.size + 1 + 1) (.int .i64 va) (.slice A1 n1 c1) (.slice A2 n2 c2) (.slice A3 n3 c3) (.int .i64 way) (.slice A4 n4 c4)) (fun g hg => by have e2 : w.heap.size + 1 + 1 = g := Option.some.inj hg; omega)).weak (by omega)
theorem AskOut.move {w w1 w2 w3 : World} {hs : List Hd} {ms : List Mv} {kind id : Int} {gr : Bool} {en : Ending} {r : Option Nat} (h : AskOut w1 hs ms kind id gr en w2) (hb : Below w.heap.size w w3) (hg : w2.grownBy w3 r) (hr : ∀ g, r = some g → g < w1.heap.size) (hsz : w.heap.size ≤ w1.heap.size) : AskOut w hs ms kind id gr en w3 := by
  refine ⟨hb, ?_⟩
  rcases h.2 with h | h | ⟨h1, h2, v, st, ed, ma, way, s, h3, h4, h5⟩
  · exact .inl h
  · exact .inr (.inl h)
  · exact .inr (.inr ⟨h1, h2, v, st, ed, ma, way, s, h3, (h4.grown hg hr).weak hsz, h5⟩)
theorem AskOut.form {w1 w2 : World} {hs : List Hd} {ms : List Mv} {kind id : Int} {gr : Bool} {en : Ending} (h : AskOut w1 hs ms kind id gr en w2) : ∃ va A1 n1 c1 A2 n2 c2 A3 n3 c3 way A4 n4 c4 e, en = .returned (.tuple #[vLi va A1 n1 c1 A2 n2 c2 A3 n3 c3 way A4 n4 c4, .int .i64 e]) := by
  rcases h.2 with ⟨_, h⟩ | ⟨_, _, h⟩ | ⟨h1, h2, v, st, ed, ma, way, s, h3, ⟨A1, n1, c1, A2, n2, c2, A3, n3, c3, A4, n4, c4, rfl, _⟩, h5⟩
  · exact ⟨_, _, _, _, _, _, _, _, _, _, _, _, _, _, _, h⟩
  · exact ⟨_, _, _, _, _, _, _, _, _, _, _, _, _, _, _, h⟩
  · exact ⟨_, _, _, _, _, _, _, _, _, _, _, _, _, _, _, h3⟩
set_option maxHeartbeats 1600000 in
theorem Least_any (t : TR) (kind id : Int) (w : World) (h : t.Ok w) : Calls Tryz.prog 46 #[t.v, vAt kind id] w (AskOut w t.hs t.ms kind id false) := by
  have hb0 := (((Below.refl w.heap.size w).alloc (Nat.le_refl _) (.cells #[.slice t.A t.n t.c, .slice t.B t.m t.d] 25)).alloc (by simp) (.cells #[.int .i64 kind, .int .i64 id] 83)).alloc (by simp; omega) (.cells #[.int .i64 0, .slice none 0 0, .slice none 0 0, .slice none 0 0, .int .i64 0, .slice none 0 0] 95)
  have HC := Lib.hid (asked_any t kind id false _ (h.below hb0))
  obtain ⟨A, n, c, B, m, d, hs, ms⟩ := t
  dsimp only [TR.v] at *
  have r0 := (Blk.at_new (W := (w.alloc (.cells #[.slice A n c, .slice B m d] 25)).alloc (.cells #[.int .i64 kind, .int .i64 id] 83)) (g := w.heap.size + 1 + 1) 95 #[.int .i64 0, .slice none 0 0, .slice none 0 0, .slice none 0 0, .int .i64 0, .slice none 0 0] (by simp))
  clear h
  go_enter Tryz.func46, Tryz.ntmps46
  generalize hW : ((w.alloc (.cells #[.slice A n c, .slice B m d] 25)).alloc (.cells #[.int .i64 kind, .int .i64 id] 83)).alloc (.cells #[.int .i64 0, .slice none 0 0, .slice none 0 0, .slice none 0 0, .int .i64 0, .slice none 0 0] 95) = W at *
  have HWE := Lib.hid hW
  clear hW
  go_wp2_with fail
  rw [HWE.out]
  refine HC.out.mono ?_
  rintro e w1 ho
  have HO := Lib.hid ho
  obtain ⟨va, A1, n1, c1, A2, n2, c2, A3, n3, c3, way, A4, n4, c4, er, rfl⟩ := ho.form
  have hb1 := ho.1
  have hWs := r0.lt
  have HB1 := Lib.hid (hb0.trans (hb1.mono hb0.size))
  have r1 := r0.below hb1
  have HR1 := Lib.hid r1
  have l1 := r1.lt
  have z0 := r1.cell 0
  have z1 := r1.cell 1
  have z2 := r1.cell 2
  have z3 := r1.cell 3
  have z4 := r1.cell 4
  have z5 := r1.cell 5
  have f0 := r1.frozen 0
  have f1 := r1.frozen 1
  have f2 := r1.frozen 2
  have f3 := r1.frozen 3
  have f4 := r1.frozen 4
  have f5 := r1.frozen 5
  simp only [List.getElem?_toArray, List.getElem?_cons_zero, List.getElem?_cons_succ] at z0 z1 z2 z3 z4 z5
  clear HC hb0 hb1 r0 HWE r1 ho
  go_wp2
  have hf := blk_set6 HR1.out (.int .i64 va) (.slice A1 n1 c1) (.slice A2 n2 c2) (.slice A3 n3 c3) (.int .i64 way) (.slice A4 n4 c4)
  have x0 := hf.cell 0
  have x1 := hf.cell 1
  have x2 := hf.cell 2
  have x3 := hf.cell 3
  have x4 := hf.cell 4
  have x5 := hf.cell 5
  simp only [List.getElem?_toArray, List.getElem?_cons_zero, List.getElem?_cons_succ] at x0 x1 x2 x3 x4 x5
  exact bodyPost_ret (v := .tuple #[vLi va A1 n1 c1 A2 n2 c2 A3 n3 c3 way A4 n4 c4, .int .i64 er]) (by simp [results, Tryz.results46, go_sem, x0, x1, x2, x3, x4, x5]) rfl (HO.out.move (below_set6 HB1.out (by omega) _ _ _ _ _ _) (grown_set6 w1 (w.heap.size + 1 + 1) (.int .i64 va) (.slice A1 n1 c1) (.slice A2 n2 c2) (.slice A3 n3 c3) (.int .i64 way) (.slice A4 n4 c4)) (fun g hg => by have e2 : w.heap.size + 1 + 1 = g := Option.some.inj hg; omega) (by omega))
set_option maxHeartbeats 1600000 in
theorem Greatest_any (t : TR) (kind id : Int) (w : World) (h : t.Ok w) : Calls Tryz.prog 47 #[t.v, vAt kind id] w (AskOut w t.hs t.ms kind id true) := by
  have hb0 := (((Below.refl w.heap.size w).alloc (Nat.le_refl _) (.cells #[.slice t.A t.n t.c, .slice t.B t.m t.d] 25)).alloc (by simp) (.cells #[.int .i64 kind, .int .i64 id] 83)).alloc (by simp; omega) (.cells #[.int .i64 0, .slice none 0 0, .slice none 0 0, .slice none 0 0, .int .i64 0, .slice none 0 0] 95)
  have HC := Lib.hid (asked_any t kind id true _ (h.below hb0))
  obtain ⟨A, n, c, B, m, d, hs, ms⟩ := t
  dsimp only [TR.v] at *
  have r0 := (Blk.at_new (W := (w.alloc (.cells #[.slice A n c, .slice B m d] 25)).alloc (.cells #[.int .i64 kind, .int .i64 id] 83)) (g := w.heap.size + 1 + 1) 95 #[.int .i64 0, .slice none 0 0, .slice none 0 0, .slice none 0 0, .int .i64 0, .slice none 0 0] (by simp))
  clear h
  go_enter Tryz.func47, Tryz.ntmps47
  generalize hW : ((w.alloc (.cells #[.slice A n c, .slice B m d] 25)).alloc (.cells #[.int .i64 kind, .int .i64 id] 83)).alloc (.cells #[.int .i64 0, .slice none 0 0, .slice none 0 0, .slice none 0 0, .int .i64 0, .slice none 0 0] 95) = W at *
  have HWE := Lib.hid hW
  clear hW
  go_wp2_with fail
  rw [HWE.out]
  refine HC.out.mono ?_
  rintro e w1 ho
  have HO := Lib.hid ho
  obtain ⟨va, A1, n1, c1, A2, n2, c2, A3, n3, c3, way, A4, n4, c4, er, rfl⟩ := ho.form
  have hb1 := ho.1
  have hWs := r0.lt
  have HB1 := Lib.hid (hb0.trans (hb1.mono hb0.size))
  have r1 := r0.below hb1
  have HR1 := Lib.hid r1
  have l1 := r1.lt
  have z0 := r1.cell 0
  have z1 := r1.cell 1
  have z2 := r1.cell 2
  have z3 := r1.cell 3
  have z4 := r1.cell 4
  have z5 := r1.cell 5
  have f0 := r1.frozen 0
  have f1 := r1.frozen 1
  have f2 := r1.frozen 2
  have f3 := r1.frozen 3
  have f4 := r1.frozen 4
  have f5 := r1.frozen 5
  simp only [List.getElem?_toArray, List.getElem?_cons_zero, List.getElem?_cons_succ] at z0 z1 z2 z3 z4 z5
  clear HC hb0 hb1 r0 HWE r1 ho
  go_wp2
  have hf := blk_set6 HR1.out (.int .i64 va) (.slice A1 n1 c1) (.slice A2 n2 c2) (.slice A3 n3 c3) (.int .i64 way) (.slice A4 n4 c4)
  have x0 := hf.cell 0
  have x1 := hf.cell 1
  have x2 := hf.cell 2
  have x3 := hf.cell 3
  have x4 := hf.cell 4
  have x5 := hf.cell 5
  simp only [List.getElem?_toArray, List.getElem?_cons_zero, List.getElem?_cons_succ] at x0 x1 x2 x3 x4 x5
  exact bodyPost_ret (v := .tuple #[vLi va A1 n1 c1 A2 n2 c2 A3 n3 c3 way A4 n4 c4, .int .i64 er]) (by simp [results, Tryz.results47, go_sem, x0, x1, x2, x3, x4, x5]) rfl (HO.out.move (below_set6 HB1.out (by omega) _ _ _ _ _ _) (grown_set6 w1 (w.heap.size + 1 + 1) (.int .i64 va) (.slice A1 n1 c1) (.slice A2 n2 c2) (.slice A3 n3 c3) (.int .i64 way) (.slice A4 n4 c4)) (fun g hg => by have e2 : w.heap.size + 1 + 1 = g := Option.some.inj hg; omega) (by omega))
end Go.Proofs.YtighfmgkoepfkaaGreat

namespace Go.Proofs.YtighfmgkoepfkaaGreat
open Go.RowKit

def BothOut (w : World) (hs : List Hd) (ms : List Mv) (at_ : Nat) (en : Ending) (w' : World) : Prop :=
  Below w.heap.size w w' ∧ ((agrL hs ms = false ∧ en = .returned (.tuple #[vSp 0 0, .int .i64 9])) ∨ (agrL hs ms = true ∧ en = .returned (.tuple #[vSp (narLo hs ms at_) (narHi hs ms at_), .int .i64 0])))
theorem LimOut.form {w1 w2 : World} {hs : List Hd} {ms : List Mv} {at_ : Nat} {gr : Bool} {en : Ending} (h : LimOut w1 hs ms at_ gr en w2) (hv : TV hs ms) (hat : at_ < 2 * hs.length + ms.length) :
    (agrL hs ms = false ∧ en = .returned (.tuple #[vLi0, .int .i64 9])) ∨ (agrL hs ms = true ∧ ∃ A1 n1 c1 A2 n2 c2 A3 n3 c3 way A4 n4 c4, en = .returned (.tuple #[vLi (if gr = true then narHi hs ms at_ else narLo hs ms at_) A1 n1 c1 A2 n2 c2 A3 n3 c3 way A4 n4 c4, .int .i64 0])) := by
  rcases h.2 with h | ⟨h1, v, st, ed, ma, way, s, h3, ⟨A1, n1, c1, A2, n2, c2, A3, n3, c3, A4, n4, c4, rfl, _⟩, h5⟩
  · exact .inl h
  · refine .inr ⟨h1, A1, n1, c1, A2, n2, c2, A3, n3, c3, way, A4, n4, c4, ?_⟩
    rw [h3]
    cases gr
    · rw [if_neg (by decide), (lim_lo hv hat h5.ok).2]
    · rw [if_pos rfl, (lim_hi hv hat h5.ok).2]
set_option maxRecDepth 100000 in
set_option maxHeartbeats 3200000 in
theorem both_any (t : TR) (at_ : Nat) (w : World) (h : t.Ok w) (hv : TV t.hs t.ms) (hat : at_ < 2 * t.hs.length + t.ms.length) :
    Calls Tryz.prog 88 #[t.v, .int .i64 (at_ : Int)] w (BothOut w t.hs t.ms at_) := by
  have hb0 := ((Below.refl w.heap.size w).alloc (Nat.le_refl _) (.cells #[.slice t.A t.n t.c, .slice t.B t.m t.d] 25)).alloc (by simp) (.cells #[.int .i64 0, .int .i64 0] 57)
  have HLm := Lib.hid (fun gr W (hW : Below w.heap.size w W) => limit_any t at_ gr W (h.below hW) hv hat)
  obtain ⟨A, n, c, B, m, d, hs, ms⟩ := t
  dsimp only [TR.v] at *
  have t0 := ((Blk.new w 25 #[.slice A n c, .slice B m d]).alloc (.cells #[.int .i64 0, .int .i64 0] 57))
  have r0 := (Blk.at_new (W := w.alloc (.cells #[.slice A n c, .slice B m d] 25)) (g := w.heap.size + 1) 57 #[.int .i64 0, .int .i64 0] (by simp))
  have HV := Lib.hid hv
  have HAt := Lib.hid hat
  clear h hv hat
  go_enter Tryz.func88, Tryz.ntmps88
  generalize hW : (w.alloc (.cells #[.slice A n c, .slice B m d] 25)).alloc (.cells #[.int .i64 0, .int .i64 0] 57) = W at *
  have HWE := Lib.hid hW
  clear hW
  go_wp2_with fail
  rw [HWE.out]
  refine (HLm.out false W hb0).mono ?_
  rintro e w1 ho
  have hb1 := ho.1
  have HB1 := Lib.hid (hb0.trans (hb1.mono hb0.size))
  have t1 := t0.below hb1
  have r1 := r0.below hb1
  have HR1 := Lib.hid r1
  have HT1 := Lib.hid t1
  have y0 := t1.cell 0
  have y1 := t1.cell 1
  have l0 := t1.lt
  have l1 := r1.lt
  have z0 := r1.cell 0
  have z1 := r1.cell 1
  have f0 := r1.frozen 0
  have f1 := r1.frozen 1
  simp only [List.getElem?_toArray, List.getElem?_cons_zero, List.getElem?_cons_succ] at y0 y1 z0 z1
  clear hb0 t0 r0 HWE t1 r1 hb1
  rcases ho.form HV.out HAt.out with ⟨hag, rfl⟩ | ⟨hag, A1, n1, c1, A2, n2, c2, A3, n3, c3, way, A4, n4, c4, rfl⟩
  · have HA := Lib.hid hag
    clear hag ho
    go_wp2
    have hf := (blk_set2 HR1.out (.int .i64 0) (.int .i64 0)).alloc (.cells #[.int .i64 0, .slice none 0 0, .slice none 0 0, .slice none 0 0, .int .i64 0, .slice none 0 0] 95)
    have x0 := hf.cell 0
    have x1 := hf.cell 1
    simp only [List.getElem?_toArray, List.getElem?_cons_zero, List.getElem?_cons_succ] at x0 x1
    exact bodyPost_ret (v := .tuple #[vSp 0 0, .int .i64 9]) (by simp [results, Tryz.results88, go_sem, x0, x1]) rfl ⟨(below_set2 HB1.out (by omega) _ _).alloc (by simp [World.setCell]; omega) _, .inl ⟨HA.out, rfl⟩⟩
  · have HA := Lib.hid hag
    rw [if_neg (by decide)]
    generalize hlo : narLo hs ms at_ = lo at *
    have HLo := Lib.hid hlo
    clear hag ho hlo
    have b2 := (Below.refl w1.heap.size w1).alloc (Nat.le_refl _) (.cells #[.int .i64 lo, .slice A1 n1 c1, .slice A2 n2 c2, .slice A3 n3 c3, .int .i64 way, .slice A4 n4 c4] 95)
    have q2 := Blk.new w1 95 #[.int .i64 lo, .slice A1 n1 c1, .slice A2 n2 c2, .slice A3 n3 c3, .int .i64 way, .slice A4 n4 c4]
    have HB2 := Lib.hid (HB1.out.trans (b2.mono HB1.out.size))
    have HR2 := Lib.hid (HR1.out.below b2)
    go_wp2_with fail
    generalize hW2 : w1.alloc (.cells #[.int .i64 lo, .slice A1 n1 c1, .slice A2 n2 c2, .slice A3 n3 c3, .int .i64 way, .slice A4 n4 c4] 95) = w2 at *
    clear hW2 z0 z1 f0 f1 y0 y1 b2 l0 l1
    refine (HLm.out true w2 HB2.out).mono ?_
    rintro e w3 ho
    have hb3 := ho.1
    have HB3 := Lib.hid (HB2.out.trans (hb3.mono HB2.out.size))
    have r3 := HR2.out.below hb3
    have q3 := q2.below hb3
    have HR3 := Lib.hid r3
    have l1 := r3.lt
    have l3 := q3.lt
    have z0 := r3.cell 0
    have z1 := r3.cell 1
    have f0 := r3.frozen 0
    have f1 := r3.frozen 1
    have w0 := q3.cell 0
    simp only [List.getElem?_toArray, List.getElem?_cons_zero, List.getElem?_cons_succ] at z0 z1 w0
    clear hb3 r3 q3 q2
    rcases ho.form HV.out HAt.out with ⟨hag, rfl⟩ | ⟨hag, A1', n1', c1', A2', n2', c2', A3', n3', c3', way', A4', n4', c4', rfl⟩
    · exact absurd (HA.out.symm.trans hag) (by decide)
    · rw [if_pos rfl]
      generalize hhi : narHi hs ms at_ = hi at *
      have HHi := Lib.hid hhi
      clear ho hag hhi
      go_wp2
      have hf := (blk_set2 HR3.out (.int .i64 lo) (.int .i64 hi)).alloc (.cells #[.int .i64 hi, .slice A1' n1' c1', .slice A2' n2' c2', .slice A3' n3' c3', .int .i64 way', .slice A4' n4' c4'] 95)
      have x0 := hf.cell 0
      have x1 := hf.cell 1
      simp only [List.getElem?_toArray, List.getElem?_cons_zero, List.getElem?_cons_succ] at x0 x1
      exact bodyPost_ret (v := .tuple #[vSp lo hi, .int .i64 0]) (by simp [results, Tryz.results88, go_sem, x0, x1]) rfl ⟨(below_set2 HB3.out (by omega) _ _).alloc (by simp [World.setCell]; omega) _, .inr ⟨HA.out, by rw [HLo.out, HHi.out]⟩⟩
end Go.Proofs.YtighfmgkoepfkaaGreat
