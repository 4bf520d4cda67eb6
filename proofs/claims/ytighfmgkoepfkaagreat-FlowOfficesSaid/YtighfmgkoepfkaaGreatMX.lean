/- The program's judge of courses: fits, by a map. -/
import Derived.Maps.RangeWalk
import Derived.Maps.OwnOps
import Derived.Maps.OwnSet
import Derived.Test.YtighfmgkoepfkaaGreatMH
import Derived.Test.YtighfmgkoepfkaaGreatMI
namespace Go.Proofs.YtighfmgkoepfkaaGreat
open Go.RowKit

/-- Block b is a map that has the keys of p, and f(x) at the key x. -/
def MapOf (W : World) (b n : Nat) (p : Int → Bool) (f : Int → Int) : Prop :=
  ∃ D : DataW Unit, W.ownsMap Tryz.prog 3 (plainElem Tryz.prog 3) b n D ∧ Maps.IsMap D ∧ (∀ x, Maps.has D (.int .i64 x) = p x) ∧ ∀ x, p x = true → ∀ zd, D.atKey (.int .i64 x) zd = .lit (.int .i64 (f x))
theorem int_key : Go.Maps.Keyed Tryz.prog 3 := Go.Maps.int_keyed Tryz.underlying3
theorem wf_lit {x : Int} (h : -9223372036854775808 ≤ x ∧ x ≤ 9223372036854775807) : (Lit.int .i64 x).wf = true := by
  simp [Lit.wf, IntKind.min, IntKind.max, IntKind.signed, IntKind.bits]
  omega
theorem MapOf.made (w : World) : MapOf (w.alloc (.map #[] 0)) w.heap.size 0 (fun _ => false) (fun _ => 0) :=
  ⟨_, World.ownsMap_made _ _ _ _, Maps.isMap_empty, fun _ => rfl, fun _ h => by cases h⟩
theorem MapOf.kept {w w' : World} {b n : Nat} {p : Int → Bool} {f : Int → Int} {row : Option Nat} (h : MapOf w b n p f) (hg : w.grownBy w' row) (hne : some b ≠ row) : MapOf w' b n p f := by
  obtain ⟨D, ho, h1, h2, h3⟩ := h
  exact ⟨D, ho.kept hg hne, h1, h2, h3⟩
theorem grown_of {B : Nat} {w w' : World} (h : Below B w w') (hB : w.heap.size ≤ B) : w.grownBy w' none := ⟨h.os, h.tape, h.output, h.size, fun k hk _ => h.block k (by omega)⟩
theorem MapOf.below {w w' : World} {b n : Nat} {p : Int → Bool} {f : Int → Int} (h : MapOf w b n p f) (hb : Below w.heap.size w w') : MapOf w' b n p f := h.kept (grown_of hb (Nat.le_refl _)) (by simp)
theorem MapOf.lt {w : World} {b n : Nat} {p : Int → Bool} {f : Int → Int} (h : MapOf w b n p f) : b < w.heap.size := by
  obtain ⟨D, ho, _⟩ := h
  exact ho.lt
theorem zero_int (w : World) : (zeroValue 3).run Tryz.prog w = .ok (.int .i64 0) w := by kernel_rfl
theorem MapOf.look {w : World} {b n : Nat} {p : Int → Bool} {f : Int → Int} (h : MapOf w b n p f) {x : Int} (hp : p x = true) (hx : -9223372036854775808 ≤ x ∧ x ≤ 9223372036854775807) :
    (Instr.lookup 196 (.map (some b)) (.int .i64 x) false).run Tryz.prog w = .ok (.int .i64 (f x)) w := by
  obtain ⟨D, ho, h1, h2, h3⟩ := h
  obtain ⟨c, hrun, hat, _⟩ := ho.lookup_int int_key Tryz.underlying196 Tryz.underlying3 (zero_int w) (Go.Maps.keyOf_int_mk Tryz.underlying3 (wf_lit hx))
  rw [h3 x hp] at hat
  cases hat
  exact hrun
theorem lit_ne {x y : Int} (h : y ≠ x) : (Lit.int .i64 y) ≠ (Lit.int .i64 x) := fun e => h (by cases e; rfl)
theorem MapOf.store {w : World} {b n : Nat} {p : Int → Bool} {f : Int → Int} (h : MapOf w b n p f) (hn : n < 1000) {x v : Int} (hx : -9223372036854775808 ≤ x ∧ x ≤ 9223372036854775807) (hv : -9223372036854775808 ≤ v ∧ v ≤ 9223372036854775807) :
    ∃ w', (Instr.mapUpdate 196 (.map (some b)) (.int .i64 x) (.int .i64 v)).run Tryz.prog w = .ok () w' ∧ MapOf w' b (n + 1) (fun y => decide (y = x) || p y) (fun y => if y = x then v else f y) ∧ w.grownBy w' (some b) := by
  obtain ⟨D, ho, h1, h2, h3⟩ := h
  obtain ⟨w', hrun, ho', hg⟩ := ho.update int_key Tryz.underlying196 (by unfold maxLen; omega) (Go.Maps.keyOf_int_mk Tryz.underlying3 (wf_lit hx)) (plainElem_int Tryz.underlying3 (wf_lit hv))
  refine ⟨w', hrun, ⟨_, ho', h1.put _ _, fun y => ?_, fun y hy zd => ?_⟩, hg⟩
  · by_cases e : y = x
    · subst e; rw [Maps.has_put_same h1 (show WideAt.IsKeyLit (.int .i64 y) from trivial)]; simp
    · rw [Maps.has_put_other (lit_ne e), h2]; simp [e]
  · by_cases e : y = x
    · subst e; rw [Maps.atKey_put_same h1 (show WideAt.IsKeyLit (.int .i64 y) from trivial)]; dsimp only; rw [if_pos rfl]
    · rw [Maps.atKey_put_other (lit_ne e)]
      dsimp only
      rw [if_neg e]
      exact h3 y (by simpa [e] using hy) zd
theorem MapOf.same {w : World} {b n : Nat} {p p' : Int → Bool} {f f' : Int → Int} (h : MapOf w b n p f) (hp : ∀ x, p' x = p x) (hf : ∀ x, p x = true → f' x = f x) : MapOf w b n p' f' := by
  obtain ⟨D, ho, h1, h2, h3⟩ := h
  exact ⟨D, ho, h1, fun x => by rw [h2, hp], fun x hx zd => by rw [hp] at hx; rw [h3 x hx, hf x hx]⟩
/-- A range over such a map is under way: 'left' are the keys to come. -/
def MapOn (W : World) (b r n : Nat) (f : Int → Int) (p left : Int → Bool) (cnt : Nat) : Prop :=
  ∃ (D : DataW Unit) (lf : Lit → Bool), W.ranges Tryz.prog 3 (plainElem Tryz.prog 3) b r n D lf cnt ∧ (∀ x, lf (.int .i64 x) = left x) ∧ (∀ x, left x = true → p x = true) ∧ ∀ x, p x = true → ∀ zd, D.atKey (.int .i64 x) zd = .lit (.int .i64 (f x))
theorem MapOn.left_eq {W : World} {b r n : Nat} {f : Int → Int} {p left : Int → Bool} {cnt : Nat} (h : MapOn W b r n f p left cnt) : W.rangeLeft b r = cnt := by
  obtain ⟨D, lf, h1, _⟩ := h
  exact h1.left_eq
theorem sameKey_i64 (x y : Int) : (Lit.int .i64 x).sameKey (.int .i64 y) = decide (x = y) := by
  simp [Lit.sameKey]
section
variable (w : World) {ops : Array Oper} {rest : List Oper} {o : Oper} {a : Act} {Q : Exit → Act → World → Prop}
theorem wpList_range_of (hg : o.guard = none) (m : Operand) (hop : o.op = Op.range 196 m) (b n : Nat) (p : Int → Bool) (f : Int → Int)
    (hm : a.eval m = .map (some b)) (hown : MapOf w b n p f)
    (hK : ∀ w' cnt, MapOn w' b w.heap.size n f p p cnt → w.grownBy w' none → w'.heap.size = w.heap.size + 1 → wpList Tryz.prog ops Q rest (a.put o.dst (.pointer (some ⟨w.heap.size, 0, none⟩))) w') :
    wpList Tryz.prog ops Q (o :: rest) a w := by
  obtain ⟨D, ho, h1, h2, h3⟩ := hown
  exact wpList_range_own w hg m _ hop 3 3 int_key Tryz.underlying196 _ b n D hm ho fun w' r1 r2 r3 => hK w' _ ⟨D, _, r1, h2, fun _ h => h, h3⟩ r2 r3
theorem wpList_next_of (hg : o.guard = none) (it : Operand) (hop : o.op = Op.next it false) (b r n : Nat) (f : Int → Int) (p left : Int → Bool) (cnt : Nat) (hit : a.eval it = .pointer (some ⟨r, 0, none⟩)) (h : MapOn w b r n f p left cnt)
    (hDone : (∀ x, left x = false) → wpList Tryz.prog ops Q rest (a.put o.dst (.tuple #[.bool false])) w)
    (hMore : ∀ (x : Int) (w' : World) (cnt' : Nat), left x = true → p x = true → MapOn w' b r n f p (fun z => left z && !decide (z = x)) cnt' → cnt' < cnt → w.grownBy w' (some r) → w'.heap.size = w.heap.size →
      (Instr.entry (.pointer (some ⟨r, 0, none⟩))).run Tryz.prog w' = .ok (.tuple #[.int .i64 x, .int .i64 (f x)]) w' → wpList Tryz.prog ops Q rest (a.put o.dst (.tuple #[.bool true, .int .i64 x, .int .i64 (f x)])) w') :
    wpList Tryz.prog ops Q (o :: rest) a w := by
  obtain ⟨D, lf, h1, h2, h3, h4⟩ := h
  refine wpList_next_ranges_ii w hg it hop 3 3 .i64 .i64 int_key Tryz.underlying3 Tryz.underlying3 b r n D lf cnt hit h1 (fun _ hl => hDone fun x => by rw [← h2, hl]) fun x c w' cnt' hwx hwc hl hat hr hlt hgr hsz hen => ?_
  have hlx : left x = true := by rw [← h2]; exact hl
  have hpx := h3 x hlx
  have hc : c = f x := by
    have := hat (.lit (.int .i64 0))
    rw [h4 x hpx] at this
    cases this
    rfl
  subst hc
  exact hMore x w' cnt' hlx hpx ⟨D, _, hr, fun z => by rw [h2, sameKey_i64], fun z hz => h3 z (by simp at hz; exact hz.1), h4⟩ hlt hgr hsz hen
end
end Go.Proofs.YtighfmgkoepfkaaGreat

namespace Go.Proofs.YtighfmgkoepfkaaGreat
open Go.RowKit

theorem below_lt {t : TypeId} {B g : Nat} {W W' : World} {cs : Array Value} (h : Blk W g t cs) (hb : Below B W W') (hg : g < B) : Blk W' g t cs := (hb.block g hg).trans h
/-- Is x one of the first IDs? -/
def hasId (hs : List Hd) (k : Nat) (x : Int) : Bool := (List.range k).any fun i => decide ((hat hs i).id = x)
theorem hasId_zero (hs : List Hd) (x : Int) : hasId hs 0 x = false := rfl
theorem hasId_succ (hs : List Hd) (k : Nat) (x : Int) : hasId hs (k + 1) x = (decide (x = (hat hs k).id) || hasId hs k x) := by
  unfold hasId
  rw [List.range_succ, List.any_append, Bool.or_comm]
  simp [eq_comm]
theorem hasId_iff {hs : List Hd} {k : Nat} {x : Int} : hasId hs k x = true ↔ ∃ i, i < k ∧ (hat hs i).id = x := by
  unfold hasId
  simp
/-- What the map holds at the ID x, behind k movements. -/
def restL (hs : List Hd) (ms : List Mv) (st en ma : List Int) (k : Nat) (x : Int) : Int := heldL ms ma x (iget st (posN hs x)) k - iget en (posN hs x)
theorem pos_self {hs : List Hd} {ms : List Mv} (hv : TV hs ms) {i : Nat} (hi : i < hs.length) : posN hs (hat hs i).id = i := by
  rw [hat_eq hi]
  exact (nodup_ids (hs := hs)).1 hv.ids i hi
theorem restL_start {hs : List Hd} {ms : List Mv} (hv : TV hs ms) (st en ma : List Int) {i : Nat} (hi : i < hs.length) : restL hs ms st en ma 0 (hat hs i).id = iget st i - iget en i := by
  unfold restL
  rw [pos_self hv hi]
  rfl
theorem restL_step (hs : List Hd) (ms : List Mv) (st en ma : List Int) (k : Nat) (x : Int) : restL hs ms st en ma (k + 1) x = restL hs ms st en ma k x + (if (mat ms k).to = x then iget ma k else 0) - (if (mat ms k).fr = x then iget ma k else 0) := by
  unfold restL
  rw [heldL_step]
  omega
theorem hasId_pos {hs : List Hd} {ms : List Mv} (hv : TV hs ms) {x : Int} (h : hasId hs hs.length x = true) : posN hs x < hs.length ∧ (hat hs (posN hs x)).id = x := by
  obtain ⟨i, hi, e⟩ := hasId_iff.1 h
  have := pos_self hv hi
  rw [e] at this
  rw [this]
  exact ⟨hi, e⟩
theorem hasId_mv {hs : List Hd} {ms : List Mv} (hv : TV hs ms) {k : Nat} (hk : k < ms.length) : hasId hs hs.length (mat ms k).fr = true ∧ hasId hs hs.length (mat ms k).to = true ∧ (mat ms k).fr ≠ (mat ms k).to := by
  have hm : mat ms k ∈ ms := by rw [mat_eq hk]; exact List.getElem_mem hk
  obtain ⟨_, _, h3, ⟨x, hx, ex⟩, y, hy, ey⟩ := hv.mv _ hm
  refine ⟨?_, ?_, h3⟩
  · obtain ⟨i, hi, e⟩ := List.getElem_of_mem hx
    exact hasId_iff.2 ⟨i, hi, by rw [hat_eq hi, e, ex]⟩
  · obtain ⟨i, hi, e⟩ := List.getElem_of_mem hy
    exact hasId_iff.2 ⟨i, hi, by rw [hat_eq hi, e, ey]⟩
theorem ids_bound {hs : List Hd} {ms : List Mv} (hv : TV hs ms) {i : Nat} (hi : i < hs.length) : 1 ≤ (hat hs i).id ∧ (hat hs i).id ≤ 1099511627776 := by
  have h := hv.hd _ (by rw [hat_eq hi]; exact List.getElem_mem hi : hat hs i ∈ hs)
  simp [okHd, okId] at h
  omega
theorem id_bound {hs : List Hd} {ms : List Mv} (hv : TV hs ms) {x : Int} (h : hasId hs hs.length x = true) : 1 ≤ x ∧ x ≤ 1099511627776 := by
  obtain ⟨h1, h2⟩ := hasId_pos hv h
  have := ids_bound hv h1
  rw [h2] at this
  exact this
theorem rest_bound {hs : List Hd} {ms : List Mv} (hv : TV hs ms) {st en ma : List Int} (h1 : ∀ i, i < hs.length → ((hat hs i).sl ≤ iget st i ∧ iget st i ≤ (hat hs i).sh) ∧ (hat hs i).el ≤ iget en i ∧ iget en i ≤ (hat hs i).eh) {k : Nat} (hk : k ≤ ms.length)
    (h2 : ∀ i, i < k → (mat ms i).lo ≤ iget ma i ∧ iget ma i ≤ (mat ms i).hi) {x : Int} (hx : hasId hs hs.length x = true) : -1700000 ≤ restL hs ms st en ma k x ∧ restL hs ms st en ma k x ≤ 1700000 := by
  obtain ⟨hp, _⟩ := hasId_pos hv hx
  have a := h1 _ hp
  have b := hv.hd_bound (by rw [hat_eq hp]; exact List.getElem_mem hp : hat hs (posN hs x) ∈ hs)
  have c := heldL_bound (ms := ms) (ma := ma) (id := x) (st := iget st (posN hs x)) (by omega) k fun i hi => by
    have d := h2 i hi
    have e := hv.mv_bound (by rw [mat_eq (by omega : i < ms.length)]; exact List.getElem_mem _ : mat ms i ∈ ms)
    omega
  have := hv.lenM
  unfold restL
  omega
set_option maxRecDepth 100000 in
set_option maxHeartbeats 12800000 in
theorem fits_any (t : TR) (A1 : Option Addr) (n1 c1 : Nat) (A2 : Option Addr) (n2 c2 : Nat) (A3 : Option Addr) (n3 c3 : Nat) (st en ma : List Int) (w : World) (h : t.Ok w) (h1 : SAt encI 1 w A1 n1 st) (h2 : SAt encI 1 w A2 n2 en) (h3 : SAt encI 1 w A3 n3 ma) (hv : TV t.hs t.ms) :
    Calls Tryz.prog 100 #[t.v, vCo A1 n1 c1 A2 n2 c2 A3 n3 c3] w fun e w' => e = .returned (.bool (fitsL t.hs t.ms st en ma)) ∧ Below w.heap.size w w' := by
  have hb0 := ((Below.refl w.heap.size w).alloc (Nat.le_refl _) (.cells #[.slice t.A t.n t.c, .slice t.B t.m t.d] 25)).alloc (by simp) (.cells #[.slice A1 n1 c1, .slice A2 n2 c2, .slice A3 n3 c3] 68)
  obtain ⟨A, n, c, B, m, d, hs, ms⟩ := t
  dsimp only [TR.v] at *
  have t0 := (Blk.new w 25 #[.slice A n c, .slice B m d]).alloc (.cells #[.slice A1 n1 c1, .slice A2 n2 c2, .slice A3 n3 c3] 68)
  have r0 := Blk.at_new (W := w.alloc (.cells #[.slice A n c, .slice B m d] 25)) (g := w.heap.size + 1) 68 #[.slice A1 n1 c1, .slice A2 n2 c2, .slice A3 n3 c3] (by simp)
  have HOk := Lib.hid h
  have HV := Lib.hid hv
  have HLh := Lib.hid (show hs.length = n from h.h.len)
  have HLm := Lib.hid (show ms.length = m from h.m.len)
  have HS1 := Lib.hid h1
  have HS2 := Lib.hid h2
  have HS3 := Lib.hid h3
  have HL1 := Lib.hid h1.len
  have HL2 := Lib.hid h2.len
  have HL3 := Lib.hid h3.len
  have hn9 : n ≤ 9 := by rw [← HLh.out]; exact hv.lenH
  have hm24 : m ≤ 24 := by rw [← HLm.out]; exact hv.lenM
  obtain ⟨res, hres⟩ : ∃ r, r = fitsL hs ms st en ma := ⟨_, rfl⟩
  have HR0 := Lib.hid hres
  rw [← hres]
  have HIff := Lib.hid (fitsL_prop (hs := hs) (ms := ms) (st := st) (en := en) (ma := ma))
  clear h h1 h2 h3 hv hres
  have hmm := @run_makeMap Tryz.prog
  go_enter Tryz.func100, Tryz.ntmps100
  go_upto_region 1 with fail
  generalize hW : (w.alloc (.cells #[.slice A n c, .slice B m d] 25)).alloc (.cells #[.slice A1 n1 c1, .slice A2 n2 c2, .slice A3 n3 c3] 68) = W at *
  have hws : W.heap.size = w.heap.size + 2 := by rw [← hW]; simp
  clear hW
  have HT := Lib.hid t0
  have HR := Lib.hid r0
  have HB0 := Lib.hid hb0
  have y0 := HT.out.cell 0
  have y1 := HT.out.cell 1
  have z0 := HR.out.cell 0
  have z1 := HR.out.cell 1
  have z2 := HR.out.cell 2
  simp only [List.getElem?_toArray, List.getElem?_cons_zero, List.getElem?_cons_succ] at y0 y1 z0 z1 z2
  have yl := HT.out.lt
  have zl := HR.out.lt
  clear t0 r0 hb0
  by_cases e1 : n1 = n
  case neg =>
    have e1b : ((n1 : Int) != (n : Int)) = true := by simp; omega
    have HE1 := Lib.hid e1
    clear e1
    have HF := Lib.hid (show res = false by rw [HR0.out, Bool.eq_false_iff]; intro c; have := (HIff.out.1 c).1; have := HL1.out; have := HLh.out; have := HE1.out; omega)
    go_wp2
    exact bodyPost_ret (v := .bool false) (by simp [results, Tryz.results100, go_sem]) rfl ⟨by rw [HF.out], HB0.out⟩
  case pos =>
  subst e1
  by_cases e2 : n2 = n1
  case neg =>
    have e2b : ((n2 : Int) != (n1 : Int)) = true := by simp; omega
    have HE1 := Lib.hid e2
    clear e2
    have HF := Lib.hid (show res = false by rw [HR0.out, Bool.eq_false_iff]; intro c; have := (HIff.out.1 c).1; have := HL2.out; have := HLh.out; have := HE1.out; omega)
    go_wp2
    exact bodyPost_ret (v := .bool false) (by simp [results, Tryz.results100, go_sem]) rfl ⟨by rw [HF.out], HB0.out⟩
  case pos =>
  subst e2
  by_cases e3 : n3 = m
  case neg =>
    have e3b : ((n3 : Int) != (m : Int)) = true := by simp; omega
    have HE1 := Lib.hid e3
    clear e3
    have HF := Lib.hid (show res = false by rw [HR0.out, Bool.eq_false_iff]; intro c; have := (HIff.out.1 c).1; have := HL3.out; have := HLm.out; have := HE1.out; omega)
    go_wp2
    exact bodyPost_ret (v := .bool false) (by simp [results, Tryz.results100, go_sem]) rfl ⟨by rw [HF.out], HB0.out⟩
  case pos =>
  subst e3
  have HLen := Lib.hid (show st.length = hs.length ∧ en.length = hs.length ∧ ma.length = ms.length by have := HL1.out; have := HL2.out; have := HL3.out; have := HLh.out; have := HLm.out; omega)
  go_upto_region 4 with fail
  clear y0 y1 z0 z1 z2 yl zl hmm
  have HM := Lib.hid (MapOf.made W)
  have HT0 := Lib.hid (HT.out.alloc (.map #[] 0))
  have HR1 := Lib.hid (HR.out.alloc (.map #[] 0))
  have HBB := Lib.hid (HB0.out.alloc HB0.out.size (.map #[] 0))
  generalize hU : W.alloc (.map #[] 0) = U at *
  have hus : U.heap.size = W.heap.size + 1 := by rw [← hU]; simp
  rw [← hws]
  generalize hg : W.heap.size = g at *
  have HG := Lib.hid (show w.heap.size + 2 = g ∧ U.heap.size = g + 1 from ⟨hws.symm, hus⟩)
  clear hU hg hws hus HT HR HB0
  have y0 := HT0.out.cell 0
  have y1 := HT0.out.cell 1
  have z0 := HR1.out.cell 0
  have z1 := HR1.out.cell 1
  have z2 := HR1.out.cell 2
  simp only [List.getElem?_toArray, List.getElem?_cons_zero, List.getElem?_cons_succ] at y0 y1 z0 z1 z2
  have yl := HT0.out.lt
  have zl := HR1.out.lt
  go_upto_region 5 with fail
  go_loopw [6, 7, 41] (fun _ _ i wx => ∃ j : Nat, j ≤ n2 ∧ i = .int .i64 (j : Int) ∧ (∀ i, i < j → ((hat hs i).sl ≤ iget st i ∧ iget st i ≤ (hat hs i).sh) ∧ (hat hs i).el ≤ iget en i ∧ iget en i ≤ (hat hs i).eh) ∧ MapOf wx g j (hasId hs j) (restL hs ms st en ma 0) ∧ Below g U wx) (fun _ _ i _ => n2 - (intOf i).toNat)
  case atStart => exact ⟨0, Nat.zero_le _, rfl, fun i h => absurd h (Nat.not_lt_zero _), HM.out.same (fun _ => rfl) (fun _ h => by cases h), Below.refl _ _⟩
  case round =>
    obtain ⟨j, hj, rfl, hq, hmap, hb⟩ := hrel
    have HQ := Lib.hid hq
    have HMj := Lib.hid hmap
    have HBW := Lib.hid hb
    have HB := Lib.hid (HBB.out.trans (hb.mono (by have := HG.out.1; omega)))
    have HQT := Lib.hid (below_lt HT0.out hb (by have := HG.out.1; omega))
    have HQR := Lib.hid (below_lt HR1.out hb (by have := HG.out.1; omega))
    clear y0 y1 z0 z1 z2 yl zl
    have y0 := HQT.out.cell 0
    have y1 := HQT.out.cell 1
    have z0 := HQR.out.cell 0
    have z1 := HQR.out.cell 1
    have z2 := HQR.out.cell 2
    simp only [List.getElem?_toArray, List.getElem?_cons_zero, List.getElem?_cons_succ] at y0 y1 z0 z1 z2
    have yl := HQT.out.lt
    have zl := HQR.out.lt
    clear hq hb hmap
    by_cases hjk : j < n2
    case neg =>
      have hjn : j = n2 := by omega
      subst hjn
      have HQ1 := Lib.hid (show ∀ i, i < hs.length → ((hat hs i).sl ≤ iget st i ∧ iget st i ≤ (hat hs i).sh) ∧ (hat hs i).el ≤ iget en i ∧ iget en i ≤ (hat hs i).eh from fun i hi => HQ.out i (by have := HLh.out; omega))
      have HMn := Lib.hid (show MapOf wr g j (hasId hs hs.length) (restL hs ms st en ma 0) by rw [HLh.out]; exact HMj.out)
      go_upto_region 12 with fail
      go_loopw [8, 9, 92] (fun _ _ i wx => ∃ e q : Nat, e ≤ n3 ∧ q ≤ 9 + 2 * e ∧ i = .int .i64 (e : Int) ∧ (∀ i, i < e → (mat ms i).lo ≤ iget ma i ∧ iget ma i ≤ (mat ms i).hi) ∧ MapOf wx g q (hasId hs hs.length) (restL hs ms st en ma e) ∧ Below g wr wx) (fun _ _ i _ => n3 - (intOf i).toNat)
      case atStart => exact ⟨0, j, Nat.zero_le _, by omega, rfl, fun i h => absurd h (Nat.not_lt_zero _), HMn.out, Below.refl _ _⟩
      case round =>
        rename_i wq wr
        obtain ⟨e, q, he, hq9, rfl, hq, hmap, hb⟩ := hrel
        have HQ2 := Lib.hid hq
        have HMe := Lib.hid hmap
        have HBW2 := Lib.hid hb
        have HB2 := Lib.hid (HB.out.trans (hb.mono (by have := HG.out.1; omega)))
        have HT2 := Lib.hid (below_lt HQT.out hb (by have := HG.out.1; omega))
        have HR2 := Lib.hid (below_lt HQR.out hb (by have := HG.out.1; omega))
        clear hq hb hmap y0 y1 z0 z1 z2 yl zl
        have y0 := HT2.out.cell 0
        have y1 := HT2.out.cell 1
        have z0 := HR2.out.cell 0
        have z1 := HR2.out.cell 1
        have z2 := HR2.out.cell 2
        simp only [List.getElem?_toArray, List.getElem?_cons_zero, List.getElem?_cons_succ] at y0 y1 z0 z1 z2
        have yl := HT2.out.lt
        have zl := HR2.out.lt
        by_cases hek : e < n3
        case neg =>
          have hen : e = n3 := by omega
          subst hen
          have HQM := Lib.hid (show ∀ i, i < ms.length → (mat ms i).lo ≤ iget ma i ∧ iget ma i ≤ (mat ms i).hi from fun i hi => HQ2.out i (by have := HLm.out; omega))
          have HMz := Lib.hid (show MapOf wr g q (hasId hs hs.length) (restL hs ms st en ma ms.length) by rw [HLm.out]; exact HMe.out)
          clear y0 y1 z0 z1 z2 yl zl HMe HMn HMj
          go_wp2_with (first | (at_range; refine wpList_range_of _ rfl _ rfl g q (hasId hs hs.length) (restL hs ms st en ma ms.length) rfl HMz.out ?_; intro w0 cnt0 hon0 hgr0 hsz0) | go_in)
          try go_frame
          have HON := Lib.hid hon0
          have HBr := Lib.hid (HB2.out.grown hgr0 HB2.out.size (fun k hk => by cases hk))
          have HPr := Lib.hid (show g < wr.heap.size from HMz.out.lt)
          generalize hr : wr.heap.size = r at *
          have hrr : r < w0.heap.size := by omega
          have hwr : w.heap.size ≤ r := by have := HG.out.1; have := HPr.out; omega
          clear hon0 hgr0 hsz0 HMz HB2 hr
          go_loopw [11] (fun _ wx => ∃ (left : Int → Bool) (cnt : Nat), MapOn wx g r q (restL hs ms st en ma ms.length) (hasId hs hs.length) left cnt ∧ (∀ x, hasId hs hs.length x = true → left x = false → restL hs ms st en ma ms.length x = 0) ∧ Below w.heap.size w wx) (fun _ wx => wx.rangeLeft g r)
          case atStart => exact ⟨_, _, HON.out, (fun x h1 h2 => by rw [h1] at h2; cases h2), HBr.out⟩
          case round =>
            obtain ⟨left, cnt, hon, hz, hb⟩ := hrel
            have HOn := Lib.hid hon
            have HZ := Lib.hid hz
            have HBx := Lib.hid hb
            clear hon hz hb
            go_wp2_with (first | (at_next; refine wpList_next_of _ rfl _ rfl g r q (restL hs ms st en ma ms.length) (hasId hs hs.length) left cnt rfl HOn.out ?_ ?_) | go_in)
            · intro hl0
              have HF := Lib.hid (show res = true by
                rw [HR0.out]
                exact HIff.out.2 ⟨HLen.out, HQ1.out, HQM.out, fun i hi => by
                  have := HZ.out (hat hs i).id (hasId_iff.2 ⟨i, hi, rfl⟩) (hl0 _)
                  unfold restL at this
                  rw [pos_self HV.out hi] at this
                  omega⟩)
              go_wp2
              exact bodyPost_ret (v := .bool true) (by simp [results, Tryz.results100, go_sem]) rfl ⟨by rw [HF.out], HBx.out⟩
            · intro x w1 cnt1 hlx hpx hon1 hlt hg1 hs1 hen
              have HX := Lib.hid hpx
              have HB1 := Lib.hid (HBx.out.grown hg1 HBx.out.size (fun k hk => by cases hk; exact hwr))
              have HOn1 := Lib.hid hon1
              have HXr := Lib.hid (show ∃ y, restL hs ms st en ma ms.length x = y from ⟨_, rfl⟩)
              obtain ⟨y, hy⟩ := HXr.out
              rw [hy] at hen ⊢
              have HY := Lib.hid hy
              clear hy hpx hon1 hlx hs1 hg1
              by_cases hy0 : y = 0
              · subst hy0
                go_wp2
                go_roundw
                case rel => exact ⟨_, cnt1, HOn1.out, fun z h1 h2 => by
                  by_cases c : z = x
                  · rw [c]; exact HY.out
                  · exact HZ.out z h1 (by simpa [c] using h2), HB1.out⟩
                case measure => rw [HOn1.out.left_eq, HOn.out.left_eq]; exact hlt
              · have hyb : (y != 0) = true := by simpa using hy0
                have HF := Lib.hid (show res = false by
                  rw [HR0.out, Bool.eq_false_iff]
                  intro c
                  obtain ⟨hp, he⟩ := hasId_pos HV.out HX.out
                  have := (HIff.out.1 c).2.2.2 _ hp
                  rw [he] at this
                  have e := HY.out
                  unfold restL at e
                  omega)
                clear hy0
                go_wp2
                exact bodyPost_ret (v := .bool false) (by simp [results, Tryz.results100, go_sem]) rfl ⟨by rw [HF.out], HB1.out⟩
        case pos =>
          have hil : e < ms.length := by have := HLm.out; omega
          have hi3 : e < ma.length := by have := HL3.out; omega
          obtain ⟨b, off, rfl, hl⟩ := HOk.out.m.at_ (by dsimp only; omega)
          obtain ⟨b3, of3, rfl, hl3⟩ := HS3.out.at_ (by omega)
          have HLs := Lib.hid (hl.below HB2.out)
          have HLs3 := Lib.hid (hl3.below HB2.out)
          obtain ⟨u0, u1, u2, u3, u4⟩ := Mvs.at_ HLs.out (List.getElem?_eq_getElem hil)
          have ul := HLs.out.lt
          have HMm := Lib.hid (mat_eq hil)
          have HI3 := Lib.hid (iget_eq hi3)
          rw [← HMm.out] at u0 u1 u2 u3 u4
          clear hl hl3
          go_upto_region 14 with fail
          have HBn := Lib.hid (below_new wr (.cells #[.int .i64 (mat ms e).id, .int .i64 (mat ms e).fr, .int .i64 (mat ms e).to, .int .i64 (mat ms e).lo, .int .i64 (mat ms e).hi] 59))
          have HK := Lib.hid (Blk.new wr 59 #[.int .i64 (mat ms e).id, .int .i64 (mat ms e).fr, .int .i64 (mat ms e).to, .int .i64 (mat ms e).lo, .int .i64 (mat ms e).hi])
          have HPk := Lib.hid (show g < wr.heap.size from HMe.out.lt)
          generalize hV : wr.alloc (.cells #[.int .i64 (mat ms e).id, .int .i64 (mat ms e).fr, .int .i64 (mat ms e).to, .int .i64 (mat ms e).lo, .int .i64 (mat ms e).hi] 59) = V at *
          have HB3 := Lib.hid (HB2.out.trans (HBn.out.mono HB2.out.size))
          have HBW3 := Lib.hid (HBW2.out.trans (HBn.out.mono (Nat.le_of_lt HPk.out)))
          have HT3 := Lib.hid (HT2.out.below HBn.out)
          have HR3 := Lib.hid (HR2.out.below HBn.out)
          have HM3 := Lib.hid (HMe.out.below HBn.out)
          have HS33 := Lib.hid (HLs3.out.below HBn.out)
          generalize hp : wr.heap.size = p at *
          have HPp := Lib.hid (show g < p from HPk.out)
          clear hV u0 u1 u2 u3 u4 ul y0 y1 z0 z1 z2 yl zl HB2 HT2 HR2 HMe HBW2 HLs HLs3 HBn
          have HWm := Lib.hid (fun u => within_any (iget ma e) (mat ms e).lo (mat ms e).hi u)
          have HD1 := Lib.hid (show inSp (iget ma e) (mat ms e).lo (mat ms e).hi = decide ((mat ms e).lo ≤ iget ma e ∧ iget ma e ≤ (mat ms e).hi) from rfl)
          generalize inSp (iget ma e) (mat ms e).lo (mat ms e).hi = bs at *
          have y0 := HT3.out.cell 0
          have y1 := HT3.out.cell 1
          have z0 := HR3.out.cell 0
          have z1 := HR3.out.cell 1
          have z2 := HR3.out.cell 2
          have k0 := HK.out.cell 0
          have k1 := HK.out.cell 1
          have k2 := HK.out.cell 2
          have k3 := HK.out.cell 3
          have k4 := HK.out.cell 4
          simp only [List.getElem?_toArray, List.getElem?_cons_zero, List.getElem?_cons_succ] at y0 y1 z0 z1 z2 k0 k1 k2 k3 k4
          have yl := HT3.out.lt
          have zl := HR3.out.lt
          have kl := HK.out.lt
          have s0 := HS33.out.c e _ (List.getElem?_eq_getElem hi3) 0 _ rfl
          rw [Nat.mul_one, Nat.add_zero, ← HI3.out] at s0
          have sl := HS33.out.lt
          obtain ⟨xc, xf'⟩ := xcell (W := V)
          refine wp_region_quiet_tail 13 (by kernel_rfl) (by kernel_rfl) ?_
          simp only [List.take_succ_cons, List.take_zero, List.drop_succ_cons, List.drop_zero]
          repeat (first | go_big_quiet_step ((go_at_call 75; with_reducible refine calls_ext_same (HWm.out _))) | quiet_step ((go_at_call 75; with_reducible refine calls_ext_same (HWm.out _))))
          refine wpQuiet_nil ?_
          intro w3 hb3
          have HB4 := Lib.hid (HB3.out.trans (hb3.mono HB3.out.size))
          cases bs with
          | false =>
            have HF := Lib.hid (show res = false by rw [HR0.out, Bool.eq_false_iff]; intro c; have := (HIff.out.1 c).2.2.1 e hil; have := of_decide_eq_false HD1.out.symm; omega)
            go_wp2
            exact bodyPost_ret (v := .bool false) (by simp [results, Tryz.results100, go_sem]) rfl ⟨by rw [HF.out], HB4.out⟩
          | true =>
            have HBW4 := Lib.hid (HBW3.out.trans (hb3.mono (Nat.le_of_lt HM3.out.lt)))
            have HT4 := Lib.hid (HT3.out.below hb3)
            have HR4 := Lib.hid (HR3.out.below hb3)
            have HM4 := Lib.hid (HM3.out.below hb3)
            have HS34 := Lib.hid (HS33.out.below hb3)
            have HK4 := Lib.hid (HK.out.below hb3)
            clear y0 y1 z0 z1 z2 yl zl k0 k1 k2 k3 k4 kl s0 sl xc xf' hb3 HB3 HBW3 HT3 HR3 HM3 HS33 HK
            have HMa := Lib.hid (show 0 ≤ iget ma e ∧ iget ma e ≤ 65536 by
              have a := of_decide_eq_true HD1.out.symm
              have b := HV.out.mv_bound (List.getElem_mem hil)
              rw [← HMm.out] at b
              omega)
            have HQe := Lib.hid (show ∀ i, i < e + 1 → (mat ms i).lo ≤ iget ma i ∧ iget ma i ≤ (mat ms i).hi from fun i h => by
              rcases Nat.lt_succ_iff_lt_or_eq.1 h with h | h
              · exact HQ2.out i h
              · subst h; exact of_decide_eq_true HD1.out.symm)
            have HId := Lib.hid (hasId_mv HV.out hil)
            have HFb := Lib.hid (rest_bound HV.out HQ1.out (by omega : e ≤ ms.length) HQ2.out HId.out.1)
            have HGb := Lib.hid (rest_bound HV.out HQ1.out (by omega : e ≤ ms.length) HQ2.out HId.out.2.1)
            have HFi := Lib.hid (id_bound HV.out HId.out.1)
            have HTi := Lib.hid (id_bound HV.out HId.out.2.1)
            obtain ⟨q1, q2⟩ := HMa.out
            obtain ⟨q3, q4⟩ := HFb.out
            obtain ⟨q5, q6⟩ := HGb.out
            go_upto_region 16 with fail
            have y0 := HT4.out.cell 0
            have y1 := HT4.out.cell 1
            have z0 := HR4.out.cell 0
            have z1 := HR4.out.cell 1
            have z2 := HR4.out.cell 2
            have k0 := HK4.out.cell 0
            have k1 := HK4.out.cell 1
            have k2 := HK4.out.cell 2
            have k3 := HK4.out.cell 3
            have k4 := HK4.out.cell 4
            simp only [List.getElem?_toArray, List.getElem?_cons_zero, List.getElem?_cons_succ] at y0 y1 z0 z1 z2 k0 k1 k2 k3 k4
            have yl := HT4.out.lt
            have zl := HR4.out.lt
            have kl := HK4.out.lt
            have s0 := HS34.out.c e _ (List.getElem?_eq_getElem hi3) 0 _ rfl
            rw [Nat.mul_one, Nat.add_zero, ← HI3.out] at s0
            have sl := HS34.out.lt
            have xm : ∀ x : Ext w3, (Instr.lookup 196 (.map (some g)) (.int .i64 (mat ms e).fr) false).run Tryz.prog x.w = .ok (.int .i64 (restL hs ms st en ma e (mat ms e).fr)) x.w := fun x => (HM4.out.below x.below).look HId.out.1 (by have := HFi.out; omega)
            obtain ⟨xc, xf'⟩ := xcell (W := w3)
            refine wp_region_quiet_tail 10 (by kernel_rfl) (by kernel_rfl) ?_
            simp only [List.take_succ_cons, List.take_zero, List.drop_succ_cons, List.drop_zero]
            repeat (first | go_big_quiet_step (fail) | quiet_step (fail))
            refine wpQuiet_nil ?_
            intro w4 hb4
            obtain ⟨w5, hst, hm5, hg5⟩ := (HM4.out.below hb4).store (x := (mat ms e).fr) (v := restL hs ms st en ma e (mat ms e).fr - iget ma e) (by omega) (by have := HFi.out; omega) (by omega)
            have hz4 : p < w4.heap.size := Nat.lt_of_lt_of_le HK4.out.lt hb4.size
            have HB5 := Lib.hid ((HB4.out.trans (hb4.mono HB4.out.size)).grown hg5 (by have := HB4.out.size; have := hb4.size; omega) (fun k hk => by cases hk; have := HG.out.1; omega))
            have HBW5 := Lib.hid ((HBW4.out.trans (hb4.mono (Nat.le_of_lt HM4.out.lt))).grown hg5 (by have := HM4.out.lt; have := hb4.size; omega) (fun k hk => by cases hk; exact Nat.le_refl _))
            have HT5 := Lib.hid ((HT4.out.below hb4).grown hg5 (fun e => by have := Option.some.inj e; have := HG.out.1; omega))
            have HR5 := Lib.hid ((HR4.out.below hb4).grown hg5 (fun e => by have := Option.some.inj e; have := HG.out.1; omega))
            have HK5 := Lib.hid ((HK4.out.below hb4).grown hg5 (fun e => by have := Option.some.inj e; have := HPp.out; omega))
            have HS35 := Lib.hid ((HS3.out).below HB5.out)
            have HM5 := Lib.hid hm5
            clear y0 y1 z0 z1 z2 yl zl k0 k1 k2 k3 k4 kl s0 sl xc xf' xm hb4 hg5 HB4 HBW4 HT4 HR4 HM4 HS34 HK4 hm5
            go_upto_region 17 with fail
            clear hst
            have y0 := HT5.out.cell 0
            have y1 := HT5.out.cell 1
            have z0 := HR5.out.cell 0
            have z1 := HR5.out.cell 1
            have z2 := HR5.out.cell 2
            have k0 := HK5.out.cell 0
            have k1 := HK5.out.cell 1
            have k2 := HK5.out.cell 2
            have k3 := HK5.out.cell 3
            have k4 := HK5.out.cell 4
            simp only [List.getElem?_toArray, List.getElem?_cons_zero, List.getElem?_cons_succ] at y0 y1 z0 z1 z2 k0 k1 k2 k3 k4
            have yl := HT5.out.lt
            have zl := HR5.out.lt
            have kl := HK5.out.lt
            obtain ⟨b3', of3', e3', hl3'⟩ := HS35.out.at_ (by omega)
            cases e3'
            have s0 := hl3'.c e _ (List.getElem?_eq_getElem hi3) 0 _ rfl
            rw [Nat.mul_one, Nat.add_zero, ← HI3.out] at s0
            have sl := hl3'.lt
            have xm : ∀ x : Ext w5, (Instr.lookup 196 (.map (some g)) (.int .i64 (mat ms e).to) false).run Tryz.prog x.w = .ok (.int .i64 (restL hs ms st en ma e (mat ms e).to)) x.w := fun x => by
              have := (HM5.out.below x.below).look (x := (mat ms e).to) (by rw [HId.out.2.1, Bool.or_true]) (by have := HTi.out; omega)
              rw [if_neg (Ne.symm HId.out.2.2)] at this
              exact this
            obtain ⟨xc, xf'⟩ := xcell (W := w5)
            refine wp_region_quiet_tail 10 (by kernel_rfl) (by kernel_rfl) ?_
            simp only [List.take_succ_cons, List.take_zero, List.drop_succ_cons, List.drop_zero]
            repeat (first | go_big_quiet_step (fail) | quiet_step (fail))
            refine wpQuiet_nil ?_
            intro w6 hb6
            obtain ⟨w7, hst, hm7, hg7⟩ := (HM5.out.below hb6).store (x := (mat ms e).to) (v := restL hs ms st en ma e (mat ms e).to + iget ma e) (by omega) (by have := HTi.out; omega) (by omega)
            have HBW7 := Lib.hid ((HBW5.out.trans (hb6.mono (Nat.le_of_lt HM5.out.lt))).grown hg7 (by have := HM5.out.lt; have := hb6.size; omega) (fun k hk => by cases hk; exact Nat.le_refl _))
            clear xc xf' xm hb6 hg7
            go_wp2
            go_roundw
            case rel => exact ⟨e + 1, q + 1 + 1, by omega, by omega, by go_num, HQe.out, hm7.same (fun x => by
                by_cases c1 : x = (mat ms e).to
                · rw [c1, HId.out.2.1]; simp
                · by_cases c2 : x = (mat ms e).fr
                  · rw [c2, HId.out.1]; simp
                  · simp [c1, c2]) (fun x _ => by
                rw [restL_step]
                by_cases c1 : x = (mat ms e).to
                · rw [if_pos c1, if_pos c1.symm, if_neg (by rw [c1]; exact HId.out.2.2), c1]; omega
                · rw [if_neg c1, if_neg (Ne.symm c1)]
                  by_cases c2 : x = (mat ms e).fr
                  · rw [if_pos c2, if_pos c2.symm, c2]; omega
                  · rw [if_neg c2, if_neg (Ne.symm c2)]; omega), HBW7.out⟩
            case measure => simp [intOf]; omega
    case pos =>
      have hil : j < hs.length := by have := HLh.out; omega
      have hi1 : j < st.length := by have := HL1.out; omega
      have hi2 : j < en.length := by have := HL2.out; omega
      obtain ⟨b, off, rfl, hl⟩ := HOk.out.h.at_ (by dsimp only; omega)
      obtain ⟨b1, of1, rfl, hl1⟩ := HS1.out.at_ (by omega)
      obtain ⟨b2, of2, rfl, hl2⟩ := HS2.out.at_ (by omega)
      have HLs := Lib.hid (hl.below HB.out)
      have HLs1 := Lib.hid (hl1.below HB.out)
      have HLs2 := Lib.hid (hl2.below HB.out)
      obtain ⟨u0, u1, u2, u3, u4, u5⟩ := Hds.at_ HLs.out (List.getElem?_eq_getElem hil)
      have ul := HLs.out.lt
      have HH := Lib.hid (hat_eq hil)
      have HI1 := Lib.hid (iget_eq hi1)
      have HI2 := Lib.hid (iget_eq hi2)
      rw [← HH.out] at u0 u1 u2 u3 u4 u5
      clear hl hl1 hl2
      go_upto_region 7 with fail
      have HBn := Lib.hid (below_new wr (.cells #[.int .i64 (hat hs j).id, .int .i64 (hat hs j).sl, .int .i64 (hat hs j).sh, .int .i64 (hat hs j).el, .int .i64 (hat hs j).eh, .int .i64 (hat hs j).bk] 118))
      have HK := Lib.hid (Blk.new wr 118 #[.int .i64 (hat hs j).id, .int .i64 (hat hs j).sl, .int .i64 (hat hs j).sh, .int .i64 (hat hs j).el, .int .i64 (hat hs j).eh, .int .i64 (hat hs j).bk])
      have HPk := Lib.hid (show g < wr.heap.size from HMj.out.lt)
      generalize hV : wr.alloc (.cells #[.int .i64 (hat hs j).id, .int .i64 (hat hs j).sl, .int .i64 (hat hs j).sh, .int .i64 (hat hs j).el, .int .i64 (hat hs j).eh, .int .i64 (hat hs j).bk] 118) = V at *
      have HB2 := Lib.hid (HB.out.trans (HBn.out.mono HB.out.size))
      have HBW2 := Lib.hid (HBW.out.trans (HBn.out.mono (Nat.le_of_lt HPk.out)))
      have HT2 := Lib.hid (HQT.out.below HBn.out)
      have HR2 := Lib.hid (HQR.out.below HBn.out)
      have HM2 := Lib.hid (HMj.out.below HBn.out)
      have HS12 := Lib.hid (HLs1.out.below HBn.out)
      have HS22 := Lib.hid (HLs2.out.below HBn.out)
      generalize hp : wr.heap.size = p at *
      clear hV u0 u1 u2 u3 u4 u5 ul y0 y1 z0 z1 z2 yl zl HB HQT HQR HMj HBW HLs HLs1 HLs2 HBn
      have HWs := Lib.hid (fun u => within_any (iget st j) (hat hs j).sl (hat hs j).sh u)
      have HWe := Lib.hid (fun u => within_any (iget en j) (hat hs j).el (hat hs j).eh u)
      have HD1 := Lib.hid (show inSp (iget st j) (hat hs j).sl (hat hs j).sh = decide ((hat hs j).sl ≤ iget st j ∧ iget st j ≤ (hat hs j).sh) from rfl)
      have HD2 := Lib.hid (show inSp (iget en j) (hat hs j).el (hat hs j).eh = decide ((hat hs j).el ≤ iget en j ∧ iget en j ≤ (hat hs j).eh) from rfl)
      generalize inSp (iget st j) (hat hs j).sl (hat hs j).sh = bs at *
      generalize inSp (iget en j) (hat hs j).el (hat hs j).eh = be at *
      have y0 := HT2.out.cell 0
      have y1 := HT2.out.cell 1
      have z0 := HR2.out.cell 0
      have z1 := HR2.out.cell 1
      have z2 := HR2.out.cell 2
      have k0 := HK.out.cell 0
      have k1 := HK.out.cell 1
      have k2 := HK.out.cell 2
      have k3 := HK.out.cell 3
      have k4 := HK.out.cell 4
      have k5 := HK.out.cell 5
      simp only [List.getElem?_toArray, List.getElem?_cons_zero, List.getElem?_cons_succ] at y0 y1 z0 z1 z2 k0 k1 k2 k3 k4 k5
      have yl := HT2.out.lt
      have zl := HR2.out.lt
      have kl := HK.out.lt
      have s0 := HS12.out.c j _ (List.getElem?_eq_getElem hi1) 0 _ rfl
      have s1 := HS22.out.c j _ (List.getElem?_eq_getElem hi2) 0 _ rfl
      rw [Nat.mul_one, Nat.add_zero] at s0 s1
      rw [← HI1.out] at s0
      rw [← HI2.out] at s1
      have sl := HS12.out.lt
      have tl := HS22.out.lt
      cases bs with
      | false =>
        obtain ⟨xc, xf'⟩ := xcell (W := V)
        refine wp_region_quiet_tail 28 (by kernel_rfl) (by kernel_rfl) ?_
        simp only [List.take_succ_cons, List.take_zero, List.drop_succ_cons, List.drop_zero]
        repeat (first | go_big_quiet_step ((first | (go_at_call 75; with_reducible refine calls_ext_same (HWs.out _)) | (go_at_call 75; with_reducible refine calls_ext_same (HWe.out _)))) | quiet_step ((first | (go_at_call 75; with_reducible refine calls_ext_same (HWs.out _)) | (go_at_call 75; with_reducible refine calls_ext_same (HWe.out _)))))
        refine wpQuiet_nil ?_
        intro w3 hb3
        have HB3 := Lib.hid (HB2.out.trans (hb3.mono HB2.out.size))
        have HF := Lib.hid (show res = false by rw [HR0.out, Bool.eq_false_iff]; intro c; have := (HIff.out.1 c).2.1 j hil; have := of_decide_eq_false HD1.out.symm; omega)
        go_wp2
        exact bodyPost_ret (v := .bool false) (by simp [results, Tryz.results100, go_sem]) rfl ⟨by rw [HF.out], HB3.out⟩
      | true =>
      cases be with
      | false =>
        obtain ⟨xc, xf'⟩ := xcell (W := V)
        refine wp_region_quiet_tail 28 (by kernel_rfl) (by kernel_rfl) ?_
        simp only [List.take_succ_cons, List.take_zero, List.drop_succ_cons, List.drop_zero]
        repeat (first | go_big_quiet_step ((first | (go_at_call 75; with_reducible refine calls_ext_same (HWs.out _)) | (go_at_call 75; with_reducible refine calls_ext_same (HWe.out _)))) | quiet_step ((first | (go_at_call 75; with_reducible refine calls_ext_same (HWs.out _)) | (go_at_call 75; with_reducible refine calls_ext_same (HWe.out _)))))
        refine wpQuiet_nil ?_
        intro w3 hb3
        have HB3 := Lib.hid (HB2.out.trans (hb3.mono HB2.out.size))
        have HF := Lib.hid (show res = false by rw [HR0.out, Bool.eq_false_iff]; intro c; have := (HIff.out.1 c).2.1 j hil; have := of_decide_eq_false HD2.out.symm; omega)
        go_wp2
        exact bodyPost_ret (v := .bool false) (by simp [results, Tryz.results100, go_sem]) rfl ⟨by rw [HF.out], HB3.out⟩
      | true =>
        obtain ⟨xc, xf'⟩ := xcell (W := V)
        refine wp_region_quiet_tail 28 (by kernel_rfl) (by kernel_rfl) ?_
        simp only [List.take_succ_cons, List.take_zero, List.drop_succ_cons, List.drop_zero]
        repeat (first | go_big_quiet_step ((first | (go_at_call 75; with_reducible refine calls_ext_same (HWs.out _)) | (go_at_call 75; with_reducible refine calls_ext_same (HWe.out _)))) | quiet_step ((first | (go_at_call 75; with_reducible refine calls_ext_same (HWs.out _)) | (go_at_call 75; with_reducible refine calls_ext_same (HWe.out _)))))
        refine wpQuiet_nil ?_
        intro w3 hb3
        have HB3 := Lib.hid (HB2.out.trans (hb3.mono HB2.out.size))
        have HBW3 := Lib.hid (HBW2.out.trans (hb3.mono (Nat.le_of_lt HM2.out.lt)))
        have HT3 := Lib.hid (HT2.out.below hb3)
        have HR3 := Lib.hid (HR2.out.below hb3)
        have HM3 := Lib.hid (HM2.out.below hb3)
        have HS13 := Lib.hid (HS12.out.below hb3)
        have HS23 := Lib.hid (HS22.out.below hb3)
        have HK3 := Lib.hid (HK.out.below hb3)
        clear y0 y1 z0 z1 z2 yl zl k0 k1 k2 k3 k4 k5 kl s0 s1 sl tl xc xf' hb3 HB2 HBW2 HT2 HR2 HM2 HS12 HS22 HK
        generalize w3 = V at *
        have y0 := HT3.out.cell 0
        have y1 := HT3.out.cell 1
        have z0 := HR3.out.cell 0
        have z1 := HR3.out.cell 1
        have z2 := HR3.out.cell 2
        have k0 := HK3.out.cell 0
        have k1 := HK3.out.cell 1
        have k2 := HK3.out.cell 2
        have k3 := HK3.out.cell 3
        have k4 := HK3.out.cell 4
        have k5 := HK3.out.cell 5
        simp only [List.getElem?_toArray, List.getElem?_cons_zero, List.getElem?_cons_succ] at y0 y1 z0 z1 z2 k0 k1 k2 k3 k4 k5
        have yl := HT3.out.lt
        have zl := HR3.out.lt
        have kl := HK3.out.lt
        have s0 := HS13.out.c j _ (List.getElem?_eq_getElem hi1) 0 _ rfl
        have s1 := HS23.out.c j _ (List.getElem?_eq_getElem hi2) 0 _ rfl
        rw [Nat.mul_one, Nat.add_zero] at s0 s1
        rw [← HI1.out] at s0
        rw [← HI2.out] at s1
        have sl := HS13.out.lt
        have tl := HS23.out.lt
        have HSE := Lib.hid (show 0 ≤ iget st j ∧ iget st j ≤ 65536 ∧ 0 ≤ iget en j ∧ iget en j ≤ 65536 by
          have a := of_decide_eq_true HD1.out.symm
          have b := of_decide_eq_true HD2.out.symm
          have c := HV.out.hd_bound (List.getElem_mem hil)
          rw [← HH.out] at c
          omega)
        obtain ⟨q1, q2, q3, q4⟩ := HSE.out
        have HIb := Lib.hid (ids_bound HV.out hil)
        go_upto_region 9 with fail
        obtain ⟨xc, xf'⟩ := xcell (W := V)
        refine wp_region_quiet_tail 14 (by kernel_rfl) (by kernel_rfl) ?_
        simp only [List.take_succ_cons, List.take_zero, List.drop_succ_cons, List.drop_zero]
        repeat (first | go_big_quiet_step (fail) | quiet_step (fail))
        refine wpQuiet_nil ?_
        intro w4 hb4
        obtain ⟨w5, hst, hm5, hg5⟩ := (HM3.out.below hb4).store (x := (hat hs j).id) (v := iget st j - iget en j) (by omega) (by have := HIb.out; omega) (by omega)
        have HB5 := Lib.hid ((HB3.out.trans (hb4.mono HB3.out.size)).grown hg5 (by have := HB3.out.size; have := hb4.size; omega) (fun k hk => by cases hk; have := HG.out.1; omega))
        have HBW5 := Lib.hid ((HBW3.out.trans (hb4.mono (Nat.le_of_lt HM3.out.lt))).grown hg5 (by have := HM3.out.lt; have := hb4.size; omega) (fun k hk => by cases hk; exact Nat.le_refl _))
        clear xc xf' hb4 hg5
        go_wp2
        go_roundw
        case rel => exact ⟨j + 1, by omega, by go_num, fun i h => by
          rcases Nat.lt_succ_iff_lt_or_eq.1 h with h | h
          · exact HQ.out i h
          · subst h; exact ⟨of_decide_eq_true HD1.out.symm, of_decide_eq_true HD2.out.symm⟩,
          hm5.same (fun x => hasId_succ hs j x) (fun x _ => by
            by_cases e : x = (hat hs j).id
            · rw [if_pos e, e]; exact restL_start HV.out st en ma hil
            · rw [if_neg e]), HBW5.out⟩
        case measure => simp [intOf]; omega
set_option maxRecDepth 100000 in
set_option maxHeartbeats 3200000 in
theorem CheckCourse_any (t : TR) (A1 : Option Addr) (n1 c1 : Nat) (A2 : Option Addr) (n2 c2 : Nat) (A3 : Option Addr) (n3 c3 : Nat) (st en ma : List Int) (w : World) (h : t.Ok w) (h1 : SAt encI 1 w A1 n1 st) (h2 : SAt encI 1 w A2 n2 en) (h3 : SAt encI 1 w A3 n3 ma) :
    Calls Tryz.prog 53 #[t.v, vCo A1 n1 c1 A2 n2 c2 A3 n3 c3] w fun e w' => e = .returned (.int .i64 (ckCo t.hs t.ms st en ma)) ∧ Below w.heap.size w w' := by
  have hb0 := ((Below.refl w.heap.size w).alloc (Nat.le_refl _) (.cells #[.slice t.A t.n t.c, .slice t.B t.m t.d] 25)).alloc (by simp) (.cells #[.slice A1 n1 c1, .slice A2 n2 c2, .slice A3 n3 c3] 68)
  have HCk := Lib.hid (fun (u : World) (hu : Below w.heap.size w u) => Check_any t u (h.below hu))
  have HSh := Lib.hid (fun (hv : TV t.hs t.ms) (u : World) (hu : Below w.heap.size w u) => fits_any t A1 n1 c1 A2 n2 c2 A3 n3 c3 st en ma u (h.below hu) (h1.below hu) (h2.below hu) (h3.below hu) hv)
  obtain ⟨A, n, c, B, m, d, hs, ms⟩ := t
  dsimp only [TR.v] at *
  have t0 := (Blk.new w 25 #[.slice A n c, .slice B m d]).alloc (.cells #[.slice A1 n1 c1, .slice A2 n2 c2, .slice A3 n3 c3] 68)
  have r0 := Blk.at_new (W := w.alloc (.cells #[.slice A n c, .slice B m d] 25)) (g := w.heap.size + 1) 68 #[.slice A1 n1 c1, .slice A2 n2 c2, .slice A3 n3 c3] (by simp)
  have HE := Lib.hid (show ckCo hs ms st en ma = if tcheck hs ms ≠ 0 then tcheck hs ms else if fitsL hs ms st en ma = true then 0 else 8 from rfl)
  have HVv := Lib.hid (fun h : tcheck hs ms = 0 => tcheck_zero.1 h)
  generalize ckCo hs ms st en ma = res at *
  generalize fitsL hs ms st en ma = sh at *
  generalize tcheck hs ms = ck at *
  clear h h1 h2 h3
  go_enter Tryz.func53, Tryz.ntmps53
  go_upto_region 1 with fail
  generalize hW : (w.alloc (.cells #[.slice A n c, .slice B m d] 25)).alloc (.cells #[.slice A1 n1 c1, .slice A2 n2 c2, .slice A3 n3 c3] 68) = W at *
  clear hW
  have HT := Lib.hid t0
  have HR := Lib.hid r0
  have HB0 := Lib.hid hb0
  have y0 := t0.cell 0
  have y1 := t0.cell 1
  simp only [List.getElem?_toArray, List.getElem?_cons_zero, List.getElem?_cons_succ] at y0 y1
  have yl := t0.lt
  clear t0 r0 hb0
  go_upto_region 2 with (go_at_call 30; with_reducible refine (HCk.out _ HB0.out).mono ?_; rintro e w1 ⟨rfl, hb1⟩)
  have HB1 := Lib.hid (HB0.out.trans (hb1.mono HB0.out.size))
  have T1 := HT.out.below hb1
  have R1 := HR.out.below hb1
  clear y0 y1 yl hb1
  by_cases hz : ck = 0
  case neg =>
    have hzb : (ck != 0) = true := by simpa using hz
    have HZ := Lib.hid hz
    clear hz
    go_wp2
    exact bodyPost_ret (v := .int .i64 ck) (by simp [results, Tryz.results53, go_sem]) rfl ⟨by rw [HE.out, if_pos HZ.out], HB1.out⟩
  case pos =>
  subst hz
  have HSv := Lib.hid (HSh.out (HVv.out rfl))
  clear HVv HSh
  have y0 := T1.cell 0
  have y1 := T1.cell 1
  have z0 := R1.cell 0
  have z1 := R1.cell 1
  have z2 := R1.cell 2
  simp only [List.getElem?_toArray, List.getElem?_cons_zero, List.getElem?_cons_succ] at y0 y1 z0 z1 z2
  have yl := T1.lt
  have zl := R1.lt
  cases sh
  · go_wp2_with (go_at_call 100; with_reducible refine (HSv.out _ HB1.out).mono ?_; rintro e w2 ⟨rfl, hb2⟩)
    exact bodyPost_ret (v := .int .i64 8) (by simp [results, Tryz.results53, go_sem]) rfl ⟨by rw [HE.out]; simp, HB1.out.trans (hb2.mono HB1.out.size)⟩
  · go_wp2_with (go_at_call 100; with_reducible refine (HSv.out _ HB1.out).mono ?_; rintro e w2 ⟨rfl, hb2⟩)
    exact bodyPost_ret (v := .int .i64 0) (by simp [results, Tryz.results53, go_sem]) rfl ⟨by rw [HE.out]; simp, HB1.out.trans (hb2.mono HB1.out.size)⟩
end Go.Proofs.YtighfmgkoepfkaaGreat
