/- The specification's Limits. -/
import Derived.Test.YtighfmgkoepfkaaGreatMAg
import Derived.Test.YtighfmgkoepfkaaGreatMR
namespace Go.Proofs.YtighfmgkoepfkaaGreat
open Go.RowKit

/-- How wide a span in a block is. -/
def spW (w : World) (g : Nat) : Nat := (intOf ((w.cell? ⟨g, 1, none⟩).getD undef) - intOf ((w.cell? ⟨g, 0, none⟩).getD undef)).toNat
theorem spW_blk {w : World} {g : Nat} {t : TypeId} {a b : Int} (h : Blk w g t #[.int .i64 a, .int .i64 b]) : spW w g = (b - a).toNat := by
  have h0 := h.cell 0
  have h1 := h.cell 1
  simp only [List.getElem?_toArray, List.getElem?_cons_zero, List.getElem?_cons_succ] at h0 h1
  unfold spW
  rw [h0, h1]
  rfl
theorem half_r {x : Int} (h : 0 ≤ x) : ∃ r, x.tdiv 2 = r ∧ 2 * r ≤ x ∧ x ≤ 2 * r + 1 := by
  refine ⟨x / 2, Int.tdiv_eq_ediv_of_nonneg h, ?_, ?_⟩ <;> omega
set_option maxRecDepth 100000 in
set_option maxHeartbeats 12800000 in
theorem narrow_any (t : TR) (kind id : Int) (w : World) (h : t.Ok w) (hv : TV t.hs t.ms) (hp : placeE t.hs t.ms kind id = 0) (ha : agrL t.hs t.ms = true) :
    Calls Tryz.prog 62 #[t.v, vAt kind id] w fun e w' => e = .returned (vSp (narLo t.hs t.ms (placeN t.hs t.ms kind id)) (narHi t.hs t.ms (placeN t.hs t.ms kind id))) ∧ Below w.heap.size w w' := by
  have hn : t.n ≤ 1000000 := by rw [← h.h.len]; have := hv.lenH; omega
  have hm : t.m ≤ 1000000 := by rw [← h.m.len]; have := hv.lenM; omega
  have HOf := Lib.hid (fun (u : World) (hu : t.Ok u) => Of_any t kind id u hu hn hm)
  have HPt := Lib.hid (fun (u : World) (hu : t.Ok u) (lo hi : Int) => put_tr (kind := kind) (id := id) (lo := lo) (hi := hi) hu hv)
  obtain ⟨A, n, c, B, m, d, hs, ms⟩ := t
  dsimp only [TR.v, vAt, vSp] at *
  have hlt := placeN_lt hp
  have hso := span_ok hv hlt
  have hne := nar_ends hv hlt ha
  rw [show ofV hs ms kind id = (spanLo hs ms (placeN hs ms kind id), spanHi hs ms (placeN hs ms kind id)) from by unfold ofV; rw [if_pos hp], hp] at HOf
  have HLo := Lib.hid (fun mid (h1 : spanLo hs ms (placeN hs ms kind id) ≤ mid) (h2 : mid ≤ spanHi hs ms (placeN hs ms kind id)) => by
    have q := lo_fits hv hlt ha h1 h2
    have tv := hv.put (lo := spanLo hs ms (placeN hs ms kind id)) (hi := mid) (by simp [okSp]; omega) (placeN hs ms kind id)
    rw [putH_id hv.ids hp, putM_id hv.mids hp] at q tv
    exact (And.intro q tv : agrL (putIH hs kind id (spanLo hs ms (placeN hs ms kind id)) mid) (putIM ms kind id (spanLo hs ms (placeN hs ms kind id)) mid) = _ ∧ TV (putIH hs kind id (spanLo hs ms (placeN hs ms kind id)) mid) (putIM ms kind id (spanLo hs ms (placeN hs ms kind id)) mid)))
  have HHi := Lib.hid (fun mid (h1 : spanLo hs ms (placeN hs ms kind id) ≤ mid) (h2 : mid ≤ spanHi hs ms (placeN hs ms kind id)) => by
    have q := hi_fits hv hlt ha h1 h2
    have tv := hv.put (lo := mid) (hi := spanHi hs ms (placeN hs ms kind id)) (by simp [okSp]; omega) (placeN hs ms kind id)
    rw [putH_id hv.ids hp, putM_id hv.mids hp] at q tv
    exact (And.intro q tv : agrL (putIH hs kind id mid (spanHi hs ms (placeN hs ms kind id))) (putIM ms kind id mid (spanHi hs ms (placeN hs ms kind id))) = _ ∧ TV (putIH hs kind id mid (spanHi hs ms (placeN hs ms kind id))) (putIM ms kind id mid (spanHi hs ms (placeN hs ms kind id)))))
  clear hp ha hv hlt
  generalize spanLo hs ms (placeN hs ms kind id) = sl at *
  generalize spanHi hs ms (placeN hs ms kind id) = sh at *
  generalize narLo hs ms (placeN hs ms kind id) = nl at *
  generalize narHi hs ms (placeN hs ms kind id) = nh at *
  obtain ⟨hs0, hs1, hs2⟩ := hso
  obtain ⟨hn1, hn2, hn3⟩ := hne
  have hb0 := (((Below.refl w.heap.size w).alloc (Nat.le_refl _) (.cells #[.slice A n c, .slice B m d] 25)).alloc (by simp) (.cells #[.int .i64 kind, .int .i64 id] 83)).alloc (by simp; omega) (.cells #[.int .i64 0, .int .i64 0] 57)
  have t0 := (((Blk.new w 25 #[.slice A n c, .slice B m d]).alloc (.cells #[.int .i64 kind, .int .i64 id] 83)).alloc (.cells #[.int .i64 0, .int .i64 0] 57))
  have x0 := (Blk.at_new (W := w.alloc (.cells #[.slice A n c, .slice B m d] 25)) (g := w.heap.size + 1) 83 #[.int .i64 kind, .int .i64 id] (by simp)).alloc (.cells #[.int .i64 0, .int .i64 0] 57)
  have r0 := Blk.at_new (W := (w.alloc (.cells #[.slice A n c, .slice B m d] 25)).alloc (.cells #[.int .i64 kind, .int .i64 id] 83)) (g := w.heap.size + 1 + 1) 57 #[.int .i64 0, .int .i64 0] (by simp)
  have HOk := Lib.hid h
  have HB0 := Lib.hid hb0
  have HT0 := Lib.hid t0
  have HX0 := Lib.hid x0
  have HR0 := Lib.hid r0
  clear h hb0 t0 x0 r0
  go_enter Tryz.func62, Tryz.ntmps62
  go_upto_region 1 with fail
  generalize hW : ((w.alloc (.cells #[.slice A n c, .slice B m d] 25)).alloc (.cells #[.int .i64 kind, .int .i64 id] 83)).alloc (.cells #[.int .i64 0, .int .i64 0] 57) = W at *
  clear hW
  have y0 := HT0.out.cell 0
  have y1 := HT0.out.cell 1
  have a0 := HX0.out.cell 0
  have a1 := HX0.out.cell 1
  simp only [List.getElem?_toArray, List.getElem?_cons_zero, List.getElem?_cons_succ] at y0 y1 a0 a1
  have yl := HT0.out.lt
  have al := HX0.out.lt
  have HC := Lib.hid (HOf.out W (HOk.out.below HB0.out))
  go_upto_region 2 with (go_at_call 96; with_reducible refine HC.out.mono ?_; rintro e u1 ⟨rfl, hb⟩)
  have b1 := below_new u1 (.cells #[.int .i64 sl, .int .i64 sh] 57)
  have s1 := Blk.new u1 57 #[.int .i64 sl, .int .i64 sh]
  have hbb := hb.trans (b1.mono hb.size)
  have HB1 := Lib.hid (HB0.out.trans (hbb.mono HB0.out.size))
  have HT1 := Lib.hid (HT0.out.below hbb)
  have HX1 := Lib.hid (HX0.out.below hbb)
  have HR1 := Lib.hid (HR0.out.below hbb)
  have hsz := hb.size
  have hgw : w.heap.size + 1 + 1 < u1.heap.size := Nat.lt_of_lt_of_le HR0.out.lt hb.size
  clear y0 y1 a0 a1 yl al HC hb b1 hbb HB0 HT0 HX0 HR0 hsz
  generalize hV : u1.alloc (.cells #[.int .i64 sl, .int .i64 sh] 57) = V1 at *
  generalize hg : u1.heap.size = gs at *
  clear hV hg
  have q0 := s1.cell 0
  have q1 := s1.cell 1
  simp only [List.getElem?_toArray, List.getElem?_cons_zero, List.getElem?_cons_succ] at q0 q1
  have ql := s1.lt
  go_upto_region 3 with fail
  have b2 := below_new V1 (.cells #[.int .i64 sl, .int .i64 sh] 57)
  have HL2 := Lib.hid (Blk.new V1 57 #[.int .i64 sl, .int .i64 sh])
  have HS2 := Lib.hid (s1.below b2)
  have HB2 := Lib.hid (HB1.out.trans (b2.mono HB1.out.size))
  have HT2 := Lib.hid (HT1.out.below b2)
  have HX2 := Lib.hid (HX1.out.below b2)
  have HR2 := Lib.hid (HR1.out.below b2)
  have hgl : gs < V1.heap.size := ql
  clear q0 q1 ql s1 b2 HB1 HT1 HX1 HR1
  generalize hV : V1.alloc (.cells #[.int .i64 sl, .int .i64 sh] 57) = V2 at *
  generalize hg : V1.heap.size = gl at *
  have HGs := Lib.hid (And.intro hgw hgl)
  clear hV hg hgw hgl
  go_loopw [8, 9] (fun _ _ wx => ∃ a b : Int, sl ≤ a ∧ a ≤ nl ∧ nl ≤ b ∧ b ≤ sh ∧ Blk wx gl 57 #[.int .i64 a, .int .i64 b] ∧ Blk wx gs 57 #[.int .i64 sl, .int .i64 sh] ∧ Below w.heap.size w wx ∧ Blk wx w.heap.size 25 #[.slice A n c, .slice B m d] ∧ Blk wx (w.heap.size + 1) 83 #[.int .i64 kind, .int .i64 id] ∧ Blk wx (w.heap.size + 1 + 1) 57 #[.int .i64 0, .int .i64 0]) (fun _ _ wx => spW wx gl)
  case atStart => exact ⟨sl, sh, Int.le_refl _, hn1, by omega, Int.le_refl _, HL2.out, HS2.out, HB2.out, HT2.out, HX2.out, HR2.out⟩
  case round =>
    clear HL2 HS2 HB2 HT2 HX2 HR2
    obtain ⟨a, b, h1, h2, h3, h4, hl, hs', hb, ht, hx, hr⟩ := hrel
    have HLk := Lib.hid hl
    have HSk := Lib.hid hs'
    have HBk := Lib.hid hb
    have HTk := Lib.hid ht
    have HXk := Lib.hid hx
    have HRk := Lib.hid hr
    clear hl hs' hb ht hx hr
    have l0 := HLk.out.cell 0
    have l1 := HLk.out.cell 1
    simp only [List.getElem?_toArray, List.getElem?_cons_zero, List.getElem?_cons_succ] at l0 l1
    have ll := HLk.out.lt
    by_cases hab : a < b
    case pos =>
      have habb : decide (a < b) = true := decide_eq_true hab
      obtain ⟨r, hr, hr1, hr2⟩ := half_r (show 0 ≤ b - a by omega)
      obtain ⟨mid, hmid⟩ : ∃ x, a + r = x := ⟨_, rfl⟩
      have hw1 : a ≤ mid ∧ mid < b := by omega
      have HQ := Lib.hid (HLo.out mid (by omega) (by omega))
      have y0 := HTk.out.cell 0
      have y1 := HTk.out.cell 1
      have a0 := HXk.out.cell 0
      have a1 := HXk.out.cell 1
      have s0 := HSk.out.cell 0
      have s1 := HSk.out.cell 1
      simp only [List.getElem?_toArray, List.getElem?_cons_zero, List.getElem?_cons_succ] at y0 y1 a0 a1 s0 s1
      have yl := HTk.out.lt
      have al := HXk.out.lt
      have sl' := HSk.out.lt
      have HC := Lib.hid (HPt.out wr (HOk.out.below HBk.out) sl mid)
      have HSw := Lib.hid (spW_blk HLk.out)
      have hbounds : -131072 ≤ a ∧ a ≤ 131072 ∧ -131072 ≤ b ∧ b ≤ 131072 := by omega
      go_upto_region 6 with (first | (go_at_call 54; with_reducible refine HC.out.mono ?_; rintro e u2 ⟨A', n', c', B', m', d', rfl, hok, hb2⟩; have HB5 := Lib.hid hb2; have HAg := Lib.hid (RAgrees_any ⟨A', n', c', B', m', d', putIH hs kind id sl mid, putIM ms kind id sl mid⟩ u2 hok HQ.out.2); dsimp only [TR.v] at HAg; rw [HQ.out.1] at HAg; clear hok hb2) | (go_at_call 40; with_reducible refine HAg.out.mono ?_; rintro e u3 ⟨rfl, hb3⟩))
      have hbx := HB5.out.trans (hb3.mono HB5.out.size)
      have HB3 := Lib.hid (HBk.out.trans (hbx.mono HBk.out.size))
      have HT3 := Lib.hid (HTk.out.below hbx)
      have HX3 := Lib.hid (HXk.out.below hbx)
      have HR3 := Lib.hid (HRk.out.below hbx)
      have HS3 := Lib.hid (HSk.out.below hbx)
      have HL3 := Lib.hid (HLk.out.below hbx)
      clear y0 y1 a0 a1 s0 s1 l0 l1 yl al sl' ll hb3 hbx HC HAg HB5 HTk HXk HRk HSk HLk HBk
      have l0 := HL3.out.cell 0
      have l1 := HL3.out.cell 1
      simp only [List.getElem?_toArray, List.getElem?_cons_zero, List.getElem?_cons_succ] at l0 l1
      have ll := HL3.out.lt
      have f0 := HL3.out.frozen 0
      have f1 := HL3.out.frozen 1
      have hgs := HGs.out
      by_cases hc : nl ≤ mid
      case pos =>
        rw [decide_eq_true hc]
        go_wp2
        go_roundw
        case rel => exact ⟨a, mid, by omega, by omega, by omega, by omega, by simpa using HL3.out.set_ 1 (.int .i64 (mid)), HS3.out.far (p := ⟨gl, 1, none⟩) (by simp; omega) _, HB3.out.setCell (p := ⟨gl, 1, none⟩) (by simp; omega) _, HT3.out.far (p := ⟨gl, 1, none⟩) (by simp; omega) _, HX3.out.far (p := ⟨gl, 1, none⟩) (by simp; omega) _, HR3.out.far (p := ⟨gl, 1, none⟩) (by simp; omega) _⟩
        case measure => rw [HSw.out, spW_blk (show Blk _ gl 57 #[.int .i64 (a), .int .i64 (mid)] by simpa using HL3.out.set_ 1 (.int .i64 (mid)))]; omega
      case neg =>
        rw [decide_eq_false hc]
        go_wp2
        go_roundw
        case rel => exact ⟨mid + 1, b, by omega, by omega, by omega, by omega, by simpa using HL3.out.set_ 0 (.int .i64 (mid + 1)), HS3.out.far (p := ⟨gl, 0, none⟩) (by simp; omega) _, HB3.out.setCell (p := ⟨gl, 0, none⟩) (by simp; omega) _, HT3.out.far (p := ⟨gl, 0, none⟩) (by simp; omega) _, HX3.out.far (p := ⟨gl, 0, none⟩) (by simp; omega) _, HR3.out.far (p := ⟨gl, 0, none⟩) (by simp; omega) _⟩
        case measure => rw [HSw.out, spW_blk (show Blk _ gl 57 #[.int .i64 (mid + 1), .int .i64 (b)] by simpa using HL3.out.set_ 0 (.int .i64 (mid + 1)))]; omega
    case neg =>
      have hab2 : decide (a < b) = false := decide_eq_false hab
      obtain rfl : a = nl := by omega
      obtain rfl : a = b := by omega
      have s0 := HSk.out.cell 0
      have s1 := HSk.out.cell 1
      simp only [List.getElem?_toArray, List.getElem?_cons_zero, List.getElem?_cons_succ] at s0 s1
      have sl' := HSk.out.lt
      have hgs := HGs.out
      go_upto_region 10 with fail
      have b2 := below_new wr (.cells #[.int .i64 sl, .int .i64 sh] 57)
      have HM2 := Lib.hid (Blk.new wr 57 #[.int .i64 sl, .int .i64 sh])
      have HL2 := Lib.hid (HLk.out.below b2)
      have HS2 := Lib.hid (HSk.out.below b2)
      have HB2 := Lib.hid (HBk.out.trans (b2.mono HBk.out.size))
      have HT2 := Lib.hid (HTk.out.below b2)
      have HX2 := Lib.hid (HXk.out.below b2)
      have HR2 := Lib.hid (HRk.out.below b2)
      have hgm : gl < wr.heap.size := ll
      clear l0 l1 ll s0 s1 sl' b2 HLk HSk HBk HTk HXk HRk
      generalize hV : wr.alloc (.cells #[.int .i64 sl, .int .i64 sh] 57) = V3 at *
      generalize hg : wr.heap.size = gm at *
      have HGm := Lib.hid hgm
      clear hV hg hgm hab h1 h2 h3 h4
      go_loopw [11, 12] (fun _ _ wx => ∃ p q : Int, sl ≤ p ∧ p ≤ nh ∧ nh ≤ q ∧ q ≤ sh ∧ Blk wx gm 57 #[.int .i64 p, .int .i64 q] ∧ Blk wx gl 57 #[.int .i64 a, .int .i64 a] ∧ Blk wx gs 57 #[.int .i64 sl, .int .i64 sh] ∧ Below w.heap.size w wx ∧ Blk wx w.heap.size 25 #[.slice A n c, .slice B m d] ∧ Blk wx (w.heap.size + 1) 83 #[.int .i64 kind, .int .i64 id] ∧ Blk wx (w.heap.size + 1 + 1) 57 #[.int .i64 0, .int .i64 0]) (fun _ _ wx => spW wx gm)
      case atStart => exact ⟨sl, sh, Int.le_refl _, by omega, by omega, Int.le_refl _, HM2.out, HL2.out, HS2.out, HB2.out, HT2.out, HX2.out, HR2.out⟩
      case round =>
        clear HM2 HL2 HS2 HB2 HT2 HX2 HR2
        obtain ⟨p, q, h1, h2, h3, h4, hm', hl, hs', hb, ht, hx, hr⟩ := hrel
        have HNk := Lib.hid hl
        have HLk := Lib.hid hm'
        have HSk := Lib.hid hs'
        have HBk := Lib.hid hb
        have HTk := Lib.hid ht
        have HXk := Lib.hid hx
        have HRk := Lib.hid hr
        clear hm' hl hs' hb ht hx hr
        have l0 := HLk.out.cell 0
        have l1 := HLk.out.cell 1
        simp only [List.getElem?_toArray, List.getElem?_cons_zero, List.getElem?_cons_succ] at l0 l1
        have ll := HLk.out.lt
        by_cases hab : p < q
        case pos =>
          have habb : decide (p < q) = true := decide_eq_true hab
          obtain ⟨r, hr, hr1, hr2⟩ := half_r (show 0 ≤ q - p + 1 by omega)
          obtain ⟨mid, hmid⟩ : ∃ x, p + r = x := ⟨_, rfl⟩
          have hw1 : p < mid ∧ mid ≤ q := by omega
          have HQ := Lib.hid (HHi.out mid (by omega) (by omega))
          have y0 := HTk.out.cell 0
          have y1 := HTk.out.cell 1
          have a0 := HXk.out.cell 0
          have a1 := HXk.out.cell 1
          have s0 := HSk.out.cell 0
          have s1 := HSk.out.cell 1
          simp only [List.getElem?_toArray, List.getElem?_cons_zero, List.getElem?_cons_succ] at y0 y1 a0 a1 s0 s1
          have yl := HTk.out.lt
          have al := HXk.out.lt
          have sl' := HSk.out.lt
          have HC := Lib.hid (HPt.out wr (HOk.out.below HBk.out) mid sh)
          have HSw := Lib.hid (spW_blk HLk.out)
          have hbounds : -131072 ≤ p ∧ p ≤ 131072 ∧ -131072 ≤ q ∧ q ≤ 131072 := by omega
          go_upto_region 13 with (first | (go_at_call 54; with_reducible refine HC.out.mono ?_; rintro e u2 ⟨A', n', c', B', m', d', rfl, hok, hb2⟩; have HB5 := Lib.hid hb2; have HAg := Lib.hid (RAgrees_any ⟨A', n', c', B', m', d', putIH hs kind id mid sh, putIM ms kind id mid sh⟩ u2 hok HQ.out.2); dsimp only [TR.v] at HAg; rw [HQ.out.1] at HAg; clear hok hb2) | (go_at_call 40; with_reducible refine HAg.out.mono ?_; rintro e u3 ⟨rfl, hb3⟩))
          have hbx := HB5.out.trans (hb3.mono HB5.out.size)
          have HB3 := Lib.hid (HBk.out.trans (hbx.mono HBk.out.size))
          have HT3 := Lib.hid (HTk.out.below hbx)
          have HX3 := Lib.hid (HXk.out.below hbx)
          have HR3 := Lib.hid (HRk.out.below hbx)
          have HS3 := Lib.hid (HSk.out.below hbx)
          have HN3 := Lib.hid (HNk.out.below hbx)
          have HL3 := Lib.hid (HLk.out.below hbx)
          clear y0 y1 a0 a1 s0 s1 l0 l1 yl al sl' ll hb3 hbx HC HAg HB5 HTk HXk HRk HSk HLk HBk HNk
          have l0 := HL3.out.cell 0
          have l1 := HL3.out.cell 1
          simp only [List.getElem?_toArray, List.getElem?_cons_zero, List.getElem?_cons_succ] at l0 l1
          have ll := HL3.out.lt
          have f0 := HL3.out.frozen 0
          have f1 := HL3.out.frozen 1
          have hgs := HGs.out
          have hgm := HGm.out
          by_cases hc : mid ≤ nh
          case pos =>
            rw [decide_eq_true hc]
            go_wp2
            go_roundw
            case rel => exact ⟨mid, q, by omega, by omega, by omega, by omega, by simpa using HL3.out.set_ 0 (.int .i64 (mid)), HN3.out.far (p := ⟨gm, 0, none⟩) (by simp; omega) _, HS3.out.far (p := ⟨gm, 0, none⟩) (by simp; omega) _, HB3.out.setCell (p := ⟨gm, 0, none⟩) (by simp; omega) _, HT3.out.far (p := ⟨gm, 0, none⟩) (by simp; omega) _, HX3.out.far (p := ⟨gm, 0, none⟩) (by simp; omega) _, HR3.out.far (p := ⟨gm, 0, none⟩) (by simp; omega) _⟩
            case measure => rw [HSw.out, spW_blk (show Blk _ gm 57 #[.int .i64 (mid), .int .i64 (q)] by simpa using HL3.out.set_ 0 (.int .i64 (mid)))]; omega
          case neg =>
            rw [decide_eq_false hc]
            go_wp2
            go_roundw
            case rel => exact ⟨p, mid - 1, by omega, by omega, by omega, by omega, by simpa using HL3.out.set_ 1 (.int .i64 (mid - 1)), HN3.out.far (p := ⟨gm, 1, none⟩) (by simp; omega) _, HS3.out.far (p := ⟨gm, 1, none⟩) (by simp; omega) _, HB3.out.setCell (p := ⟨gm, 1, none⟩) (by simp; omega) _, HT3.out.far (p := ⟨gm, 1, none⟩) (by simp; omega) _, HX3.out.far (p := ⟨gm, 1, none⟩) (by simp; omega) _, HR3.out.far (p := ⟨gm, 1, none⟩) (by simp; omega) _⟩
            case measure => rw [HSw.out, spW_blk (show Blk _ gm 57 #[.int .i64 (p), .int .i64 (mid - 1)] by simpa using HL3.out.set_ 1 (.int .i64 (mid - 1)))]; omega
        case neg =>
          have hab2 : decide (p < q) = false := decide_eq_false hab
          obtain rfl : p = nh := by omega
          obtain rfl : p = q := by omega
          have m0 := HNk.out.cell 0
          have m1 := HNk.out.cell 1
          have r0 := HRk.out.cell 0
          have r1 := HRk.out.cell 1
          simp only [List.getElem?_toArray, List.getElem?_cons_zero, List.getElem?_cons_succ] at m0 m1 r0 r1
          have ml := HNk.out.lt
          have rl := HRk.out.lt
          have rf0 := HRk.out.frozen 0
          have rf1 := HRk.out.frozen 1
          go_wp2
          have hf := blk_set2 HRk.out (.int .i64 a) (.int .i64 p)
          have x0 := hf.cell 0
          have x1 := hf.cell 1
          simp only [List.getElem?_toArray, List.getElem?_cons_zero, List.getElem?_cons_succ] at x0 x1
          exact bodyPost_ret (v := vSp a p) (by simp [results, Tryz.results62, go_sem, x0, x1]) rfl ⟨rfl, below_set2 HBk.out (by omega) _ _⟩
end Go.Proofs.YtighfmgkoepfkaaGreat

namespace Go.Proofs.YtighfmgkoepfkaaGreat
open Go.RowKit

set_option maxRecDepth 100000 in
set_option maxHeartbeats 12800000 in
theorem Limits_any (t : TR) (kind id : Int) (w : World) (h : t.Ok w) :
    Calls Tryz.prog 45 #[t.v, vAt kind id] w fun e w' => e = .returned (.agg #[.int .i64 (asV t.hs t.ms kind id false), .int .i64 (asV t.hs t.ms kind id true), .int .i64 (asE t.hs t.ms kind id)]) ∧ Below w.heap.size w w' := by
  have HCk := Lib.hid (fun (u : World) (hu : t.Ok u) => RCheck_any t u hu)
  have HOf := Lib.hid (fun (hv : TV t.hs t.ms) (u : World) (hu : t.Ok u) => Of_any t kind id u hu (by rw [← h.h.len]; have := hv.lenH; omega) (by rw [← h.m.len]; have := hv.lenM; omega))
  have HAg := Lib.hid (fun (hv : TV t.hs t.ms) (u : World) (hu : t.Ok u) => RAgrees_any t u hu hv)
  have HNr := Lib.hid (fun (hv : TV t.hs t.ms) (hp : placeE t.hs t.ms kind id = 0) (ha : agrL t.hs t.ms = true) (u : World) (hu : t.Ok u) => narrow_any t kind id u hu hv hp ha)
  obtain ⟨A, n, c, B, m, d, hs, ms⟩ := t
  dsimp only [TR.v, vAt, vSp] at *
  have hb0 := (((Below.refl w.heap.size w).alloc (Nat.le_refl _) (.cells #[.slice A n c, .slice B m d] 25)).alloc (by simp) (.cells #[.int .i64 kind, .int .i64 id] 83)).alloc (by simp; omega) (.cells #[.int .i64 0, .int .i64 0, .int .i64 0] 90)
  have t0 := (((Blk.new w 25 #[.slice A n c, .slice B m d]).alloc (.cells #[.int .i64 kind, .int .i64 id] 83)).alloc (.cells #[.int .i64 0, .int .i64 0, .int .i64 0] 90))
  have x0 := (Blk.at_new (W := w.alloc (.cells #[.slice A n c, .slice B m d] 25)) (g := w.heap.size + 1) 83 #[.int .i64 kind, .int .i64 id] (by simp)).alloc (.cells #[.int .i64 0, .int .i64 0, .int .i64 0] 90)
  have r0 := Blk.at_new (W := (w.alloc (.cells #[.slice A n c, .slice B m d] 25)).alloc (.cells #[.int .i64 kind, .int .i64 id] 83)) (g := w.heap.size + 1 + 1) 90 #[.int .i64 0, .int .i64 0, .int .i64 0] (by simp)
  have HOk := Lib.hid h
  have HB0 := Lib.hid hb0
  have HT0 := Lib.hid t0
  have HX0 := Lib.hid x0
  have HR0 := Lib.hid r0
  have HE := Lib.hid (show asE hs ms kind id = if plE hs ms kind id ≠ 0 then plE hs ms kind id else if agrL hs ms = true then 0 else 9 from rfl)
  have HP := Lib.hid (show plE hs ms kind id = if tcheck hs ms ≠ 0 then tcheck hs ms else placeE hs ms kind id from rfl)
  have HVV := Lib.hid (fun gr => show asV hs ms kind id gr = if asE hs ms kind id = 0 then limN hs ms kind id gr else 0 from rfl)
  clear h hb0 t0 x0 r0
  go_enter Tryz.func45, Tryz.ntmps45
  go_upto_region 1 with fail
  generalize hW : ((w.alloc (.cells #[.slice A n c, .slice B m d] 25)).alloc (.cells #[.int .i64 kind, .int .i64 id] 83)).alloc (.cells #[.int .i64 0, .int .i64 0, .int .i64 0] 90) = W at *
  clear hW
  have y0 := HT0.out.cell 0
  have y1 := HT0.out.cell 1
  simp only [List.getElem?_toArray, List.getElem?_cons_zero, List.getElem?_cons_succ] at y0 y1
  have yl := HT0.out.lt
  have HC := Lib.hid (HCk.out W (HOk.out.below HB0.out))
  by_cases hz : tcheck hs ms = 0
  case neg =>
    have HX := Lib.hid (show asE hs ms kind id = tcheck hs ms from by rw [HE.out, HP.out, if_pos hz, if_pos hz])
    have HV1 := Lib.hid (fun gr => show asV hs ms kind id gr = 0 from by rw [HVV.out, HX.out, if_neg hz])
    obtain ⟨ck, hck⟩ : ∃ x, tcheck hs ms = x := ⟨_, rfl⟩
    rw [hck] at HX HC hz
    have hz1 : (ck != 0) = true := by simpa using hz
    clear hck hz HE HP HVV
    go_wp2_with (go_at_call 61; with_reducible refine HC.out.mono ?_; rintro e u1 ⟨rfl, hb1⟩; have HR1 := Lib.hid (HR0.out.below hb1); have z0 := HR1.out.cell 0; have z1 := HR1.out.cell 1; have z2 := HR1.out.cell 2; simp only [List.getElem?_toArray, List.getElem?_cons_zero, List.getElem?_cons_succ] at z0 z1 z2; have zl := HR1.out.lt; have f0 := HR1.out.frozen 0; have f1 := HR1.out.frozen 1; have f2 := HR1.out.frozen 2; have HB1 := Lib.hid (HB0.out.trans (hb1.mono HB0.out.size)))
    have hf := blk_set3 HR1.out (.int .i64 0) (.int .i64 0) (.int .i64 ck)
    have x0 := hf.cell 0
    have x1 := hf.cell 1
    have x2 := hf.cell 2
    simp only [List.getElem?_toArray, List.getElem?_cons_zero, List.getElem?_cons_succ] at x0 x1 x2
    exact bodyPost_ret (v := .agg #[.int .i64 0, .int .i64 0, .int .i64 ck]) (by simp [results, Tryz.results45, go_sem, x0, x1, x2]) rfl ⟨by rw [HX.out, HV1.out, HV1.out], below_set3 HB1.out (by omega) _ _ _⟩
  case pos =>
  have HTV := Lib.hid (tcheck_zero.1 hz)
  rw [hz] at HC
  have HP2 := Lib.hid (show plE hs ms kind id = placeE hs ms kind id from by rw [HP.out, if_neg (by rw [hz]; decide)])
  go_upto_region 4 with (go_at_call 61; with_reducible refine HC.out.mono ?_; rintro e u1 ⟨rfl, hb1⟩)
  have HB1 := Lib.hid (HB0.out.trans (hb1.mono HB0.out.size))
  have HT1 := Lib.hid (HT0.out.below hb1)
  have HX1 := Lib.hid (HX0.out.below hb1)
  have HR1 := Lib.hid (HR0.out.below hb1)
  clear y0 y1 yl HC hb1 HB0 HT0 HX0 HR0 hz HP
  have y0 := HT1.out.cell 0
  have y1 := HT1.out.cell 1
  have a0 := HX1.out.cell 0
  have a1 := HX1.out.cell 1
  simp only [List.getElem?_toArray, List.getElem?_cons_zero, List.getElem?_cons_succ] at y0 y1 a0 a1
  have yl := HT1.out.lt
  have al := HX1.out.lt
  have HC := Lib.hid (HOf.out HTV.out u1 (HOk.out.below HB1.out))

  obtain ⟨pe, hpe⟩ : ∃ x, placeE hs ms kind id = x := ⟨_, rfl⟩
  obtain ⟨o1, ho1⟩ : ∃ x, (ofV hs ms kind id).1 = x := ⟨_, rfl⟩
  obtain ⟨o2, ho2⟩ : ∃ x, (ofV hs ms kind id).2 = x := ⟨_, rfl⟩
  have HPe := Lib.hid hpe
  rw [hpe, ho1, ho2] at HC
  clear hpe ho1 ho2
  go_upto_region 5 with (go_at_call 96; with_reducible refine HC.out.mono ?_; rintro e u2 ⟨rfl, hb2⟩)
  have bq := below_new u2 (.cells #[.int .i64 o1, .int .i64 o2] 57)
  have hbb := hb2.trans (bq.mono hb2.size)
  have HB2 := Lib.hid (HB1.out.trans (hbb.mono HB1.out.size))
  have HT2 := Lib.hid (HT1.out.below hbb)
  have HX2 := Lib.hid (HX1.out.below hbb)
  have HR2 := Lib.hid (HR1.out.below hbb)
  clear y0 y1 yl a0 a1 al HC hb2 bq hbb HB1 HT1 HX1 HR1
  generalize u2.alloc (.cells #[.int .i64 o1, .int .i64 o2] 57) = V2 at *
  by_cases hp : pe = 0
  case neg =>
    have HX := Lib.hid (show asE hs ms kind id = pe from by rw [HE.out, HP2.out, HPe.out, if_pos hp])
    have HV1 := Lib.hid (fun gr => show asV hs ms kind id gr = 0 from by rw [HVV.out, HX.out, if_neg hp])
    have hz1 : (pe != 0) = true := by simpa using hp
    have z0 := HR2.out.cell 0
    have z1 := HR2.out.cell 1
    have z2 := HR2.out.cell 2
    simp only [List.getElem?_toArray, List.getElem?_cons_zero, List.getElem?_cons_succ] at z0 z1 z2
    have zl := HR2.out.lt
    have f0 := HR2.out.frozen 0
    have f1 := HR2.out.frozen 1
    have f2 := HR2.out.frozen 2
    clear hp
    go_wp2
    have hf := blk_set3 HR2.out (.int .i64 0) (.int .i64 0) (.int .i64 pe)
    have x0 := hf.cell 0
    have x1 := hf.cell 1
    have x2 := hf.cell 2
    simp only [List.getElem?_toArray, List.getElem?_cons_zero, List.getElem?_cons_succ] at x0 x1 x2
    exact bodyPost_ret (v := .agg #[.int .i64 0, .int .i64 0, .int .i64 pe]) (by simp [results, Tryz.results45, go_sem, x0, x1, x2]) rfl ⟨by rw [HX.out, HV1.out, HV1.out], below_set3 HB2.out (by omega) _ _ _⟩
  case pos =>
  subst hp
  have HX := Lib.hid (show asE hs ms kind id = if agrL hs ms = true then 0 else 9 from by rw [HE.out, HP2.out, HPe.out, if_neg (by decide)])
  have y0 := HT2.out.cell 0
  have y1 := HT2.out.cell 1
  simp only [List.getElem?_toArray, List.getElem?_cons_zero, List.getElem?_cons_succ] at y0 y1
  have yl := HT2.out.lt
  have HC := Lib.hid (HAg.out HTV.out V2 (HOk.out.below HB2.out))

  obtain ⟨ab, hab⟩ : ∃ x, agrL hs ms = x := ⟨_, rfl⟩
  have HAb := Lib.hid hab
  rw [hab] at HC HX
  clear hab
  cases ab with
  | false =>
    have HV1 := Lib.hid (fun gr => show asV hs ms kind id gr = 0 from by rw [HVV.out, HX.out, if_neg (by decide)])
    go_wp2_with (go_at_call 40; with_reducible refine HC.out.mono ?_; rintro e u3 ⟨rfl, hb3⟩; have HR3 := Lib.hid (HR2.out.below hb3); have z0 := HR3.out.cell 0; have z1 := HR3.out.cell 1; have z2 := HR3.out.cell 2; simp only [List.getElem?_toArray, List.getElem?_cons_zero, List.getElem?_cons_succ] at z0 z1 z2; have zl := HR3.out.lt; have f0 := HR3.out.frozen 0; have f1 := HR3.out.frozen 1; have f2 := HR3.out.frozen 2; have HB3 := Lib.hid (HB2.out.trans (hb3.mono HB2.out.size)))
    have hf := blk_set3 HR3.out (.int .i64 0) (.int .i64 0) (.int .i64 9)
    have x0 := hf.cell 0
    have x1 := hf.cell 1
    have x2 := hf.cell 2
    simp only [List.getElem?_toArray, List.getElem?_cons_zero, List.getElem?_cons_succ] at x0 x1 x2
    exact bodyPost_ret (v := .agg #[.int .i64 0, .int .i64 0, .int .i64 9]) (by simp [results, Tryz.results45, go_sem, x0, x1, x2]) rfl ⟨by rw [HX.out, HV1.out, HV1.out]; rfl, below_set3 HB3.out (by omega) _ _ _⟩
  | true =>
    have HX0 := Lib.hid (show asE hs ms kind id = 0 from by rw [HX.out]; rfl)
    have HV1 := Lib.hid (show asV hs ms kind id false = narLo hs ms (placeN hs ms kind id) ∧ asV hs ms kind id true = narHi hs ms (placeN hs ms kind id) from ⟨by rw [HVV.out, if_pos HX0.out]; rfl, by rw [HVV.out, if_pos HX0.out]; rfl⟩)
    have HN := Lib.hid (HNr.out HTV.out HPe.out HAb.out)
    obtain ⟨nl, hnl⟩ : ∃ x, narLo hs ms (placeN hs ms kind id) = x := ⟨_, rfl⟩
    obtain ⟨nh, hnh⟩ : ∃ x, narHi hs ms (placeN hs ms kind id) = x := ⟨_, rfl⟩
    rw [hnl, hnh] at HN HV1
    clear hnl hnh HE HP2 HVV HX
    go_upto_region 10 with (go_at_call 40; with_reducible refine HC.out.mono ?_; rintro e u3 ⟨rfl, hb3⟩)
    have HB3 := Lib.hid (HB2.out.trans (hb3.mono HB2.out.size))
    have HT3 := Lib.hid (HT2.out.below hb3)
    have HX3 := Lib.hid (HX2.out.below hb3)
    have HR3 := Lib.hid (HR2.out.below hb3)
    clear y0 y1 yl HC hb3 HB2 HT2 HX2 HR2
    have y0 := HT3.out.cell 0
    have y1 := HT3.out.cell 1
    have a0 := HX3.out.cell 0
    have a1 := HX3.out.cell 1
    simp only [List.getElem?_toArray, List.getElem?_cons_zero, List.getElem?_cons_succ] at y0 y1 a0 a1
    have yl := HT3.out.lt
    have al := HX3.out.lt
    have HC := Lib.hid (HN.out u3 (HOk.out.below HB3.out))
    go_wp2_with (go_at_call 62; with_reducible refine HC.out.mono ?_; rintro e u4 ⟨rfl, hb4⟩; have HR4 := Lib.hid (HR3.out.below hb4); have z0 := HR4.out.cell 0; have z1 := HR4.out.cell 1; have z2 := HR4.out.cell 2; simp only [List.getElem?_toArray, List.getElem?_cons_zero, List.getElem?_cons_succ] at z0 z1 z2; have zl := HR4.out.lt; have f0 := HR4.out.frozen 0; have f1 := HR4.out.frozen 1; have f2 := HR4.out.frozen 2; have HB4 := Lib.hid (HB3.out.trans (hb4.mono HB3.out.size)))
    have hf := blk_set3 HR4.out (.int .i64 nl) (.int .i64 nh) (.int .i64 0)
    have x0 := hf.cell 0
    have x1 := hf.cell 1
    have x2 := hf.cell 2
    simp only [List.getElem?_toArray, List.getElem?_cons_zero, List.getElem?_cons_succ] at x0 x1 x2
    exact bodyPost_ret (v := .agg #[.int .i64 nl, .int .i64 nh, .int .i64 0]) (by simp [results, Tryz.results45, go_sem, x0, x1, x2]) rfl ⟨by rw [HX0.out, HV1.out.1, HV1.out.2], below_set3 HB4.out (by omega) _ _ _⟩
end Go.Proofs.YtighfmgkoepfkaaGreat
