/- Plain law: as few movements as possible, and those each of which alone is enough. -/
import Derived.Test.YtighfmgkoepfkaaGreatMI
namespace Go.Proofs.YtighfmgkoepfkaaGreat
open Go.RowKit

def posQ (p : Int → Bool) (ms : List Int) : Int := if ms.findIdx p < ms.length then (ms.findIdx p : Int) else -1
theorem posQ_hit {p : Int → Bool} {ms : List Int} {k : Nat} (h : k < ms.length) (hk : p ms[k] = true) (hb : ∀ i (q : i < ms.length), i < k → p ms[i] = false) : posQ p ms = k := by
  have e : ms.findIdx p = k := by
    rw [List.findIdx_eq h]
    exact ⟨hk, fun j hj => hb j (by omega) hj⟩
  unfold posQ
  rw [e, if_pos h]
theorem posQ_miss {p : Int → Bool} {ms : List Int} (hb : ∀ i (q : i < ms.length), p ms[i] = false) : posQ p ms = -1 := by
  unfold posQ
  rw [if_neg]
  rw [List.findIdx_lt_length]
  rintro ⟨x, hx, hp⟩
  obtain ⟨i, q, rfl⟩ := List.getElem_of_mem hx
  rw [hb i q] at hp; cases hp
theorem posQ_any {p : Int → Bool} {ms : List Int} : decide (0 ≤ posQ p ms) = ms.any p := by
  unfold posQ
  by_cases c : ms.findIdx p < ms.length
  · rw [if_pos c]
    rw [List.findIdx_lt_length] at c
    rw [List.any_eq_true.2 c]
    exact decide_eq_true (by omega)
  · rw [if_neg c]
    have : ms.any p = false := by
      rw [List.findIdx_lt_length] at c
      refine Bool.eq_false_iff.2 fun h => c (List.any_eq_true.1 h)
    rw [this]; rfl
set_option maxHeartbeats 1600000 in
theorem indexI_any (A : Option Addr) (n c : Nat) (ms : List Int) (p : Int → Bool) (g : Nat) (lb : Array Value) (eg : ∀ args w, (callFunc g args).run Tryz.prog w = .ok (.enter g args) w) (w : World)
    (hp : ∀ W x, Below w.heap.size w W → Calls Tryz.prog g (#[.int .i64 x] ++ lb) W fun e w' => e = .returned (.bool (p x)) ∧ Below W.heap.size W w') (h : SAt encI 1 w A n ms) (hn : n ≤ 9223372036854775807) :
    Calls Tryz.prog 109 #[.slice A n c, .func (.func g) #[] lb] w fun e w' => e = .returned (.int .i64 (posQ p ms)) ∧ Below w.heap.size w w' := by
  have HA := Lib.hid h
  have HLen := Lib.hid h.len
  have HP := Lib.hid hp
  clear h hp
  go_enter Tryz.func109, Tryz.ntmps109
  go_wp2
  go_loopw [5, 8] (fun _ i wr => ∃ k : Nat, k ≤ n ∧ i = .int .i64 k ∧ (∀ i (q : i < ms.length), i < k → p ms[i] = false) ∧ Below w.heap.size w wr) (fun _ i _ => n - (intOf i).toNat)
  case atStart => exact ⟨0, Nat.zero_le _, rfl, fun i q h => absurd h (by omega), Below.refl _ _⟩
  case round =>
    obtain ⟨k, hk, rfl, hno, hb⟩ := hrel
    have HNo := Lib.hid hno
    clear hno
    by_cases hkn : k < n
    · obtain ⟨b, off, rfl, hl⟩ := HA.out.at_ (by omega)
      have hkl : k < ms.length := by rw [HLen.out]; exact hkn
      have hl2 := hl.below hb
      have c0 := hl2.c k _ (List.getElem?_eq_getElem hkl) 0 _ rfl
      rw [Nat.mul_one, Nat.add_zero] at c0
      have hlt := hl2.lt
      have HC := Lib.hid (HP.out wr ms[k] hb)
      have HNk := Lib.hid (fun (e : p ms[k] = true) => posQ_hit hkl e HNo.out)
      have HNx := Lib.hid (fun (e : p ms[k] = false) => (show ∀ i (q : i < ms.length), i < k + 1 → p ms[i] = false from fun i q hi => by
        by_cases c : i = k
        · subst c; exact e
        · exact HNo.out i q (by omega)))
      clear hl hl2
      generalize ms[k] = x at *
      generalize hq : p x = pq at *
      have HQ := Lib.hid hq
      clear hq
      cases pq with
      | true =>
        go_wp2_with (go_at_fn g; refine HC.out.mono ?_; rintro e w' ⟨rfl, hb'⟩)
        go_ret
        exact ⟨ret_int (HNk.out (by trivial)).symm, hb.trans (hb'.mono hb.size)⟩
      | false =>
        go_wp2_with (go_at_fn g; refine HC.out.mono ?_; rintro e w' ⟨rfl, hb'⟩)
        go_roundw
        case rel => exact ⟨k + 1, by omega, by go_num, HNx.out (by trivial), hb.trans (hb'.mono hb.size)⟩
        case measure => simp [intOf]; omega
    · have HPm := Lib.hid (posQ_miss (p := p) (ms := ms) fun i q => HNo.out i q (by have := HLen.out; omega))
      go_wp2
      go_ret
      exact ⟨ret_int HPm.out.symm, hb⟩
theorem run_clear_i (W : World) (b o n c : Nat) (hn : 0 < n) (hc : ∀ j, j < n * 1 → (W.cell? ⟨b, o + j, none⟩).isSome = true) (hf : ∀ j, W.frozen? ⟨b, o + j, none⟩ = false) :
    ∃ vs, vs.length = n * 1 ∧ ∀ ty, (Builtin.clear_ #[42] ty #[.slice (some ⟨b, o, none⟩) n c]).run Tryz.prog W = .ok (.tuple #[]) (W.setCells b o vs) := by
  refine ⟨(Builtin.zeroCells #[.int .i64 0] n).toList, by simp [Builtin.zeroCells], fun ty => ?_⟩
  have hst := run_storeCells_cells (P := Tryz.prog) b o (Builtin.zeroCells #[.int .i64 0] n).toList 0 W (by simpa [Builtin.zeroCells] using hc) (by simp [Builtin.zeroCells, hf]) (by
    intro v hv
    simp [Builtin.zeroCells] at hv
    obtain ⟨i, _, rfl⟩ := hv
    rw [Nat.mod_one]; rfl)
  simp only [Nat.add_zero] at hst
  obtain ⟨m, rfl⟩ : ∃ m, n = m + 1 := ⟨n - 1, by omega⟩
  have hz : ∀ w, (zeroValue 3).run Tryz.prog w = .ok (.int .i64 0) w := Tryz.zeroValue3
  simp [Builtin.clear_, run_underlying Tryz.underlying42, hz, Value.cells, hst]
theorem filt_allI {p : Int → Bool} {ms : List Int} (h : posQ p ms = -1) : ms.filter (fun x => !p x) = ms := by
  have h1 := @posQ_any p ms
  rw [h] at h1
  have h2 : ms.any p = false := by rw [← h1]; rfl
  rw [List.any_eq_false] at h2
  rw [List.filter_eq_self]
  intro x hx
  have := h2 x hx
  simpa using this
theorem filt_firstI {p : Int → Bool} {ms : List Int} {i : Nat} (h : posQ p ms = (i : Int)) : i < ms.length ∧ (ms.take i).filter (fun x => !p x) = ms.take i ∧ ∃ x, ms[i]? = some x ∧ p x = true := by
  unfold posQ at h
  split at h
  · rename_i c
    have e : ms.findIdx p = i := by omega
    subst e
    refine ⟨c, ?_, _, List.getElem?_eq_getElem c, List.findIdx_getElem⟩
    rw [List.filter_eq_self]
    intro x hx
    obtain ⟨j, hj, rfl⟩ := List.getElem_of_mem hx
    have hj' : j < ms.findIdx p := by simp at hj; omega
    have := List.not_of_lt_findIdx hj'
    simpa using this
  · omega
theorem flat_setI (l : List Int) (i : Nat) (x : Int) : (l.flatMap encI).set i (.int .i64 x) = (l.set i x).flatMap encI := by
  rw [flatI, flatI, List.map_set]
set_option maxRecDepth 100000 in
set_option maxHeartbeats 6400000 in
theorem delI_any (L g n c : Nat) (ms : List Int) (p : Int → Bool) (gf : Nat) (lb : Array Value) (eg : ∀ args w, (callFunc gf args).run Tryz.prog w = .ok (.enter gf args) w) (w : World)
    (hp : ∀ W x, w.grownBy W (some g) → Calls Tryz.prog gf (#[.int .i64 x] ++ lb) W fun e w' => e = .returned (.bool (p x)) ∧ Below W.heap.size W w') (hn : n ≤ 1000000) (hl : ms.length = n)
    (h : w.ownsRow L 3 1 (.slice (some ⟨g, 0, none⟩) n c) n (ms.flatMap encI)) :
    Calls Tryz.prog 65 #[.slice (some ⟨g, 0, none⟩) n c, .func (.func gf) #[] lb] w fun e w' => ∃ n', e = .returned (.slice (some ⟨g, 0, none⟩) n' c) ∧ (ms.filter fun x => !p x).length = n' ∧ w'.ownsRow L 3 1 (.slice (some ⟨g, 0, none⟩) n' c) n' ((ms.filter fun x => !p x).flatMap encI) ∧ w.grownBy w' (some g) := by
  have hs : SAt encI 1 w (some ⟨g, 0, none⟩) n ms := by
    obtain ⟨A', c', e, hs, _, _⟩ := SAt_of_row encI_len hl h
    have e2 : some ⟨g, 0, none⟩ = A' ∧ c = c' := by simpa using e
    rw [e2.1]; exact hs
  have HI := Lib.hid (indexI_any (some ⟨g, 0, none⟩) n c ms p gf lb eg w (fun W x hW => hp W x (below_grown hW)) hs (by omega))
  have HP := Lib.hid hp
  have HO := Lib.hid h
  have HL := Lib.hid hl
  have hnc := owns_cap' h
  clear h hs hp hl
  generalize hq : posQ p ms = q at *
  have HQ := Lib.hid hq
  clear hq
  go_enter Tryz.func65, Tryz.ntmps65
  go_wp2_with fail
  refine HI.out.mono ?_
  rintro e w1 ⟨rfl, hb1⟩
  have HO1 := Lib.hid (owns_below HO.out hb1)
  have HG1 := Lib.hid (below_grown (r := some g) hb1)
  clear hb1 HI HO
  by_cases hq1 : q = -1
  case pos =>
    subst hq1
    have HF := Lib.hid (filt_allI HQ.out)
    go_wp2
    go_ret
    exact ⟨n, rfl, by rw [HF.out, HL.out], by rw [HF.out]; exact HO1.out, HG1.out⟩
  case neg =>
    have hq2 : (q == -1) = false := by simpa using hq1
    have hq3 : 0 ≤ q := by
      have := HQ.out
      unfold posQ at this
      split at this <;> omega
    obtain ⟨i0, rfl⟩ : ∃ i : Nat, q = (i : Int) := ⟨q.toNat, by omega⟩
    obtain ⟨f1, f2, x0, f3, f4⟩ := filt_firstI HQ.out
    have hi0n : i0 < n := by rw [← HL.out]; exact f1
    have HF := Lib.hid (show (ms.take (i0 + 1)).filter (fun x => !p x) = ms.take i0 by
      rw [List.take_add_one, f3, List.filter_append, f2]
      simp [f4])
    clear f1 f2 f3 f4 hq1 hq3
    go_wp2
    go_loopw [5, 6] (fun iv jv wx => ∃ (i j : Nat) (cur : List Int), iv = .int .i64 (i : Int) ∧ jv = .int .i64 (j : Int) ∧ i < j ∧ j ≤ n ∧ cur.length = n ∧ cur.take i = (ms.take j).filter (fun x => !p x) ∧ cur.drop j = ms.drop j ∧ wx.ownsRow L 3 1 (.slice (some ⟨g, 0, none⟩) n c) n (cur.flatMap encI) ∧ w.grownBy wx (some g)) (fun _ jv _ => n - (intOf jv).toNat)
    case atStart => exact ⟨i0, i0 + 1, ms, rfl, by go_num, by omega, by omega, HL.out, HF.out.symm, rfl, HO1.out, HG1.out⟩
    case round =>
      clear HF HO1 HG1
      obtain ⟨i, j, cur, rfl, rfl, hij, hj, hcl, hct, hcd, how, hgr⟩ := hrel
      have HC := Lib.hid (show cur.length = n ∧ cur.take i = (ms.take j).filter (fun x => !p x) ∧ cur.drop j = ms.drop j from ⟨hcl, hct, hcd⟩)
      have HOw := Lib.hid how
      have HGr := Lib.hid hgr
      obtain ⟨cur0, hb0⟩ := own_blk how (g := g) rfl
      have hfz : ∀ o, wr.frozen? ⟨g, o, none⟩ = false := fun o => Blk.frozen (show Blk wr g _ cur0 from hb0) o
      have hgl : g < wr.heap.size := (own_lt how (g := g) rfl).2
      have hls := Ls_of_row encI_len hcl how
      have HLs := Lib.hid hls
      by_cases hjn : j < n
      case neg =>
        have hjj : j = n := by omega
        subst hjj
        have hin : 0 < j - i := by omega
        have hlen5 : (cur.flatMap encI).length = cur.length * 1 := flat_len encI_len cur
        obtain ⟨vs, hvl, hvc⟩ := run_clear_i wr g i (j - i) (c - i) hin (fun k hk => by
          have hk2 : i + k < (cur.flatMap encI).length := by rw [hlen5, hcl]; omega
          have := hls.flat encI_len (by decide) (i + k) _ (List.getElem?_eq_getElem hk2)
          rw [Nat.zero_add] at this
          rw [this]; rfl) (fun k => hfz _)
        obtain ⟨ys, ho2, hy, hg2⟩ := owns_setCells vs i how (by rw [hvl, hlen5, hcl]; omega)
        have HFin := Lib.hid (show (wr.setCells g i vs).ownsRow L 3 1 (.slice (some ⟨g, 0, none⟩) i c) i ((ms.filter fun x => !p x).flatMap encI) by
          have := owns_prefix ho2 (show i ≤ j by omega)
          rw [Nat.mul_one, hy] at this
          have e1 : (cur.flatMap encI).take i = (cur.take i).flatMap encI := by
            have h1 : ((cur.take i).flatMap encI).length = i := by rw [flat_len encI_len, List.length_take]; congr 1; omega
            have h2 : cur.flatMap encI = (cur.take i).flatMap encI ++ (cur.drop i).flatMap encI := by rw [← List.flatMap_append, List.take_append_drop]
            rw [h2, List.take_append_of_le_length (by omega), List.take_of_length_le (by omega)]
          have e2 : ms.take j = ms := by rw [← HL.out, List.take_length]
          rw [e1, hct, e2] at this
          exact this)
        have HLn := Lib.hid (show (ms.filter fun x => !p x).length = i by
          have := congrArg List.length hct
          have e2 : ms.take j = ms := by rw [← HL.out, List.take_length]
          rw [List.length_take, e2] at this
          omega)
        have HGF := Lib.hid (grown_trans hgr hg2)
        clear hcl hct hcd how hgr hls hb0 hvl ho2 hy hg2 HLs hlen5
        go_wp2
        go_ret
        exact ⟨i, rfl, HLn.out, HFin.out, HGF.out⟩
      case pos =>
        have hjl : j < cur.length := by omega
        have y0 := hls.c j _ (List.getElem?_eq_getElem hjl) 0 _ rfl
        rw [Nat.mul_one, Nat.add_zero, Nat.zero_add] at y0
        have hx : ms[j]? = some cur[j] := by
          have := congrArg (fun l => l[0]?) hcd
          simpa [hjl] using this.symm
        have HX := Lib.hid hx
        clear hcl hct hcd how hgr hls hx hb0
        generalize cur[j] = x at *
        have HCl := Lib.hid (HP.out _ x HGr.out)
        generalize hpx : p x = px at *
        have HPx := Lib.hid hpx
        clear hpx
        cases px with
        | true =>
          go_wp2_with (go_at_fn gf; refine HCl.out.mono ?_; rintro e w2 ⟨rfl, hb2⟩)
          go_roundw
          case rel =>
            obtain ⟨h1, h2, h3⟩ := HC.out
            refine ⟨i, j + 1, cur, rfl, by go_num, by omega, by omega, h1, ?_, ?_, owns_below HOw.out hb2, grown_below HGr.out hb2⟩
            · rw [List.take_add_one, HX.out, List.filter_append, ← h2]
              simp [HPx.out]
            · have := congrArg (List.drop 1) h3
              simpa [List.drop_drop] using this
          case measure => simp [intOf]; omega
        | false =>
          have hic : i < cur.length := by omega
          have HLs2 := Lib.hid (fun W (hW : Below wr.heap.size wr W) => (HLs.out.below hW).c i _ (List.getElem?_eq_getElem hic) 0 _ rfl)
          go_wp2_with (go_at_fn gf; refine HCl.out.mono ?_; rintro e w2 ⟨rfl, hb2⟩; have r0 := HLs2.out w2 hb2; rw [Nat.mul_one, Nat.add_zero, Nat.zero_add] at r0; have gl2 := Nat.lt_of_lt_of_le hgl hb2.size; have fz2 := fun o => (hb2.frozen (p := ⟨g, o, none⟩) hgl).trans (hfz o); have fa := fz2 i; have HB2 := Lib.hid hb2; clear fz2 hb2)
          go_roundw
          case rel =>
            obtain ⟨h1, h2, h3⟩ := HC.out
            have ho := owns_below HOw.out HB2.out
            have hl5 : (cur.flatMap encI).length = cur.length * 1 := flat_len encI_len cur
            have k1 := owns_set ho i (by omega) (.int .i64 x)
            rw [flat_setI cur i x] at k1
            refine ⟨i + 1, j + 1, cur.set i x, by go_num, by go_num, by omega, by omega, by rw [List.length_set]; exact h1, ?_, ?_, k1, ?_⟩
            · rw [List.take_add_one, List.getElem?_set_self hic, List.take_set_of_le (Nat.le_refl _), h2, List.take_add_one, HX.out, List.filter_append]
              simp [HPx.out]
            · rw [List.drop_set_of_lt (by omega)]
              have := congrArg (List.drop 1) h3
              simpa [List.drop_drop] using this
            · exact grown_trans (grown_below HGr.out HB2.out) (grownBy_set _ _ _ _)
          case measure => simp [intOf]; omega
theorem indexI_nil (gf : Nat) (lb : Array Value) (w : World) :
    Calls Tryz.prog 109 #[.slice none 0 0, .func (.func gf) #[] lb] w fun e w' => e = .returned (.int .i64 (-1)) ∧ Below w.heap.size w w' := by
  go_enter Tryz.func109, Tryz.ntmps109
  go_wp2
  go_loopw [5, 8] (fun _ i wr => i = .int .i64 0 ∧ Below w.heap.size w wr) (fun _ _ _ => 0)
  case atStart => exact ⟨rfl, Below.refl _ _⟩
  case round =>
    obtain ⟨rfl, hb⟩ := hrel
    go_wp2
    go_ret
    exact ⟨rfl, hb⟩
theorem delI_nil (gf : Nat) (lb : Array Value) (w : World) :
    Calls Tryz.prog 65 #[.slice none 0 0, .func (.func gf) #[] lb] w fun e w' => e = .returned (.slice none 0 0) ∧ Below w.heap.size w w' := by
  have HI := Lib.hid (indexI_nil gf lb w)
  go_enter Tryz.func65, Tryz.ntmps65
  go_wp2_with fail
  refine HI.out.mono ?_
  rintro e w1 ⟨rfl, hb1⟩
  go_wp2
  go_ret
  exact ⟨rfl, hb1⟩
theorem delI_row (L : Nat) (v : Value) (ms : List Int) (p : Int → Bool) (gf : Nat) (lb : Array Value) (eg : ∀ args w, (callFunc gf args).run Tryz.prog w = .ok (.enter gf args) w) (w : World)
    (hp : ∀ W x, w.grownBy W v.ownBlock → Calls Tryz.prog gf (#[.int .i64 x] ++ lb) W fun e w' => e = .returned (.bool (p x)) ∧ Below W.heap.size W w') (hn : ms.length ≤ 1000000)
    (h : w.ownsRow L 3 1 v ms.length (ms.flatMap encI)) :
    Calls Tryz.prog 65 #[v, .func (.func gf) #[] lb] w fun e w' => ∃ v', e = .returned v' ∧ w'.ownsRow L 3 1 v' (ms.filter fun x => !p x).length ((ms.filter fun x => !p x).flatMap encI) ∧ w.grownBy w' v.ownBlock ∧ (∃ A c, v' = .slice A (ms.filter fun x => !p x).length c) := by
  rcases h.2 with ⟨e, h0⟩ | ⟨g, cap, cur, e, _⟩
  · subst e
    have hm : ms = [] := List.eq_nil_of_length_eq_zero h0
    subst hm
    refine (delI_nil gf lb w).mono ?_
    rintro e w' ⟨rfl, hb⟩
    exact ⟨_, rfl, World.ownsRow_nil _ _ _ _, below_grown hb, none, 0, rfl⟩
  · subst e
    refine (delI_any L g ms.length cap ms p gf lb eg w hp hn rfl h).mono ?_
    rintro e w' ⟨n', rfl, hl, ho, hg⟩
    subst hl
    exact ⟨_, rfl, ho, hg, _, _, rfl⟩
theorem SAt.far {α : Type} {enc : α → List Value} {k : Nat} {w0 w w' : World} {A : Option Addr} {n : Nat} {l : List α} {r : Option Nat} (h0 : SAt enc k w0 A n l) (h : SAt enc k w A n l) (hg : w.grownBy w' r) (hr : ∀ g, r = some g → w0.heap.size ≤ g) : SAt enc k w' A n l := by
  refine ⟨h.len, fun hn => ?_⟩
  obtain ⟨b, off, e, hk⟩ := h.at_ hn
  obtain ⟨b', off', e', hk'⟩ := h0.at_ hn
  rw [e] at e'
  cases e'
  exact ⟨b, off, e, hk.grown hg (fun f => by have := hr _ f; have := hk'.lt; omega)⟩
theorem TR.Ok.far {w0 w w' : World} {t : TR} {r : Option Nat} (h0 : t.Ok w0) (h : t.Ok w) (hg : w.grownBy w' r) (hr : ∀ g, r = some g → w0.heap.size ≤ g) : t.Ok w' :=
  ⟨h0.h.far h.h hg hr, h0.m.far h.m hg hr, h.n_le, h.m_le, h.n_cap, h.m_cap⟩
set_option maxRecDepth 100000 in
set_option maxHeartbeats 3200000 in
theorem suspects1_any (t : TR) (x : Int) (g : Nat) (w : World) (h : t.Ok w) (hv : TV t.hs t.ms) (hb : Blk w g 25 #[.slice t.A t.n t.c, .slice t.B t.m t.d]) :
    Calls Tryz.prog 67 #[.int .i64 x, .pointer (some ⟨g, 0, none⟩)] w fun e w' => e = .returned (.bool (!okL t.hs t.ms [x])) ∧ Below w.heap.size w w' := by
  have hb0 := below_new w (.cells #[.int .i64 x] 3)
  have HI := Lib.hid (show SAt encI 1 (w.alloc (.cells #[.int .i64 x] 3)) (some ⟨w.heap.size, 0, none⟩) 1 [x] from SAt_blk (enc := encI) (k := 1) (fun _ => rfl) (zs := [x]) (Blk.new w 3 #[.int .i64 x]))
  have HW := Lib.hid (without_any t (some ⟨w.heap.size, 0, none⟩) 1 1 [x] _ (h.below hb0) (by have := hv.lenH; have := h.h.len; omega) (by have := hv.lenM; have := h.m.len; omega) HI.out (by omega))
  obtain ⟨A, n, c, B, m, d, hs, ms⟩ := t
  dsimp only [TR.v] at *
  have HTv := Lib.hid hv
  have hv2 := hv.drop [x]
  have HV2 := Lib.hid hv2
  have y0 := hb.cell 0
  have y1 := hb.cell 1
  simp only [List.getElem?_toArray, List.getElem?_cons_zero, List.getElem?_cons_succ] at y0 y1
  have yl := hb.lt
  have HB0 := Lib.hid hb0
  clear h hv hv2 HI
  go_enter Tryz.func67, Tryz.ntmps67
  go_wp2_with (first | (go_at_call 68; (with_reducible refine HW.out.mono ?_); rintro e w1 ⟨v1, v2, rfl, ho, hb1⟩; have HB1 := Lib.hid (HB0.out.trans (hb1.mono HB0.out.size)); have HLe := Lib.hid (And.intro HV2.out.lenH HV2.out.lenM); obtain ⟨t2, ht, hok, hhs, hms⟩ := ho.ok (by have := HLe.out.1; omega) (by have := HLe.out.2; omega); have HAg := Lib.hid (agrees_any t2 w1 hok (by rw [hhs, hms]; exact HV2.out)); rw [ht, hhs, hms] at HAg; clear hok hb1 ho) | (go_at_call 64; (with_reducible refine HAg.out.mono ?_); rintro e w2 ⟨rfl, hb2⟩))
  exact bodyPost_ret (v := .bool (!agrL hs (dropL ms [x]))) (by simp [results, Tryz.results67, go_sem]) rfl ⟨rfl, HB1.out.trans (hb2.mono HB1.out.size)⟩
theorem enter_suspects1 : ∀ args w, (callFunc 67 args).run Tryz.prog w = .ok (.enter 67 args) w := enters_of Tryz.func67 (by kernel_rfl) rfl
/-- The movements without each of which there is a course. -/
def suspL (hs : List Hd) (ms : List Mv) : List Int := if tcheck hs ms ≠ 0 then [] else if agrL hs ms = true then [] else (idsL ms).filter fun x => !(!okL hs ms [x])
def SuOut (w : World) (hs : List Hd) (ms : List Mv) (en : Ending) (w' : World) : Prop :=
  Below w.heap.size w w' ∧ ∃ v, en = .returned (.tuple #[v, .int .i64 (tcheck hs ms)]) ∧ w'.ownsRow w.heap.size 3 1 v (suspL hs ms).length ((suspL hs ms).flatMap encI)
set_option maxRecDepth 100000 in
set_option maxHeartbeats 3200000 in
theorem Suspects_any (t : TR) (w : World) (h : t.Ok w) : Calls Tryz.prog 20 #[t.v] w (SuOut w t.hs t.ms) := by
  have hb0 := below_new w (.cells #[.slice t.A t.n t.c, .slice t.B t.m t.d] 25)
  have HCk := Lib.hid (Check_any t _ (h.below hb0))
  have HS1 := Lib.hid (fun (x : Int) (W : World) (hW : t.Ok W) (hv : TV t.hs t.ms) (hb : Blk W w.heap.size 25 #[.slice t.A t.n t.c, .slice t.B t.m t.d]) => suspects1_any t x w.heap.size W hW hv hb)
  have HAg := Lib.hid (fun (W : World) (hW : t.Ok W) (hv : TV t.hs t.ms) => agrees_any t W hW hv)
  have HId := Lib.hid (fun (W : World) (hW : t.Ok W) (hv : TV t.hs t.ms) => ids_any t.B t.m t.d t.ms W hW.m (by have := hv.lenM; have := hW.m.len; omega))
  have HOk0 := Lib.hid (h.below hb0)
  obtain ⟨A, n, c, B, m, d, hs, ms⟩ := t
  dsimp only [TR.v] at *
  have t0 := Blk.new w 25 #[.slice A n c, .slice B m d]
  have HV := Lib.hid (tcheck_zero (hs := hs) (ms := ms))
  have HSu := Lib.hid (show suspL hs ms = if tcheck hs ms ≠ 0 then [] else if agrL hs ms = true then [] else (idsL ms).filter fun x => !(!okL hs ms [x]) from rfl)
  clear h
  generalize hck : tcheck hs ms = ck at *
  have HTc := Lib.hid hck
  clear hck
  go_enter Tryz.func20, Tryz.ntmps20
  go_upto_region 1 with fail
  generalize hW : w.alloc (.cells #[.slice A n c, .slice B m d] 25) = W at *
  have hws : w.heap.size < W.heap.size := by rw [← hW]; simp
  clear hW
  have HT := Lib.hid t0
  have HB0 := Lib.hid (show Below w.heap.size w W from hb0)
  have y0 := t0.cell 0
  have y1 := t0.cell 1
  simp only [List.getElem?_toArray, List.getElem?_cons_zero, List.getElem?_cons_succ] at y0 y1
  have yl := t0.lt
  clear t0 hb0
  go_upto_region 2 with (go_at_call 30; (with_reducible refine HCk.out.mono ?_); rintro e w1 ⟨rfl, hb1⟩)
  have HB1 := Lib.hid (HB0.out.trans (hb1.mono HB0.out.size))
  have HT1 := Lib.hid (HT.out.below hb1)
  have HO1 := Lib.hid (HOk0.out.below hb1)
  have hw1 : w.heap.size < w1.heap.size := Nat.lt_of_lt_of_le hws hb1.size
  clear HCk hb1 y0 y1 yl HT
  by_cases hz : ck = 0
  case neg =>
    have hzb : (ck != 0) = true := by simpa using hz
    have HX := Lib.hid (show suspL hs ms = [] by rw [HSu.out, if_pos hz])
    clear hz
    go_wp2
    exact bodyPost_ret (v := .tuple #[.slice none 0 0, .int .i64 ck]) (by simp [results, Tryz.results20, go_sem]) rfl ⟨HB1.out, _, by rw [HTc.out], by rw [HX.out]; exact World.ownsRow_nil _ _ _ _⟩
  case pos =>
  subst hz
  have HTv := Lib.hid (HV.out.1 rfl)
  have y0 := HT1.out.cell 0
  have y1 := HT1.out.cell 1
  simp only [List.getElem?_toArray, List.getElem?_cons_zero, List.getElem?_cons_succ] at y0 y1
  have yl := HT1.out.lt
  have HC := Lib.hid (HAg.out w1 HO1.out HTv.out)
  cases ha : agrL hs ms with
  | true =>
    rw [ha] at HC
    have HX := Lib.hid (show suspL hs ms = [] by rw [HSu.out, if_neg (by decide), if_pos ha])
    clear ha
    go_wp2_with (go_at_call 64; (with_reducible refine HC.out.mono ?_); rintro e w2 ⟨rfl, hb2⟩)
    exact bodyPost_ret (v := .tuple #[.slice none 0 0, .int .i64 0]) (by simp [results, Tryz.results20, go_sem]) rfl ⟨HB1.out.trans (hb2.mono HB1.out.size), _, by rw [HTc.out], by rw [HX.out]; exact World.ownsRow_nil _ _ _ _⟩
  | false =>
    rw [ha] at HC
    have HX := Lib.hid (show suspL hs ms = (idsL ms).filter fun x => !(!okL hs ms [x]) by rw [HSu.out, if_neg (by decide), if_neg (by rw [ha]; decide)])
    clear ha
    go_upto_region 6 with (go_at_call 64; (with_reducible refine HC.out.mono ?_); rintro e w2 ⟨rfl, hb2⟩)
    have HB2 := Lib.hid (HB1.out.trans (hb2.mono HB1.out.size))
    have HT2 := Lib.hid (HT1.out.below hb2)
    have HO2 := Lib.hid (HO1.out.below hb2)
    have hw2 : w.heap.size < w2.heap.size := Nat.lt_of_lt_of_le hw1 hb2.size
    clear y0 y1 yl HC HT1 HO1 HB1 hb2
    have y0 := HT2.out.cell 0
    have y1 := HT2.out.cell 1
    simp only [List.getElem?_toArray, List.getElem?_cons_zero, List.getElem?_cons_succ] at y0 y1
    have yl := HT2.out.lt
    have HC2 := Lib.hid (HId.out w2 HO2.out HTv.out)
    have hml : ms.length = m := HO2.out.m.len
    have hm24 : m ≤ 24 := by rw [← hml]; exact HTv.out.lenM
    go_wp2_with fail
    refine HC2.out.mono ?_
    rintro e w3 ⟨v, rfl, ho, hb3⟩
    have HOw := Lib.hid (show w3.ownsRow w2.heap.size 3 1 v (idsL ms).length ((idsL ms).flatMap encI) by rw [idsL_len, hml]; exact ho)
    have HB3 := Lib.hid (HB2.out.trans (hb3.mono HB2.out.size))
    have HT3 := Lib.hid (HT2.out.below hb3)
    have HO3 := Lib.hid (HO2.out.below hb3)
    have hw3 := hb3.size
    have HLt := Lib.hid (fun (r : Nat) hr => own_lt (g := r) HOw.out hr)
    have HDel := Lib.hid (delI_row w2.heap.size v (idsL ms) (fun x => !okL hs ms [x]) 67 #[.pointer (some ⟨w.heap.size, 0, none⟩)] enter_suspects1 w3 (fun W x hW => HS1.out x W (HO2.out.far HO3.out hW (fun g e => (HLt.out _ e).1)) HTv.out (HT3.out.grown hW (fun e => by have := (HLt.out _ e).1; omega))) (by rw [idsL_len]; omega) HOw.out)
    obtain ⟨Av, cv, rfl⟩ := owns_slice HOw.out
    clear ho hb3 HC2 y0 y1 yl
    go_wp2_with fail
    refine HDel.out.mono ?_
    rintro e w4 ⟨v', rfl, ho4, hg4, A4, c4, rfl⟩
    have HB4 := Lib.hid (HB3.out.grown hg4 HB3.out.size (fun r hr => by have := (HLt.out _ hr).1; omega))
    have HO4 := Lib.hid ho4
    clear ho4 hg4
    go_wp2
    refine bodyPost_ret (v := .tuple #[.slice A4 ((idsL ms).filter fun x => !(!okL hs ms [x])).length c4, .int .i64 0]) (by simp [results, Tryz.results20, go_sem]) rfl ⟨HB4.out, _, by rw [HTc.out], ?_⟩
    rw [HX.out]
    exact owns_weak HO4.out (Nat.le_of_lt hw2)
end Go.Proofs.YtighfmgkoepfkaaGreat

namespace Go.Proofs.YtighfmgkoepfkaaGreat

theorem chL_sound {ok : List Int → Bool} : ∀ (m : Nat) (s r z : List Int), chL ok m s r = some z → ok z = true ∧ ∃ sub, sub.Sublist r ∧ sub.length = m ∧ z = s ++ sub
  | 0, s, r, z, h => by
    unfold chL at h
    split at h
    · rename_i c
      obtain rfl := Option.some.inj h
      exact ⟨c, [], List.nil_sublist _, rfl, (List.append_nil _).symm⟩
    · cases h
  | m + 1, s, [], z, h => by cases h
  | m + 1, s, x :: r, z, h => by
    rw [chL] at h
    cases hc : chL ok m (s ++ [x]) r with
    | some y =>
      rw [hc] at h
      obtain rfl := Option.some.inj h
      obtain ⟨a, sub, b, c, d⟩ := chL_sound m (s ++ [x]) r y hc
      exact ⟨a, x :: sub, b.cons_cons x, by simp [c], by rw [d]; simp⟩
    | none =>
      rw [hc] at h
      obtain ⟨a, sub, b, c, d⟩ := chL_sound (m + 1) s r z h
      exact ⟨a, sub, b.cons x, c, d⟩
theorem chL_none {ok : List Int → Bool} : ∀ (m : Nat) (s r : List Int), chL ok m s r = none → ∀ sub : List Int, sub.Sublist r → sub.length = m → ok (s ++ sub) = false
  | 0, s, r, h, sub, _, hl => by
    obtain rfl := List.eq_nil_of_length_eq_zero hl
    unfold chL at h
    split at h
    · cases h
    · rename_i c; simpa using c
  | m + 1, s, [], _, sub, hs, hl => by
    rw [List.sublist_nil] at hs
    subst hs
    cases hl
  | m + 1, s, x :: r, h, sub, hs, hl => by
    rw [chL] at h
    cases hc : chL ok m (s ++ [x]) r with
    | some y => rw [hc] at h; cases h
    | none =>
      rw [hc] at h
      cases hs with
      | cons _ h2 => exact chL_none (m + 1) s r h sub h2 hl
      | cons_cons _ h2 =>
        rename_i l
        have := chL_none m (s ++ [x]) r hc l h2 (by simpa using hl)
        simpa using this
theorem fewGo_some {ok : List Int → Bool} {all z : List Int} : ∀ (r k : Nat), fewGo ok all r k = some z → ∃ j, k ≤ j ∧ chL ok j [] all = some z ∧ ∀ i, k ≤ i → i < j → chL ok i [] all = none
  | 0, _, h => by cases h
  | r + 1, k, h => by
    rw [fewGo] at h
    cases hc : chL ok k [] all with
    | some y =>
      rw [hc] at h
      obtain rfl := Option.some.inj h
      exact ⟨k, Nat.le_refl _, hc, fun i h1 h2 => by omega⟩
    | none =>
      rw [hc] at h
      obtain ⟨j, h1, h2, h3⟩ := fewGo_some r (k + 1) h
      exact ⟨j, by omega, h2, fun i a b => by
        by_cases e : i = k
        · subst e; exact hc
        · exact h3 i (by omega) b⟩
theorem few_min {ok : List Int → Bool} {all z : List Int} (h : fewL ok all = some z) : ok z = true ∧ z.Sublist all ∧ chL ok z.length [] all = some z ∧ ∀ sub : List Int, sub.Sublist all → ok sub = true → z.length ≤ sub.length := by
  obtain ⟨j, _, h2, h3⟩ := fewGo_some _ _ h
  obtain ⟨a, sub, b, c, d⟩ := chL_sound _ _ _ _ h2
  rw [List.nil_append] at d
  subst d
  refine ⟨a, b, by rw [c]; exact h2, fun sub' hs hok => ?_⟩
  refine Nat.le_of_not_lt fun hlt => ?_
  have := chL_none _ _ _ (h3 sub'.length (Nat.zero_le _) (by omega)) sub' hs rfl
  rw [List.nil_append, hok] at this
  cases this
theorem chL_one {ok : List Int → Bool} : ∀ (r : List Int), chL ok 1 [] r = (r.find? fun x => ok [x]).map fun x => [x]
  | [] => rfl
  | x :: r => by
    rw [chL, List.find?_cons]
    show (match chL ok 0 ([] ++ [x]) r with | some z => some z | none => chL ok 1 [] r) = _
    rw [chL_one r]
    have e : chL ok 0 ([] ++ [x]) r = if ok [x] = true then some [x] else none := by rw [chL]; rfl
    rw [e]
    cases ok [x] <;> rfl
theorem dropL_nil (ms : List Mv) : dropL ms [] = ms := by
  unfold dropL
  rw [List.filter_eq_self]
  intro m _
  rfl
theorem mem_idsL {ms : List Mv} {x : Int} : x ∈ idsL ms ↔ ∃ m ∈ ms, m.id = x := by
  unfold idsL
  rw [sortI_mem, List.mem_map]
theorem filt_split (p : Mv → Bool) : ∀ ms : List Mv, (ms.filter p).length + (ms.filter fun m => !p m).length = ms.length
  | [] => rfl
  | m :: ms => by
    have ih := filt_split p ms
    rw [List.filter_cons, List.filter_cons]
    cases p m
    · simp; omega
    · simp; omega
/-- Without some movements there is a course: then they are at least as many as the fewest. -/
theorem left_min {hs : List Hd} {ms : List Mv} {z ids : List Int} (hf : fewL (okL hs ms) (idsL ms) = some z) (ha : agrL hs (dropL ms ids) = true) : z.length + (dropL ms ids).length ≤ ms.length := by
  have h1 := (few_min hf).2.2.2 ((idsL ms).filter fun x => ids.contains x) List.filter_sublist
  have e1 : dropL ms ((idsL ms).filter fun x => ids.contains x) = dropL ms ids := by
    unfold dropL
    refine List.filter_congr fun m hm => ?_
    congr 1
    rw [Bool.eq_iff_iff, List.contains_iff_mem, List.contains_iff_mem, List.mem_filter, List.contains_iff_mem]
    exact ⟨fun h => h.2, fun h => ⟨mem_idsL.2 ⟨m, hm, rfl⟩, h⟩⟩
  have h2 := h1 (by unfold okL; rw [e1]; exact ha)
  have e2 : ((idsL ms).filter fun x => ids.contains x).length = (ms.filter fun m => ids.contains m.id).length := by
    have hp : (idsL ms).Perm (ms.map Mv.id) := by unfold idsL sortI; exact List.mergeSort_perm _ _
    rw [(hp.filter _).length_eq, List.filter_map, List.length_map]
    rfl
  have e3 := filt_split (fun m => ids.contains m.id) ms
  have e4 : (dropL ms ids).length = (ms.filter fun m => !ids.contains m.id).length := rfl
  omega
theorem susp_mem {hs : List Hd} {ms : List Mv} {x : Int} (h : x ∈ suspL hs ms) : TV hs ms ∧ agrL hs ms = false ∧ x ∈ idsL ms ∧ okL hs ms [x] = true := by
  unfold suspL at h
  split at h
  · cases h
  · rename_i c
    have hv := tcheck_zero.1 (Classical.byContradiction c)
    split at h
    · cases h
    · rename_i d
      obtain ⟨h1, h2⟩ := List.mem_filter.1 h
      exact ⟨hv, by simpa using d, h1, by simpa using h2⟩
/-- If there are such as are enough alone, one is as few as can be; and the other way round: the first of them is it. -/
theorem susp_one {hs : List Hd} {ms : List Mv} {z : List Int} (hf : fewL (okL hs ms) (idsL ms) = some z) (h : suspL hs ms ≠ []) : z.length = 1 := by
  obtain ⟨x, hx⟩ := List.exists_mem_of_ne_nil _ h
  obtain ⟨_, h2, h3, h4⟩ := susp_mem hx
  have a := (few_min hf).2.2.2 [x] (List.singleton_sublist.2 h3) h4
  have b : z.length ≠ 0 := fun e => by
    obtain rfl := List.eq_nil_of_length_eq_zero e
    have := (few_min hf).1
    unfold okL at this
    rw [dropL_nil, h2] at this
    cases this
  have : z.length ≤ 1 := a
  omega
theorem susp_head {hs : List Hd} {ms : List Mv} {z : List Int} (hc : tcheck hs ms = 0) (hf : fewL (okL hs ms) (idsL ms) = some z) (h : z.length = 1) : ∃ x r, z = [x] ∧ suspL hs ms = x :: r := by
  have ha : agrL hs ms = false := by
    rw [Bool.eq_false_iff]
    intro c
    have := (few_min hf).2.2.2 [] (List.nil_sublist _) (by unfold okL; rw [dropL_nil]; exact c)
    simp at this
    rw [this] at h
    cases h
  have h1 := (few_min hf).2.2.1
  rw [h, chL_one] at h1
  obtain ⟨x, hx, e⟩ := Option.map_eq_some_iff.1 h1
  have hsu : suspL hs ms = (idsL ms).filter fun x => okL hs ms [x] := by
    unfold suspL
    rw [if_neg (by simpa using hc), if_neg (by rw [ha]; decide)]
    refine List.filter_congr fun y _ => ?_
    rw [Bool.not_not]
  have hh : (suspL hs ms).head? = some x := by rw [hsu, List.head?_filter]; exact hx
  cases hs' : suspL hs ms with
  | nil => rw [hs'] at hh; cases hh
  | cons y r =>
    rw [hs'] at hh
    obtain rfl := Option.some.inj hh
    exact ⟨y, r, e.symm, rfl⟩
end Go.Proofs.YtighfmgkoepfkaaGreat
