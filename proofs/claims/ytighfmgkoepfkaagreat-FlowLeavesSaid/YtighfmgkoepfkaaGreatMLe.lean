/- Fewest of the specification. -/
import Derived.Test.YtighfmgkoepfkaaGreatMU
import Derived.Test.YtighfmgkoepfkaaGreatMQ2
import Derived.Test.YtighfmgkoepfkaaGreatMH
import Derived.Test.YtighfmgkoepfkaaGreatMY
namespace Go.Proofs.YtighfmgkoepfkaaGreat

/-- Of two lists of one length: the first is less, number by number. -/
def lexL : List Int → List Int → Bool
  | x :: a, y :: b => if x = y then lexL a b else decide (x < y)
  | [], _ => false
  | _ :: _, [] => false
/-- The first list is shorter, or as long and less. -/
def aheadL (a b : List Int) : Bool := if a.length = b.length then lexL a b else decide (a.length < b.length)
theorem lexL_total : ∀ {a b : List Int}, a.length = b.length → lexL a b = false → lexL b a = false → a = b
  | [], [], _, _, _ => rfl
  | [], _ :: _, h, _, _ => by simp at h
  | _ :: _, [], h, _, _ => by simp at h
  | x :: a, y :: b, h, h1, h2 => by
    unfold lexL at h1 h2
    by_cases e : x = y
    · subst e
      rw [if_pos rfl] at h1 h2
      rw [lexL_total (by simpa using h) h1 h2]
    · rw [if_neg e] at h1
      rw [if_neg (fun q => e q.symm)] at h2
      simp at h1 h2
      omega
theorem lexL_trans : ∀ {a b c : List Int}, lexL a b = true → lexL b c = true → lexL a c = true
  | [], _, _, h, _ => by simp [lexL] at h
  | _ :: _, [], _, h, _ => by simp [lexL] at h
  | _ :: _, _ :: _, [], _, h => by simp [lexL] at h
  | x :: a, y :: b, z :: c, h1, h2 => by
    unfold lexL at h1 h2 ⊢
    by_cases e : x = y
    · subst e
      rw [if_pos rfl] at h1
      by_cases e2 : x = z
      · subst e2
        rw [if_pos rfl] at h2 ⊢
        exact lexL_trans h1 h2
      · rw [if_neg e2] at h2 ⊢
        exact h2
    · rw [if_neg e] at h1
      by_cases e2 : y = z
      · subst e2
        rw [if_neg e]
        exact h1
      · rw [if_neg e2] at h2
        simp at h1 h2
        rw [if_neg (by omega)]
        simp
        omega
theorem aheadL_total {a b : List Int} (h1 : aheadL a b = false) (h2 : aheadL b a = false) : a = b := by
  unfold aheadL at h1 h2
  by_cases e : a.length = b.length
  · rw [if_pos e] at h1
    rw [if_pos e.symm] at h2
    exact lexL_total e h1 h2
  · rw [if_neg e] at h1
    rw [if_neg (fun q => e q.symm)] at h2
    simp at h1 h2
    omega
theorem aheadL_trans {a b c : List Int} (h1 : aheadL a b = true) (h2 : aheadL b c = true) : aheadL a c = true := by
  unfold aheadL at *
  by_cases e : a.length = b.length
  · rw [if_pos e] at h1
    by_cases e2 : b.length = c.length
    · rw [if_pos e2] at h2
      rw [if_pos (by omega)]
      exact lexL_trans h1 h2
    · rw [if_neg e2] at h2
      rw [if_neg (by omega)]
      simp at h2 ⊢
      omega
  · rw [if_neg e] at h1
    by_cases e2 : b.length = c.length
    · rw [if_neg (by omega)]
      simp at h1 ⊢
      omega
    · rw [if_neg e2] at h2
      simp at h1 h2
      rw [if_neg (by omega)]
      simp
      omega
theorem chL_lex {ok : List Int → Bool} : ∀ (m : Nat) (s r z : List Int), r.Pairwise (· < ·) → chL ok m s r = some z → ∃ zz, z = s ++ zz ∧ ∀ sub : List Int, sub.Sublist r → sub.length = m → ok (s ++ sub) = true → lexL sub zz = false
  | 0, s, r, z, _, h => by
    unfold chL at h
    split at h
    · obtain rfl := Option.some.inj h
      refine ⟨[], (List.append_nil _).symm, fun sub _ hl _ => ?_⟩
      obtain rfl := List.eq_nil_of_length_eq_zero hl
      rfl
    · cases h
  | m + 1, s, [], z, _, h => by cases h
  | m + 1, s, x :: r, z, hp, h => by
    obtain ⟨p1, p2⟩ := List.pairwise_cons.1 hp
    rw [chL] at h
    cases hc : chL ok m (s ++ [x]) r with
    | some y =>
      rw [hc] at h
      obtain rfl := Option.some.inj h
      obtain ⟨zz, e, hz⟩ := chL_lex m (s ++ [x]) r y p2 hc
      refine ⟨x :: zz, by rw [e]; simp, fun sub hs hl hok => ?_⟩
      cases hs with
      | cons _ h2 =>
        cases sub with
        | nil => cases hl
        | cons q l =>
          have hq := p1 q (h2.subset List.mem_cons_self)
          unfold lexL
          rw [if_neg (by omega)]
          simp
          omega
      | cons_cons _ h2 =>
        rename_i l
        unfold lexL
        rw [if_pos rfl]
        exact hz l h2 (by simpa using hl) (by simpa using hok)
    | none =>
      rw [hc] at h
      obtain ⟨zz, e, hz⟩ := chL_lex (m + 1) s r z p2 h
      refine ⟨zz, e, fun sub hs hl hok => ?_⟩
      cases hs with
      | cons _ h2 => exact hz sub h2 hl hok
      | cons_cons _ h2 =>
        rename_i l
        have := chL_none m (s ++ [x]) r hc l h2 (by simpa using hl)
        rw [show s ++ [x] ++ l = s ++ x :: l by simp, hok] at this
        cases this
theorem few_lex {ok : List Int → Bool} {all z : List Int} (hp : all.Pairwise (· < ·)) (h : fewL ok all = some z) : ok z = true ∧ z.Sublist all ∧ ∀ sub : List Int, sub.Sublist all → ok sub = true → aheadL sub z = false := by
  obtain ⟨h1, h2, h3, h4⟩ := few_min h
  refine ⟨h1, h2, fun sub hs hok => ?_⟩
  have hl := h4 sub hs hok
  unfold aheadL
  by_cases e : sub.length = z.length
  · rw [if_pos e]
    obtain ⟨zz, e2, hz⟩ := chL_lex _ _ _ _ hp h3
    rw [List.nil_append] at e2
    subst e2
    exact hz sub hs e hok
  · rw [if_neg e]
    simp
    omega
theorem fewGo_none {ok : List Int → Bool} {all : List Int} : ∀ (r k : Nat), fewGo ok all r k = none → ∀ i, k ≤ i → i < k + r → chL ok i [] all = none
  | 0, _, _, i, h1, h2 => by omega
  | r + 1, k, h, i, h1, h2 => by
    rw [fewGo] at h
    cases hc : chL ok k [] all with
    | some y => rw [hc] at h; cases h
    | none =>
      rw [hc] at h
      by_cases e : i = k
      · subst e; exact hc
      · exact fewGo_none r (k + 1) h i (by omega) (by omega)
theorem few_none {ok : List Int → Bool} {all : List Int} (h : fewL ok all = none) : ∀ sub : List Int, sub.Sublist all → ok sub = false := by
  intro sub hs
  have := fewGo_none _ _ h sub.length (Nat.zero_le _) (by have := hs.length_le; omega)
  have := chL_none _ _ _ this sub hs rfl
  simpa using this
theorem sub_of_mem : ∀ {a b : List Int}, a.Pairwise (· < ·) → b.Pairwise (· < ·) → (∀ x ∈ a, x ∈ b) → a.Sublist b
  | [], _, _, _, _ => List.nil_sublist _
  | x :: a, [], _, _, h => absurd (h x List.mem_cons_self) (by simp)
  | x :: a, y :: b, ha, hb, h => by
    obtain ⟨a1, a2⟩ := List.pairwise_cons.1 ha
    obtain ⟨b1, b2⟩ := List.pairwise_cons.1 hb
    by_cases e : x = y
    · subst e
      refine (sub_of_mem a2 b2 fun z hz => ?_).cons_cons x
      rcases List.mem_cons.1 (h z (List.mem_cons_of_mem _ hz)) with q | q
      · have := a1 z hz; omega
      · exact q
    · have hx : x ∈ b := by
        rcases List.mem_cons.1 (h x List.mem_cons_self) with q | q
        · exact absurd q e
        · exact q
      have hy := b1 x hx
      refine (sub_of_mem ha b2 fun z hz => ?_).cons y
      rcases List.mem_cons.1 (h z hz) with q | q
      · rcases List.mem_cons.1 hz with r | r
        · omega
        · have := a1 z r; omega
      · exact q
theorem strict_one {a b : List Int} (ha : a.Pairwise (· < ·)) (hb : b.Pairwise (· < ·)) (h : ∀ x, x ∈ a ↔ x ∈ b) : a = b :=
  (sub_of_mem ha hb fun x hx => (h x).1 hx).eq_of_length_le (sub_of_mem hb ha fun x hx => (h x).2 hx).length_le
theorem sortI_perm (l : List Int) : (sortI l).Perm l := List.mergeSort_perm _ _
theorem sortI_strict {l : List Int} (h : l.Nodup) : (sortI l).Pairwise (· < ·) := by
  have h1 := sortI_sorted l
  have h2 : (sortI l).Nodup := (sortI_perm l).nodup_iff.2 h
  have h3 := h1.and h2
  exact h3.imp fun h => by omega
/-- The numbers whose bits a number has. -/
def pickI : List Int → Nat → List Int
  | [], _ => []
  | x :: l, s => if s % 2 = 1 then x :: pickI l (s / 2) else pickI l (s / 2)
theorem pick_sub : ∀ (l : List Int) (s : Nat), (pickI l s).Sublist l
  | [], _ => List.nil_sublist _
  | x :: l, s => by
    unfold pickI
    split
    · exact (pick_sub l _).cons_cons x
    · exact (pick_sub l _).cons x
theorem pick_all : ∀ {l sub : List Int}, sub.Sublist l → ∃ s, s < 2 ^ l.length ∧ pickI l s = sub
  | [], sub, h => by
    rw [List.sublist_nil] at h
    subst h
    exact ⟨0, by simp, rfl⟩
  | x :: l, sub, h => by
    cases h with
    | cons _ h2 =>
      obtain ⟨s, h3, h4⟩ := pick_all h2
      refine ⟨2 * s, by rw [List.length_cons, Nat.pow_succ]; omega, ?_⟩
      unfold pickI
      rw [if_neg (by omega), show 2 * s / 2 = s by omega]
      exact h4
    | cons_cons _ h2 =>
      obtain ⟨s, h3, h4⟩ := pick_all h2
      refine ⟨2 * s + 1, by rw [List.length_cons, Nat.pow_succ]; omega, ?_⟩
      unfold pickI
      rw [if_pos (by omega), show (2 * s + 1) / 2 = s by omega, h4]
/-- The best of the first sets. -/
def bestR (ok : List Int → Bool) (l : List Int) : Nat → Option (List Int)
  | 0 => none
  | s + 1 => match bestR ok l s with
    | none => if ok (sortI (pickI l s)) = true then some (sortI (pickI l s)) else none
    | some b => if aheadL (sortI (pickI l s)) b = true ∧ ok (sortI (pickI l s)) = true then some (sortI (pickI l s)) else some b
theorem best_none {ok : List Int → Bool} {l : List Int} : ∀ (n : Nat), bestR ok l n = none → ∀ s, s < n → ok (sortI (pickI l s)) = false
  | 0, _, s, h => absurd h (Nat.not_lt_zero s)
  | n + 1, h, s, hs => by
    unfold bestR at h
    cases hb : bestR ok l n with
    | some b =>
      rw [hb] at h
      dsimp only at h
      split at h <;> cases h
    | none =>
      rw [hb] at h
      dsimp only at h
      split at h
      · cases h
      · rename_i c
        by_cases e : s = n
        · subst e; simpa using c
        · exact best_none n hb s (by omega)
theorem aheadL_self (a : List Int) : aheadL a a = false := by
  unfold aheadL
  rw [if_pos rfl]
  induction a with
  | nil => rfl
  | cons x a ih => unfold lexL; rw [if_pos rfl]; exact ih
theorem best_min {ok : List Int → Bool} {l : List Int} : ∀ (n : Nat) {b : List Int}, bestR ok l n = some b → (∃ s, s < n ∧ b = sortI (pickI l s)) ∧ ok b = true ∧ ∀ s, s < n → ok (sortI (pickI l s)) = true → aheadL (sortI (pickI l s)) b = false
  | 0, _, h => by cases h
  | n + 1, b, h => by
    unfold bestR at h
    cases hb : bestR ok l n with
    | none =>
      rw [hb] at h
      dsimp only at h
      split at h
      · rename_i c
        obtain rfl := Option.some.inj h
        refine ⟨⟨n, by omega, rfl⟩, c, fun s hs hok => ?_⟩
        by_cases e : s = n
        · subst e; exact aheadL_self _
        · rw [best_none n hb s (by omega)] at hok
          cases hok
      · cases h
    | some y =>
      rw [hb] at h
      dsimp only at h
      obtain ⟨⟨s0, q1, q2⟩, q3, q4⟩ := best_min n hb
      split at h
      · rename_i c
        obtain rfl := Option.some.inj h
        refine ⟨⟨n, by omega, rfl⟩, c.2, fun s hs hok => ?_⟩
        by_cases e : s = n
        · subst e; exact aheadL_self _
        · cases ha : aheadL (sortI (pickI l s)) (sortI (pickI l n)) with
          | false => rfl
          | true =>
            have := aheadL_trans ha c.1
            rw [q4 s (by omega) hok] at this
            cases this
      · rename_i c
        obtain rfl := Option.some.inj h
        refine ⟨⟨s0, by omega, q2⟩, q3, fun s hs hok => ?_⟩
        by_cases e : s = n
        · subst e
          cases ha : aheadL (sortI (pickI l s)) y with
          | false => rfl
          | true => exact absurd ⟨ha, hok⟩ c
        · exact q4 s (by omega) hok
theorem best_few {ok : List Int → Bool} {l : List Int} (hn : l.Nodup) : bestR ok l (2 ^ l.length) = fewL ok (sortI l) := by
  have hp := sortI_strict hn
  have h1 : ∀ s, (sortI (pickI l s)).Sublist (sortI l) := fun s => sub_of_mem (sortI_strict ((pick_sub l s).nodup hn)) hp fun x hx => (sortI_perm l).mem_iff.2 ((pick_sub l s).subset ((sortI_perm _).mem_iff.1 hx))
  have h2 : ∀ sub : List Int, sub.Sublist (sortI l) → ∃ s, s < 2 ^ l.length ∧ sortI (pickI l s) = sub := fun sub hs => by
    obtain ⟨s, a, b⟩ := pick_all (l := l) (sub := l.filter fun x => sub.contains x) List.filter_sublist
    refine ⟨s, a, ?_⟩
    rw [b]
    refine strict_one (sortI_strict (List.filter_sublist.nodup hn)) (hp.sublist hs) fun x => ?_
    rw [(sortI_perm _).mem_iff, List.mem_filter, List.contains_iff_mem]
    exact ⟨fun h => h.2, fun h => ⟨(sortI_perm l).mem_iff.1 (hs.subset h), h⟩⟩
  cases hb : bestR ok l (2 ^ l.length) with
  | none =>
    cases hf : fewL ok (sortI l) with
    | none => rfl
    | some z =>
      obtain ⟨z1, z2, _⟩ := few_lex hp hf
      obtain ⟨s, a, b⟩ := h2 z z2
      have := best_none _ hb s a
      rw [b, z1] at this
      cases this
  | some b =>
    obtain ⟨⟨s, a1, a2⟩, b1, b2⟩ := best_min _ hb
    cases hf : fewL ok (sortI l) with
    | none =>
      have := few_none hf b (by rw [a2]; exact h1 s)
      rw [b1] at this
      cases this
    | some z =>
      obtain ⟨z1, z2, z3⟩ := few_lex hp hf
      obtain ⟨s', c1, c2⟩ := h2 z z2
      have k1 := b2 s' c1 (by rw [c2]; exact z1)
      rw [c2] at k1
      have k2 := z3 b (by rw [a2]; exact h1 s) b1
      rw [aheadL_total k2 k1]
end Go.Proofs.YtighfmgkoepfkaaGreat

namespace Go.Proofs.YtighfmgkoepfkaaGreat
open Go.RowKit

theorem lexL_eqs : ∀ {a b : List Int} (k : Nat), a.length = b.length → k ≤ a.length → (∀ j (q : j < a.length) (r : j < b.length), j < k → a[j] = b[j]) → lexL a b = lexL (a.drop k) (b.drop k)
  | _, _, 0, _, _, _ => by simp
  | [], _, k + 1, _, h, _ => by simp at h
  | x :: a, [], k + 1, h, _, _ => by simp at h
  | x :: a, y :: b, k + 1, h, hk, he => by
    have e : x = y := he 0 (by simp) (by simp) (by omega)
    rw [List.drop_succ_cons, List.drop_succ_cons, ← lexL_eqs k (by simpa using h) (by simpa using hk) (fun j q r hj => he (j + 1) (by simpa using q) (by simpa using r) (by omega))]
    rw [lexL, if_pos e]
set_option maxRecDepth 100000 in
set_option maxHeartbeats 6400000 in
theorem ahead_any (A : Option Addr) (n c : Nat) (B : Option Addr) (m d : Nat) (a b : List Int) (w : World) (ha : SAt encI 1 w A n a) (hb : SAt encI 1 w B m b) (hn : n ≤ 1000000) (hm : m ≤ 1000000) :
    Calls Tryz.prog 73 #[.slice A n c, .slice B m d] w fun e w' => e = .returned (.bool (aheadL a b)) ∧ Below w.heap.size w w' := by
  have HA := Lib.hid ha
  have HB := Lib.hid hb
  have HLa := Lib.hid ha.len
  have HLb := Lib.hid hb.len
  clear ha hb
  by_cases hnm : n = m
  case neg =>
    have HE := Lib.hid (show aheadL a b = decide (n < m) by unfold aheadL; rw [if_neg (by rw [HLa.out, HLb.out]; exact hnm), HLa.out, HLb.out])
    have h1 : ((n : Int) != (m : Int)) = true := by simp; omega
    have h1a : ((n : Int) == (m : Int)) = false := by simp; omega
    have h1b : (n == m) = false := by simpa using hnm
    by_cases hlt : n < m
    case pos =>
      have h2 : decide ((n : Int) < (m : Int)) = true := decide_eq_true (by omega)
      have h3 : decide (n < m) = true := decide_eq_true hlt
      have HE2 := Lib.hid (show aheadL a b = true by rw [HE.out, h3])
      clear HE
      go_enter Tryz.func73, Tryz.ntmps73
      go_wp2
      exact bodyPost_ret (v := .bool true) (by simp [results, Tryz.results73, go_sem]) rfl ⟨by rw [HE2.out], Below.refl _ _⟩
    case neg =>
      have h2 : decide ((n : Int) < (m : Int)) = false := decide_eq_false (by omega)
      have h3 : decide (n < m) = false := decide_eq_false hlt
      have HE2 := Lib.hid (show aheadL a b = false by rw [HE.out, h3])
      clear HE
      go_enter Tryz.func73, Tryz.ntmps73
      go_wp2
      exact bodyPost_ret (v := .bool false) (by simp [results, Tryz.results73, go_sem]) rfl ⟨by rw [HE2.out], Below.refl _ _⟩
  case pos =>
    subst hnm
    have HE := Lib.hid (show aheadL a b = lexL a b by unfold aheadL; rw [if_pos (by rw [HLa.out, HLb.out])])
    have HQ := Lib.hid (fun (k : Nat) h1 h2 => lexL_eqs (a := a) (b := b) k (by rw [HLa.out, HLb.out]) h1 h2)
    go_enter Tryz.func73, Tryz.ntmps73
    go_wp2
    go_loopw [5] (fun i wx => ∃ k : Nat, k ≤ n ∧ i = .int .i64 (k : Int) ∧ (∀ j (q : j < a.length) (r : j < b.length), j < k → a[j] = b[j]) ∧ Below w.heap.size w wx) (fun i _ => n - (intOf i).toNat)
    case atStart => exact ⟨0, Nat.zero_le _, rfl, fun j _ _ hj => absurd hj (Nat.not_lt_zero j), Below.refl _ _⟩
    case round =>
      obtain ⟨k, hk, rfl, hall, hb⟩ := hrel
      have HBw := Lib.hid hb
      have HAll := Lib.hid hall
      clear hb hall
      by_cases hkn : k < n
      case neg =>
        have HF := Lib.hid (show aheadL a b = false by
          rw [HE.out, HQ.out k (by rw [HLa.out]; exact hk) HAll.out, List.drop_of_length_le (by have := HLa.out; omega)]
          rfl)
        go_wp2
        exact bodyPost_ret (v := .bool false) (by simp [results, Tryz.results73, go_sem]) rfl ⟨by rw [HF.out], HBw.out⟩
      case pos =>
        have hka : k < a.length := by rw [HLa.out]; exact hkn
        have hkb : k < b.length := by rw [HLb.out]; exact hkn
        obtain ⟨ba, oa, rfl, hla⟩ := HA.out.at_ (by omega)
        obtain ⟨bb, ob, rfl, hlb⟩ := HB.out.at_ (by omega)
        have hla2 := hla.below HBw.out
        have hlb2 := hlb.below HBw.out
        have u0 := hla2.c k _ (List.getElem?_eq_getElem hka) 0 _ rfl
        have v0 := hlb2.c k _ (List.getElem?_eq_getElem hkb) 0 _ rfl
        rw [Nat.mul_one, Nat.add_zero] at u0 v0
        have ul := hla2.lt
        have vl := hlb2.lt
        have HS := Lib.hid (fun (q : a[k] ≠ b[k]) => (show aheadL a b = decide (a[k] < b[k]) by
          rw [HE.out, HQ.out k (by rw [HLa.out]; exact hk) HAll.out, List.drop_eq_getElem_cons hka, List.drop_eq_getElem_cons hkb, lexL, if_neg q]))
        have HNx := Lib.hid (fun (q : a[k] = b[k]) j (h1 : j < a.length) (h2 : j < b.length) (hj : j < k + 1) => (show a[j] = b[j] from if e : j = k then by subst e; exact q else HAll.out j h1 h2 (by omega)))
        clear hla hlb hla2 hlb2
        generalize a[k] = x at *
        generalize b[k] = y at *
        by_cases hxy : x = y
        case pos =>
          have hxb : (x != y) = false := by simpa using hxy
          have HN := Lib.hid (HNx.out hxy)
          clear HNx HS hxy
          obtain ⟨xc, xf'⟩ := xcell (W := wr)
          go_upto_region 6 with fail
          refine wp_region_quiet_tail 9 (by kernel_rfl) (by kernel_rfl) ?_
          simp only [List.take_succ_cons, List.take_zero, List.drop_succ_cons, List.drop_zero]
          repeat (first | go_big_quiet_step (fail) | quiet_step (fail))
          refine wpQuiet_nil ?_
          intro w5 hb5
          have HB5 := Lib.hid (HBw.out.trans (hb5.mono HBw.out.size))
          clear hb5 xc xf'
          go_wp2
          go_roundw
          case rel => exact ⟨k + 1, by omega, by go_num, HN.out, HB5.out⟩
          case measure => simp [intOf]; omega
        case neg =>
          have hxb : (x != y) = true := by simpa using hxy
          have HF := Lib.hid (HS.out hxy)
          clear HNx HS hxy
          go_upto_region 6 with fail
          obtain ⟨xc, xf'⟩ := xcell (W := wr)
          refine wp_region_quiet_tail 9 (by kernel_rfl) (by kernel_rfl) ?_
          simp only [List.take_succ_cons, List.take_zero, List.drop_succ_cons, List.drop_zero]
          repeat (first | go_big_quiet_step (fail) | quiet_step (fail))
          refine wpQuiet_nil ?_
          intro w5 hb5
          have u1 := (bcell hb5).1 ba (oa + k) ul
          have v1 := (bcell hb5).1 bb (ob + k) vl
          rw [u0] at u1
          rw [v0] at v1
          have ul5 := Nat.lt_of_lt_of_le ul hb5.size
          have vl5 := Nat.lt_of_lt_of_le vl hb5.size
          have HB5 := Lib.hid (HBw.out.trans (hb5.mono HBw.out.size))
          clear hb5 xc xf' u0 v0 ul vl
          go_upto_region 7 with fail
          obtain ⟨xc, xf'⟩ := xcell (W := w5)
          refine wp_region_quiet_tail 9 (by kernel_rfl) (by kernel_rfl) ?_
          simp only [List.take_succ_cons, List.take_zero, List.drop_succ_cons, List.drop_zero]
          repeat (first | go_big_quiet_step (fail) | quiet_step (fail))
          refine wpQuiet_nil ?_
          intro w6 hb6
          have HB6 := Lib.hid (HB5.out.trans (hb6.mono HB5.out.size))
          clear hb6 xc xf'
          go_wp2
          exact bodyPost_ret (v := .bool (decide (x < y))) (by simp [results, Tryz.results73, go_sem]) rfl ⟨by rw [HF.out], HB6.out⟩
end Go.Proofs.YtighfmgkoepfkaaGreat

namespace Go.Proofs.YtighfmgkoepfkaaGreat
open Go.RowKit

theorem sort_filter (p : Int → Bool) (l : List Int) : (sortI l).filter p = sortI (l.filter p) :=
  sorted_one ((sortI_sorted l).filter _) (sortI_sorted _) (((sortI_perm l).filter p).trans (sortI_perm _).symm)
/-- Of the first k movements: those without each of which there is a course. -/
def rsT (hs : List Hd) (ms : List Mv) (k : Nat) : List Int := ((ms.take k).map Mv.id).filter fun x => okL hs ms [x]
theorem rsT_step {hs : List Hd} {ms : List Mv} {k : Nat} (hk : k < ms.length) : rsT hs ms (k + 1) = rsT hs ms k ++ (if okL hs ms [(ms[k]).id] = true then [(ms[k]).id] else []) := by
  unfold rsT
  rw [List.take_succ_eq_append_getElem hk, List.map_append, List.filter_append]
  congr 1
  rw [List.map_cons, List.map_nil, List.filter_cons, List.filter_nil]
theorem rsT_len (hs : List Hd) (ms : List Mv) (k : Nat) : (rsT hs ms k).length ≤ k := by
  unfold rsT
  refine Nat.le_trans (List.length_filter_le _ _) ?_
  rw [List.length_map, List.length_take]
  omega
theorem susp_eq {hs : List Hd} {ms : List Mv} (h : tcheck hs ms = 0) (ha : agrL hs ms = false) : suspL hs ms = sortI (rsT hs ms ms.length) := by
  unfold suspL rsT idsL
  rw [if_neg (by simpa using h), if_neg (by rw [ha]; decide), List.take_length, sort_filter]
  simp
def RSuOut (w : World) (hs : List Hd) (ms : List Mv) (en : Ending) (w' : World) : Prop :=
  Below w.heap.size w w' ∧ ∃ v, en = .returned (.agg #[v, .int .i64 (tcheck hs ms)]) ∧ w'.ownsRow w.heap.size 3 1 v (suspL hs ms).length ((suspL hs ms).flatMap encI)
/-- A trade without one movement agrees, or does not: what is known in the region that finds it out. -/
structure SuP (hs : List Hd) (ms : List Mv) (x : Int) (a b c : Nat) (ls : Nat → Bool) (vs : Nat → Value) (v : World) : Prop where
  p7 : ls a = true → ∃ g, vs a = .slice (some ⟨g, 0, none⟩) 1 1 ∧ Blk v g 3 #[.int .i64 x]
  p8 : ls b = true → ∃ A n c B m d, vs b = .agg #[.slice A n c, .slice B m d] ∧ TR.Ok v ⟨A, n, c, B, m, d, hs, dropL ms [x]⟩
  p9 : ls c = true → vs c = .bool (okL hs ms [x])
theorem SuP.below {hs : List Hd} {ms : List Mv} {x : Int} {a b c : Nat} {ls : Nat → Bool} {vs : Nat → Value} {v v' : World} (h : SuP hs ms x a b c ls vs v) (hb : Below v.heap.size v v') : SuP hs ms x a b c ls vs v' :=
  ⟨fun l => let ⟨g, e, k⟩ := h.p7 l; ⟨g, e, k.below hb⟩, fun l => let ⟨A, n, c, B, m, d, e, k⟩ := h.p8 l; ⟨A, n, c, B, m, d, e, k.below hb⟩, h.p9⟩
theorem one_sat {v : World} {g : Nat} {x : Int} (h : Blk v g 3 #[.int .i64 x]) : SAt encI 1 v (some ⟨g, 0, none⟩) 1 [x] :=
  ⟨rfl, fun _ => ⟨g, 0, rfl, h.lt, fun i y hi j u hu => by
    match i, hi with
    | 0, hi =>
      have e : y = x := by simpa using hi.symm
      subst e
      match j, hu with
      | 0, hu =>
        have e : u = .int .i64 y := by simpa [encI] using hu.symm
        subst e
        simpa using h.cell 0⟩⟩
set_option maxRecDepth 100000 in
set_option maxHeartbeats 12800000 in
theorem RSuspects_any (t : TR) (w : World) (h : t.Ok w) (hA : t.A = none → t.c = 0) : Calls Tryz.prog 21 #[t.v] w (RSuOut w t.hs t.ms) := by
  obtain ⟨A, n, c, B, m, d, hs, ms⟩ := t
  have HCk := Lib.hid (fun (u : World) (hu : TR.Ok u ⟨A, n, c, B, m, d, hs, ms⟩) => RCheck_any ⟨A, n, c, B, m, d, hs, ms⟩ u hu)
  have HRa := Lib.hid (fun (u : World) (hu : TR.Ok u ⟨A, n, c, B, m, d, hs, ms⟩) (hv : TV hs ms) => RAgrees_any ⟨A, n, c, B, m, d, hs, ms⟩ u hu hv)
  have HDr := Lib.hid (fun (u : World) (hu : TR.Ok u ⟨A, n, c, B, m, d, hs, ms⟩) (hv : TV hs ms) (A' : Option Addr) (n' c' : Nat) (l : List Int) (hl : SAt encI 1 u A' n' l) (hn' : n' ≤ 1000000) => drop_any ⟨A, n, c, B, m, d, hs, ms⟩ A' n' c' l u hu hl hn' (by have := hv.lenH; have := hu.h.len; dsimp only at *; omega) (by have := hv.lenM; have := hu.m.len; dsimp only at *; omega) hA)
  have HRd := Lib.hid (fun (hv : TV hs ms) (x : Int) (A' : Option Addr) (n' c' : Nat) (B' : Option Addr) (m' d' : Nat) (u : World) (hu : TR.Ok u ⟨A', n', c', B', m', d', hs, dropL ms [x]⟩) => RAgrees_any ⟨A', n', c', B', m', d', hs, dropL ms [x]⟩ u hu (hv.drop [x]))
  have HO0 := Lib.hid h
  have HLm := Lib.hid (show ms.length = m from h.m.len)
  dsimp only [TR.v] at *
  have HTv := Lib.hid (show tcheck hs ms = 0 → TV hs ms from tcheck_zero.1)
  have HEc := Lib.hid (fun q : tcheck hs ms ≠ 0 => (show suspL hs ms = [] by unfold suspL; rw [if_pos q]))
  have HEa := Lib.hid (fun (q : tcheck hs ms = 0) (a : agrL hs ms = true) => (show suspL hs ms = [] by unfold suspL; rw [if_neg (by simpa using q), if_pos a]))
  have HEz := Lib.hid (fun (q : tcheck hs ms = 0) (a : agrL hs ms = false) => susp_eq q a)
  obtain ⟨tc, htc⟩ : ∃ x, tcheck hs ms = x := ⟨_, rfl⟩
  have HTc := Lib.hid htc
  rw [htc] at HEc HEa HEz HTv HCk
  clear htc
  have HB0 : Hid (Below w.heap.size w ((w.alloc (.cells #[.slice A n c, .slice B m d] 25)).alloc (.cells #[.slice none 0 0, .int .i64 0] 46))) := Lib.hid (((Below.refl w.heap.size w).alloc (Nat.le_refl _) _).alloc (by simp) _)
  have T0 : Hid (Blk ((w.alloc (.cells #[.slice A n c, .slice B m d] 25)).alloc (.cells #[.slice none 0 0, .int .i64 0] 46)) w.heap.size 25 #[.slice A n c, .slice B m d]) := Lib.hid ((Blk.at_new 25 #[.slice A n c, .slice B m d] rfl).alloc _)
  have K0 : Hid (Blk ((w.alloc (.cells #[.slice A n c, .slice B m d] 25)).alloc (.cells #[.slice none 0 0, .int .i64 0] 46)) (w.heap.size + 1) 46 #[.slice none 0 0, .int .i64 0]) := Lib.hid (Blk.at_new 46 #[.slice none 0 0, .int .i64 0] (by simp))
  have O0 := Lib.hid ((h).below HB0.out)
  go_enter Tryz.func21, Tryz.ntmps21
  go_upto_region 1 with fail
  generalize hV : (w.alloc (.cells #[.slice A n c, .slice B m d] 25)).alloc (.cells #[.slice none 0 0, .int .i64 0] 46) = V0 at *
  clear hV
  clear h
  have yT0 := T0.out.cell 0
  have yT1 := T0.out.cell 1
  have yK0 := K0.out.cell 0
  have yK1 := K0.out.cell 1
  simp only [List.getElem?_toArray, List.getElem?_cons_zero, List.getElem?_cons_succ] at yT0 yT1 yK0 yK1
  have yTl := T0.out.lt
  have yKl := K0.out.lt
  have HC := Lib.hid (HCk.out _ O0.out)
  try dsimp only [TR.v, vCt] at HC
  go_upto_region 2 with (go_at_call 61; (with_reducible refine HC.out.mono ?_); rintro e u1 ⟨rfl, hb⟩)
  clear yT0 yT1 yK0 yK1 yTl yKl
  clear HC
  have bn := hb
  have T1 := Lib.hid (T0.out.below bn)
  have K1 := Lib.hid (K0.out.below bn)
  have O1 := Lib.hid (O0.out.below bn)
  have HB1 := Lib.hid (HB0.out.trans (bn.mono HB0.out.size))
  clear hb bn T0 K0 O0 HB0
  by_cases hc : tc = 0
  case neg =>
    have hz : (tc != 0) = true := by simpa using hc
    have HE := Lib.hid (HEc.out hc)
    clear hc
    have yT0 := T1.out.cell 0
    have yT1 := T1.out.cell 1
    have yK0 := K1.out.cell 0
    have yK1 := K1.out.cell 1
    simp only [List.getElem?_toArray, List.getElem?_cons_zero, List.getElem?_cons_succ] at yT0 yT1 yK0 yK1
    have yTl := T1.out.lt
    have yKl := K1.out.lt
    have f0 := K1.out.frozen 0
    have f1 := K1.out.frozen 1
    go_wp2
    have hf := blk_set2 K1.out (.slice none 0 0) (.int .i64 tc)
    have x0 := hf.cell 0
    have x1 := hf.cell 1
    simp only [List.getElem?_toArray, List.getElem?_cons_zero, List.getElem?_cons_succ] at x0 x1
    refine bodyPost_ret (v := .agg #[.slice none 0 0, .int .i64 tc]) (by simp [results, Tryz.results21, go_sem, x0, x1]) rfl ⟨below_set2 HB1.out (by omega) _ _, _, by rw [HTc.out], ?_⟩
    rw [HE.out]
    exact World.ownsRow_nil _ _ _ _
  case pos =>
  subst hc
  have hz : ((0 : Int) != 0) = false := by decide
  have hv := HTv.out rfl
  have HTV := Lib.hid hv
  have hm24 : m ≤ 24 := by rw [← HLm.out]; exact hv.lenM
  clear hv HTv HEc HCk
  have HRb := Lib.hid (fun (u : World) (hu : TR.Ok u ⟨A, n, c, B, m, d, hs, ms⟩) => HRa.out u hu HTV.out)
  have HEb := Lib.hid (HEa.out rfl)
  have HEy := Lib.hid (HEz.out rfl)
  obtain ⟨ab, hab⟩ : ∃ x, agrL hs ms = x := ⟨_, rfl⟩
  rw [hab] at HRb HEb HEy
  clear hab HRa HEa HEz
  have yT0 := T1.out.cell 0
  have yT1 := T1.out.cell 1
  have yK0 := K1.out.cell 0
  have yK1 := K1.out.cell 1
  simp only [List.getElem?_toArray, List.getElem?_cons_zero, List.getElem?_cons_succ] at yT0 yT1 yK0 yK1
  have yTl := T1.out.lt
  have yKl := K1.out.lt
  have HC := Lib.hid (HRb.out _ O1.out)
  try dsimp only [TR.v, vCt] at HC
  go_upto_region 5 with (go_at_call 40; (with_reducible refine HC.out.mono ?_); rintro e u2 ⟨rfl, hb⟩)
  clear yT0 yT1 yK0 yK1 yTl yKl
  clear HC
  have bn := hb
  have T2 := Lib.hid (T1.out.below bn)
  have K2 := Lib.hid (K1.out.below bn)
  have O2 := Lib.hid (O1.out.below bn)
  have HB2 := Lib.hid (HB1.out.trans (bn.mono HB1.out.size))
  clear hb bn T1 K1 O1 HB1
  go_upto_region 7 with fail
  clear hz
  have HTb := Lib.hid (T2.out)
  have HKb := Lib.hid (K2.out)
  have HBb := Lib.hid (HB2.out)
  clear HRb T2 K2 O2 HB2
  go_loopw [5, 6, 7] (fun v i _ wx => ∃ k p : Nat, k ≤ m ∧ (ab = true → k = 0) ∧ i = .int .i64 (k : Int) ∧ (rsT hs ms k).length = p ∧ wx.ownsRow w.heap.size 3 1 v p ((sortI (rsT hs ms k)).flatMap encI) ∧ (rsT hs ms k = [] → v = .slice none 0 0) ∧ Below w.heap.size w wx ∧ Blk wx w.heap.size 25 #[.slice A n c, .slice B m d] ∧ Blk wx (w.heap.size + 1) 46 #[.slice none 0 0, .int .i64 0]) (fun _ i _ _ => m - (intOf i).toNat)
  case atStart => exact ⟨0, 0, Nat.zero_le _, fun _ => rfl, rfl, rfl, by simpa [rsT, sortI] using World.ownsRow_nil _ _ _ _, fun _ => rfl, HBb.out, HTb.out, HKb.out⟩
  case round =>
    clear HBb HTb HKb
    obtain ⟨k, p, hk, hab0, rfl, hp, ow, hnl, hb, ht, hkb⟩ := hrel
    have HP := Lib.hid hp
    have OW := Lib.hid ow
    have HNl := Lib.hid hnl
    have HBk := Lib.hid hb
    have HTk := Lib.hid ht
    have HKk := Lib.hid hkb
    have hpk : p ≤ 24 := by rw [← hp]; exact Nat.le_trans (rsT_len hs ms k) (by omega)
    obtain ⟨Ao, co, rfl⟩ := owns_slice ow
    clear hp ow hnl hb ht hkb
    have y0 := HTk.out.cell 0
    have y1 := HTk.out.cell 1
    simp only [List.getElem?_toArray, List.getElem?_cons_zero, List.getElem?_cons_succ] at y0 y1
    have yl := HTk.out.lt

    by_cases hkm : k < m
    case neg =>
      obtain rfl : k = m := by omega
      have HS := Lib.hid (show suspL hs ms = sortI (rsT hs ms k) by
        cases ab with
        | false => rw [HEy.out rfl, HLm.out]
        | true => rw [HEb.out rfl, hab0 rfl]; simp [rsT, sortI])
      clear hab0
      have k0 := HKk.out.cell 0
      have k1 := HKk.out.cell 1
      simp only [List.getElem?_toArray, List.getElem?_cons_zero, List.getElem?_cons_succ] at k0 k1
      have kl := HKk.out.lt
      have f0 := HKk.out.frozen 0
      have f1 := HKk.out.frozen 1
      go_wp2
      have hf := blk_set2 HKk.out (.slice Ao p co) (.int .i64 0)
      have x0 := hf.cell 0
      have x1 := hf.cell 1
      simp only [List.getElem?_toArray, List.getElem?_cons_zero, List.getElem?_cons_succ] at x0 x1
      refine bodyPost_ret (v := .agg #[.slice Ao p co, .int .i64 0]) (by simp [results, Tryz.results21, go_sem, x0, x1]) rfl ⟨below_set2 HBk.out (by omega) _ _, _, by rw [HTc.out], ?_⟩
      have := owns_grown OW.out (grown_set2 wr (w.heap.size + 1) (.slice Ao p co) (.int .i64 0)) (fun r hr e => own_ne OW.out HKk.out (by decide) (by rw [hr, ← e]))
      have e2 : (suspL hs ms).length = p := by rw [HS.out, sortI_len]; exact HP.out
      rw [e2, HS.out]
      exact this
    case pos =>
    cases ab with
    | true =>
      obtain rfl := hab0 rfl
      have HS := Lib.hid (show suspL hs ms = sortI (rsT hs ms 0) by rw [HEb.out rfl]; simp [rsT, sortI])
      clear hab0
      have k0 := HKk.out.cell 0
      have k1 := HKk.out.cell 1
      simp only [List.getElem?_toArray, List.getElem?_cons_zero, List.getElem?_cons_succ] at k0 k1
      have kl := HKk.out.lt
      have f0 := HKk.out.frozen 0
      have f1 := HKk.out.frozen 1
      go_wp2
      have hf := blk_set2 HKk.out (.slice Ao p co) (.int .i64 0)
      have x0 := hf.cell 0
      have x1 := hf.cell 1
      simp only [List.getElem?_toArray, List.getElem?_cons_zero, List.getElem?_cons_succ] at x0 x1
      refine bodyPost_ret (v := .agg #[.slice Ao p co, .int .i64 0]) (by simp [results, Tryz.results21, go_sem, x0, x1]) rfl ⟨below_set2 HBk.out (by omega) _ _, _, by rw [HTc.out], ?_⟩
      have := owns_grown OW.out (grown_set2 wr (w.heap.size + 1) (.slice Ao p co) (.int .i64 0)) (fun r hr e => own_ne OW.out HKk.out (by decide) (by rw [hr, ← e]))
      have e2 : (suspL hs ms).length = p := by rw [HS.out, sortI_len]; exact HP.out
      rw [e2, HS.out]
      exact this
    | false =>
      clear hab0
      have hkl : k < ms.length := by rw [HLm.out]; exact hkm
      have HT := Lib.hid (rsT_step (hs := hs) hkl)
      obtain ⟨bM, oM, eM, hM⟩ := HO0.out.m.at_ (by dsimp only; omega)
      dsimp only at eM
      subst eM
      have HM := Lib.hid hM
      have HAt := Lib.hid (List.getElem?_eq_getElem hkl)
      clear hM
      generalize ms[k] = xm at *
      obtain ⟨x, xf, xt, xl, xh⟩ := xm
      dsimp only at HT
      obtain ⟨ok, hok⟩ : ∃ b, okL hs ms [x] = b := ⟨_, rfl⟩
      have HOk := Lib.hid hok
      rw [hok] at HT
      clear hok
      go_upto_region 9 with fail
      clear y0 y1 yl
      refine wp_region_preC 10 [(7, 34), (8, 35), (9, 36)] (fun v => Below wr.heap.size wr v) (SuP hs ms x 7 8 9) (by kernel_rfl) (by kernel_rfl) (Below.refl _ _) (fun v v' h k => h.trans (k.mono h.size)) (fun v _ => ⟨fun h => (by cases h), fun h => (by cases h), fun h => (by cases h)⟩) (fun ls vs v v' _ h kk => h.below kk) ?_
      apply Exists.intro
      refine ⟨?walk, ?loud, ?last⟩
      case walk =>
        intro V hV
        have tt := HTk.out.below hV
        have y0 := tt.cell 0
        have y1 := tt.cell 1
        simp only [List.getElem?_toArray, List.getElem?_cons_zero, List.getElem?_cons_succ] at y0 y1
        have yl := tt.lt
        have hl2 := HM.out.below (HBk.out.trans (hV.mono HBk.out.size))
        obtain ⟨u0, _, _, _, _⟩ := Mvs.at_ hl2 HAt.out
        dsimp only at u0
        have ul := hl2.lt
        clear tt hl2
        obtain ⟨xc, xf'⟩ := xcell (W := V)
        simp only [List.take_succ_cons, List.take_zero, qOf, isLoud, List.any_cons, List.any_nil, Nat.reduceBEq, Bool.or_false, Bool.or_true, Nat.reduceAdd, Bool.false_eq_true, if_true, if_false, beq_self_eq_true, Nat.zero_add]
        repeat (first | go_big_quiet_step (fail) | quiet_step (fail))
        exact wpQuiet_nil rfl
      case loud =>
        rintro pp hpp vs v hC ls hI hls hw o ho
        simp only [List.mem_cons, List.not_mem_nil, or_false] at hpp
        rcases hpp with rfl | rfl | rfl
        · simp only [List.getElem?_cons_succ, List.getElem?_cons_zero, Option.some.injEq] at ho
          subst ho
          simp [loudAt, loudUpon, go_sem, execOp, putsL, Act.put]
          have h2 := hI.below (below_new v (.cells #[.int .i64 x] 3))
          refine ⟨hC.alloc hC.size _, fun _ => ⟨v.heap.size, by simp [upd], Blk.new _ _ _⟩, fun h6 => ?_, fun h6 => ?_⟩
          · obtain ⟨A5, n5, c5, B5, m5, d5, e5, k5⟩ := h2.p8 (by simpa [updB] using h6)
            exact ⟨A5, n5, c5, B5, m5, d5, by simpa [upd] using e5, k5⟩
          · simpa [upd] using h2.p9 (by simpa [updB] using h6)
        · have h7 := hw (7, 34) (by simp) (by kernel_rfl)
          obtain ⟨g7, e7, b7⟩ := hI.p7 h7
          simp only [List.getElem?_cons_succ, List.getElem?_cons_zero, Option.some.injEq] at ho
          subst ho
          simp [loudAt, loudUpon, go_sem, putsL, Act.put, e7]
          refine (HDr.out v (HO0.out.below (HBk.out.trans (hC.mono HBk.out.size))) HTV.out (some ⟨g7, 0, none⟩) 1 1 [x] (one_sat b7) (by decide)).mono ?_
          rintro e w' ⟨v1, v2, rfl, ho, hb5⟩
          obtain ⟨A5, c5, B5, d5, rfl, rfl, a1, a2, a3, a4, _, _⟩ := ho.form
          have l1 := HTV.out.lenH
          have l2 : (dropL ms [x]).length ≤ 24 := (HTV.out.drop [x]).lenM
          have h2 := hI.below hb5
          refine ⟨_, rfl, hC.trans (hb5.mono hC.size), fun h6 => ?_, fun _ => ⟨A5, _, c5, B5, _, d5, by simp [upd], ⟨a1, a2, by show hs.length ≤ _; omega, by show (dropL ms [x]).length ≤ _; omega, a3, a4⟩⟩, fun h6 => ?_⟩
          · obtain ⟨g5, e5, k5⟩ := h2.p7 (by simpa [updB] using h6)
            exact ⟨g5, by simpa [upd] using e5, k5⟩
          · simpa [upd] using h2.p9 (by simpa [updB] using h6)
        · have h8 := hw (8, 35) (by simp) (by kernel_rfl)
          obtain ⟨A5, n5, c5, B5, m5, d5, e8, k8⟩ := hI.p8 h8
          simp only [List.getElem?_cons_succ, List.getElem?_cons_zero, Option.some.injEq] at ho
          subst ho
          simp [loudAt, loudUpon, go_sem, putsL, Act.put, e8]
          refine (HRd.out HTV.out x A5 n5 c5 B5 m5 d5 v k8).mono ?_
          rintro e w' ⟨rfl, hb5⟩
          have h2 := hI.below hb5
          refine ⟨_, rfl, hC.trans (hb5.mono hC.size), fun h6 => ?_, fun h6 => ?_, fun _ => by simp [upd, okL]⟩
          · obtain ⟨g5, e5, k5⟩ := h2.p7 (by simpa [updB] using h6)
            exact ⟨g5, by simpa [upd] using e5, k5⟩
          · obtain ⟨A6, n6, c6, B6, m6, d6, e6, k6⟩ := h2.p8 (by simpa [updB] using h6)
            exact ⟨A6, n6, c6, B6, m6, d6, by simpa [upd] using e6, k6⟩
      case last =>
      rintro ls vs V hV hI hls
      have e9 := hI.p9 (hls (9, 36) (by simp))
      rw [HOk.out] at e9
      have HBV := Lib.hid (HBk.out.trans (hV.mono HBk.out.size))
      have HTV2 := Lib.hid (HTk.out.below hV)
      have HKV := Lib.hid (HKk.out.below hV)
      have OWV := Lib.hid (owns_below OW.out hV)
      have HMV := Lib.hid (HM.out.below HBV.out)
      clear hI hls hV HBk HTk HKk OW HM
      simp only [putsL, List.foldl_cons, List.foldl_nil, List.drop_succ_cons, List.drop_zero, Act.put, e9, List.setIfInBounds_toArray, List.set_cons_succ, List.set_cons_zero]
      generalize vs 7 = v7 at *
      generalize vs 8 = v8 at *
      clear e9
      have y0 := HTV2.out.cell 0
      have y1 := HTV2.out.cell 1
      simp only [List.getElem?_toArray, List.getElem?_cons_zero, List.getElem?_cons_succ] at y0 y1
      have yl := HTV2.out.lt
      obtain ⟨u0, _, _, _, _⟩ := Mvs.at_ HMV.out HAt.out
      dsimp only at u0
      have ul := HMV.out.lt
      cases ok with
      | true =>
        have HE := Lib.hid (show rsT hs ms (k + 1) = rsT hs ms k ++ [x] by rw [HT.out, if_pos rfl])
        have HAd := Lib.hid (add_any x (AdIn.row OWV.out (by rw [sortI_len]; exact HP.out) (fun e => HNl.out (List.eq_nil_of_length_eq_zero (by rw [← sortI_len, e]; rfl)))) (by rw [sortI_len, HP.out]; omega))
        go_wp2_with (go_at_call 70; go_loud (with_reducible refine HAd.out.mono ?_); go_loud (rintro e u ⟨v, rfl, ho, hb⟩))
        have HO := Lib.hid ho
        have HB := Lib.hid hb
        clear ho hb
        go_roundw
        case rel =>
          refine ⟨k + 1, p + 1, by omega, (fun h => (by cases h)), by go_num, by rw [HE.out, List.length_append, HP.out]; rfl, ?_, fun e => ?_, HBV.out.trans (HB.out.mono HBV.out.size), HTV2.out.below HB.out, HKV.out.below HB.out⟩
          · have := HO.out
            rw [insI_sort, sortI_len, HP.out, ← HE.out] at this
            exact owns_weak this HBV.out.size
          · rw [HE.out] at e; simp at e
        case measure => simp [intOf]; omega
      | false =>
        have HE := Lib.hid (show rsT hs ms (k + 1) = rsT hs ms k by rw [HT.out, if_neg (by decide), List.append_nil])
        go_wp2_with fail
        go_roundw
        case rel => exact ⟨k + 1, p, by omega, (fun h => (by cases h)), by go_num, by rw [HE.out]; exact HP.out, by rw [HE.out]; exact OWV.out, by rw [HE.out]; exact HNl.out, HBV.out, HTV2.out, HKV.out⟩
        case measure => simp [intOf]; omega
end Go.Proofs.YtighfmgkoepfkaaGreat

namespace Go.Proofs.YtighfmgkoepfkaaGreat
open Go.RowKit

theorem pick_step {l : List Int} {k : Nat} (hk : k < l.length) (s : Nat) : pickI (l.drop k) (s / 2 ^ k) = (if s / 2 ^ k % 2 = 1 then [l[k]] else []) ++ pickI (l.drop (k + 1)) (s / 2 ^ (k + 1)) := by
  rw [List.drop_eq_getElem_cons hk, pickI, Nat.div_div_eq_div_mul, ← Nat.pow_succ]
  split <;> simp
theorem wrap_pow10 (n : Nat) (h : n ≤ 10) : wrap64 ((2 : Int) ^ n) = ((2 ^ n : Nat) : Int) := by
  by_cases e : n = 10
  · subst e; kernel_rfl
  · exact wrap_pow n (by omega)
/-- The error of Fewest, and what it returns. -/
def fewE (hs : List Hd) (ms : List Mv) : Int := if tcheck hs ms ≠ 0 then tcheck hs ms else if 10 < ms.length then 2 else match fewL (okL hs ms) (idsL ms) with
  | none => 5
  | some _ => 0
def fewZ (hs : List Hd) (ms : List Mv) : List Int := if tcheck hs ms ≠ 0 then [] else if 10 < ms.length then [] else match fewL (okL hs ms) (idsL ms) with
  | none => []
  | some z => z
def RFwOut (w : World) (hs : List Hd) (ms : List Mv) (en : Ending) (w' : World) : Prop :=
  Below w.heap.size w w' ∧ ∃ A n c, en = .returned (.agg #[.slice A n c, .int .i64 (fewE hs ms)]) ∧ SAt encI 1 w' A n (fewZ hs ms) ∧ n ≤ 100
theorem best_ids {hs : List Hd} {ms : List Mv} (hv : TV hs ms) : bestR (okL hs ms) (ms.map Mv.id) (2 ^ ms.length) = fewL (okL hs ms) (idsL ms) := by
  have := best_few (ok := okL hs ms) hv.mids
  rw [List.length_map] at this
  exact this
theorem sat_row {W : World} {base t n c : Nat} {A : Option Addr} {zs : List Int} (hn : zs.length = n) (h : W.ownsRow base t 1 (.slice A n c) n (zs.flatMap encI)) : SAt encI 1 W A n zs := by
  obtain ⟨A', c', e, hs, _, _⟩ := SAt_of_row encI_len hn h
  cases e
  exact hs
theorem far_row {W : World} {base t n c : Nat} {A : Option Addr} {xs : List Value} (h : W.ownsRow base t 1 (.slice A n c) n xs) : ∀ a, A = some a → base ≤ a.block := by
  rcases h.2 with ⟨e, _⟩ | ⟨g, cap, cur, e, hb, _⟩
  · cases e; intro a h; cases h
  · cases e; intro a h; cases h; exact hb
theorem best_step {ok : List Int → Bool} {l : List Int} {s : Nat} : bestR ok l (s + 1) = match bestR ok l s with
    | none => if ok (sortI (pickI l s)) = true then some (sortI (pickI l s)) else none
    | some b => if aheadL (sortI (pickI l s)) b = true ∧ ok (sortI (pickI l s)) = true then some (sortI (pickI l s)) else some b := rfl
set_option maxRecDepth 100000 in
set_option maxHeartbeats 12800000 in
theorem RFewest_any (t : TR) (w : World) (h : t.Ok w) (hA : t.A = none → t.c = 0) : Calls Tryz.prog 23 #[t.v] w (RFwOut w t.hs t.ms) := by
  obtain ⟨A, n, c, B, m, d, hs, ms⟩ := t
  have HCk := Lib.hid (fun (u : World) (hu : TR.Ok u ⟨A, n, c, B, m, d, hs, ms⟩) => RCheck_any ⟨A, n, c, B, m, d, hs, ms⟩ u hu)
  have HDr := Lib.hid (fun (u : World) (hu : TR.Ok u ⟨A, n, c, B, m, d, hs, ms⟩) (hv : TV hs ms) (A' : Option Addr) (n' c' : Nat) (l : List Int) (hl : SAt encI 1 u A' n' l) (hn' : n' ≤ 1000000) => drop_any ⟨A, n, c, B, m, d, hs, ms⟩ A' n' c' l u hu hl hn' (by have := hv.lenH; have := hu.h.len; dsimp only at *; omega) (by have := hv.lenM; have := hu.m.len; dsimp only at *; omega) hA)
  have HRd := Lib.hid (fun (hv : TV hs ms) (l : List Int) (A' : Option Addr) (n' c' : Nat) (B' : Option Addr) (m' d' : Nat) (u : World) (hu : TR.Ok u ⟨A', n', c', B', m', d', hs, dropL ms l⟩) => RAgrees_any ⟨A', n', c', B', m', d', hs, dropL ms l⟩ u hu (hv.drop l))
  have HO0 := Lib.hid h
  have HLm := Lib.hid (show ms.length = m from h.m.len)
  dsimp only [TR.v] at *
  have HTv := Lib.hid (show tcheck hs ms = 0 → TV hs ms from tcheck_zero.1)
  have HEc := Lib.hid (fun q : tcheck hs ms ≠ 0 => (show fewE hs ms = tcheck hs ms ∧ fewZ hs ms = [] by unfold fewE fewZ; rw [if_pos q, if_pos q]; exact ⟨rfl, rfl⟩))
  have HEl := Lib.hid (fun (q : tcheck hs ms = 0) (r : 10 < m) => (show fewE hs ms = 2 ∧ fewZ hs ms = [] by unfold fewE fewZ; rw [if_neg (by simpa using q), if_pos (by rw [HLm.out]; exact r), if_neg (by simpa using q), if_pos (by rw [HLm.out]; exact r)]; exact ⟨rfl, rfl⟩))
  have HEn := Lib.hid (fun (q : tcheck hs ms = 0) (r : ¬ 10 < m) (e : fewL (okL hs ms) (idsL ms) = none) => (show fewE hs ms = 5 ∧ fewZ hs ms = [] by unfold fewE fewZ; rw [if_neg (by simpa using q), if_neg (by rw [HLm.out]; exact r), if_neg (by simpa using q), if_neg (by rw [HLm.out]; exact r), e]; exact ⟨rfl, rfl⟩))
  have HEs := Lib.hid (fun (q : tcheck hs ms = 0) (r : ¬ 10 < m) (z : List Int) (e : fewL (okL hs ms) (idsL ms) = some z) => (show fewE hs ms = 0 ∧ fewZ hs ms = z by unfold fewE fewZ; rw [if_neg (by simpa using q), if_neg (by rw [HLm.out]; exact r), if_neg (by simpa using q), if_neg (by rw [HLm.out]; exact r), e]; exact ⟨rfl, rfl⟩))
  obtain ⟨tc, htc⟩ : ∃ x, tcheck hs ms = x := ⟨_, rfl⟩
  rw [htc] at HEc HEl HEn HEs HTv HCk
  clear htc
  have HB0 : Hid (Below w.heap.size w ((w.alloc (.cells #[.slice A n c, .slice B m d] 25)).alloc (.cells #[.slice none 0 0, .int .i64 0] 46))) := Lib.hid (((Below.refl w.heap.size w).alloc (Nat.le_refl _) _).alloc (by simp) _)
  have T0 : Hid (Blk ((w.alloc (.cells #[.slice A n c, .slice B m d] 25)).alloc (.cells #[.slice none 0 0, .int .i64 0] 46)) w.heap.size 25 #[.slice A n c, .slice B m d]) := Lib.hid ((Blk.at_new 25 #[.slice A n c, .slice B m d] rfl).alloc _)
  have K0 : Hid (Blk ((w.alloc (.cells #[.slice A n c, .slice B m d] 25)).alloc (.cells #[.slice none 0 0, .int .i64 0] 46)) (w.heap.size + 1) 46 #[.slice none 0 0, .int .i64 0]) := Lib.hid (Blk.at_new 46 #[.slice none 0 0, .int .i64 0] (by simp))
  have O0 := Lib.hid ((h).below HB0.out)
  go_enter Tryz.func23, Tryz.ntmps23
  go_upto_region 1 with fail
  generalize hV : (w.alloc (.cells #[.slice A n c, .slice B m d] 25)).alloc (.cells #[.slice none 0 0, .int .i64 0] 46) = V0 at *
  clear hV
  clear h
  have yT0 := T0.out.cell 0
  have yT1 := T0.out.cell 1
  have yK0 := K0.out.cell 0
  have yK1 := K0.out.cell 1
  simp only [List.getElem?_toArray, List.getElem?_cons_zero, List.getElem?_cons_succ] at yT0 yT1 yK0 yK1
  have yTl := T0.out.lt
  have yKl := K0.out.lt
  have HC := Lib.hid (HCk.out _ O0.out)
  try dsimp only [TR.v, vCt] at HC
  go_upto_region 2 with (go_at_call 61; (with_reducible refine HC.out.mono ?_); rintro e u1 ⟨rfl, hb⟩)
  clear yT0 yT1 yK0 yK1 yTl yKl
  clear HC
  have bn := hb
  have T1 := Lib.hid (T0.out.below bn)
  have K1 := Lib.hid (K0.out.below bn)
  have O1 := Lib.hid (O0.out.below bn)
  have HB1 := Lib.hid (HB0.out.trans (bn.mono HB0.out.size))
  clear hb bn T0 K0 O0 HB0
  by_cases hc : tc = 0
  case neg =>
    have hz : (tc != 0) = true := by simpa using hc
    have HE := Lib.hid (HEc.out hc)
    clear hc
    have yT0 := T1.out.cell 0
    have yT1 := T1.out.cell 1
    have yK0 := K1.out.cell 0
    have yK1 := K1.out.cell 1
    simp only [List.getElem?_toArray, List.getElem?_cons_zero, List.getElem?_cons_succ] at yT0 yT1 yK0 yK1
    have yTl := T1.out.lt
    have yKl := K1.out.lt
    have f0 := K1.out.frozen 0
    have f1 := K1.out.frozen 1
    go_wp2
    have hf := blk_set2 K1.out (.slice none 0 0) (.int .i64 tc)
    have x0 := hf.cell 0
    have x1 := hf.cell 1
    simp only [List.getElem?_toArray, List.getElem?_cons_zero, List.getElem?_cons_succ] at x0 x1
    refine bodyPost_ret (v := .agg #[.slice none 0 0, .int .i64 tc]) (by simp [results, Tryz.results23, go_sem, x0, x1]) rfl ⟨below_set2 HB1.out (by omega) _ _, _, _, _, by rw [HE.out.1], ?_, by omega⟩
    rw [HE.out.2]
    exact SAt.nil _ _ _ _
  case pos =>
  subst hc
  have hz : ((0 : Int) != 0) = false := by decide
  have hv := HTv.out rfl
  have HTV := Lib.hid hv
  clear hv HTv HEc HCk
  by_cases hm10 : 10 < m
  case pos =>
    have hmb : decide ((10 : Int) < (m : Int)) = true := decide_eq_true (by omega)
    have hmc : decide (10 < m) = true := decide_eq_true hm10
    have HE := Lib.hid (HEl.out rfl hm10)
    have yT0 := T1.out.cell 0
    have yT1 := T1.out.cell 1
    have yK0 := K1.out.cell 0
    have yK1 := K1.out.cell 1
    simp only [List.getElem?_toArray, List.getElem?_cons_zero, List.getElem?_cons_succ] at yT0 yT1 yK0 yK1
    have yTl := T1.out.lt
    have yKl := K1.out.lt
    have f0 := K1.out.frozen 0
    have f1 := K1.out.frozen 1
    go_wp2
    have hf := blk_set2 K1.out (.slice none 0 0) (.int .i64 2)
    have x0 := hf.cell 0
    have x1 := hf.cell 1
    simp only [List.getElem?_toArray, List.getElem?_cons_zero, List.getElem?_cons_succ] at x0 x1
    refine bodyPost_ret (v := .agg #[.slice none 0 0, .int .i64 2]) (by simp [results, Tryz.results23, go_sem, x0, x1]) rfl ⟨below_set2 HB1.out (by omega) _ _, _, _, _, by rw [HE.out.1], ?_, by omega⟩
    rw [HE.out.2]
    exact SAt.nil _ _ _ _
  case neg =>
  have hmb : decide ((10 : Int) < (m : Int)) = false := decide_eq_false (by omega)
  have hmc : decide (10 < m) = false := decide_eq_false hm10
  have HN5 := Lib.hid (HEn.out rfl hm10)
  have HS5 := Lib.hid (HEs.out rfl hm10)
  have HBi := Lib.hid (best_ids HTV.out)
  have hm9 : m ≤ 10 := by omega
  clear HEn HEs HEl hm10
  have yT0 := T1.out.cell 0
  have yT1 := T1.out.cell 1
  have yK0 := K1.out.cell 0
  have yK1 := K1.out.cell 1
  simp only [List.getElem?_toArray, List.getElem?_cons_zero, List.getElem?_cons_succ] at yT0 yT1 yK0 yK1
  have yTl := T1.out.lt
  have yKl := K1.out.lt
  go_upto_region 9 with fail
  clear hz hmb hmc yT0 yT1 yK0 yK1 yTl yKl
  have HTb := Lib.hid (T1.out)
  have HKb := Lib.hid (K1.out)
  have HBb := Lib.hid (HB1.out)
  clear T1 K1 O1 HB1
  obtain ⟨l, hl⟩ : ∃ l, ms.map Mv.id = l := ⟨_, rfl⟩
  rw [hl] at HBi
  have HLl := Lib.hid (show l.length = m by rw [← hl, List.length_map]; exact HLm.out)
  have HGl := Lib.hid (fun (k : Nat) (hk : k < ms.length) => (show (ms[k]).id = l[k]'(by rw [HLl.out, ← HLm.out]; exact hk) by subst hl; rw [List.getElem_map]))
  obtain ⟨ok, hok⟩ : ∃ f, okL hs ms = f := ⟨_, rfl⟩
  have HOk := Lib.hid hok
  rw [hok] at HBi HN5 HS5
  clear hok hl
  have hwr := wrap_pow10 m hm9
  rw [HLm.out] at HBi
  have hN2 : 2 ^ m ≤ 1024 := Nat.le_trans (Nat.pow_le_pow_right (by decide) hm9) (by decide)
  obtain ⟨N, hN⟩ : ∃ N, 2 ^ m = N := ⟨_, rfl⟩
  rw [hN] at hwr HBi hN2
  clear hN
  go_loopw [4, 5, 6, 7, 8, 9, 10] (fun vb fd i _ _ _ _ wx => ∃ s : Nat, s ≤ N ∧ i = .int .i64 (s : Int) ∧ ((bestR ok l s = none ∧ fd = .bool false ∧ vb = .slice none 0 0) ∨ (∃ b A n c, bestR ok l s = some b ∧ fd = .bool true ∧ vb = .slice A n c ∧ SAt encI 1 wx A n b ∧ n ≤ 10 ∧ ∀ a, A = some a → w.heap.size + 2 ≤ a.block)) ∧ Below w.heap.size w wx ∧ Blk wx w.heap.size 25 #[.slice A n c, .slice B m d] ∧ Blk wx (w.heap.size + 1) 46 #[.slice none 0 0, .int .i64 0]) (fun _ _ i _ _ _ _ _ => N - (intOf i).toNat)
  case atStart => exact ⟨0, Nat.zero_le _, rfl, .inl ⟨rfl, rfl, rfl⟩, HBb.out, HTb.out, HKb.out⟩
  case round =>
    clear HBb HTb HKb
    obtain ⟨wo, hwo⟩ : ∃ wo : World, wo = wr := ⟨_, rfl⟩
    subst hwo
    obtain ⟨s, hs1, rfl, hst, hb, ht, hkb⟩ := hrel
    have HSt := Lib.hid hst
    have HBk := Lib.hid hb
    have HTk := Lib.hid ht
    have HKk := Lib.hid hkb
    clear hst hb ht hkb
    have y0 := HTk.out.cell 0
    have y1 := HTk.out.cell 1
    simp only [List.getElem?_toArray, List.getElem?_cons_zero, List.getElem?_cons_succ] at y0 y1
    have yl := HTk.out.lt
    by_cases hsN : s < N
    case neg =>
      have hd : ¬ ((s : Int) < (N : Int)) := by omega
      obtain rfl : s = N := by omega
      have k0 := HKk.out.cell 0
      have k1 := HKk.out.cell 1
      simp only [List.getElem?_toArray, List.getElem?_cons_zero, List.getElem?_cons_succ] at k0 k1
      have kl := HKk.out.lt
      rcases HSt.out with ⟨e1, rfl, rfl⟩ | ⟨b, A5, n5, c5, e1, rfl, rfl, hsb, hn5, hfar⟩
      · skip
        have HE := Lib.hid (HN5.out (by rw [← HBi.out]; exact e1))
        clear HSt e1
        have f0 := HKk.out.frozen 0
        have f1 := HKk.out.frozen 1
        go_wp2
        have hf := blk_set2 HKk.out (.slice none 0 0) (.int .i64 5)
        have x0 := hf.cell 0
        have x1 := hf.cell 1
        simp only [List.getElem?_toArray, List.getElem?_cons_zero, List.getElem?_cons_succ] at x0 x1
        refine bodyPost_ret (v := .agg #[.slice none 0 0, .int .i64 5]) (by simp [results, Tryz.results23, go_sem, x0, x1]) rfl ⟨below_set2 HBk.out (by omega) _ _, _, _, _, by rw [HE.out.1], ?_, by omega⟩
        rw [HE.out.2]
        exact SAt.nil _ _ _ _
      · skip
        have HE := Lib.hid (HS5.out b (by rw [← HBi.out]; exact e1))
        have HSb := Lib.hid hsb
        clear HSt e1 hsb
        have f0 := HKk.out.frozen 0
        have f1 := HKk.out.frozen 1
        go_wp2
        have hf := blk_set2 HKk.out (.slice A5 n5 c5) (.int .i64 0)
        have x0 := hf.cell 0
        have x1 := hf.cell 1
        simp only [List.getElem?_toArray, List.getElem?_cons_zero, List.getElem?_cons_succ] at x0 x1
        refine bodyPost_ret (v := .agg #[.slice A5 n5 c5, .int .i64 0]) (by simp [results, Tryz.results23, go_sem, x0, x1]) rfl ⟨below_set2 HBk.out (by omega) _ _, _, _, _, by rw [HE.out.1], ?_, by omega⟩
        rw [HE.out.2]
        exact HSb.out.grown (grown_set2 wo (w.heap.size + 1) (.slice A5 n5 c5) (.int .i64 0)) (fun a ha e => by have := hfar a ha; have e2 := Option.some.inj e; omega)
    case pos =>
      have hd : (s : Int) < (N : Int) := by omega
      go_upto_region 13 with fail
      clear y0 y1 yl
      have hks := HKk.out.lt
      have HKs := Lib.hid hks
      clear hks hd hwr
      go_loopw [7, 8] (fun v kk wx => ∃ (k p : Nat) (acc : List Int), k ≤ m ∧ kk = .int .i64 (k : Int) ∧ acc.length = p ∧ p ≤ k ∧ pickI l s = acc ++ pickI (l.drop k) (s / 2 ^ k) ∧ wx.ownsRow (w.heap.size + 2) 3 1 v p ((sortI acc).flatMap encI) ∧ (acc = [] → v = .slice none 0 0) ∧ Below wo.heap.size wo wx) (fun _ kk _ => m - (intOf kk).toNat)
      case atStart => exact ⟨0, 0, [], Nat.zero_le _, rfl, rfl, Nat.le_refl _, by simp, by simpa [sortI] using World.ownsRow_nil _ _ _ _, fun _ => rfl, Below.refl _ _⟩
      case round =>
        obtain ⟨k, p, acc, hk, rfl, hp, hpk, hpi, ow, hnl, hb⟩ := hrel
        have HP := Lib.hid hp
        have HPi := Lib.hid hpi
        have OW := Lib.hid ow
        have HNl := Lib.hid hnl
        have HBo := Lib.hid hb
        have HT1 := Lib.hid (HTk.out.below hb)
        have HB1 := Lib.hid (HBk.out.trans (hb.mono HBk.out.size))
        obtain ⟨Ao, co, rfl⟩ := owns_slice ow
        clear hp hpi ow hnl hb
        have y0 := HT1.out.cell 0
        have y1 := HT1.out.cell 1
        simp only [List.getElem?_toArray, List.getElem?_cons_zero, List.getElem?_cons_succ] at y0 y1
        have yl := HT1.out.lt
        by_cases hkm : k < m
        case pos =>
          have hkl : k < ms.length := by rw [HLm.out]; exact hkm
          have hk2 : k < l.length := by rw [HLl.out]; exact hkm
          have HSp := Lib.hid (pick_step hk2 s)
          have hbit := and_bit (s := s) (k := k) (by omega)
          by_cases hc : s / 2 ^ k % 2 = 1
          case neg =>
            rw [decide_eq_false hc] at hbit
            have HC := Lib.hid hc
            clear hc
            go_wp2
            go_roundw
            case rel => exact ⟨k + 1, p, acc, by omega, by go_num, HP.out, by omega, by rw [HPi.out, HSp.out, if_neg HC.out]; rfl, OW.out, HNl.out, HBo.out⟩
            case measure => simp [intOf]; omega
          case pos =>
            rw [decide_eq_true hc] at hbit
            have HC := Lib.hid hc
            clear hc
            obtain ⟨bM, oM, eM, hM⟩ := HO0.out.m.at_ (by dsimp only; omega)
            dsimp only at eM
            subst eM
            have hl2 := hM.below HB1.out
            obtain ⟨u0, _, _, _, _⟩ := Mvs.at_ hl2 (List.getElem?_eq_getElem hkl)
            have ul := hl2.lt
            rw [HGl.out k hkl] at u0
            clear hM hl2
            generalize l[k] = x at *
            have HAd := Lib.hid (add_any x (AdIn.row OW.out (by rw [sortI_len]; exact HP.out) (fun e => HNl.out (List.eq_nil_of_length_eq_zero (by rw [← sortI_len, e]; rfl)))) (by rw [sortI_len, HP.out]; omega))
            go_wp2_with (go_at_call 70; go_loud (with_reducible refine HAd.out.mono ?_); go_loud (rintro e u ⟨v, rfl, ho, hb⟩))
            have HO := Lib.hid ho
            have HB := Lib.hid hb
            clear ho hb
            go_roundw
            case rel =>
              refine ⟨k + 1, p + 1, acc ++ [x], by omega, by go_num, by rw [List.length_append, HP.out]; rfl, by omega, by rw [HPi.out, HSp.out, if_pos HC.out, List.append_assoc], ?_, fun e => ?_, HBo.out.trans (HB.out.mono HBo.out.size)⟩
              · have := HO.out
                rw [insI_sort, sortI_len, HP.out] at this
                exact owns_weak this (by have := HBo.out.size; have := HKs.out; omega)
              · simp at e
            case measure => simp [intOf]; omega
        case neg =>
          obtain rfl : k = m := by omega
          obtain rfl : acc = pickI l s := by rw [HPi.out, List.drop_of_length_le (by rw [HLl.out]; omega)]; simp [pickI]
          have HStep := Lib.hid (best_step (ok := ok) (l := l) (s := s))
          have HLz := Lib.hid (show (sortI (pickI l s)).length = p by rw [sortI_len]; exact HP.out)
          have HKq := Lib.hid (HKk.out.below HBo.out)
          clear HPi HNl HP
          generalize sortI (pickI l s) = z at *
          have HSz := Lib.hid (sat_row HLz.out OW.out)
          have HFz := Lib.hid (far_row OW.out)
          have hp10 : p ≤ 10 := by omega
          clear OW
          have HOz := Lib.hid (show agrL hs (dropL ms z) = ok z by rw [← HOk.out]; rfl)
          have HDz := Lib.hid (HDr.out _ (HO0.out.below HB1.out) HTV.out Ao p co z HSz.out (by omega))
          have HRz := Lib.hid (fun A' n' c' B' m' d' u hu => HRd.out HTV.out z A' n' c' B' m' d' u hu)
          rw [HOz.out] at HRz
          obtain ⟨q, hq⟩ : ∃ q, ok z = q := ⟨_, rfl⟩
          have HQ := Lib.hid hq
          rw [hq] at HRz
          clear hq HOz
          rcases HSt.out with ⟨e1, rfl, rfl⟩ | ⟨b, A5, n5, c5, e1, rfl, rfl, hsb, hn5, hfar⟩
          · clear HSt
            go_upto_region 20 with (first | (go_at_call 69; go_loud (with_reducible refine HDz.out.mono ?_); go_loud (rintro e u3 ⟨v1, v2, rfl, ho, hb3⟩; obtain ⟨A7, c7, B7, d7, rfl, rfl, a1, a2, a3, a4, _, _⟩ := ho.form; have l1 := HTV.out.lenH; have l2 : (dropL ms z).length ≤ 24 := (HTV.out.drop z).lenM; have ok3 : TR.Ok u3 ⟨A7, hs.length, c7, B7, (dropL ms z).length, d7, hs, dropL ms z⟩ := ⟨a1, a2, by show hs.length ≤ _; omega, by show (dropL ms z).length ≤ _; omega, a3, a4⟩; have HR3 := Lib.hid (HRz.out A7 _ c7 B7 _ d7 u3 ok3); clear ho a1 a2 a3 a4 l1 l2 ok3)) | (go_at_call 40; go_loud (with_reducible refine HR3.out.mono ?_); go_loud (rintro e u4 ⟨rfl, hb4⟩)))
            have hb34 := hb3.trans (hb4.mono hb3.size)
            have HB5 := Lib.hid (HB1.out.trans (hb34.mono HB1.out.size))
            have HT5 := Lib.hid (HT1.out.below hb34)
            have HK5 := Lib.hid (HKq.out.below hb34)
            have HS5_ := Lib.hid (HSz.out.below hb34)
            clear hb3 hb4 hb34 y0 y1 yl
            cases q with
            | true =>
              go_wp2
              go_roundw
              case rel => exact ⟨s + 1, by omega, by go_num, .inr ⟨z, Ao, p, co, by rw [HStep.out, e1]; dsimp only; rw [if_pos HQ.out], rfl, rfl, HS5_.out, hp10, HFz.out⟩, HB5.out, HT5.out, HK5.out⟩
              case measure => simp [intOf]; omega
            | false =>
              go_wp2
              go_roundw
              case rel => exact ⟨s + 1, by omega, by go_num, .inl ⟨by rw [HStep.out, e1]; dsimp only; rw [if_neg (by rw [HQ.out]; decide)], rfl, rfl⟩, HB5.out, HT5.out, HK5.out⟩
              case measure => simp [intOf]; omega
          · have Hb := Lib.hid (hsb.below HBo.out)
            clear HSt hsb
            have HAw := Lib.hid (ahead_any Ao p co A5 n5 c5 z b _ HSz.out Hb.out (by omega) (by omega))
            obtain ⟨qa, hqa⟩ : ∃ q, aheadL z b = q := ⟨_, rfl⟩
            have HAh := Lib.hid hqa
            rw [hqa] at HAw
            clear hqa HDz
            go_upto_region 18 with (go_at_call 73; go_loud (with_reducible refine HAw.out.mono ?_); go_loud (rintro e u2 ⟨rfl, hb2⟩))
            clear y0 y1 yl
            have HB2 := Lib.hid (HB1.out.trans (hb2.mono HB1.out.size))
            have HT2 := Lib.hid (HT1.out.below hb2)
            have HK2 := Lib.hid (HKq.out.below hb2)
            have HS2 := Lib.hid (HSz.out.below hb2)
            have Hb2 := Lib.hid (Hb.out.below hb2)
            have HDq := Lib.hid (HDr.out _ (HO0.out.below HB2.out) HTV.out Ao p co z HS2.out (by omega))
            clear hb2
            have y0 := HT2.out.cell 0
            have y1 := HT2.out.cell 1
            simp only [List.getElem?_toArray, List.getElem?_cons_zero, List.getElem?_cons_succ] at y0 y1
            have yl := HT2.out.lt
            cases qa with
            | false =>
              go_wp2
              go_roundw
              case rel => exact ⟨s + 1, by omega, by go_num, .inr ⟨b, A5, n5, c5, by rw [HStep.out, e1]; dsimp only; rw [if_neg (fun h => by rw [HAh.out] at h; exact absurd h.1 (by decide))], rfl, rfl, Hb2.out, hn5, hfar⟩, HB2.out, HT2.out, HK2.out⟩
              case measure => simp [intOf]; omega
            | true =>
              go_upto_region 20 with (first | (go_at_call 69; go_loud (with_reducible refine HDq.out.mono ?_); go_loud (rintro e u3 ⟨v1, v2, rfl, ho, hb3⟩; obtain ⟨A7, c7, B7, d7, rfl, rfl, a1, a2, a3, a4, _, _⟩ := ho.form; have l1 := HTV.out.lenH; have l2 : (dropL ms z).length ≤ 24 := (HTV.out.drop z).lenM; have ok3 : TR.Ok u3 ⟨A7, hs.length, c7, B7, (dropL ms z).length, d7, hs, dropL ms z⟩ := ⟨a1, a2, by show hs.length ≤ _; omega, by show (dropL ms z).length ≤ _; omega, a3, a4⟩; have HR3 := Lib.hid (HRz.out A7 _ c7 B7 _ d7 u3 ok3); clear ho a1 a2 a3 a4 l1 l2 ok3)) | (go_at_call 40; go_loud (with_reducible refine HR3.out.mono ?_); go_loud (rintro e u4 ⟨rfl, hb4⟩)))
              have hb34 := hb3.trans (hb4.mono hb3.size)
              have HB5 := Lib.hid (HB2.out.trans (hb34.mono HB2.out.size))
              have HT5 := Lib.hid (HT2.out.below hb34)
              have HK5 := Lib.hid (HK2.out.below hb34)
              have HS5_ := Lib.hid (HS2.out.below hb34)
              have Hb5_ := Lib.hid (Hb2.out.below hb34)
              clear hb3 hb4 hb34 y0 y1 yl
              cases q with
              | true =>
                go_wp2
                go_roundw
                case rel => exact ⟨s + 1, by omega, by go_num, .inr ⟨z, Ao, p, co, by rw [HStep.out, e1]; dsimp only; rw [if_pos ⟨HAh.out, HQ.out⟩], rfl, rfl, HS5_.out, hp10, HFz.out⟩, HB5.out, HT5.out, HK5.out⟩
                case measure => simp [intOf]; omega
              | false =>
                go_wp2
                go_roundw
                case rel => exact ⟨s + 1, by omega, by go_num, .inr ⟨b, A5, n5, c5, by rw [HStep.out, e1]; dsimp only; rw [if_neg (fun h => by rw [HQ.out] at h; exact absurd h.2 (by decide))], rfl, rfl, Hb5_.out, hn5, hfar⟩, HB5.out, HT5.out, HK5.out⟩
                case measure => simp [intOf]; omega
end Go.Proofs.YtighfmgkoepfkaaGreat
