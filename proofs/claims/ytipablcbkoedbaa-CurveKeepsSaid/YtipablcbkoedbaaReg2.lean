/- Regions whose order is open, where the last writes may come ahead of some operations that touch no memory
   (the floating ones, Fl): one walk in the order of the text serves every order. -/
import Derived.Test.YtipablcbkoedbaaReg
namespace Go.Proofs.Ytipablcbkoedbaa
open Go.RowKit Go

/-- j comes behind i in every order: by at most f + 1 edges. -/
def dep (ops : Array Oper) : Nat → Nat → Nat → Bool
  | 0, j, i => Region.waitsFor .any ops j i
  | f + 1, j, i => Region.waitsFor .any ops j i || (List.range ops.size).any fun m => Region.waitsFor .any ops j m && dep ops f m i

def Closed (ops : Array Oper) (listed : Array Bool) : Prop :=
  ∀ j oj, ops[j]? = some oj → listed.getD j false = true → ∀ e ∈ oj.after, Region.binds .any e = true → listed.getD e.on false = true

theorem closed_waits {ops : Array Oper} {listed : Array Bool} (hc : Closed ops listed) {j i : Nat} (hj : listed.getD j false = true) (h : Region.waitsFor .any ops j i = true) : listed.getD i false = true := by
  obtain ⟨o, ho, e, he, hb, hon⟩ := Region.waitsFor_spec h
  rw [← hon]; exact hc j o ho hj e he hb
theorem closed_dep {ops : Array Oper} {listed : Array Bool} (hc : Closed ops listed) : ∀ (f j i : Nat), listed.getD j false = true → dep ops f j i = true → listed.getD i false = true
  | 0, j, i, hj, h => closed_waits hc hj h
  | f + 1, j, i, hj, h => by
    simp only [dep, Bool.or_eq_true, List.any_eq_true, Bool.and_eq_true] at h
    rcases h with h | ⟨m, _, h1, h2⟩
    · exact closed_waits hc hj h
    · exact closed_dep hc f m i (closed_waits hc hj h1) h2
theorem ready_dep {ops : Array Oper} {listed : Array Bool} (hc : Closed ops listed) {j : Nat} (hj : j ∈ Region.ready .any ops listed) {f i : Nat} (h : dep ops f j i = true) : listed.getD i false = true := by
  obtain ⟨_, oj, hoj, hall⟩ := mem_ready.1 hj
  have hw : ∀ i, Region.waitsFor .any ops j i = true → listed.getD i false = true := fun i h => by
    obtain ⟨o', ho', e, he, hb, hon⟩ := Region.waitsFor_spec h
    have : o' = oj := Option.some.inj (ho'.symm.trans hoj)
    subst this
    rw [← hon]; exact hall e he hb
  cases f with
  | zero => exact hw i h
  | succ f =>
    simp only [dep, Bool.or_eq_true, List.any_eq_true, Bool.and_eq_true] at h
    rcases h with h | ⟨m, _, h1, h2⟩
    · exact hw i h
    · exact closed_dep hc f m i (hw m h1) h2

def pairB (ops : Array Oper) (n : Nat) (i j : Nat) : Bool :=
  match ops[i]?, ops[j]? with
  | some oi, some oj =>
    match oi.dst with
    | none => true
    | some d => (i == j || oj.dst != some d) && (decide (n ≤ i) || decide (n ≤ j) || i == j || !(oj.looksAt ops).contains d || (decide (i < j) && Region.waitsFor .any ops j i) || (decide (j < i) && Region.waitsFor .any ops i j))
  | _, _ => false
def floatPair (ops : Array Oper) (n : Nat) (Fl : List Nat) (i j : Nat) : Bool :=
  match ops[i]?, ops[j]? with
  | some oi, some oj =>
    match oi.dst with
    | none => true
    | some d => (!Fl.contains j || !(oj.looksAt ops).contains d || (decide (i < j) && decide (i < n) && Region.waitsFor .any ops j i)) &&
        (!(decide (n ≤ j) && Fl.contains i) || !(oj.looksAt ops).contains d || dep ops 3 j i)
  | _, _ => false
/-- The closed check: n operations of the head, Fl the floating ones among them. -/
def floatB (ops : Array Oper) (n : Nat) (Fl : List Nat) : Bool :=
  Region.noSelect ops && ops.all (fun o => match o.op with | .defer _ => false | _ => true) && decide (n ≤ ops.size) &&
  (List.range ops.size).all (fun i => match ops[i]? with | some o => o.after.all (fun e => !Region.binds .any e || decide (e.on < i)) | none => false) &&
  (List.range ops.size).all (fun i => (List.range ops.size).all fun j => pairB ops n i j && floatPair ops n Fl i j) &&
  (List.range ops.size).all (fun t => decide (t < n) || (List.range t).all fun i => (decide (i < n) && Fl.contains i) || dep ops 3 t i) &&
  Fl.all (fun i => decide (i < n))

structure FloatOk (ops : Array Oper) (n : Nat) (Fl : List Nat) : Prop where
  sel : Region.noSelect ops = true
  defer_ : ∀ (i : Nat) (o : Oper), ops[i]? = some o → ∀ c, o.op ≠ .defer c
  le : n ≤ ops.size
  back : ∀ (i : Nat) (o : Oper), ops[i]? = some o → ∀ e ∈ o.after, Region.binds .any e = true → e.on < i
  distinct : Distinct ops ops.size
  looks : ∀ (i j : Nat) (oi oj : Oper) (d : Tmp), i < n → j < n → i ≠ j → ops[i]? = some oi → ops[j]? = some oj → oi.dst = some d → d ∈ oj.looksAt ops →
    (i < j ∧ Region.waitsFor .any ops j i = true) ∨ (j < i ∧ Region.waitsFor .any ops i j = true)
  flo : ∀ (i j : Nat) (oi oj : Oper) (d : Tmp), Fl.contains j = true → ops[i]? = some oi → ops[j]? = some oj → oi.dst = some d → d ∈ oj.looksAt ops → i < j ∧ i < n ∧ Region.waitsFor .any ops j i = true
  tlo : ∀ (i j : Nat) (oi oj : Oper) (d : Tmp), n ≤ j → Fl.contains i = true → ops[i]? = some oi → ops[j]? = some oj → oi.dst = some d → d ∈ oj.looksAt ops → dep ops 3 j i = true
  tail : ∀ (t i : Nat), n ≤ t → t < ops.size → i < t → (i < n ∧ Fl.contains i = true) ∨ dep ops 3 t i = true
  fl : ∀ i, Fl.contains i = true → i < n

theorem floatB_ok {ops : Array Oper} {n : Nat} {Fl : List Nat} (h : floatB ops n Fl = true) : FloatOk ops n Fl := by
  simp only [floatB, Bool.and_eq_true, decide_eq_true_eq, List.all_eq_true, List.mem_range] at h
  obtain ⟨⟨⟨⟨⟨⟨h1, h2⟩, h3⟩, h4⟩, h5⟩, h6⟩, h7⟩ := h
  have hp : ∀ i j oi oj d, ops[i]? = some oi → ops[j]? = some oj → oi.dst = some d →
      ((i == j || oj.dst != some d) && (decide (n ≤ i) || decide (n ≤ j) || i == j || !(oj.looksAt ops).contains d || (decide (i < j) && Region.waitsFor .any ops j i) || (decide (j < i) && Region.waitsFor .any ops i j))) = true ∧
      ((!Fl.contains j || !(oj.looksAt ops).contains d || (decide (i < j) && decide (i < n) && Region.waitsFor .any ops j i)) &&
        (!(decide (n ≤ j) && Fl.contains i) || !(oj.looksAt ops).contains d || dep ops 3 j i)) = true := by
    intro i j oi oj d hoi hoj hd
    have := h5 i (Array.getElem?_eq_some_iff.1 hoi).1 j (Array.getElem?_eq_some_iff.1 hoj).1
    unfold pairB floatPair at this
    rw [hoi, hoj] at this
    simpa only [hd] using this
  refine ⟨h1, fun i o ho c hc => ?_, h3, fun i o ho e he hb => ?_, fun i j oi oj d hi hj hoi hoj hdi hdj => ?_, fun i j oi oj d hi hj hij hoi hoj hd hmem => ?_,
    fun i j oi oj d hj hoi hoj hd hmem => ?_, fun i j oi oj d hj hi hoi hoj hd hmem => ?_, fun t i ht hts hit => ?_, fun i hi => h7 i (by simpa using hi)⟩
  · have hlt : i < ops.size := (Array.getElem?_eq_some_iff.1 ho).1
    have := Array.all_eq_true.1 h2 i hlt
    have he : ops[i] = o := by simpa [Array.getElem?_eq_getElem hlt] using ho
    rw [he, hc] at this
    exact Bool.noConfusion this
  · have := h4 i (Array.getElem?_eq_some_iff.1 ho).1
    rw [ho] at this
    have := Array.all_eq_true'.1 this e he
    simpa [hb] using this
  · by_cases hij : i = j
    · exact hij
    · have := (hp i j oi oj d hoi hoj hdi).1
      simp [hij, hdj] at this
  · have hc : (oj.looksAt ops).contains d = true := by simpa using hmem
    have := (hp i j oi oj d hoi hoj hd).1
    rw [hc] at this
    simp only [Bool.and_eq_true, Bool.or_eq_true, decide_eq_true_eq, beq_iff_eq, Bool.not_true, Bool.false_eq_true, or_false] at this
    rcases this.2 with ((((h | h) | h) | h)) | h
    · omega
    · omega
    · exact absurd h hij
    · exact .inl h
    · exact .inr h
  · have hc : (oj.looksAt ops).contains d = true := by simpa using hmem
    have := (hp i j oi oj d hoi hoj hd).2
    rw [hc, hj] at this
    simp only [Bool.and_eq_true, Bool.or_eq_true, decide_eq_true_eq, Bool.not_true, Bool.false_eq_true, false_or] at this
    exact ⟨this.1.1.1, this.1.1.2, this.1.2⟩
  · have hc : (oj.looksAt ops).contains d = true := by simpa using hmem
    have := (hp i j oi oj d hoi hoj hd).2
    rw [hc, hi] at this
    simp only [Bool.and_eq_true, Bool.or_eq_true, decide_eq_true_eq, Bool.not_true, Bool.false_eq_true, or_false, Bool.and_true, Bool.not_eq_true', decide_eq_false_iff_not] at this
    rcases this.2 with h | h
    · exact absurd hj h
    · exact h
  · have := h6 t hts
    simp only [Bool.or_eq_true, decide_eq_true_eq, List.all_eq_true, List.mem_range, Bool.and_eq_true] at this
    rcases this with h | h
    · omega
    · exact h i hit

/-- The tail in the order of the text; none of it panics. -/
def tlOf (P : Program) (ops : Array Oper) (Q : Act → World → Prop) : Nat → Nat → Act → World → Prop
  | 0, _, a, w => Q a w
  | g + 1, k, a, w => ∃ o, ops[k]? = some o ∧ o.guard = none ∧ loudAt P o a w fun v w' => tlOf P ops Q g (k + 1) (a.put o.dst v) w'

/-- A floating operation yields the same value in every world. -/
def floatAt (P : Program) (ops : Array Oper) (o : Oper) (v : Value) (a : Act) : Prop :=
  (Region.wanted o (yielded ops a.tmps) = true ∧ ∀ w, loudAt P o a w fun v' w' => v' = v ∧ w' = w) ∨ (Region.wanted o (yielded ops a.tmps) = false ∧ v = undef)

theorem ready_some {ops : Array Oper} {n : Nat} {Fl : List Nat} (ok : FloatOk ops n Fl) {listed : Array Bool} (hs : listed.size = ops.size) (h : unl listed ops.size ≠ 0) : Region.ready .any ops listed ≠ [] := by
  obtain ⟨m, hm, hm1, hm2⟩ := unl_first listed _ h
  intro he
  have hom := Array.getElem?_eq_getElem hm
  have : m ∈ Region.ready .any ops listed := mem_ready.2 ⟨getD_in (by omega) hm1, _, hom, fun e he hb => hm2 _ (ok.back m _ hom e he hb)⟩
  rw [he] at this
  cases this
theorem ready_none {ops : Array Oper} {listed : Array Bool} (_ : listed.size = ops.size) (h : unl listed ops.size = 0) : Region.ready .any ops listed = [] := by
  cases hr : Region.ready .any ops listed with
  | nil => rfl
  | cons j l =>
    have hj : j ∈ Region.ready .any ops listed := by rw [hr]; exact List.mem_cons_self
    obtain ⟨h1, o, ho, _⟩ := mem_ready.1 hj
    have := unl_zero listed _ h j (Array.getElem?_eq_some_iff.1 ho).1
    rw [getD_both h1] at this
    cases this
theorem closed_set {ops : Array Oper} {listed : Array Bool} (hc : Closed ops listed) {j : Nat} (hj : j ∈ Region.ready .any ops listed) : Closed ops (listed.setIfInBounds j true) := by
  obtain ⟨_, oj, hoj, hall⟩ := mem_ready.1 hj
  intro i oi hoi hl e he hb
  by_cases hij : j = i
  · subst hij
    have : oi = oj := Option.some.inj (hoi.symm.trans hoj)
    subst this
    exact getD_set_true (hall e he hb)
  · rw [getD_set_ne false hij] at hl
    exact getD_set_true (hc i oi hoi hl e he hb)

section
variable {P : Program} {ops : Array Oper} {n : Nat} {Fl : List Nat} {step : Nat → (Act → World → Prop) → Act → World → Prop} {Q : Act → World → Prop}

/-- The frame but for the slots of floating operations that are not yet done. -/
structure Near (ops : Array Oper) (Fl : List Nat) (listed : Array Bool) (a b : Act) : Prop where
  defers : a.defers = b.defers
  size : a.tmps.size = b.tmps.size
  at_ : ∀ t, (∀ i o, Fl.contains i = true → ops[i]? = some o → listed.getD i false = false → o.dst ≠ some t) → a.tmps[t]? = b.tmps[t]?

theorem big2 {A B : Act} {t : Nat} (h1 : A.tmps.size = B.tmps.size) (h2 : ¬ t < B.tmps.size) : A.tmps[t]? = B.tmps[t]? := by
  rw [Array.getElem?_eq_none (by omega), Array.getElem?_eq_none (by omega)]
theorem float2 (ok : FloatOk ops n Fl)
    (hstep : ∀ i o a w K, ops[i]? = some o → Region.wanted o (yielded ops a.tmps) = true → loudAt P o a w (fun v w' => K (a.put o.dst v) w') → step i K a w)
    (hskip : ∀ i o a w K, ops[i]? = some o → Region.wanted o (yielded ops a.tmps) = false → K (a.put o.dst undef) w → step i K a w)
    {u : Nat → Value} {aQ : Act} (hpure : ∀ j o, Fl.contains j = true → ops[j]? = some o → floatAt P ops o (u j) aQ) :
    ∀ (f : Nat) (listed : Array Bool) (a b : Act) (w : World) (g k : Nat), unl listed ops.size = f → listed.size = ops.size → Closed ops listed → g + k = ops.size → n ≤ k →
      (∀ t, n ≤ t → t < ops.size → listed.getD t false = decide (t < k)) → (∀ i, i < n → Fl.contains i = false → listed.getD i false = true) →
      Near ops Fl listed a b → (∀ i o d, Fl.contains i = true → ops[i]? = some o → o.dst = some d → d < b.tmps.size → b.tmps[d]? = some (u i)) →
      b.tmps.size = aQ.tmps.size → (∀ t, (∀ i o, n ≤ i → ops[i]? = some o → o.dst ≠ some t) → b.tmps[t]? = aQ.tmps[t]?) →
      tlOf P ops Q g k b w → anyOf step ops Q f listed a w := by
  intro f
  induction f with
  | zero =>
    intro listed a b w g k hun hs hc hgk hnk htl hM hN hF hbs hbq hT
    refine ⟨ready_none hs hun, ?_⟩
    have hall := unl_zero listed _ hun
    have hg : g = 0 := by
      rcases Nat.eq_zero_or_pos g with h | h
      · exact h
      · have h1 := hall k (by omega)
        rw [htl k hnk (by omega)] at h1
        simp at h1
    subst hg
    have hab : a = b := by
      have h1 : a.tmps = b.tmps := Array.ext_getElem? fun t => hN.at_ t (fun i o _ h2 h3 => by
        rw [hall i (Array.getElem?_eq_some_iff.1 h2).1] at h3; cases h3)
      have h2 := hN.defers
      cases a; cases b
      simp only at h1 h2
      rw [h1, h2]
    rw [hab]
    exact hT
  | succ f ih =>
    intro listed a b w g k hun hs hc hgk hnk htl hM hN hF hbs hbq hT
    refine ⟨fun h => absurd h (ready_some ok hs (by omega)), fun j hj => ?_⟩
    obtain ⟨hjun, oj, hoj, hall⟩ := mem_ready.1 hj
    have hjs : j < ops.size := (Array.getElem?_eq_some_iff.1 hoj).1
    have hun' : unl (listed.setIfInBounds j true) ops.size = f := by have := unl_set listed j hjun ops.size hjs; omega
    have hlj : (listed.setIfInBounds j true).getD j false = true := by simp [show j < listed.size by omega]
    have hc' := closed_set hc hj
    have hsel : ∀ cs b, oj.op ≠ .select cs b := fun cs b => Region.noSelect_spec ok.sel j oj cs b hoj
    have hkeep : ∀ i, i ≠ j → (listed.setIfInBounds j true).getD i false = listed.getD i false := fun i hi => getD_set_ne false (Ne.symm hi)
    rcases Nat.lt_or_ge j n with hjn | hjn
    · -- a floating one
      have hjF : Fl.contains j = true := by
        cases h : Fl.contains j with
        | true => rfl
        | false => have := hM j hjn h; rw [getD_both hjun] at this; cases this
      have hag : ∀ t ∈ oj.looksAt ops, a.tmps[t]? = aQ.tmps[t]? := fun t ht => by
        rw [hN.at_ t (fun i o h1 h2 h3 h4 => ?_), hbq t (fun i o h1 h2 h4 => ?_)]
        · have := (ok.flo i j o oj t hjF h2 hoj h4 ht).2.1; omega
        · have := (ok.flo i j o oj t hjF h2 hoj h4 ht).2.2
          have := ready_dep hc hj (f := 0) (i := i) this
          rw [h3] at this; cases this
      obtain ⟨hex, hwa⟩ := exec_agree hsel hag
      have hN' : Near ops Fl (listed.setIfInBounds j true) (a.put oj.dst (u j)) b := ⟨by rw [put_defers']; exact hN.defers, by rw [put_size]; exact hN.size, fun t ht => by
        by_cases htj : oj.dst = some t
        · by_cases hts : t < a.tmps.size
          · rw [htj, put_at _ _ _ hts, hF j oj t hjF hoj htj (by rw [← hN.size]; exact hts)]
          · exact big2 (by rw [put_size]; exact hN.size) (by rw [← hN.size]; exact hts)
        · rw [put_ne _ _ _ _ htj]
          exact hN.at_ t fun i o h1 h2 h3 => by
            by_cases hij : i = j
            · subst hij
              have : o = oj := Option.some.inj (h2.symm.trans hoj)
              subst this; exact htj
            · exact ht i o h1 h2 (by rw [hkeep i hij]; exact h3)⟩
      have hfin := ih (listed.setIfInBounds j true) (a.put oj.dst (u j)) b w g k hun' (by simp [hs]) hc' hgk hnk
        (fun t ht hts => by rw [hkeep t (by omega)]; exact htl t ht hts) (fun i hi hF' => by rw [hkeep i (fun e => by subst e; rw [hF'] at hjF; cases hjF)]; exact hM i hi hF') hN' hF hbs hbq hT
      rcases hpure j oj hjF hoj with ⟨h1, h2⟩ | ⟨h1, h2⟩
      · refine hstep j oj a w _ hoj (by rw [hwa]; exact h1) (loudAt_agree hex (loudAt_mono (h2 w) ?_))
        rintro v w' ⟨rfl, rfl⟩
        exact hfin
      · refine hskip j oj a w _ hoj (by rw [hwa]; exact h1) ?_
        rw [h2] at hfin
        exact hfin
    · -- one of the tail
      have hjk : j = k := by
        have h1 := htl j hjn hjs
        rw [getD_both hjun] at h1
        have h2 : ¬ j < k := by simpa using h1.symm
        rcases Nat.lt_or_ge k j with h3 | h3
        · rcases ok.tail j k hjn hjs h3 with h4 | h4
          · omega
          · have := ready_dep hc hj h4
            rw [htl k hnk (by omega)] at this
            simp at this
        · omega
      subst hjk
      obtain ⟨g, rfl⟩ : ∃ g', g = g' + 1 := ⟨g - 1, by omega⟩
      obtain ⟨o', ho', hgd, hl⟩ := hT
      have : o' = oj := Option.some.inj (ho'.symm.trans hoj)
      subst this
      have hag : ∀ t ∈ o'.looksAt ops, a.tmps[t]? = b.tmps[t]? := fun t ht => hN.at_ t (fun i o h1 h2 h3 h4 => by
        have := ready_dep hc hj (ok.tlo i j o o' t hjn h1 h2 hoj h4 ht)
        rw [h3] at this; cases this)
      obtain ⟨hex, _⟩ := exec_agree hsel hag
      refine hstep j o' a w _ hoj (by simp [Region.wanted, hgd]) (loudAt_agree hex (loudAt_mono hl ?_))
      intro v w' hT'
      have hdis : ∀ i o d, Fl.contains i = true → ops[i]? = some o → o.dst = some d → o'.dst ≠ some d := fun i o d h1 h2 h3 h4 => by
        have := ok.distinct i j o o' d (by have := ok.fl i h1; omega) hjs h2 hoj h3 h4
        have := ok.fl i h1
        omega
      refine ih (listed.setIfInBounds j true) (a.put o'.dst v) (b.put o'.dst v) w' g (j + 1) hun' (by simp [hs]) hc' (by omega) (by omega) (fun t ht hts => ?_) (fun i hi hF' => ?_) ⟨?_, ?_, fun t ht => ?_⟩ (fun i o d h1 h2 h3 h4 => ?_) (by rw [put_size]; exact hbs) (fun t ht => ?_) hT'
      · by_cases htj : t = j
        · subst htj; rw [hlj]; simp
        · rw [hkeep t htj, htl t ht hts]
          simp only [decide_eq_decide]
          omega
      · rw [hkeep i (by omega)]; exact hM i hi hF'
      · rw [put_defers', put_defers']; exact hN.defers
      · rw [put_size, put_size]; exact hN.size
      · by_cases htj : o'.dst = some t
        · by_cases hts : t < a.tmps.size
          · rw [htj, put_at _ _ _ hts, put_at _ _ _ (by rw [← hN.size]; exact hts)]
          · exact big2 (by rw [put_size, put_size]; exact hN.size) (by rw [put_size, ← hN.size]; exact hts)
        · rw [put_ne _ _ _ _ htj, put_ne _ _ _ _ htj]
          exact hN.at_ t fun i o h1 h2 h3 => ht i o h1 h2 (by rw [hkeep i (by have := ok.fl i h1; omega)]; exact h3)
      · rw [put_ne _ _ _ _ (hdis i o d h1 h2 h3)]
        exact hF i o d h1 h2 h3 (by rwa [put_size] at h4)
      · rw [put_ne _ _ _ _ (ht j o' hjn hoj)]
        exact hbq t ht

theorem unl_tail {listed : Array Bool} {n : Nat} : ∀ (g : Nat), (∀ t, n ≤ t → t < n + g → listed.getD t false = false) → unl listed (n + g) = unl listed n + g
  | 0, _ => rfl
  | g + 1, h => by
    have e := unl_tail g (fun t h1 h2 => h t h1 (by omega))
    have h' := h (n + g) (by omega) (by omega)
    show unl listed (n + g) + (if listed.getD (n + g) false = true then 0 else 1) = unl listed n + (g + 1)
    rw [e, if_neg (by rw [h']; exact Bool.false_ne_true)]
    omega

theorem float1 (ok : FloatOk ops n Fl)
    (hstep : ∀ i o a w K, ops[i]? = some o → Region.wanted o (yielded ops a.tmps) = true → loudAt P o a w (fun v w' => K (a.put o.dst v) w') → step i K a w)
    (hskip : ∀ i o a w K, ops[i]? = some o → Region.wanted o (yielded ops a.tmps) = false → K (a.put o.dst undef) w → step i K a w)
    {C : World → Prop} {u : Nat → Value} {a₀ aQ : Act} (hQ : PW ops [] u 0 n a₀ aQ)
    (hy : ∀ j o, j < n → ops[j]? = some o → ∃ A, YlS P ops C (fun _ => C) o (u j) A ∧ PW ops [] u 0 j a₀ A)
    (hpure : ∀ j o, Fl.contains j = true → ops[j]? = some o → floatAt P ops o (u j) aQ)
    (hfin : ∀ (w : World), C w → tlOf P ops Q (ops.size - n) n aQ w) :
    ∀ (f : Nat) (listed : Array Bool) (a : Act) (w : World), unl listed n = f → HeadInv .any ops n listed → StR ops n [] u u a₀ listed a → C w →
      anyOf step ops Q (f + (ops.size - n)) listed a w := by
  have hL : ∀ i, isLoud [] i = false := fun _ => rfl
  have big : ∀ {A B : Act} {t : Nat}, A.tmps.size = B.tmps.size → ¬ t < B.tmps.size → A.tmps[t]? = B.tmps[t]? := fun h1 h2 => by
    rw [Array.getElem?_eq_none (by omega), Array.getElem?_eq_none (by omega)]
  have hle := ok.le
  -- when all but floating ones are done, the second half goes on
  have over : ∀ (f : Nat) (listed : Array Bool) (a : Act) (w : World), unl listed n = f → HeadInv .any ops n listed → StR ops n [] u u a₀ listed a → C w →
      (∀ i, i < n → Fl.contains i = false → listed.getD i false = true) → anyOf step ops Q (f + (ops.size - n)) listed a w := by
    intro f listed a w hun inv st hc hM
    have htl : ∀ t, n ≤ t → t < n + (ops.size - n) → listed.getD t false = false := fun t h1 h2 => getD_both (inv.tail t h1 (by omega))
    have hu := unl_tail (ops.size - n) htl
    rw [show n + (ops.size - n) = ops.size by omega, hun] at hu
    refine float2 ok hstep hskip hpure _ listed a aQ w (ops.size - n) n hu inv.size inv.closed (by omega) (Nat.le_refl _) (fun t h1 h2 => by rw [getD_both (inv.tail t h1 h2)]; simp; omega) hM ⟨?_, ?_, fun t ht => ?_⟩ (fun i o d h1 h2 h3 h4 => ?_) rfl (fun _ _ => rfl) (hfin w hc)
    · rw [st.defers, hQ.defers]
    · rw [st.size, hQ.size]
    · by_cases hx : ∃ i o, i < n ∧ ops[i]? = some o ∧ o.dst = some t
      · obtain ⟨i, o, h1, h2, h3⟩ := hx
        by_cases hs : t < a₀.tmps.size
        · have hl : listed.getD i false = true := by
            cases hF : Fl.contains i with
            | false => exact hM i h1 hF
            | true =>
              cases hl : listed.getD i false with
              | true => rfl
              | false => exact absurd h3 (ht i o hF h2 hl)
          rw [st.at_ i o t h1 h2 h3 hs hl, if_neg (by rw [hL]; exact Bool.false_ne_true), hQ.at_ i o t (Nat.zero_le _) h1 (hL i) h2 h3 hs]
        · exact big (by rw [st.size, hQ.size]) (by rw [hQ.size]; exact hs)
      · rw [st.else_ t (fun i o h1 h2 _ h3 => hx ⟨i, o, h1, h2, h3⟩), hQ.else_ t (fun i o _ h1 _ h2 h3 => hx ⟨i, o, h1, h2, h3⟩)]
    · exact hQ.at_ i o d (Nat.zero_le _) (ok.fl i h1) (hL i) h2 h3 (by rw [← hQ.size]; exact h4)
  intro f
  induction f with
  | zero =>
    intro listed a w hun inv st hc
    exact over 0 listed a w hun inv st hc fun i hi _ => unl_zero listed n hun i hi
  | succ f ih =>
    intro listed a w hun inv st hc
    by_cases hM : ∀ i, i < n → Fl.contains i = false → listed.getD i false = true
    · exact over (f + 1) listed a w hun inv st hc hM
    have hs2 : unl listed ops.size ≠ 0 := by
      have hu := unl_tail (listed := listed) (n := n) (ops.size - n) fun t h1 h2 => getD_both (inv.tail t h1 (by omega))
      rw [show n + (ops.size - n) = ops.size by omega, hun] at hu
      omega
    rw [show f + 1 + (ops.size - n) = (f + (ops.size - n)) + 1 by omega]
    refine ⟨fun h => absurd h (ready_some ok inv.size hs2), fun j hj => ?_⟩
    obtain ⟨hjun, oj, hoj, hall⟩ := mem_ready.1 hj
    have hjs : j < ops.size := (Array.getElem?_eq_some_iff.1 hoj).1
    have hjn : j < n := by
      rcases Nat.lt_or_ge j n with h | h
      · exact h
      · refine absurd (fun i hi hF => ?_) hM
        rcases ok.tail j i h hjs (by omega) with h1 | h1
        · rw [h1.2] at hF; cases hF
        · exact ready_dep inv.closed hj h1
    have hun' : unl (listed.setIfInBounds j true) n = f := by have := unl_set listed j hjun n hjn; omega
    have inv' := inv.set hj hjn
    have hlj : (listed.setIfInBounds j true).getD j false = true := by have := inv.size; simp [show j < listed.size by omega]
    have hsel : ∀ cs b, oj.op ≠ .select cs b := fun cs b => Region.noSelect_spec ok.sel j oj cs b hoj
    have hwait : ∀ i, Region.waitsFor .any ops j i = true → listed.getD i false = true := fun i h => ready_dep inv.closed hj (f := 0) (i := i) h
    have hnot : ∀ i, Region.waitsFor .any ops i j = true → listed.getD i false = false := fun i h => by
      cases hl : listed.getD i false with
      | false => rfl
      | true =>
        have := closed_waits inv.closed hl h
        rw [getD_both hjun] at this
        cases this
    have st' : StR ops n [] u u a₀ (listed.setIfInBounds j true) (a.put oj.dst (u j)) :=
      ⟨by rw [put_defers', st.defers], by rw [put_size, st.size], fun i o d h1 h2 h3 h4 h5 => by
        by_cases hij : i = j
        · subst hij
          have : o = oj := Option.some.inj (h2.symm.trans hoj)
          subst this
          rw [h3, put_at _ _ _ (by rw [st.size]; exact h4), hL]; rfl
        · rw [put_ne _ _ _ _ (fun he => hij (ok.distinct i j o oj d (by omega) hjs h2 hoj h3 he)), st.at_ i o d h1 h2 h3 h4 (by rwa [getD_set_ne false (Ne.symm hij)] at h5)],
       fun t ht => by
        rw [put_ne _ _ _ _ (ht j oj hjn hoj hlj), st.else_ t (fun i o h1 h2 h3 => ht i o h1 h2 (getD_set_true h3))]⟩
    obtain ⟨A, hA, hPA⟩ := hy j oj hjn hoj
    have hag : ∀ t ∈ oj.looksAt ops, a.tmps[t]? = A.tmps[t]? := fun t ht => by
      by_cases hs : t < a₀.tmps.size
      case neg => exact big (by rw [st.size, hPA.size]) (by rw [hPA.size]; exact hs)
      by_cases hx : ∃ i o, i < n ∧ ops[i]? = some o ∧ o.dst = some t ∧ i ≠ j
      · obtain ⟨i, o, h1, h2, h3, hij⟩ := hx
        rcases ok.looks i j o oj t h1 hjn hij h2 hoj h3 ht with ⟨h4, h5⟩ | ⟨h4, h5⟩
        · rw [st.at_ i o t h1 h2 h3 hs (hwait i h5), hPA.at_ i o t (Nat.zero_le _) h4 (hL i) h2 h3 hs, if_neg (by rw [hL]; exact Bool.false_ne_true)]
        · rw [st.else_ t (fun i' o' h6 h7 h8 h9 => ?_), hPA.else_ t (fun i' o' _ h6 _ h7 h8 => ?_)]
          · have := ok.distinct i' i o' o t (by omega) (by omega) h7 h2 h8 h3
            omega
          · have := ok.distinct i' i o' o t (by omega) (by omega) h7 h2 h9 h3
            subst this
            rw [hnot _ h5] at h8
            cases h8
      · rw [st.else_ t (fun i o h1 h2 h3 h4 => ?_), hPA.else_ t (fun i o _ h1 _ h2 h3 => hx ⟨i, o, by omega, h2, h3, by omega⟩)]
        by_cases hij : i = j
        · subst hij; rw [getD_both hjun] at h3; cases h3
        · exact hx ⟨i, o, h1, h2, h4, hij⟩
    obtain ⟨hex, hwa⟩ := exec_agree hsel hag
    rcases hA with ⟨h1, h2⟩ | ⟨h1, h2⟩
    · refine hstep j oj a w _ hoj (by rw [hwa]; exact h1) (loudAt_agree hex (loudAt_mono (loudAt_of_quiet hc (h2 w hc)) ?_))
      rintro v w' ⟨rfl, hb⟩
      exact ih _ _ w' hun' inv' st' hb
    · refine hskip j oj a w _ hoj (by rw [hwa]; exact h1) ?_
      rw [h2] at st'
      exact ih _ _ w hun' inv' st' hc
end

/-- Stores and assignments alone, none of them guarded. -/
def tailB (l : List Oper) : Bool := l.all fun o => o.guard.isNone && match o.op with | .store _ _ _ => true | .assign _ => true | _ => false
def onlyN (R : Act → World → Prop) : Exit → Act → World → Prop := fun e a w => e = .normal ∧ R a w

theorem loud_of_wp {P : Program} {o : Oper} {a : Act} {w : World} {K : Act → World → Prop} {R : Act → World → Prop} (ho : (match o.op with | .store _ _ _ => true | .assign _ => true | _ => false) = true)
    (h : o.wp P a w K (onlyN R)) : loudAt P o a w fun v w' => K (a.put o.dst v) w' := by
  unfold Oper.wp at h
  unfold loudAt
  have hr : ∀ f args w', (execOp a.eval o).run P w ≠ .ok (.enter f args) w' ∧ (∀ d, (execOp a.eval o).run P w ≠ .ok (.defer d) w') ∧ (∀ r, (execOp a.eval o).run P w ≠ .ok (.row r args) w') := by
    intro f args w'
    cases hop : o.op <;> rw [hop] at ho <;> simp only [Bool.false_eq_true] at ho
    case assign x =>
      have e : (execOp a.eval o).run P w = .ok (.value (a.eval x)) w := by simp only [execOp, hop]; rfl
      rw [e]
      exact ⟨by simp, by simp, by simp⟩
    case store t p x =>
      have e : (execOp a.eval o).run P w = ((Instr.storeAt t (a.eval p) (a.eval x)).run P w).andThen fun _ w' => .ok .skip w' := by simp [execOp, hop]
      rw [e]
      cases (Instr.storeAt t (a.eval p) (a.eval x)).run P w <;> simp [Result.andThen]
  generalize hg : (execOp a.eval o).run P w = r at *
  cases r with
  | ok x w' =>
    cases x <;> simp only [Oper.upon] at h <;> simp only [loudUpon]
    case value v => exact h
    case skip => exact h
    case enter f args => exact absurd rfl (hr f args w').1
    case defer d => exact absurd rfl ((hr 0 #[] w').2.1 d)
    case row r args => exact absurd rfl ((hr 0 args w').2.2 r)
  | halt x w' =>
    cases x <;> simp [Oper.upon, onlyN] at h

theorem tl_of_wpList {P : Program} {ops : Array Oper} {R : Act → World → Prop} : ∀ (l : List Oper) (k : Nat), (∀ j, j < l.length → l[j]? = ops[k + j]?) → tailB l = true →
    ∀ a w, wpList P ops (onlyN R) l a w → tlOf P ops R l.length k a w
  | [], _, _, _, _, _, h => h.2
  | o :: l, k, hl, hB, a, w, h => by
    have h0 : ops[k]? = some o := by have := hl 0 (by simp); simpa using this.symm
    simp only [tailB, List.all_cons, Bool.and_eq_true, Option.isNone_iff_eq_none] at hB
    obtain ⟨⟨hg, ho⟩, hB⟩ := hB
    unfold wpList at h
    rw [if_pos (by simp [Region.wanted, hg])] at h
    rcases h with h | ⟨_, a', w', h, _⟩
    · exact ⟨o, h0, hg, loudAt_mono (loud_of_wp ho h) fun v w' h' => tl_of_wpList l (k + 1) (fun j hj => by
        have := hl (j + 1) (by simp; omega)
        simpa [Nat.add_assoc, Nat.add_comm 1 j] using this) hB _ _ h'⟩
    · cases h

/-- What the walk of the head must end in. -/
def FloatEnd (P : Program) (l : List Oper) (n : Nat) (Fl : List Nat) (C : World → Prop) (R : Act → World → Prop) (aQ : Act) : Prop :=
  (∀ j ∈ Fl, ∀ o, l[j]? = some o → (∃ d, o.dst = some d ∧ d < aQ.tmps.size) ∧ ∀ w, wpQuiet P l.toArray (fun w' => w' = w) (fun a' => a' = aQ) [o] aQ) ∧
  ∀ w', C w' → wpList P l.toArray (onlyN R) (l.drop n) aQ w'

theorem any_float {P : Program} {l : List Oper} {n : Nat} {Fl : List Nat} {step : Nat → (Act → World → Prop) → Act → World → Prop} {Q : Act → World → Prop}
    (hB : floatB l.toArray n Fl = true) (hTb : tailB (l.drop n) = true)
    (hstep : ∀ i o a w K, l.toArray[i]? = some o → (∀ c, o.op ≠ .defer c) → Region.wanted o (yielded l.toArray a.tmps) = true → loudAt P o a w (fun v w' => K (a.put o.dst v) w') → step i K a w)
    (hskip : ∀ i o a w K, l.toArray[i]? = some o → Region.wanted o (yielded l.toArray a.tmps) = false → K (a.put o.dst undef) w → step i K a w)
    {C : World → Prop} {a : Act} {w : World} (hw : C w)
    (h : wpQuiet P l.toArray C (FloatEnd P l n Fl C Q) (l.take n) a) : anyOf step l.toArray Q l.toArray.size (Array.replicate l.toArray.size false) a w := by
  have ok := floatB_ok hB
  have hn : n ≤ l.length := by simpa using ok.le
  have htl : (l.take n).length = n := by simp; omega
  have h' : wpQS P l.toArray C (fun _ => C) [] (FloatEnd P l n Fl C Q) 0 (l.take n) a := wpQS_of_wpQuiet (fun _ h => h) _ _ _ h
  have hD : Distinct l.toArray n := fun i j oi oj d hi hj => ok.distinct i j oi oj d (by have := ok.le; omega) (by have := ok.le; omega)
  obtain ⟨u, aQ, hQ, hp, hy⟩ := qs_extract (l.take n) 0 a (fun j hj => by
    have : j < n := by omega
    simp [this]) (by rw [htl, Nat.zero_add]; exact hD) h'
  rw [htl, Nat.zero_add] at hp hy
  have hun : ∀ m, unl (Array.replicate l.toArray.size false) m = m := fun m => by
    induction m with
    | zero => rfl
    | succ m ih => unfold unl; rw [ih, getD_replicate_false]; rfl
  have H := float1 (P := P) (Q := Q) ok (fun i o a w K h1 => hstep i o a w K h1 (ok.defer_ i o h1)) hskip hp (fun j o h1 h2 => hy j o (Nat.zero_le _) h1 rfl h2)
    (fun j o hj ho => by
      obtain ⟨⟨d, hd, hds⟩, hpu⟩ := hQ.1 j (by simpa using hj) o (by simpa using ho)
      have hu : aQ.tmps[d]? = some (u j) := hp.at_ j o d (Nat.zero_le _) (ok.fl j hj) rfl ho hd (by rw [← hp.size]; exact hds)
      by_cases hwa : Region.wanted o (yielded l.toArray aQ.tmps) = true
      · refine .inl ⟨hwa, fun w => ?_⟩
        have h1 := hpu w
        unfold wpQuiet at h1
        rw [if_pos hwa] at h1
        obtain ⟨v, h2, h3⟩ := h1
        have hv : v = u j := by
          have e : (aQ.put o.dst v).tmps[d]? = some v := by rw [hd, put_at _ _ _ hds]
          rw [show aQ.put o.dst v = aQ from h3, hu] at e
          exact (Option.some.inj e).symm
        subst hv
        exact loudAt_of_quiet (S := fun w' => w' = w) rfl (h2 w rfl)
      · refine .inr ⟨by simpa using hwa, ?_⟩
        have h1 := hpu w
        unfold wpQuiet at h1
        rw [if_neg hwa] at h1
        have e : (aQ.put o.dst undef).tmps[d]? = some undef := by rw [hd, put_at _ _ _ hds]
        rw [show aQ.put o.dst undef = aQ from h1, hu] at e
        exact Option.some.inj e)
    (fun w hc => by
      have hlen : l.toArray.size - n = (l.drop n).length := by simp
      rw [hlen]
      exact tl_of_wpList (l.drop n) n (fun j _ => by simp [List.getElem?_drop]) hTb aQ w (hQ.2 w hc))
    n (Array.replicate l.toArray.size false) a w (hun n)
    ⟨by simp, fun j oj _ hl => (by rw [getD_replicate_false] at hl; cases hl), fun t _ ht => getD_in (by simpa using ht) (getD_replicate_false _ _)⟩
    ⟨rfl, rfl, fun i o d _ _ _ _ h => (by rw [getD_replicate_false] at h; cases h), fun _ _ => rfl⟩ hw
  rwa [show n + (l.toArray.size - n) = l.toArray.size by have := ok.le; omega] at H

/-- **A REGION THAT DRAWS ITS ORDER, with floating operations.** -/
theorem wp_region_float {P : Program} {id : Nat} {Q : Exit → Act → World → Prop} {a : Act} {w : World} {l : List Oper} (n : Nat) (Fl : List Nat)
    (hm : P.follows .mixedOrders = true) (hB : floatB l.toArray n Fl = true) (hTb : tailB (l.drop n) = true)
    (h : wpQuiet P l.toArray (fun w' => ∃ x : Ext w, w' = x.w) (FloatEnd P l n Fl (fun w' => ∃ x : Ext w, w' = x.w) (Q .normal)) (l.take n) a) : (Code.region id l.toArray true).wp P Q a w := by
  refine wp_region_any hm (anyOf_wpAny _ _ _ _ (any_float (Q := Q .normal) (step := fun i K a w => wpOp P l.toArray Q i K a w) hB hTb ?_ ?_ ⟨⟨_, (Below.refl _ w).drew⟩, rfl⟩ h))
  · intro i o a w K h1 _ h2 h3
    show wpOp P l.toArray Q i K a w
    unfold wpOp
    simp only [h1, h2, if_true]
    refine .inl ?_
    unfold loudAt at h3
    unfold Oper.wp
    generalize (execOp a.eval o).run P w = r at *
    cases r with
    | ok x w' =>
      cases x <;> simp only [loudUpon] at h3 <;> simp only [Oper.upon]
      case value v => exact h3
      case skip => exact h3
      case enter f args => exact h3.mono fun e w'' ⟨v, he, hv⟩ => by subst he; exact hv
    | halt x w' => simp only [loudUpon] at h3
  · intro i o a w K h1 h2 h3
    show wpOp P l.toArray Q i K a w
    unfold wpOp
    simp only [h1, h2, Bool.false_eq_true, if_false]
    exact h3

/-- **The same in the round of a range over a function.** -/
theorem wpIn_region_float {F : Fence} {P : Program} {id m : Nat} {Q : Exit → Act → World → Prop} {a : Act} {w : World} {l : List Oper} (n : Nat) (Fl : List Nat)
    (hF : OpenFence F P) (hm : P.follows .mixedOrders = true) (hB : floatB l.toArray n Fl = true) (hTb : tailB (l.drop n) = true)
    (h : wpQuiet P l.toArray (fun w' => ∃ x : Ext w, w' = x.w) (FloatEnd P l n Fl (fun w' => ∃ x : Ext w, w' = x.w) (Q .normal)) (l.take n) a) : (Code.region id l.toArray true).wpIn F m P Q a w := by
  refine wpIn_region_any hm (anyOf_wpAnyIn _ _ _ _ (any_float (Q := Q .normal) (step := fun i K a w => wpOpIn F m P l.toArray Q i K a w) hB hTb ?_ ?_ ⟨⟨_, (Below.refl _ w).drew⟩, rfl⟩ h))
  · intro i o a w K h1 hnd h2 h3
    show wpOpIn F m P l.toArray Q i K a w
    unfold wpOpIn
    simp only [h1, h2, if_true]
    refine ⟨fun f _ => hF.fn f, ?_⟩
    rw [Oper.semAt_plain _ _ _ hnd]
    unfold loudAt at h3
    generalize (execOp a.eval o).run P w = r at *
    cases r with
    | ok x w' =>
      cases x <;> simp only [loudUpon] at h3 <;> simp only [Oper.uponIn]
      case value v => exact h3
      case skip => exact h3
      case enter f args =>
        refine ⟨fun h => (by rw [hF.depth] at h; cases h), hF.calls _ _ _ _ _ (h3.mono fun e w'' ⟨v, he, hv⟩ => ?_)⟩
        subst he; exact hv
    | halt x w' => simp only [loudUpon] at h3
  · intro i o a w K h1 h2 h3
    show wpOpIn F m P l.toArray Q i K a w
    unfold wpOpIn
    simp only [h1, h2, Bool.false_eq_true, if_false]
    exact ⟨fun f _ => hF.fn f, h3⟩
end Go.Proofs.Ytipablcbkoedbaa
