/- The search for a way: nodes in a queue, each with the hop by which it was reached. No program in sight. -/
import Derived.Below
namespace Go.Proofs.YtighfmgkoepfkaaGreat

/-- An edge of a net: a movement's numbers, its ends, and what flows. -/
structure Eg where
  id : Int
  fr : Int
  to : Int
  lo : Int
  hi : Int
  a : Nat
  b : Nat
  fl : Int
deriving DecidableEq, Inhabited

def ind (c : Prop) [Decidable c] (x : Int) : Int := if c then x else 0
/-- What one edge brings to a node. -/
def Eg.at (e : Eg) (v : Nat) : Int := ind (e.b = v) e.fl - ind (e.a = v) e.fl
def sur : List Eg → Nat → Int
  | [], _ => 0
  | e :: es, v => e.at v + sur es v
def InB (es : List Eg) : Prop := ∀ e ∈ es, e.lo ≤ e.fl ∧ e.fl ≤ e.hi
def NoLoop (es : List Eg) : Prop := ∀ e ∈ es, e.a ≠ e.b
def Eg.more (e : Eg) (d : Int) : Eg := { e with fl := e.fl + d }
/-- More flows on an edge. -/
def bump (es : List Eg) (i : Nat) (d : Int) : List Eg := es.modify i fun e => e.more d
theorem bump_len (es : List Eg) (i : Nat) (d : Int) : (bump es i d).length = es.length := List.length_modify ..
theorem bump_at (es : List Eg) (i : Nat) (d : Int) (j : Nat) : (bump es i d)[j]? = if j = i then es[j]?.map (fun e => e.more d) else es[j]? := by
  unfold bump
  rw [List.getElem?_modify]
  by_cases h : i = j
  · subst h; simp
  · have : ¬ j = i := fun k => h k.symm
    simp [h, this]
theorem at_more (e : Eg) (d : Int) (v : Nat) : (e.more d).at v = e.at v + (ind (e.b = v) d - ind (e.a = v) d) := by
  unfold Eg.at Eg.more ind
  dsimp only
  split <;> split <;> omega
theorem sur_bump : ∀ (es : List Eg) (i : Nat) (d : Int) (v : Nat) (e : Eg), es[i]? = some e → sur (bump es i d) v = sur es v + (ind (e.b = v) d - ind (e.a = v) d)
  | [], i, d, v, e, h => by simp at h
  | x :: es, 0, d, v, e, h => by
    have : x = e := by simpa using h
    subst this
    show (x.more d).at v + sur es v = _
    rw [at_more]
    show _ = x.at v + sur es v + _
    omega
  | x :: es, i + 1, d, v, e, h => by
    have ih := sur_bump es i d v e (by simpa using h)
    show x.at v + sur (bump es i d) v = x.at v + sur es v + _
    rw [ih]; omega

/-- A hop: an edge that can have more (1) or less (-1), the node to which it leads, and by how much. -/
structure Hp where
  e : Nat
  to : Nat
  by_ : Int
  sg : Int
deriving DecidableEq, Inhabited
/-- Hop h leads out of node u, but not by edge `but`. -/
def Res (es : List Eg) (but : Int) (u : Nat) (h : Hp) : Prop :=
  (h.e : Int) ≠ but ∧ ∃ e, es[h.e]? = some e ∧ 0 < h.by_ ∧
    ((e.a = u ∧ e.b = h.to ∧ h.sg = 1 ∧ h.by_ = e.hi - e.fl) ∨ (e.b = u ∧ e.a = h.to ∧ h.sg = -1 ∧ h.by_ = e.fl - e.lo))
/-- The end of a way that begins at a node; its last hop stands first. -/
def wayEnd (from_ : Nat) : List Hp → Nat
  | [] => from_
  | h :: _ => h.to
def Way (es : List Eg) (but : Int) (from_ : Nat) : List Hp → Prop
  | [] => True
  | h :: l => Res es but (wayEnd from_ l) h ∧ Way es but from_ l
/-- No node twice. -/
def Fresh (from_ : Nat) (l : List Hp) : Prop := (l.map Hp.to ++ [from_]).Nodup
def pushL (es : List Eg) (l : List Hp) (m : Int) : List Eg := l.foldl (fun es h => bump es h.e (h.sg * m)) es
theorem pushL_len (l : List Hp) (m : Int) : ∀ es : List Eg, (pushL es l m).length = es.length := by
  induction l with
  | nil => intro es; rfl
  | cons h l ih => intro es; show (pushL (bump es h.e (h.sg * m)) l m).length = _; rw [ih, bump_len]
theorem wayEnd_mem (from_ : Nat) (l : List Hp) : wayEnd from_ l ∈ l.map Hp.to ++ [from_] := by
  cases l <;> simp [wayEnd]
/-- An edge of a later hop is another one. -/
theorem way_other {es : List Eg} {but : Int} {from_ u v : Nat} : ∀ {l : List Hp} {h : Hp}, Way es but from_ l → Res es but u h → h.to = v → u ∈ l.map Hp.to ++ [from_] → v ∉ l.map Hp.to ++ [from_] → ∀ k ∈ l, k.e ≠ h.e
  | [], _, _, _, _, _, _, k, hk => by cases hk
  | g :: l, h, hw, hr, hv, hu, hn, k, hk => by
    have hn2 : v ∉ l.map Hp.to ++ [from_] := fun c => hn (by simp only [List.map_cons, List.cons_append, List.mem_cons]; exact .inr c)
    have hg : v ≠ g.to := fun c => hn (by simp [c])
    have same : ∀ k u', Res es but u' k → u' ∈ l.map Hp.to ++ [from_] → k.to ≠ v → k.e ≠ h.e := fun k u' hk hu' hkv e => by
      obtain ⟨_, e1, h1, _, h2⟩ := hk
      obtain ⟨_, e2, h3, _, h4⟩ := hr
      rw [e, h3] at h1
      have : e2 = e1 := Option.some.inj h1
      subst this
      have hne : u' ≠ v := fun c => hn2 (c ▸ hu')
      rcases h2 with ⟨a1, a2, _⟩ | ⟨a1, a2, _⟩ <;> rcases h4 with ⟨b1, b2, _⟩ | ⟨b1, b2, _⟩ <;> omega
    rcases List.mem_cons.1 hk with rfl | hk
    · exact same k _ hw.1 (wayEnd_mem from_ l) (fun c => hg c.symm)
    · by_cases c : u ∈ l.map Hp.to ++ [from_]
      · exact way_other hw.2 hr hv c hn2 k hk
      · -- u is g's node: the hops behind it do not touch v
        have : ∀ {l : List Hp}, Way es but from_ l → v ∉ l.map Hp.to ++ [from_] → ∀ k ∈ l, k.e ≠ h.e := fun {l} => by
          induction l with
          | nil => intro _ _ k hk; cases hk
          | cons q l ih =>
            intro hw hn k hk
            have hn3 : v ∉ l.map Hp.to ++ [from_] := fun c => hn (by simp only [List.map_cons, List.cons_append, List.mem_cons]; exact .inr c)
            rcases List.mem_cons.1 hk with rfl | hk
            · obtain ⟨_, e1, h1, _, h2⟩ := hw.1
              obtain ⟨_, e2, h3, _, h4⟩ := hr
              intro e
              rw [e, h3] at h1
              have : e2 = e1 := Option.some.inj h1
              subst this
              have q1 : v ≠ k.to := fun c => hn (by simp [c])
              have q2 : v ≠ wayEnd from_ l := fun c => hn3 (c ▸ wayEnd_mem from_ l)
              rcases h2 with ⟨a1, a2, _⟩ | ⟨a1, a2, _⟩ <;> rcases h4 with ⟨b1, b2, _⟩ | ⟨b1, b2, _⟩ <;> omega
            · exact ih hw.2 hn3 k hk
        exact this hw.2 hn2 k hk
theorem res_bump {es : List Eg} {but : Int} {u : Nat} {h : Hp} {i : Nat} {d : Int} (hr : Res es but u h) (hne : h.e ≠ i) : Res (bump es i d) but u h := by
  obtain ⟨h1, e, h2, h3⟩ := hr
  exact ⟨h1, e, by rw [bump_at, if_neg hne]; exact h2, h3⟩
theorem way_bump {es : List Eg} {but : Int} {from_ i : Nat} {d : Int} : ∀ {l : List Hp}, Way es but from_ l → (∀ k ∈ l, k.e ≠ i) → Way (bump es i d) but from_ l
  | [], _, _ => trivial
  | h :: _, hw, hn => ⟨res_bump hw.1 (hn h (by simp)), way_bump hw.2 fun k hk => hn k (by simp [hk])⟩
/-- What is pushed along a way leaves its beginning and comes to its end; nothing leaves its bounds. -/
theorem push_spec {but : Int} {from_ : Nat} {m : Int} (hm : 0 ≤ m) : ∀ {l : List Hp} {es : List Eg}, Way es but from_ l → Fresh from_ l → (∀ h ∈ l, m ≤ h.by_) → InB es →
    InB (pushL es l m) ∧ (∀ v, sur (pushL es l m) v = sur es v + (ind (wayEnd from_ l = v) m - ind (from_ = v) m)) ∧ (∀ i : Nat, (i : Int) = but → (pushL es l m)[i]? = es[i]?)
  | [], es, _, _, _, hb => ⟨hb, fun v => by show sur es v = sur es v + (ind (from_ = v) m - ind (from_ = v) m); omega, fun _ _ => rfl⟩
  | h :: l, es, hw, hf, hc, hb => by
    have hf' : (h.to :: (l.map Hp.to ++ [from_])).Nodup := hf
    obtain ⟨hn, hf2⟩ := List.nodup_cons.1 hf'
    have ho := way_other hw.2 hw.1 rfl (wayEnd_mem from_ l) hn
    obtain ⟨hbut, e, he, hpos, hcase⟩ := hw.1
    have hmc := hc h (by simp)
    have hbe := hb e (List.mem_of_getElem? he)
    have hb1 : InB (bump es h.e (h.sg * m)) := fun x hx => by
      obtain ⟨j, hj⟩ := List.mem_iff_getElem?.1 hx
      rw [bump_at] at hj
      by_cases c : j = h.e
      · rw [if_pos c, c, he] at hj
        have : e.more (h.sg * m) = x := by simpa using hj
        subst this
        show e.lo ≤ e.fl + h.sg * m ∧ e.fl + h.sg * m ≤ e.hi
        rcases hcase with ⟨_, _, s, c⟩ | ⟨_, _, s, c⟩ <;> rw [s] <;> omega
      · rw [if_neg c] at hj
        exact hb x (List.mem_of_getElem? hj)
    obtain ⟨r1, r2, r3⟩ := push_spec hm (way_bump (d := h.sg * m) hw.2 ho) hf2 (fun k hk => hc k (by simp [hk])) hb1
    refine ⟨r1, fun v => ?_, fun i hi => ?_⟩
    · show sur (pushL (bump es h.e (h.sg * m)) l m) v = _
      rw [r2 v, sur_bump es h.e (h.sg * m) v e he]
      show _ = sur es v + (ind (h.to = v) m - ind (from_ = v) m)
      rcases hcase with ⟨a1, a2, s, _⟩ | ⟨a1, a2, s, _⟩
      · rw [a1, a2, s, Int.one_mul]; omega
      · rw [a1, a2, s]
        have : ∀ c : Prop, ∀ [Decidable c], ind c (-1 * m) = - ind c m := fun c _ => by unfold ind; split <;> omega
        rw [this, this]; omega
    · show (pushL (bump es h.e (h.sg * m)) l m)[i]? = _
      rw [r3 i hi, bump_at, if_neg (fun c => hbut (by omega))]

/-! ### Sets of nodes -/
/-- What the nodes of a set have together. -/
def sumS (es : List Eg) (S : Nat → Bool) : Nat → Int
  | 0 => 0
  | n + 1 => sumS es S n + (if S n = true then sur es n else 0)
/-- What comes into a set, and what goes out of it. -/
def crossE (S : Nat → Bool) (g : Eg → Int) (h : Eg → Int) : List Eg → Int
  | [] => 0
  | e :: es => (if S e.b = true ∧ S e.a = false then g e else 0) - (if S e.a = true ∧ S e.b = false then h e else 0) + crossE S g h es
def InN (es : List Eg) (N : Nat) : Prop := ∀ e ∈ es, e.a < N ∧ e.b < N
theorem sumS_one (e : Eg) (S : Nat → Bool) : ∀ N, e.a < N → e.b < N → (∀ n, n ≤ N → sumS [e] S n = (if e.b < n ∧ S e.b = true then e.fl else 0) - (if e.a < n ∧ S e.a = true then e.fl else 0))
  | _, _, _, 0, _ => by simp [sumS]
  | N, h1, h2, n + 1, h => by
    have ih := sumS_one e S N h1 h2 n (by omega)
    show sumS [e] S n + (if S n = true then e.at n + 0 else 0) = _
    rw [ih]
    unfold Eg.at ind
    by_cases hb : e.b = n <;> by_cases ha : e.a = n
    · subst hb
      have : e.a = e.b := ha
      rw [this]
      by_cases hs : S e.b = true <;> simp [hs]
    · subst hb
      by_cases hs : S e.b = true <;> by_cases hs2 : S e.a = true <;> by_cases hl : e.a < e.b <;> simp [hs, hs2, ha, hl] <;> (try split) <;> omega
    · subst ha
      by_cases hs : S e.a = true <;> by_cases hs2 : S e.b = true <;> by_cases hl : e.b < e.a <;> simp [hs, hs2, hb, hl] <;> (try split) <;> omega
    · have e1 : (e.b < n + 1) = (e.b < n) := by apply propext; omega
      have e2 : (e.a < n + 1) = (e.a < n) := by apply propext; omega
      simp only [e1, e2]
      simp [hb, ha]
theorem sumS_cons (e : Eg) (es : List Eg) (S : Nat → Bool) : ∀ n, sumS (e :: es) S n = sumS [e] S n + sumS es S n
  | 0 => by simp [sumS]
  | n + 1 => by
    have ih := sumS_cons e es S n
    show sumS (e :: es) S n + (if S n = true then e.at n + sur es n else 0) = (sumS [e] S n + (if S n = true then e.at n + 0 else 0)) + (sumS es S n + (if S n = true then sur es n else 0))
    rw [ih]
    split <;> omega
/-- What the nodes of a set have together is what crosses its border. -/
theorem sumS_cross {N : Nat} (S : Nat → Bool) : ∀ {es : List Eg}, InN es N → sumS es S N = crossE S Eg.fl Eg.fl es
  | [], _ => by
    have : ∀ n, sumS [] S n = 0 := fun n => by
      induction n with
      | zero => rfl
      | succ n ih => show sumS [] S n + (if S n = true then 0 else 0) = 0; rw [ih]; split <;> rfl
    exact this N
  | e :: es, h => by
    obtain ⟨h1, h2⟩ := h e (by simp)
    rw [sumS_cons, sumS_cross (N := N) (es := es) S (fun x hx => h x (by simp [hx])), sumS_one e S N h1 h2 N (Nat.le_refl _)]
    show _ = (if S e.b = true ∧ S e.a = false then e.fl else 0) - (if S e.a = true ∧ S e.b = false then e.fl else 0) + crossE S Eg.fl Eg.fl es
    cases hs : S e.a <;> cases hs2 : S e.b <;> simp [h1, h2]
/-- No more can flow out of a set. -/
def Shut (es : List Eg) (but : Int) (S : Nat → Bool) : Prop := ∀ (i : Nat) (e : Eg), es[i]? = some e → (i : Int) ≠ but → (S e.a = true → S e.b = false → e.fl = e.hi) ∧ (S e.b = true → S e.a = false → e.fl = e.lo)
theorem cross_shut {S : Nat → Bool} : ∀ {es : List Eg}, (∀ e ∈ es, (S e.a = true → S e.b = false → e.fl = e.hi) ∧ (S e.b = true → S e.a = false → e.fl = e.lo)) → crossE S Eg.fl Eg.fl es = crossE S Eg.lo Eg.hi es
  | [], _ => rfl
  | e :: es, h => by
    obtain ⟨h1, h2⟩ := h e (by simp)
    have ih := cross_shut (S := S) (es := es) fun x hx => h x (by simp [hx])
    show (if S e.b = true ∧ S e.a = false then e.fl else 0) - (if S e.a = true ∧ S e.b = false then e.fl else 0) + _ = (if S e.b = true ∧ S e.a = false then e.lo else 0) - (if S e.a = true ∧ S e.b = false then e.hi else 0) + _
    rw [ih]
    cases hs : S e.a <;> cases hs2 : S e.b
    · simp
    · rw [h2 hs2 hs]; simp
    · rw [h1 hs hs2]; simp
    · simp
theorem cross_le {S : Nat → Bool} : ∀ {es : List Eg}, InB es → crossE S Eg.lo Eg.hi es ≤ crossE S Eg.fl Eg.fl es
  | [], _ => Int.le_refl _
  | e :: es, h => by
    obtain ⟨h1, h2⟩ := h e (by simp)
    have ih := cross_le (S := S) (es := es) fun x hx => h x (by simp [hx])
    show (if S e.b = true ∧ S e.a = false then e.lo else 0) - (if S e.a = true ∧ S e.b = false then e.hi else 0) + _ ≤ (if S e.b = true ∧ S e.a = false then e.fl else 0) - (if S e.a = true ∧ S e.b = false then e.fl else 0) + _
    split <;> split <;> omega
end Go.Proofs.YtighfmgkoepfkaaGreat

namespace Go.Proofs.YtighfmgkoepfkaaGreat

/-- A holder: ID, start, end, what is booked. -/
structure Hd where
  id : Int
  sl : Int
  sh : Int
  el : Int
  eh : Int
  bk : Int
deriving DecidableEq, Inhabited
/-- A movement: ID, from, to, mass. -/
structure Mv where
  id : Int
  fr : Int
  to : Int
  lo : Int
  hi : Int
deriving DecidableEq, Inhabited

def okSp (lo hi : Int) : Bool := decide (0 ≤ lo ∧ lo ≤ hi ∧ hi ≤ 65536)
def okId (n : Int) : Bool := decide (1 ≤ n ∧ n ≤ 1099511627776)
/-- The index of a holder. -/
def posN : List Hd → Int → Nat
  | [], _ => 0
  | h :: t, id => if h.id = id then 0 else posN t id + 1
def pos (hs : List Hd) (id : Int) : Int := if posN hs id < hs.length then (posN hs id : Int) else -1
theorem posN_le : ∀ (hs : List Hd) (id : Int), posN hs id ≤ hs.length
  | [], _ => Nat.le_refl _
  | h :: t, id => by
    unfold posN
    split
    · exact Nat.zero_le _
    · exact Nat.succ_le_succ (posN_le t id)
theorem posN_at : ∀ (hs : List Hd) (id : Int) (h : posN hs id < hs.length), (hs[posN hs id]).id = id
  | [], _, h => by cases h
  | x :: t, id, h => by
    by_cases c : x.id = id
    · have : posN (x :: t) id = 0 := by unfold posN; rw [if_pos c]
      simp only [this]; exact c
    · have e : posN (x :: t) id = posN t id + 1 := by unfold posN; rw [if_neg c]; cases t <;> rfl
      have h2 : posN t id < t.length := by rw [e] at h; simpa using h
      simp only [e]; exact posN_at t id h2
theorem posN_first : ∀ (hs : List Hd) (id : Int) (i : Nat) (h : i < hs.length), (hs[i]).id = id → posN hs id ≤ i
  | [], _, _, h, _ => by cases h
  | x :: t, id, 0, _, e => by
    have e : x.id = id := e
    unfold posN; rw [if_pos e]; exact Nat.le_refl _
  | x :: t, id, i + 1, h, e => by
    unfold posN
    split
    · omega
    · exact Nat.succ_le_succ (posN_first t id i (by simpa using h) e)
theorem pos_neg {hs : List Hd} {id : Int} : pos hs id < 0 ↔ ∀ h ∈ hs, h.id ≠ id := by
  unfold pos
  constructor
  · intro c h hm e
    obtain ⟨i, hi, rfl⟩ := List.getElem_of_mem hm
    have := posN_first hs id i hi e
    rw [if_pos (by omega)] at c; omega
  · intro c
    by_cases k : posN hs id < hs.length
    · exact absurd (posN_at hs id k) (c _ (List.getElem_mem k))
    · rw [if_neg k]; omega

def okHd (h : Hd) : Bool := okId h.id && okSp h.sl h.sh && okSp h.el h.eh && decide (0 ≤ h.bk ∧ h.bk ≤ 65536)
/-- The first error of holders, from index i on. -/
def hdsE (all : List Hd) : Nat → List Hd → Int
  | _, [] => 0
  | i, h :: t => if okHd h = false then 1 else if pos all h.id < i then 6 else hdsE all (i + 1) t
/-- The error of a movement, apart from others. -/
def mvE (hs : List Hd) (m : Mv) : Int :=
  if ¬ (okId m.id = true ∧ okSp m.lo m.hi = true ∧ m.fr ≠ m.to) then 1 else if pos hs m.fr < 0 ∨ pos hs m.to < 0 then 5 else 0
def dupB (ms : List Mv) (id : Int) : Bool := ms.any fun m => m.id == id
/-- The error of a movement behind others. -/
def mvE2 (hs : List Hd) (pre : List Mv) (m : Mv) : Int := if mvE hs m ≠ 0 then mvE hs m else if dupB pre m.id = true then 6 else 0
def mvsE (hs : List Hd) (pre : List Mv) : List Mv → Int
  | [] => 0
  | m :: t => if mvE2 hs pre m ≠ 0 then mvE2 hs pre m else mvsE hs (pre ++ [m]) t
/-- The first error of a trade. -/
def tcheck (hs : List Hd) (ms : List Mv) : Int :=
  if 9 < hs.length ∨ 24 < ms.length then 2 else if hdsE hs 0 hs ≠ 0 then hdsE hs 0 hs else mvsE hs [] ms

/-- A valid trade. -/
structure TV (hs : List Hd) (ms : List Mv) : Prop where
  lenH : hs.length ≤ 9
  lenM : ms.length ≤ 24
  hd : ∀ h ∈ hs, okHd h = true
  ids : (hs.map Hd.id).Nodup
  mv : ∀ m ∈ ms, okId m.id = true ∧ okSp m.lo m.hi = true ∧ m.fr ≠ m.to ∧ (∃ h ∈ hs, h.id = m.fr) ∧ ∃ h ∈ hs, h.id = m.to
  mids : (ms.map Mv.id).Nodup

theorem hdsE_zero (all : List Hd) : ∀ (t pre : List Hd), pre ++ t = all → (hdsE all pre.length t = 0 ↔ (∀ h ∈ t, okHd h = true) ∧ ∀ i, pre.length ≤ i → ∀ h : i < all.length, posN all (all[i]).id = i)
  | [], pre, e => by
    have : pre.length = all.length := by rw [← e]; simp
    constructor
    · intro _; exact ⟨fun h hh => (by cases hh), fun i h1 h2 => by omega⟩
    · intro _; rfl
  | h :: t, pre, e => by
    have ih := hdsE_zero all t (pre ++ [h]) (by simp [← e])
    have hl : pre.length < all.length := by rw [← e]; simp
    have hat : all[pre.length] = h := by subst e; simp
    unfold hdsE
    by_cases c1 : okHd h = false
    · rw [if_pos c1]
      constructor
      · intro c; cases c
      · intro ⟨c, _⟩; rw [c h (by simp)] at c1; cases c1
    · rw [if_neg c1]
      have c1' : okHd h = true := by simpa using c1
      have hle : posN all h.id ≤ pre.length := posN_first all h.id pre.length hl (by rw [hat])
      have hp : pos all h.id = (posN all h.id : Int) := by unfold pos; rw [if_pos (by omega)]
      rw [hp]
      by_cases c2 : posN all h.id < pre.length
      · rw [if_pos (by omega)]
        constructor
        · intro c; cases c
        · intro ⟨_, c⟩
          have := c pre.length (Nat.le_refl _) hl
          rw [hat] at this; omega
      · rw [if_neg (by omega)]
        rw [show (pre ++ [h]).length = pre.length + 1 by simp] at ih
        rw [ih]
        have he : posN all h.id = pre.length := by omega
        constructor
        · intro ⟨a, b⟩
          refine ⟨fun x hx => (List.mem_cons.1 hx).elim (fun q => q ▸ c1') (a x), fun i h1 h2 => ?_⟩
          by_cases q : i = pre.length
          · subst q; rw [hat]; exact he
          · exact b i (by omega) h2
        · intro ⟨a, b⟩
          exact ⟨fun x hx => a x (by simp [hx]), fun i h1 h2 => b i (by omega) h2⟩
theorem nodup_ids {hs : List Hd} : (hs.map Hd.id).Nodup ↔ ∀ i (h : i < hs.length), posN hs (hs[i]).id = i := by
  constructor
  · intro hn i h
    have h1 := posN_first hs (hs[i]).id i h rfl
    have h2 : posN hs (hs[i]).id < hs.length := by omega
    have h3 := posN_at hs (hs[i]).id h2
    have := (List.getElem_inj (xs := hs.map Hd.id) (h₀ := by simpa using h2) (h₁ := by simpa using h) hn).1 (by simpa using h3)
    exact this
  · intro h
    rw [List.nodup_iff_pairwise_ne, List.pairwise_map, List.pairwise_iff_getElem]
    intro i j hi hj hij e
    have h1 := h i hi
    have h2 := h j hj
    rw [e] at h1
    omega
theorem mvsE_zero (hs : List Hd) : ∀ (t pre : List Mv), (mvsE hs pre t = 0 ↔ (∀ m ∈ t, mvE hs m = 0) ∧ ∀ k (h : k < t.length), dupB (pre ++ t.take k) (t[k]).id = false)
  | [], pre => by
    constructor
    · intro _; exact ⟨fun m hm => (by cases hm), fun k h => (by cases h)⟩
    · intro _; rfl
  | m :: t, pre => by
    have ih := mvsE_zero hs t (pre ++ [m])
    unfold mvsE
    by_cases c1 : mvE hs m = 0
    · by_cases c2 : dupB pre m.id = true
      · have e : mvE2 hs pre m = 6 := by unfold mvE2; rw [if_neg (by simpa using c1), if_pos c2]
        rw [e]
        constructor
        · intro c; simp at c
        · intro ⟨_, c⟩
          have := c 0 (by simp)
          simp at this
          rw [this] at c2; cases c2
      · have e : mvE2 hs pre m = 0 := by unfold mvE2; rw [if_neg (by simpa using c1), if_neg c2]
        rw [e, if_neg (by simp), ih]
        constructor
        · intro ⟨a, b⟩
          refine ⟨fun x hx => (List.mem_cons.1 hx).elim (fun q => q ▸ c1) (a x), fun k h => ?_⟩
          match k, h with
          | 0, _ => simpa using c2
          | k + 1, h => simpa using b k (by simpa using h)
        · intro ⟨a, b⟩
          refine ⟨fun x hx => a x (by simp [hx]), fun k h => ?_⟩
          have := b (k + 1) (by simpa using h)
          simpa using this
    · have e : mvE2 hs pre m = mvE hs m := by unfold mvE2; rw [if_pos c1]
      rw [e, if_pos c1]
      constructor
      · intro c; exact absurd c c1
      · intro ⟨c, _⟩; exact absurd (c m (by simp)) c1
theorem nodup_mids {ms : List Mv} : (ms.map Mv.id).Nodup ↔ ∀ k (h : k < ms.length), dupB (ms.take k) (ms[k]).id = false := by
  rw [List.nodup_iff_pairwise_ne, List.pairwise_map, List.pairwise_iff_getElem]
  constructor
  · intro h k hk
    unfold dupB
    rw [List.any_eq_false]
    intro m hm e
    obtain ⟨i, hi, rfl⟩ := List.getElem_of_mem hm
    have hi' : i < k := by simp at hi; omega
    have := h i k (by omega) hk hi'
    simp at e
    exact this e
  · intro h i j hi hj hij e
    have := h j hj
    unfold dupB at this
    rw [List.any_eq_false] at this
    refine this ms[i] ?_ (by simpa using e)
    rw [List.mem_iff_getElem]
    exact ⟨i, by simp; omega, by simp⟩
theorem mvE_zero {hs : List Hd} {m : Mv} : mvE hs m = 0 ↔ okId m.id = true ∧ okSp m.lo m.hi = true ∧ m.fr ≠ m.to ∧ (∃ h ∈ hs, h.id = m.fr) ∧ ∃ h ∈ hs, h.id = m.to := by
  unfold mvE
  have key : ∀ id, ¬ pos hs id < 0 ↔ ∃ h ∈ hs, h.id = id := fun id => by
    rw [pos_neg]
    constructor
    · intro c
      refine Classical.byContradiction fun d => c fun h hh e => d ⟨h, hh, e⟩
    · intro ⟨h, hh, e⟩ c; exact c h hh e
  by_cases c : okId m.id = true ∧ okSp m.lo m.hi = true ∧ m.fr ≠ m.to
  · rw [if_neg (fun d => d c)]
    by_cases d : pos hs m.fr < 0 ∨ pos hs m.to < 0
    · rw [if_pos d]
      constructor
      · intro c; cases c
      · intro ⟨_, _, _, e1, e2⟩
        rcases d with d | d
        · exact absurd d ((key _).2 e1)
        · exact absurd d ((key _).2 e2)
    · rw [if_neg d]
      have d1 : ¬ pos hs m.fr < 0 := fun q => d (.inl q)
      have d2 : ¬ pos hs m.to < 0 := fun q => d (.inr q)
      exact ⟨fun _ => ⟨c.1, c.2.1, c.2.2, (key _).1 d1, (key _).1 d2⟩, fun _ => rfl⟩
  · rw [if_pos c]
    constructor
    · intro c; cases c
    · intro ⟨a, b, d, _⟩; exact absurd ⟨a, b, d⟩ c
/-- No error: the trade is valid. -/
theorem tcheck_zero {hs : List Hd} {ms : List Mv} : tcheck hs ms = 0 ↔ TV hs ms := by
  unfold tcheck
  have h1 := hdsE_zero hs hs [] rfl
  have h2 := mvsE_zero hs ms []
  simp only [List.length_nil, Nat.zero_le, true_implies, List.nil_append] at h1 h2
  constructor
  · intro h
    split at h
    · cases h
    · split at h
      · rename_i c; exact absurd h c
      · rename_i a b
        have b' : hdsE hs 0 hs = 0 := Classical.byContradiction b
        obtain ⟨k1, k2⟩ := h1.1 b'
        obtain ⟨k3, k4⟩ := h2.1 h
        exact ⟨by omega, by omega, k1, nodup_ids.2 k2, fun m hm => mvE_zero.1 (k3 m hm), nodup_mids.2 k4⟩
  · intro h
    rw [if_neg (by have := h.lenH; have := h.lenM; omega), if_neg (fun c => c (h1.2 ⟨h.hd, nodup_ids.1 h.ids⟩))]
    exact h2.2 ⟨fun m hm => mvE_zero.2 (h.mv m hm), nodup_mids.1 h.mids⟩
end Go.Proofs.YtighfmgkoepfkaaGreat

namespace Go.Proofs.YtighfmgkoepfkaaGreat

theorem crossE_append (S : Nat → Bool) (g h : Eg → Int) : ∀ (xs ys : List Eg), crossE S g h (xs ++ ys) = crossE S g h xs + crossE S g h ys
  | [], ys => by show crossE S g h ys = 0 + _; omega
  | e :: xs, ys => by
    show _ + crossE S g h (xs ++ ys) = _ + crossE S g h xs + _
    rw [crossE_append S g h xs ys]; omega
theorem sur_append : ∀ (xs ys : List Eg) (v : Nat), sur (xs ++ ys) v = sur xs v + sur ys v
  | [], ys, v => by show sur ys v = 0 + _; omega
  | e :: xs, ys, v => by
    show _ + sur (xs ++ ys) v = _ + sur xs v + _
    rw [sur_append xs ys v]; omega

def egS (N i : Nat) (h : Hd) : Eg := ⟨0, 0, 0, h.sl, h.sh, N, i, h.sl⟩
def egE (N i : Nat) (h : Hd) : Eg := ⟨0, 0, 0, h.el, h.eh, i, N, h.el⟩
def egM (hs : List Hd) (m : Mv) : Eg := ⟨m.id, m.fr, m.to, m.lo, m.hi, posN hs m.fr, posN hs m.to, m.lo⟩
/-- The net of a trade, with the least masses. -/
def edges (hs : List Hd) (ms : List Mv) : List Eg := hs.mapIdx (egS hs.length) ++ (hs.mapIdx (egE hs.length) ++ ms.map (egM hs))
theorem edges_len (hs : List Hd) (ms : List Mv) : (edges hs ms).length = 2 * hs.length + ms.length := by simp [edges]; omega

/-- The same net, but for what flows. -/
def Eg.fl0 (e : Eg) : Eg := { e with fl := 0 }
def Alike (es fs : List Eg) : Prop := es.map Eg.fl0 = fs.map Eg.fl0
theorem alike_refl (es : List Eg) : Alike es es := rfl
theorem alike_len {es fs : List Eg} (h : Alike es fs) : es.length = fs.length := by have := congrArg List.length h; simpa using this
theorem alike_at {es fs : List Eg} (h : Alike es fs) {i : Nat} {e : Eg} (he : es[i]? = some e) : ∃ f, fs[i]? = some f ∧ f = { e with fl := f.fl } := by
  have h1 : (es.map Eg.fl0)[i]? = (fs.map Eg.fl0)[i]? := by rw [h]
  rw [List.getElem?_map, List.getElem?_map, he] at h1
  cases hf : fs[i]? with
  | none => rw [hf] at h1; cases h1
  | some f =>
    rw [hf] at h1
    have : Eg.fl0 e = Eg.fl0 f := by simpa using h1
    refine ⟨f, rfl, ?_⟩
    obtain ⟨a1, a2, a3, a4, a5, a6, a7, a8⟩ := e
    obtain ⟨b1, b2, b3, b4, b5, b6, b7, b8⟩ := f
    simp [Eg.fl0] at this ⊢
    obtain ⟨r1, r2, r3, r4, r5, r6, r7⟩ := this
    subst r1 r2 r3 r4 r5 r6 r7
    simp
theorem alike_bump (es : List Eg) (i : Nat) (d : Int) : Alike (bump es i d) es := by
  unfold Alike
  apply List.ext_getElem?
  intro j
  rw [List.getElem?_map, List.getElem?_map, bump_at]
  split
  · cases es[j]? <;> rfl
  · rfl
theorem alike_push : ∀ (l : List Hp) (m : Int) (es : List Eg), Alike (pushL es l m) es
  | [], _, _ => rfl
  | h :: l, m, es => Eq.trans (alike_push l m (bump es h.e (h.sg * m))) (alike_bump es h.e (h.sg * m))

/-! ### What goes through holders -/
def isum : List Int → Int
  | [] => 0
  | x :: t => x + isum t
theorem isum_append : ∀ (xs ys : List Int), isum (xs ++ ys) = isum xs + isum ys
  | [], ys => by show isum ys = 0 + _; omega
  | x :: xs, ys => by show x + isum (xs ++ ys) = x + isum xs + _; rw [isum_append xs ys]; omega
def hsum (s : List Int) (f : Hd → Int) (hs : List Hd) : Int := isum (hs.map fun h => if s.contains h.id = true then f h else 0)
/-- Of the movements from a set to its outside. -/
def msum (s : List Int) (out : Bool) (f : Mv → Int) (ms : List Mv) : Int := isum (ms.map fun m => if s.contains m.fr = out ∧ s.contains m.to = !out then f m else 0)
def outLo (hs : List Hd) (ms : List Mv) (s : List Int) : Int := hsum s Hd.el hs + msum s true Mv.lo ms
def outHi (hs : List Hd) (ms : List Mv) (s : List Int) : Int := hsum s Hd.eh hs + msum s true Mv.hi ms
def inLo (hs : List Hd) (ms : List Mv) (s : List Int) : Int := hsum s Hd.sl hs + msum s false Mv.lo ms
def inHi (hs : List Hd) (ms : List Mv) (s : List Int) : Int := hsum s Hd.sh hs + msum s false Mv.hi ms

/-- The set of nodes of some holders; `o`: with the outside, and then of the others. -/
def nodeS (hs : List Hd) (s : List Int) (o : Bool) (v : Nat) : Bool := match hs[v]? with | some h => s.contains h.id != o | none => o

theorem cross_hd {S : Nat → Bool} {N : Nat} {s : List Int} {o : Bool} (hN : S N = o) (g : Nat → Hd → Eg) (out : Bool) (hg : ∀ i h, (if out = true then (g i h).a = i ∧ (g i h).b = N else (g i h).b = i ∧ (g i h).a = N)) :
    ∀ (hs : List Hd) (k : Nat), (∀ i h, hs[i]? = some h → S (k + i) = (s.contains h.id != o)) → ∀ (lo hi : Eg → Int) (fl fh : Hd → Int), (∀ i h, lo (g i h) = fl h) → (∀ i h, hi (g i h) = fh h) →
      crossE S lo hi (hs.mapIdx fun i h => g (k + i) h) = if o = out then hsum s fl hs else - hsum s fh hs
  | [], k, _, lo, hi, fl, fh, _, _ => by cases o <;> cases out <;> rfl
  | h :: t, k, hS, lo, hi, fl, fh, h1, h2 => by
    have ih := cross_hd hN g out hg t (k + 1) (fun i x hx => by have := hS (i + 1) x (by simpa using hx); rw [← this]; congr 1; omega) lo hi fl fh h1 h2
    have e : (fun (i : Nat) (x : Hd) => g (k + (i + 1)) x) = fun i x => g (k + 1 + i) x := by funext i x; rw [show k + (i + 1) = k + 1 + i by omega]
    have h0 := hS 0 h (by simp)
    have hgk := hg k h
    rw [List.mapIdx_cons]
    show _ - _ + crossE S lo hi (t.mapIdx fun i x => g (k + (i + 1)) x) = _
    rw [e, ih, Nat.add_zero, h1 k h, h2 k h]
    rw [Nat.add_zero] at h0
    unfold hsum
    rw [List.map_cons, List.map_cons]
    simp only [isum]
    cases out
    · obtain ⟨ga, gb⟩ : (g k h).b = k ∧ (g k h).a = N := by simpa using hgk
      rw [ga, gb, h0, hN]
      cases o <;> cases hc : s.contains h.id <;> simp <;> omega
    · obtain ⟨ga, gb⟩ : (g k h).a = k ∧ (g k h).b = N := by simpa using hgk
      rw [ga, gb, h0, hN]
      cases o <;> cases hc : s.contains h.id <;> simp <;> omega
theorem cross_mv {S : Nat → Bool} {s : List Int} {o : Bool} (g : Mv → Eg) :
    ∀ (ms : List Mv), (∀ m ∈ ms, S (g m).a = (s.contains m.fr != o) ∧ S (g m).b = (s.contains m.to != o)) → ∀ (lo hi : Eg → Int) (fl fh : Mv → Int), (∀ m, lo (g m) = fl m) → (∀ m, hi (g m) = fh m) →
      crossE S lo hi (ms.map g) = msum s o fl ms - msum s (!o) fh ms
  | [], _, _, _, _, _, _, _ => by show (0 : Int) = 0 - 0; rfl
  | m :: t, hS, lo, hi, fl, fh, h1, h2 => by
    have ih := cross_mv (o := o) g t (fun x hx => hS x (by simp [hx])) lo hi fl fh h1 h2
    obtain ⟨a, b⟩ := hS m (by simp)
    rw [List.map_cons]
    show _ - _ + crossE S lo hi (t.map g) = _
    rw [ih, h1, h2, a, b]
    unfold msum
    rw [List.map_cons, List.map_cons]
    simp only [isum]
    cases o <;> cases hc : s.contains m.fr <;> cases hd : s.contains m.to <;> simp <;> omega

theorem TV.pos {hs : List Hd} {ms : List Mv} (h : TV hs ms) {m : Mv} (hm : m ∈ ms) : posN hs m.fr < hs.length ∧ posN hs m.to < hs.length := by
  obtain ⟨_, _, _, ⟨x, hx, e1⟩, ⟨y, hy, e2⟩⟩ := h.mv m hm
  obtain ⟨i, hi, rfl⟩ := List.getElem_of_mem hx
  obtain ⟨j, hj, rfl⟩ := List.getElem_of_mem hy
  exact ⟨Nat.lt_of_le_of_lt (posN_first hs _ i hi e1) hi, Nat.lt_of_le_of_lt (posN_first hs _ j hj e2) hj⟩
theorem nodeS_pos {hs : List Hd} {s : List Int} {o : Bool} {id : Int} (h : posN hs id < hs.length) : nodeS hs s o (posN hs id) = (s.contains id != o) := by
  unfold nodeS
  rw [List.getElem?_eq_getElem h]
  show (s.contains (hs[posN hs id]).id != o) = _
  rw [posN_at hs id h]
/-- What crosses the border of a set of nodes. -/
theorem cross_in {hs : List Hd} {ms : List Mv} (h : TV hs ms) (s : List Int) : crossE (nodeS hs s false) Eg.lo Eg.hi (edges hs ms) = inLo hs ms s - outHi hs ms s := by
  have hN : nodeS hs s false hs.length = false := by unfold nodeS; rw [List.getElem?_eq_none (Nat.le_refl _)]
  have hS : ∀ i x, hs[i]? = some x → nodeS hs s false (0 + i) = (s.contains x.id != false) := fun i x hx => by unfold nodeS; rw [Nat.zero_add, hx]
  have e1 := cross_hd hN (egS hs.length) false (fun i x => by simp [egS]) hs 0 hS Eg.lo Eg.hi Hd.sl Hd.sh (fun _ _ => rfl) (fun _ _ => rfl)
  have e2 := cross_hd hN (egE hs.length) true (fun i x => by simp [egE]) hs 0 hS Eg.lo Eg.hi Hd.el Hd.eh (fun _ _ => rfl) (fun _ _ => rfl)
  have e3 := cross_mv (S := nodeS hs s false) (s := s) (o := false) (egM hs) ms (fun m hm => ⟨nodeS_pos (h.pos hm).1, nodeS_pos (h.pos hm).2⟩) Eg.lo Eg.hi Mv.lo Mv.hi (fun _ => rfl) (fun _ => rfl)
  simp only [Nat.zero_add] at e1 e2
  unfold edges
  rw [crossE_append, crossE_append, e3, e1, e2]
  simp only [if_true, Bool.false_eq_true, if_false]
  unfold inLo outHi
  simp only [Bool.not_false]
  omega
theorem cross_out {hs : List Hd} {ms : List Mv} (h : TV hs ms) (s : List Int) : crossE (nodeS hs s true) Eg.lo Eg.hi (edges hs ms) = outLo hs ms s - inHi hs ms s := by
  have hN : nodeS hs s true hs.length = true := by unfold nodeS; rw [List.getElem?_eq_none (Nat.le_refl _)]
  have hS : ∀ i x, hs[i]? = some x → nodeS hs s true (0 + i) = (s.contains x.id != true) := fun i x hx => by unfold nodeS; rw [Nat.zero_add, hx]
  have e1 := cross_hd hN (egS hs.length) false (fun i x => by simp [egS]) hs 0 hS Eg.lo Eg.hi Hd.sl Hd.sh (fun _ _ => rfl) (fun _ _ => rfl)
  have e2 := cross_hd hN (egE hs.length) true (fun i x => by simp [egE]) hs 0 hS Eg.lo Eg.hi Hd.el Hd.eh (fun _ _ => rfl) (fun _ _ => rfl)
  have e3 := cross_mv (S := nodeS hs s true) (s := s) (o := true) (egM hs) ms (fun m hm => ⟨nodeS_pos (h.pos hm).1, nodeS_pos (h.pos hm).2⟩) Eg.lo Eg.hi Mv.lo Mv.hi (fun _ => rfl) (fun _ => rfl)
  simp only [Nat.zero_add] at e1 e2
  unfold edges
  rw [crossE_append, crossE_append, e3, e1, e2]
  simp only [if_true, reduceCtorEq, if_false]
  unfold outLo inHi
  simp only [Bool.not_true]
  omega
theorem crossE_congr {S S' : Nat → Bool} {N : Nat} (g h : Eg → Int) (hS : ∀ v, v ≤ N → S v = S' v) : ∀ {es : List Eg}, InN es (N + 1) → crossE S g h es = crossE S' g h es
  | [], _ => rfl
  | e :: es, hn => by
    obtain ⟨h1, h2⟩ := hn e (by simp)
    show _ + crossE S g h es = _ + crossE S' g h es
    rw [crossE_congr g h hS fun x hx => hn x (by simp [hx]), hS e.a (by omega), hS e.b (by omega)]
theorem crossE_alike {S : Nat → Bool} {g h : Eg → Int} (hg : ∀ e, g e = g e.fl0) (hh : ∀ e, h e = h e.fl0) : ∀ {es fs : List Eg}, Alike es fs → crossE S g h es = crossE S g h fs
  | [], [], _ => rfl
  | [], _ :: _, q => by simp [Alike] at q
  | _ :: _, [], q => by simp [Alike] at q
  | e :: es, f :: fs, q => by
    have q1 : e.fl0 = f.fl0 ∧ Alike es fs := by simpa [Alike] using q
    show _ + crossE S g h es = _ + crossE S g h fs
    have ea : e.a = f.a := show e.fl0.a = f.fl0.a by rw [q1.1]
    have eb : e.b = f.b := show e.fl0.b = f.fl0.b by rw [q1.1]
    rw [crossE_alike hg hh q1.2, ea, eb, hg e, hh e, q1.1, ← hg f, ← hh f]
theorem edges_in {hs : List Hd} {ms : List Mv} (h : TV hs ms) : InN (edges hs ms) (hs.length + 1) := by
  intro e he
  unfold edges at he
  simp only [List.mem_append, List.mem_mapIdx, List.mem_map] at he
  rcases he with ⟨i, hi, rfl⟩ | ⟨i, hi, rfl⟩ | ⟨m, hm, rfl⟩
  · exact ⟨by show hs.length < _; omega, by show i < _; omega⟩
  · exact ⟨by show i < _; omega, by show hs.length < _; omega⟩
  · have := h.pos hm
    exact ⟨by show posN hs m.fr < _; omega, by show posN hs m.to < _; omega⟩
theorem edges_noloop {hs : List Hd} {ms : List Mv} (h : TV hs ms) : NoLoop (edges hs ms) := by
  intro e he
  unfold edges at he
  simp only [List.mem_append, List.mem_mapIdx, List.mem_map] at he
  rcases he with ⟨i, hi, rfl⟩ | ⟨i, hi, rfl⟩ | ⟨m, hm, rfl⟩
  · show hs.length ≠ i; omega
  · show i ≠ hs.length; omega
  · have hp := h.pos hm
    intro (c : posN hs m.fr = posN hs m.to)
    have h1 := posN_at hs m.fr hp.1
    have h2 := posN_at hs m.to hp.2
    simp only [c] at h1
    have : m.fr = m.to := h1.symm.trans h2
    exact (h.mv m hm).2.2.1 this
theorem edges_inb {hs : List Hd} {ms : List Mv} (h : TV hs ms) : InB (edges hs ms) := by
  intro e he
  unfold edges at he
  simp only [List.mem_append, List.mem_mapIdx, List.mem_map] at he
  have key : ∀ lo hi : Int, okSp lo hi = true → lo ≤ lo ∧ lo ≤ hi := fun lo hi q => by simp [okSp] at q; omega
  have kh : ∀ x : Hd, okHd x = true → okSp x.sl x.sh = true ∧ okSp x.el x.eh = true := fun x q => by simp [okHd] at q; exact ⟨q.1.1.2, q.1.2⟩
  rcases he with ⟨i, hi, rfl⟩ | ⟨i, hi, rfl⟩ | ⟨m, hm, rfl⟩
  · exact key _ _ (kh _ (h.hd _ (List.getElem_mem hi))).1
  · exact key _ _ (kh _ (h.hd _ (List.getElem_mem hi))).2
  · exact key _ _ (h.mv m hm).2.1

/-! ### Cuts -/
/-- What goes through a cut of some holders: way 1 is out, 2 is in. -/
def thrL (hs : List Hd) (ms : List Mv) (way : Int) (s : List Int) : Int := if way = 1 then outLo hs ms s - inHi hs ms s else inLo hs ms s - outHi hs ms s
theorem thrL_cross {hs : List Hd} {ms : List Mv} (h : TV hs ms) (way : Int) (s : List Int) : thrL hs ms way s = crossE (nodeS hs s (decide (way = 1))) Eg.lo Eg.hi (edges hs ms) := by
  unfold thrL
  by_cases c : way = 1
  · rw [if_pos c, decide_eq_true c, cross_out h]
  · rw [if_neg c, decide_eq_false c, cross_in h]
/-- The holders on one side. -/
def sideL (hs : List Hd) (S : Nat → Bool) (b : Bool) : List Int := ((hs.zipIdx.filter fun p => S p.2 == b).map fun p => p.1.id)
theorem mem_sideL {hs : List Hd} {S : Nat → Bool} {b : Bool} {id : Int} : id ∈ sideL hs S b ↔ ∃ (i : Nat) (h : i < hs.length), (hs[i]).id = id ∧ S i = b := by
  unfold sideL
  simp only [List.mem_map, List.mem_filter]
  constructor
  · rintro ⟨⟨x, i⟩, ⟨h1, h2⟩, rfl⟩
    have := List.mem_zipIdx' h1
    obtain ⟨h3, h4⟩ := this
    exact ⟨i, h3, by rw [← h4], by simpa using h2⟩
  · rintro ⟨i, h, e, hb⟩
    refine ⟨(hs[i], i), ⟨?_, by simpa using hb⟩, e⟩
    rw [List.mem_zipIdx_iff_getElem?]
    simp
theorem nodeS_side {hs : List Hd} (hn : (hs.map Hd.id).Nodup) {S : Nat → Bool} {s : List Int} (hs' : ∀ id, id ∈ s ↔ id ∈ sideL hs S (!(S hs.length))) : ∀ v, v ≤ hs.length → nodeS hs s (S hs.length) v = S v := by
  intro v hv
  unfold nodeS
  by_cases c : v < hs.length
  · rw [List.getElem?_eq_getElem c]
    have key : s.contains (hs[v]).id = true ↔ S v = !(S hs.length) := by
      rw [List.contains_iff_mem, hs' _, mem_sideL]
      constructor
      · rintro ⟨i, hi, e, hb⟩
        have h1 := nodup_ids.1 hn i hi
        have h2 := nodup_ids.1 hn v c
        rw [e] at h1
        have : i = v := by omega
        rw [← this]; exact hb
      · intro hb; exact ⟨v, c, rfl, hb⟩
    show (s.contains (hs[v]).id != S hs.length) = S v
    cases hc : s.contains (hs[v]).id <;> cases ho : S hs.length <;> cases hv : S v <;> simp_all
  · have : v = hs.length := by omega
    subst this
    rw [List.getElem?_eq_none (Nat.le_refl _)]
/-- Nodes into which too much flows are a cut that contradicts. -/
theorem thrL_pos {hs : List Hd} {ms : List Mv} (h : TV hs ms) {es : List Eg} (ha : Alike es (edges hs ms)) {S : Nat → Bool} (hsh : Shut es (-1) S) (hpos : 0 < sumS es S (hs.length + 1)) {s : List Int}
    (hs' : ∀ id, id ∈ s ↔ id ∈ sideL hs S (!(S hs.length))) : 0 < thrL hs ms (if S hs.length = true then 1 else 2) s := by
  have hin : InN es (hs.length + 1) := by
    intro e he
    obtain ⟨i, hi⟩ := List.mem_iff_getElem?.1 he
    obtain ⟨f, hf, e1⟩ := alike_at ha hi
    have := edges_in h f (List.mem_of_getElem? hf)
    rw [e1] at this; exact this
  rw [sumS_cross S hin, cross_shut (fun e he => by
    obtain ⟨i, hi⟩ := List.mem_iff_getElem?.1 he
    exact hsh i e hi (by omega)), crossE_alike (fun _ => rfl) (fun _ => rfl) ha] at hpos
  rw [thrL_cross h]
  have e : decide ((if S hs.length = true then (1 : Int) else 2) = 1) = S hs.length := by cases S hs.length <;> rfl
  rw [e, crossE_congr _ _ (nodeS_side h.ids hs') (edges_in h)]
  exact hpos
end Go.Proofs.YtighfmgkoepfkaaGreat

namespace Go.Proofs.YtighfmgkoepfkaaGreat

/-! ### Ways and sets -/
theorem reach_or {es : List Eg} (hb : InB es) (but : Int) (from_ : Nat) (P : Nat → Prop) :
    (∃ l, Way es but from_ l ∧ Fresh from_ l ∧ P (wayEnd from_ l)) ∨ (∃ S : Nat → Bool, S from_ = true ∧ (∀ v, S v = true → ¬ P v) ∧ Shut es but S) := by
  classical
  by_cases hex : ∃ l, Way es but from_ l ∧ Fresh from_ l ∧ P (wayEnd from_ l)
  · exact .inl hex
  refine .inr ⟨fun v => decide (∃ l, Way es but from_ l ∧ Fresh from_ l ∧ wayEnd from_ l = v), ?_, ?_, ?_⟩
  · exact decide_eq_true ⟨[], trivial, by simp [Fresh], rfl⟩
  · intro v hv hP
    obtain ⟨l, h1, h2, h3⟩ := of_decide_eq_true hv
    exact hex ⟨l, h1, h2, h3 ▸ hP⟩
  · -- whatever a hop leads to can be reached
    have trunc : ∀ (l : List Hp) (v : Nat), Way es but from_ l → Fresh from_ l → v ∈ l.map Hp.to ++ [from_] → ∃ l', Way es but from_ l' ∧ Fresh from_ l' ∧ wayEnd from_ l' = v := by
      intro l
      induction l with
      | nil =>
        intro v _ _ h
        have : v = from_ := by simpa using h
        exact ⟨[], trivial, by simp [Fresh], this.symm⟩
      | cons g l ih =>
        intro v hw hf h
        by_cases c : v = g.to
        · exact ⟨g :: l, hw, hf, c.symm⟩
        · refine ih v hw.2 ?_ ?_
          · have hf' : (g.to :: (l.map Hp.to ++ [from_])).Nodup := hf
            exact (List.nodup_cons.1 hf').2
          · simp only [List.map_cons, List.cons_append, List.mem_cons] at h
            exact h.resolve_left c
    have ext : ∀ (l : List Hp) (u : Nat) (h : Hp), Way es but from_ l → Fresh from_ l → wayEnd from_ l = u → Res es but u h → ∃ l', Way es but from_ l' ∧ Fresh from_ l' ∧ wayEnd from_ l' = h.to := by
      intro l u h hw hf he hr
      by_cases c : h.to ∈ l.map Hp.to ++ [from_]
      · exact trunc l _ hw hf c
      · exact ⟨h :: l, ⟨he ▸ hr, hw⟩, List.nodup_cons.2 ⟨c, hf⟩, rfl⟩
    intro i e he hbut
    have hbe := hb e (List.mem_of_getElem? he)
    constructor
    · intro ha hb'
      obtain ⟨l, h1, h2, h3⟩ := of_decide_eq_true ha
      refine Classical.byContradiction fun c => ?_
      have := ext l e.a ⟨i, e.b, e.hi - e.fl, 1⟩ h1 h2 h3 ⟨hbut, e, he, by show 0 < e.hi - e.fl; omega, .inl ⟨rfl, rfl, rfl, rfl⟩⟩
      exact (of_decide_eq_false hb') this
    · intro hb' ha
      obtain ⟨l, h1, h2, h3⟩ := of_decide_eq_true hb'
      refine Classical.byContradiction fun c => ?_
      have := ext l e.b ⟨i, e.a, e.fl - e.lo, -1⟩ h1 h2 h3 ⟨hbut, e, he, by show 0 < e.fl - e.lo; omega, .inr ⟨rfl, rfl, rfl, rfl⟩⟩
      exact (of_decide_eq_false ha) this

/-! ### What is too much in all nodes -/
def tot (es : List Eg) : Nat → Nat
  | 0 => 0
  | n + 1 => tot es n + (sur es n).toNat
theorem sumS_all {es : List Eg} {N : Nat} (h : InN es N) : sumS es (fun _ => true) N = 0 := by
  rw [sumS_cross _ h]
  clear h
  induction es with
  | nil => rfl
  | cons e es ih => show _ - _ + crossE (fun _ => true) Eg.fl Eg.fl es = 0; rw [ih]; simp
theorem sumS_nonpos {es : List Eg} : ∀ N, (∀ v, v < N → sur es v ≤ 0) → sumS es (fun _ => true) N ≤ 0 ∧ (sumS es (fun _ => true) N = 0 → ∀ v, v < N → sur es v = 0)
  | 0, _ => ⟨Int.le_refl _, fun _ v hv => by omega⟩
  | n + 1, h => by
    obtain ⟨h1, h2⟩ := sumS_nonpos n fun v hv => h v (by omega)
    have h3 := h n (by omega)
    have e : sumS es (fun _ => true) (n + 1) = sumS es (fun _ => true) n + sur es n := by simp [sumS]
    rw [e]
    refine ⟨by omega, fun hz v hv => ?_⟩
    by_cases c : v = n
    · subst c; omega
    · exact h2 (by omega) v (by omega)
theorem sur_zero {es : List Eg} {N : Nat} (h : InN es N) (hle : ∀ v, v < N → sur es v ≤ 0) : ∀ v, v < N → sur es v = 0 :=
  (sumS_nonpos N hle).2 (sumS_all h)
theorem tot_push {es es' : List Eg} {a b : Nat} {m : Int} (hm : 0 < m) (hab : a ≠ b) (ha : m ≤ sur es a) (hb : m ≤ - sur es b) (hs : ∀ v, sur es' v = sur es v + (ind (b = v) m - ind (a = v) m)) :
    ∀ N, tot es' N ≤ tot es N ∧ (a < N → tot es' N < tot es N)
  | 0 => ⟨Nat.le_refl _, fun h => by omega⟩
  | n + 1 => by
    obtain ⟨h1, h2⟩ := tot_push hm hab ha hb hs n
    have h3 := hs n
    unfold ind at h3
    show tot es' n + (sur es' n).toNat ≤ tot es n + (sur es n).toNat ∧ (_ → tot es' n + (sur es' n).toNat < tot es n + (sur es n).toNat)
    by_cases c1 : b = n
    · subst c1
      rw [if_pos rfl, if_neg (by omega)] at h3
      refine ⟨by omega, fun h => ?_⟩
      have := h2 (by omega)
      omega
    · by_cases c2 : a = n
      · subst c2
        rw [if_pos rfl, if_neg c1] at h3
        exact ⟨by omega, fun _ => by omega⟩
      · rw [if_neg c1, if_neg c2] at h3
        refine ⟨by omega, fun h => ?_⟩
        have := h2 (by omega)
        omega
theorem inN_alike {es fs : List Eg} {N : Nat} (ha : Alike es fs) (h : InN fs N) : InN es N := by
  intro e he
  obtain ⟨i, hi⟩ := List.mem_iff_getElem?.1 he
  obtain ⟨f, hf, e1⟩ := alike_at ha hi
  have := h f (List.mem_of_getElem? hf)
  rw [e1] at this; exact this
theorem sumS_pos {es : List Eg} {S : Nat → Bool} {a : Nat} (ha : S a = true) (hp : 0 < sur es a) : ∀ N, (∀ v, v < N → S v = true → 0 ≤ sur es v) → 0 ≤ sumS es S N ∧ (a < N → 0 < sumS es S N)
  | 0, _ => ⟨Int.le_refl _, fun h => by omega⟩
  | n + 1, h => by
    obtain ⟨h1, h2⟩ := sumS_pos ha hp n fun v hv => h v (by omega)
    have h3 := h n (by omega)
    show 0 ≤ sumS es S n + (if S n = true then sur es n else 0) ∧ (_ → 0 < sumS es S n + (if S n = true then sur es n else 0))
    by_cases c : S n = true
    · rw [if_pos c]
      have := h3 c
      refine ⟨by omega, fun q => ?_⟩
      by_cases d : a = n
      · subst d; omega
      · have := h2 (by omega); omega
    · rw [if_neg c]
      refine ⟨by omega, fun q => ?_⟩
      have : a ≠ n := fun d => c (d ▸ ha)
      have := h2 (by omega); omega
/-- The least hop of a way. -/
def room : List Hp → Int → Int
  | [], m => m
  | h :: l, m => room l (min m h.by_)
theorem room_le : ∀ (l : List Hp) (m : Int), room l m ≤ m ∧ ∀ h ∈ l, room l m ≤ h.by_
  | [], m => ⟨Int.le_refl _, fun h hh => by cases hh⟩
  | h :: l, m => by
    obtain ⟨h1, h2⟩ := room_le l (min m h.by_)
    refine ⟨by show room l (min m h.by_) ≤ m; omega, fun x hx => ?_⟩
    show room l (min m h.by_) ≤ _
    rcases List.mem_cons.1 hx with rfl | hx
    · omega
    · exact h2 x hx
theorem room_pos {es : List Eg} {but : Int} {a : Nat} : ∀ {l : List Hp} {m : Int}, Way es but a l → 0 < m → 0 < room l m
  | [], _, _, h => h
  | h :: l, m, hw, hm => by
    obtain ⟨_, e, _, hp, _⟩ := hw.1
    exact room_pos (l := l) hw.2 (by omega)
theorem settle_pure {N : Nat} : ∀ (k : Nat) (es : List Eg), tot es N ≤ k → InB es → InN es N →
    ∃ es', Alike es' es ∧ InB es' ∧ ((∀ v, v < N → sur es' v ≤ 0) ∨ ∃ S : Nat → Bool, Shut es' (-1) S ∧ 0 < sumS es' S N) := by
  intro k
  induction k with
  | zero =>
    intro es hk hb hn
    refine ⟨es, rfl, hb, .inl fun v hv => ?_⟩
    have : ∀ N, tot es N = 0 → ∀ v, v < N → sur es v ≤ 0 := by
      intro N
      induction N with
      | zero => intro _ v hv; omega
      | succ n ih =>
        intro h v hv
        have h' : tot es n + (sur es n).toNat = 0 := h
        by_cases c : v = n
        · subst c; omega
        · exact ih (by omega) v (by omega)
    exact this N (by omega) v hv
  | succ k ih =>
    intro es hk hb hn
    by_cases hall : ∀ v, v < N → sur es v ≤ 0
    · exact ⟨es, rfl, hb, .inl hall⟩
    · obtain ⟨a, ha⟩ : ∃ a, ¬ (a < N → sur es a ≤ 0) := Classical.not_forall.1 hall
      have haN : a < N := Classical.byContradiction fun c => ha fun d => absurd d c
      have hpos : 0 < sur es a := Classical.byContradiction fun c => ha fun _ => by omega
      rcases reach_or hb (-1) a (fun v => sur es v < 0) with ⟨l, h1, h2, h3⟩ | ⟨S, h1, h2, h3⟩
      · have hm := room_pos (m := min (sur es a) (- sur es (wayEnd a l))) h1 (by omega)
        have hle := room_le l (min (sur es a) (- sur es (wayEnd a l)))
        generalize hr : room l (min (sur es a) (- sur es (wayEnd a l))) = m at hm hle
        obtain ⟨p1, p2, _⟩ := push_spec (m := m) (by omega) h1 h2 (fun h hh => hle.2 h hh) hb
        have hne : a ≠ wayEnd a l := fun c => by rw [← c] at h3; omega
        have ht := (tot_push hm hne (by omega) (by omega) p2 N).2 haN
        obtain ⟨es', q1, q2, q3⟩ := ih (pushL es l m) (by omega) p1 (inN_alike (alike_push l m es) hn)
        exact ⟨es', q1.trans (alike_push l m es), q2, q3⟩
      · exact ⟨es, rfl, hb, .inr ⟨S, h3, (sumS_pos h1 hpos N fun v _ hv => by have := h2 v hv; omega).2 haN⟩⟩

/-! ### Courses -/
def iget (l : List Int) (i : Nat) : Int := l.getD i 0
def hat (hs : List Hd) (i : Nat) : Hd := hs.getD i default
def mat (ms : List Mv) (i : Nat) : Mv := ms.getD i default
theorem hat_eq {hs : List Hd} {i : Nat} (h : i < hs.length) : hat hs i = hs[i] := by simp [hat, h]
theorem mat_eq {ms : List Mv} {i : Nat} (h : i < ms.length) : mat ms i = ms[i] := by simp [mat, h]
theorem iget_eq {l : List Int} {i : Nat} (h : i < l.length) : iget l i = l[i] := by simp [iget, h]
/-- What a holder holds behind the first movements. -/
def heldL (ms : List Mv) (ma : List Int) (id st : Int) : Nat → Int
  | 0 => st
  | k + 1 => (heldL ms ma id st k + ind ((mat ms k).to = id) (iget ma k)) - ind ((mat ms k).fr = id) (iget ma k)
def inSp (n lo hi : Int) : Bool := decide (lo ≤ n ∧ n ≤ hi)
/-- A course is one of a trade. -/
def fitsL (hs : List Hd) (ms : List Mv) (st en ma : List Int) : Bool :=
  decide (st.length = hs.length ∧ en.length = hs.length ∧ ma.length = ms.length) &&
  ((List.range hs.length).all (fun i => inSp (iget st i) (hat hs i).sl (hat hs i).sh && inSp (iget en i) (hat hs i).el (hat hs i).eh) &&
  ((List.range ms.length).all (fun k => inSp (iget ma k) (mat ms k).lo (mat ms k).hi) &&
  (List.range hs.length).all (fun i => heldL ms ma (hat hs i).id (iget st i) ms.length == iget en i)))
def Eg.set (e : Eg) (x : Int) : Eg := { e with fl := x }
/-- The net in which a course flows. -/
def flowE (hs : List Hd) (ms : List Mv) (st en ma : List Int) : List Eg :=
  hs.mapIdx (fun i h => (egS hs.length i h).set (iget st i)) ++ (hs.mapIdx (fun i h => (egE hs.length i h).set (iget en i)) ++ ms.mapIdx (fun k m => (egM hs m).set (iget ma k)))
theorem flowE_alike (hs : List Hd) (ms : List Mv) (st en ma : List Int) : Alike (flowE hs ms st en ma) (edges hs ms) := by
  unfold Alike flowE edges
  simp only [List.map_append]
  congr 1
  · apply List.ext_getElem?; intro i; simp [Function.comp_def, Eg.set, Eg.fl0]
  congr 1
  · apply List.ext_getElem?; intro i; simp [Function.comp_def, Eg.set, Eg.fl0]
  · apply List.ext_getElem?; intro i; simp [Function.comp_def, Eg.set, Eg.fl0]
theorem sur_start (N : Nat) (F : Nat → Int) (v : Nat) (hv : v < N) : ∀ (hs : List Hd) (k : Nat), sur (hs.mapIdx fun i h => (egS N (k + i) h).set (F (k + i))) v = if k ≤ v ∧ v < k + hs.length then F v else 0
  | [], k => by rw [if_neg (by simp)]; rfl
  | h :: t, k => by
    have ih := sur_start N F v hv t (k + 1)
    have e : (fun (i : Nat) (x : Hd) => (egS N (k + (i + 1)) x).set (F (k + (i + 1)))) = fun i x => (egS N (k + 1 + i) x).set (F (k + 1 + i)) := by funext i x; rw [show k + (i + 1) = k + 1 + i by omega]
    rw [List.mapIdx_cons]
    show ind (k + 0 = v) (F (k + 0)) - ind (N = v) (F (k + 0)) + sur (t.mapIdx fun i x => (egS N (k + (i + 1)) x).set (F (k + (i + 1)))) v = _
    rw [e, ih, Nat.add_zero, List.length_cons]
    unfold ind
    rw [if_neg (show ¬ N = v by omega)]
    by_cases c : k = v
    · subst c
      rw [if_pos rfl, if_neg (by omega), if_pos (by omega)]; omega
    · rw [if_neg c]
      by_cases d : k ≤ v ∧ v < k + (t.length + 1)
      · rw [if_pos d, if_pos (by omega)]; omega
      · rw [if_neg d, if_neg (by omega)]; omega
theorem sur_end (N : Nat) (F : Nat → Int) (v : Nat) (hv : v < N) : ∀ (hs : List Hd) (k : Nat), sur (hs.mapIdx fun i h => (egE N (k + i) h).set (F (k + i))) v = if k ≤ v ∧ v < k + hs.length then - F v else 0
  | [], k => by rw [if_neg (by simp)]; rfl
  | h :: t, k => by
    have ih := sur_end N F v hv t (k + 1)
    have e : (fun (i : Nat) (x : Hd) => (egE N (k + (i + 1)) x).set (F (k + (i + 1)))) = fun i x => (egE N (k + 1 + i) x).set (F (k + 1 + i)) := by funext i x; rw [show k + (i + 1) = k + 1 + i by omega]
    rw [List.mapIdx_cons]
    show ind (N = v) (F (k + 0)) - ind (k + 0 = v) (F (k + 0)) + sur (t.mapIdx fun i x => (egE N (k + (i + 1)) x).set (F (k + (i + 1)))) v = _
    rw [e, ih, Nat.add_zero, List.length_cons]
    unfold ind
    rw [if_neg (show ¬ N = v by omega)]
    by_cases c : k = v
    · subst c
      rw [if_pos rfl, if_neg (by omega), if_pos (by omega)]; omega
    · rw [if_neg c]
      by_cases d : k ≤ v ∧ v < k + (t.length + 1)
      · rw [if_pos d, if_pos (by omega)]; omega
      · rw [if_neg d, if_neg (by omega)]; omega
theorem sur_moves {hs : List Hd} {ms : List Mv} (h : TV hs ms) (ma : List Int) (v : Nat) (hv : v < hs.length) (st : Int) :
    ∀ k, k ≤ ms.length → sur ((ms.take k).mapIdx fun k m => (egM hs m).set (iget ma k)) v = heldL ms ma (hat hs v).id st k - st
  | 0, _ => by simp [sur, heldL]
  | k + 1, hk => by
    have ih := sur_moves h ma v hv st k (by omega)
    have hm : ms[k] ∈ ms := List.getElem_mem (by omega)
    have hp := h.pos hm
    have hid := nodup_ids.1 h.ids
    have key : ∀ id, posN hs id < hs.length → (posN hs id = v ↔ id = (hat hs v).id) := fun id hl => by
      rw [hat_eq hv]
      constructor
      · intro e
        have := posN_at hs id hl
        simp only [e] at this; exact this.symm
      · intro e; rw [e]; exact hid v hv
    rw [List.take_succ_eq_append_getElem (by omega), List.mapIdx_append, sur_append, ih]
    have hlen : (ms.take k).length = k := by simp; omega
    simp only [hlen, List.mapIdx_cons, List.mapIdx_nil, Nat.zero_add, sur, heldL]
    have e1 := key _ hp.1
    have e2 := key _ hp.2
    have q1 : ∀ x, ind (posN hs (ms[k]).fr = v) x = ind ((mat ms k).fr = (hat hs v).id) x := fun x => by
      unfold ind; rw [mat_eq (by omega)]; simp only [e1]
    have q2 : ∀ x, ind (posN hs (ms[k]).to = v) x = ind ((mat ms k).to = (hat hs v).id) x := fun x => by
      unfold ind; rw [mat_eq (by omega)]; simp only [e2]
    have e0 : Eg.at ((egM hs ms[k]).set (iget ma k)) v = ind (posN hs (ms[k]).to = v) (iget ma k) - ind (posN hs (ms[k]).fr = v) (iget ma k) := rfl
    rw [e0, q1, q2]; omega
theorem sur_flow {hs : List Hd} {ms : List Mv} (h : TV hs ms) (st en ma : List Int) (v : Nat) (hv : v < hs.length) :
    sur (flowE hs ms st en ma) v = heldL ms ma (hat hs v).id (iget st v) ms.length - iget en v := by
  have e1 := sur_start hs.length (iget st) v hv hs 0
  have e2 := sur_end hs.length (iget en) v hv hs 0
  have e3 := sur_moves h ma v hv (iget st v) ms.length (Nat.le_refl _)
  simp only [Nat.zero_add, Nat.zero_le, true_and, hv, if_true] at e1 e2
  rw [List.take_of_length_le (Nat.le_refl _)] at e3
  unfold flowE
  rw [sur_append, sur_append, e1, e2, e3]; omega
theorem fitsL_iff {hs : List Hd} {ms : List Mv} (h : TV hs ms) {st en ma : List Int} (hst : st.length = hs.length) (hen : en.length = hs.length) (hma : ma.length = ms.length) :
    fitsL hs ms st en ma = true ↔ InB (flowE hs ms st en ma) ∧ ∀ v, v < hs.length → sur (flowE hs ms st en ma) v = 0 := by
  unfold fitsL
  simp only [hst, hen, hma, and_self, decide_true, Bool.true_and, Bool.and_eq_true, List.all_eq_true, List.mem_range, beq_iff_eq]
  have hsur : (∀ v, v < hs.length → sur (flowE hs ms st en ma) v = 0) ↔ ∀ i, i < hs.length → heldL ms ma (hat hs i).id (iget st i) ms.length = iget en i := by
    constructor
    · intro q i hi; have := q i hi; rw [sur_flow h st en ma i hi] at this; omega
    · intro q i hi; rw [sur_flow h st en ma i hi]; have := q i hi; omega
  rw [hsur, ← and_assoc]
  refine and_congr ?_ Iff.rfl
  unfold InB flowE inSp
  simp only [List.mem_append, List.mem_mapIdx, decide_eq_true_eq]
  constructor
  · rintro ⟨a, b⟩ e (⟨i, hi, rfl⟩ | ⟨i, hi, rfl⟩ | ⟨k, hk, rfl⟩)
    · have := (a i hi).1; rw [hat_eq hi] at this; exact this
    · have := (a i hi).2; rw [hat_eq hi] at this; exact this
    · have := b k hk; rw [mat_eq hk] at this; exact this
  · intro q
    refine ⟨fun i hi => ⟨?_, ?_⟩, fun k hk => ?_⟩
    · rw [hat_eq hi]; exact q _ (.inl ⟨i, hi, rfl⟩)
    · rw [hat_eq hi]; exact q _ (.inr (.inl ⟨i, hi, rfl⟩))
    · rw [mat_eq hk]; exact q _ (.inr (.inr ⟨k, hk, rfl⟩))
def stOf (hs : List Hd) (es : List Eg) : List Int := (es.take hs.length).map Eg.fl
def enOf (hs : List Hd) (es : List Eg) : List Int := ((es.drop hs.length).take hs.length).map Eg.fl
def maOf (hs : List Hd) (es : List Eg) : List Int := (es.drop (2 * hs.length)).map Eg.fl
theorem net_flow {hs : List Hd} {ms : List Mv} {es : List Eg} (ha : Alike es (edges hs ms)) : es = flowE hs ms (stOf hs es) (enOf hs es) (maOf hs es) := by
  have hl := alike_len ha
  rw [edges_len] at hl
  have hl2 : (flowE hs ms (stOf hs es) (enOf hs es) (maOf hs es)).length = es.length := by rw [alike_len (flowE_alike hs ms _ _ _), edges_len, hl]
  apply List.ext_getElem?
  intro i
  by_cases hi : i < es.length
  · have h1 := List.getElem?_eq_getElem hi
    obtain ⟨f, hf, e1⟩ := alike_at (ha.trans (flowE_alike hs ms (stOf hs es) (enOf hs es) (maOf hs es)).symm) h1
    rw [h1, hf, e1]
    congr 1
    have : f.fl = (es[i]).fl := by
      unfold flowE at hf
      by_cases c1 : i < hs.length
      · rw [List.getElem?_append_left (by simpa using c1)] at hf
        rw [List.getElem?_mapIdx, List.getElem?_eq_getElem c1] at hf
        have hf : (egS hs.length i hs[i]).set (iget (stOf hs es) i) = f := by simpa using hf
        rw [← hf]
        show iget (stOf hs es) i = _
        simp [iget, stOf, c1, h1]
      · rw [List.getElem?_append_right (by simpa using c1)] at hf
        simp only [List.length_mapIdx] at hf
        by_cases c2 : i < 2 * hs.length
        · rw [List.getElem?_append_left (by simp; omega), List.getElem?_mapIdx, List.getElem?_eq_getElem (by omega)] at hf
          have hf : (egE hs.length (i - hs.length) hs[i - hs.length]).set (iget (enOf hs es) (i - hs.length)) = f := by simpa using hf
          rw [← hf]
          show iget (enOf hs es) (i - hs.length) = _
          have : hs.length + (i - hs.length) = i := by omega
          simp [iget, enOf, this, h1, show i - hs.length < hs.length by omega]
        · rw [List.getElem?_append_right (by simp; omega)] at hf
          simp only [List.length_mapIdx] at hf
          rw [List.getElem?_mapIdx, List.getElem?_eq_getElem (by omega)] at hf
          have hf : (egM hs ms[i - hs.length - hs.length]).set (iget (maOf hs es) (i - hs.length - hs.length)) = f := by simpa using hf
          rw [← hf]
          show iget (maOf hs es) (i - hs.length - hs.length) = _
          have : 2 * hs.length + (i - hs.length - hs.length) = i := by omega
          simp [iget, maOf, this, h1]
    rw [this]
  · rw [List.getElem?_eq_none (by omega), List.getElem?_eq_none (by omega)]
theorem of_lens {hs : List Hd} {ms : List Mv} {es : List Eg} (ha : Alike es (edges hs ms)) : (stOf hs es).length = hs.length ∧ (enOf hs es).length = hs.length ∧ (maOf hs es).length = ms.length := by
  have hl := alike_len ha
  rw [edges_len] at hl
  simp [stOf, enOf, maOf]; omega
theorem fits_net {hs : List Hd} {ms : List Mv} (h : TV hs ms) {es : List Eg} (ha : Alike es (edges hs ms)) (hb : InB es) (hz : ∀ v, v < hs.length → sur es v = 0) : fitsL hs ms (stOf hs es) (enOf hs es) (maOf hs es) = true := by
  obtain ⟨h1, h2, h3⟩ := of_lens ha
  rw [fitsL_iff h h1 h2 h3, ← net_flow ha]
  exact ⟨hb, hz⟩

/-! ### No cut contradicts -/
/-- The IDs of the holders whose bits a number has. -/
def chosenL : List Hd → Nat → List Int
  | [], _ => []
  | h :: t, s => if s % 2 = 1 then h.id :: chosenL t (s / 2) else chosenL t (s / 2)
def okCut (hs : List Hd) (ms : List Mv) (s : List Int) : Bool := decide (outLo hs ms s ≤ inHi hs ms s ∧ inLo hs ms s ≤ outHi hs ms s)
/-- A trade has a course: no cut contradicts. -/
def agrL (hs : List Hd) (ms : List Mv) : Bool := (List.range (2 ^ hs.length - 1)).all fun k => okCut hs ms (chosenL hs (k + 1))
theorem mem_chosen : ∀ (hs : List Hd) (s : Nat) (id : Int), id ∈ chosenL hs s ↔ ∃ (i : Nat) (h : i < hs.length), (hs[i]).id = id ∧ s.testBit i = true
  | [], s, id => by simp [chosenL]
  | x :: t, s, id => by
    have ih := mem_chosen t (s / 2) id
    have h0 : s.testBit 0 = decide (s % 2 = 1) := Nat.testBit_zero s
    have hsucc : ∀ i, s.testBit (i + 1) = (s / 2).testBit i := fun i => Nat.testBit_succ s i
    have key : (∃ (i : Nat) (h : i < (x :: t).length), ((x :: t)[i]).id = id ∧ s.testBit i = true) ↔ (x.id = id ∧ s % 2 = 1) ∨ ∃ (i : Nat) (h : i < t.length), (t[i]).id = id ∧ (s / 2).testBit i = true := by
      constructor
      · rintro ⟨i, h, e, b⟩
        cases i with
        | zero => exact .inl ⟨e, by rw [h0] at b; simpa using b⟩
        | succ i => exact .inr ⟨i, by simpa using h, e, by rw [hsucc] at b; exact b⟩
      · rintro (⟨e, b⟩ | ⟨i, h, e, b⟩)
        · exact ⟨0, by simp, e, by rw [h0]; simpa using b⟩
        · exact ⟨i + 1, by simpa using h, e, by rw [hsucc]; exact b⟩
    rw [key, ← ih]
    have un : chosenL (x :: t) s = if s % 2 = 1 then x.id :: chosenL t (s / 2) else chosenL t (s / 2) := by rw [chosenL]
    rw [un]
    split
    · rename_i c; rw [List.mem_cons]; constructor
      · rintro (rfl | h)
        · exact .inl ⟨rfl, c⟩
        · exact .inr h
      · rintro (⟨rfl, _⟩ | h)
        · exact .inl rfl
        · exact .inr h
    · rename_i c; constructor
      · intro h; exact .inr h
      · rintro (⟨_, d⟩ | h)
        · exact absurd d c
        · exact h
theorem bits_of (P : Nat → Bool) : ∀ n, ∃ s, s < 2 ^ n ∧ ∀ i, i < n → s.testBit i = P i
  | 0 => ⟨0, by simp, fun i h => by omega⟩
  | n + 1 => by
    obtain ⟨s, h1, h2⟩ := bits_of P n
    by_cases c : P n = true
    · refine ⟨2 ^ n + s, by rw [Nat.pow_succ]; omega, fun i hi => ?_⟩
      by_cases d : i = n
      · subst d; rw [Nat.testBit_two_pow_add_eq, Nat.testBit_lt_two_pow h1, c]; rfl
      · rw [Nat.testBit_two_pow_add_gt (by omega)]; exact h2 i (by omega)
    · refine ⟨s, by rw [Nat.pow_succ]; omega, fun i hi => ?_⟩
      by_cases d : i = n
      · subst d; rw [Nat.testBit_lt_two_pow h1]; simp at c; exact c.symm
      · exact h2 i (by omega)
theorem contains_congr {s s' : List Int} (h : ∀ id, id ∈ s ↔ id ∈ s') (id : Int) : s.contains id = s'.contains id := by
  rw [Bool.eq_iff_iff, List.contains_iff_mem, List.contains_iff_mem, h]
theorem hsum_congr {s s' : List Int} (h : ∀ id, id ∈ s ↔ id ∈ s') (f : Hd → Int) (hs : List Hd) : hsum s f hs = hsum s' f hs := by
  unfold hsum; simp only [contains_congr h]
theorem msum_congr {s s' : List Int} (h : ∀ id, id ∈ s ↔ id ∈ s') (o : Bool) (f : Mv → Int) (ms : List Mv) : msum s o f ms = msum s' o f ms := by
  unfold msum; simp only [contains_congr h]
theorem okCut_congr {hs : List Hd} {ms : List Mv} {s s' : List Int} (h : ∀ id, id ∈ s ↔ id ∈ s') : okCut hs ms s = okCut hs ms s' := by
  unfold okCut outLo inHi inLo outHi
  simp only [hsum_congr h, msum_congr h]
theorem okCut_nil {hs : List Hd} {ms : List Mv} : okCut hs ms [] = true := by
  have h1 : ∀ (f : Hd → Int) (hs : List Hd), hsum [] f hs = 0 := fun f hs => by
    induction hs with
    | nil => rfl
    | cons h t ih => show 0 + hsum [] f t = 0; rw [ih]; rfl
  have h2 : ∀ (o : Bool) (f : Mv → Int) (ms : List Mv), msum [] o f ms = 0 := fun o f ms => by
    induction ms with
    | nil => rfl
    | cons m t ih => show (if _ then _ else _) + msum [] o f t = 0; rw [ih]; cases o <;> simp
  unfold okCut outLo inHi inLo outHi
  simp [h1, h2]
/-- No set of holders contradicts. -/
theorem agrL_iff {hs : List Hd} {ms : List Mv} : agrL hs ms = true ↔ ∀ S : Nat → Bool, ∀ b, okCut hs ms (sideL hs S b) = true := by
  unfold agrL
  simp only [List.all_eq_true, List.mem_range]
  constructor
  · intro h S b
    obtain ⟨s, h1, h2⟩ := bits_of (fun i => S i == b) hs.length
    have e : ∀ id, id ∈ sideL hs S b ↔ id ∈ chosenL hs s := fun id => by
      rw [mem_sideL, mem_chosen]
      constructor
      · rintro ⟨i, hi, e, q⟩; exact ⟨i, hi, e, by rw [h2 i hi]; simpa using q⟩
      · rintro ⟨i, hi, e, q⟩; exact ⟨i, hi, e, by rw [h2 i hi] at q; simpa using q⟩
    rw [okCut_congr e]
    by_cases c : s = 0
    · subst c
      have : ∀ (hs : List Hd), chosenL hs 0 = [] := fun hs => by
        induction hs with
        | nil => rfl
        | cons h t ih => unfold chosenL; simpa using ih
      rw [this]; exact okCut_nil
    · have := h (s - 1) (by omega)
      rw [show s - 1 + 1 = s by omega] at this; exact this
  · intro h k hk
    have e : ∀ id, id ∈ chosenL hs (k + 1) ↔ id ∈ sideL hs (fun i => (k + 1).testBit i) true := fun id => by rw [mem_sideL, mem_chosen]
    rw [okCut_congr e]; exact h _ _
/-- With a course no cut contradicts. -/
theorem thrL_le {hs : List Hd} {ms : List Mv} (h : TV hs ms) {st en ma : List Int} (hf : fitsL hs ms st en ma = true) (way : Int) (s : List Int) : thrL hs ms way s ≤ 0 := by
  have hf0 := hf
  unfold fitsL at hf
  rw [Bool.and_eq_true, decide_eq_true_eq] at hf
  obtain ⟨⟨h1, h2, h3⟩, _⟩ := hf
  obtain ⟨hb, hz⟩ := (fitsL_iff h h1 h2 h3).1 hf0
  have ha := flowE_alike hs ms st en ma
  have hin := inN_alike ha (edges_in h)
  rw [thrL_cross h, ← crossE_alike (fun _ => rfl) (fun _ => rfl) ha]
  refine Int.le_trans (cross_le hb) ?_
  rw [← sumS_cross _ hin]
  have hN : sur (flowE hs ms st en ma) hs.length = 0 := by
    have := sumS_all hin
    have k : ∀ n, n ≤ hs.length → sumS (flowE hs ms st en ma) (fun _ => true) n = 0 := fun n => by
      induction n with
      | zero => intro _; rfl
      | succ n ih => intro hn; simp only [sumS, if_true]; rw [ih (by omega), hz n (by omega)]; rfl
    simp only [sumS, if_true] at this
    rw [k _ (Nat.le_refl _)] at this
    omega
  have k : ∀ S : Nat → Bool, ∀ n, n ≤ hs.length + 1 → sumS (flowE hs ms st en ma) S n = 0 := fun S n => by
    induction n with
    | zero => intro _; rfl
    | succ n ih =>
      intro hn
      simp only [sumS]
      rw [ih (by omega)]
      by_cases c : n = hs.length
      · rw [c, hN]; simp
      · rw [hz n (by omega)]; simp
  rw [k _ _ (Nat.le_refl _)]; exact Int.le_refl _
theorem okCut_iff {hs : List Hd} {ms : List Mv} {s : List Int} : okCut hs ms s = true ↔ thrL hs ms 1 s ≤ 0 ∧ thrL hs ms 2 s ≤ 0 := by
  unfold okCut thrL
  rw [decide_eq_true_eq, if_pos rfl, if_neg (by decide)]
  omega
/-- A trade has a course exactly if no cut contradicts it. -/
theorem agrL_course {hs : List Hd} {ms : List Mv} (h : TV hs ms) : agrL hs ms = true ↔ ∃ st en ma, fitsL hs ms st en ma = true := by
  constructor
  · intro ha
    rw [agrL_iff] at ha
    obtain ⟨es, q1, q2, q3⟩ := settle_pure (N := hs.length + 1) _ (edges hs ms) (Nat.le_refl _) (edges_inb h) (edges_in h)
    rcases q3 with q3 | ⟨S, q4, q5⟩
    · have hz := sur_zero (inN_alike q1 (edges_in h)) q3
      exact ⟨_, _, _, fits_net h q1 q2 fun v hv => hz v (by omega)⟩
    · have hp := thrL_pos h q1 q4 q5 (s := sideL hs S (!(S hs.length))) (fun _ => Iff.rfl)
      have := okCut_iff.1 (ha S (!(S hs.length)))
      cases hS : S hs.length <;> rw [hS] at hp this <;> simp at hp this <;> omega
  · rintro ⟨st, en, ma, hf⟩
    rw [agrL_iff]
    intro S b
    exact okCut_iff.2 ⟨thrL_le h hf 1 _, thrL_le h hf 2 _⟩
end Go.Proofs.YtighfmgkoepfkaaGreat

namespace Go.Proofs.YtighfmgkoepfkaaGreat

/-- The first number from lo on, within n steps, of which P says so. -/
def leastP (P : Int → Bool) : Int → Nat → Int
  | lo, 0 => lo
  | lo, n + 1 => if P lo = true then lo else leastP P (lo + 1) n
def mostP (P : Int → Bool) : Int → Nat → Int
  | hi, 0 => hi
  | hi, n + 1 => if P hi = true then hi else mostP P (hi - 1) n
theorem leastP_eq {P : Int → Bool} {v : Int} (hv : P v = true) : ∀ (n : Nat) (lo : Int), lo ≤ v → v ≤ lo + n → (∀ u, lo ≤ u → u < v → P u = false) → leastP P lo n = v
  | 0, lo, h1, h2, _ => by show lo = v; omega
  | n + 1, lo, h1, h2, h3 => by
    unfold leastP
    by_cases c : lo = v
    · subst c; rw [if_pos hv]
    · rw [h3 lo (Int.le_refl _) (by omega), if_neg (by decide)]
      exact leastP_eq hv n (lo + 1) (by omega) (by omega) fun u a b => h3 u (by omega) b
theorem mostP_eq {P : Int → Bool} {v : Int} (hv : P v = true) : ∀ (n : Nat) (hi : Int), v ≤ hi → hi ≤ v + n → (∀ u, v < u → u ≤ hi → P u = false) → mostP P hi n = v
  | 0, hi, h1, h2, _ => by show hi = v; omega
  | n + 1, hi, h1, h2, h3 => by
    unfold mostP
    by_cases c : hi = v
    · subst c; rw [if_pos hv]
    · rw [h3 hi (by omega) (Int.le_refl _), if_neg (by decide)]
      exact mostP_eq hv n (hi - 1) (by omega) (by omega) fun u a b => h3 u a (by omega)

/-! ### Something of a trade: an index of its net -/
def posM : List Mv → Int → Nat
  | [], _ => 0
  | m :: t, id => if m.id = id then 0 else posM t id + 1
theorem posM_le : ∀ (ms : List Mv) (id : Int), posM ms id ≤ ms.length
  | [], _ => Nat.le_refl _
  | m :: t, id => by
    unfold posM
    split
    · exact Nat.zero_le _
    · exact Nat.succ_le_succ (posM_le t id)
theorem posM_at : ∀ (ms : List Mv) (id : Int) (h : posM ms id < ms.length), (ms[posM ms id]).id = id
  | [], _, h => by cases h
  | x :: t, id, h => by
    by_cases c : x.id = id
    · have : posM (x :: t) id = 0 := by unfold posM; rw [if_pos c]
      simp only [this]; exact c
    · have e : posM (x :: t) id = posM t id + 1 := by rw [posM, if_neg c]
      have h2 : posM t id < t.length := by rw [e] at h; simpa using h
      simp only [e]; exact posM_at t id h2
theorem posM_first : ∀ (ms : List Mv) (id : Int) (i : Nat) (h : i < ms.length), (ms[i]).id = id → posM ms id ≤ i
  | [], _, _, h, _ => by cases h
  | x :: t, id, 0, _, e => by
    have e : x.id = id := e
    unfold posM; rw [if_pos e]; exact Nat.le_refl _
  | x :: t, id, i + 1, h, e => by
    unfold posM
    split
    · omega
    · exact Nat.succ_le_succ (posM_first t id i (by simpa using h) e)
theorem posM_of {ms : List Mv} (hn : (ms.map Mv.id).Nodup) (i : Nat) (h : i < ms.length) : posM ms (ms[i]).id = i := by
  have h1 := posM_first ms (ms[i]).id i h rfl
  have h2 : posM ms (ms[i]).id < ms.length := by omega
  have h3 := posM_at ms (ms[i]).id h2
  exact (List.getElem_inj (xs := ms.map Mv.id) (h₀ := by simpa using h2) (h₁ := by simpa using h) hn).1 (by simpa using h3)
/-- The error of something: of a kind (1 mass, 2 start, 3 end) and an ID. -/
def placeE (hs : List Hd) (ms : List Mv) (kind id : Int) : Int :=
  if kind = 1 then (if posM ms id < ms.length then 0 else 5) else if kind = 2 ∨ kind = 3 then (if posN hs id < hs.length then 0 else 5) else 1
def placeN (hs : List Hd) (ms : List Mv) (kind id : Int) : Nat :=
  if kind = 1 then 2 * hs.length + posM ms id else if kind = 2 then posN hs id else hs.length + posN hs id
theorem placeN_lt {hs : List Hd} {ms : List Mv} {kind id : Int} (h : placeE hs ms kind id = 0) : placeN hs ms kind id < 2 * hs.length + ms.length := by
  unfold placeE at h
  unfold placeN
  split at h
  · split at h
    · rename_i a b; rw [if_pos a]; omega
    · cases h
  · rename_i a
    rw [if_neg a]
    split at h
    · split at h
      · split <;> omega
      · cases h
    · cases h
def spanLo (hs : List Hd) (ms : List Mv) (at_ : Nat) : Int := if at_ < hs.length then (hat hs at_).sl else if at_ < 2 * hs.length then (hat hs (at_ - hs.length)).el else (mat ms (at_ - 2 * hs.length)).lo
def spanHi (hs : List Hd) (ms : List Mv) (at_ : Nat) : Int := if at_ < hs.length then (hat hs at_).sh else if at_ < 2 * hs.length then (hat hs (at_ - hs.length)).eh else (mat ms (at_ - 2 * hs.length)).hi
def setS (lo hi : Int) (h : Hd) : Hd := { h with sl := lo, sh := hi }
def setE (lo hi : Int) (h : Hd) : Hd := { h with el := lo, eh := hi }
def setM (lo hi : Int) (m : Mv) : Mv := { m with lo := lo, hi := hi }
def putH (hs : List Hd) (at_ : Nat) (lo hi : Int) : List Hd := if at_ < hs.length then hs.modify at_ (setS lo hi) else if at_ < 2 * hs.length then hs.modify (at_ - hs.length) (setE lo hi) else hs
def putM (hs : List Hd) (ms : List Mv) (at_ : Nat) (lo hi : Int) : List Mv := if at_ < 2 * hs.length then ms else ms.modify (at_ - 2 * hs.length) (setM lo hi)
def valAt (st en ma : List Int) (at_ : Nat) : Int := iget (st ++ (en ++ ma)) at_
theorem putH_len (hs : List Hd) (at_ : Nat) (lo hi : Int) : (putH hs at_ lo hi).length = hs.length := by unfold putH; split <;> (try split) <;> simp
theorem putM_len (hs : List Hd) (ms : List Mv) (at_ : Nat) (lo hi : Int) : (putM hs ms at_ lo hi).length = ms.length := by unfold putM; split <;> simp
theorem putH_at (hs : List Hd) (at_ : Nat) (lo hi : Int) (i : Nat) (hi' : i < hs.length) : hat (putH hs at_ lo hi) i = if at_ = i then setS lo hi (hat hs i) else if at_ = hs.length + i then setE lo hi (hat hs i) else hat hs i := by
  have key : ∀ (f : Hd → Hd) (k : Nat), hat (hs.modify k f) i = if k = i then f (hat hs i) else hat hs i := fun f k => by
    unfold hat
    rw [List.getD_eq_getElem?_getD, List.getElem?_modify, List.getElem?_eq_getElem hi', List.getD_eq_getElem?_getD, List.getElem?_eq_getElem hi']
    by_cases c : k = i <;> simp [c]
  unfold putH
  split
  · rename_i c; rw [key]
    by_cases d : at_ = i
    · rw [if_pos d, if_pos d]
    · rw [if_neg d, if_neg d, if_neg (by omega)]
  · rename_i c
    rw [if_neg (show ¬ at_ = i by omega)]
    split
    · rename_i d; rw [key]
      by_cases e : at_ = hs.length + i
      · rw [if_pos (by omega), if_pos e]
      · rw [if_neg (by omega), if_neg e]
    · rw [if_neg (by omega)]
theorem putM_at (hs : List Hd) (ms : List Mv) (at_ : Nat) (lo hi : Int) (k : Nat) (hk : k < ms.length) : mat (putM hs ms at_ lo hi) k = if at_ = 2 * hs.length + k then setM lo hi (mat ms k) else mat ms k := by
  unfold putM
  split
  · rw [if_neg (by omega)]
  · unfold mat
    rw [List.getD_eq_getElem?_getD, List.getElem?_modify, List.getElem?_eq_getElem hk, List.getD_eq_getElem?_getD, List.getElem?_eq_getElem hk]
    by_cases c : at_ = 2 * hs.length + k
    · rw [if_pos c]; simp [show at_ - 2 * hs.length = k by omega]
    · rw [if_neg c]; simp [show ¬ at_ - 2 * hs.length = k by omega]
theorem heldL_congr {ms ms' : List Mv} (h : ∀ k, k < ms.length → (mat ms' k).fr = (mat ms k).fr ∧ (mat ms' k).to = (mat ms k).to) (ma : List Int) (id st : Int) : ∀ k, k ≤ ms.length → heldL ms' ma id st k = heldL ms ma id st k
  | 0, _ => rfl
  | k + 1, hk => by
    unfold heldL
    rw [heldL_congr h ma id st k (by omega), (h k (by omega)).1, (h k (by omega)).2]
theorem fitsL_prop {hs : List Hd} {ms : List Mv} {st en ma : List Int} : fitsL hs ms st en ma = true ↔ (st.length = hs.length ∧ en.length = hs.length ∧ ma.length = ms.length) ∧
    (∀ i, i < hs.length → ((hat hs i).sl ≤ iget st i ∧ iget st i ≤ (hat hs i).sh) ∧ (hat hs i).el ≤ iget en i ∧ iget en i ≤ (hat hs i).eh) ∧
    (∀ k, k < ms.length → (mat ms k).lo ≤ iget ma k ∧ iget ma k ≤ (mat ms k).hi) ∧ ∀ i, i < hs.length → heldL ms ma (hat hs i).id (iget st i) ms.length = iget en i := by
  unfold fitsL inSp
  simp only [Bool.and_eq_true, decide_eq_true_eq, List.all_eq_true, List.mem_range, beq_iff_eq]
theorem valAt_pos {hs : List Hd} {st en ma : List Int} (h1 : st.length = hs.length) (h2 : en.length = hs.length) (at_ : Nat) :
    valAt st en ma at_ = if at_ < hs.length then iget st at_ else if at_ < 2 * hs.length then iget en (at_ - hs.length) else iget ma (at_ - 2 * hs.length) := by
  unfold valAt iget
  rw [List.getD_eq_getElem?_getD]
  by_cases c : at_ < hs.length
  · rw [if_pos c, List.getElem?_append_left (by omega), List.getD_eq_getElem?_getD]
  · rw [if_neg c, List.getElem?_append_right (by omega)]
    by_cases d : at_ < 2 * hs.length
    · rw [if_pos d, List.getElem?_append_left (by omega), List.getD_eq_getElem?_getD, h1]
    · rw [if_neg d, List.getElem?_append_right (by omega), List.getD_eq_getElem?_getD, h1, h2, show at_ - hs.length - hs.length = at_ - 2 * hs.length by omega]
/-- The courses of a trade with another span for something are those of the trade that are within it, if the span is within the old one. -/
theorem fits_put {hs : List Hd} {ms : List Mv} {at_ : Nat} (hat' : at_ < 2 * hs.length + ms.length) {lo hi : Int} (h1 : spanLo hs ms at_ ≤ lo) (h2 : hi ≤ spanHi hs ms at_) {st en ma : List Int} :
    fitsL (putH hs at_ lo hi) (putM hs ms at_ lo hi) st en ma = true ↔ fitsL hs ms st en ma = true ∧ lo ≤ valAt st en ma at_ ∧ valAt st en ma at_ ≤ hi := by
  rw [fitsL_prop, fitsL_prop, putH_len, putM_len]
  by_cases hl : st.length = hs.length ∧ en.length = hs.length ∧ ma.length = ms.length
  case neg => constructor <;> intro h
              · exact absurd h.1 hl
              · exact absurd h.1.1 hl
  obtain ⟨l1, l2, l3⟩ := hl
  rw [valAt_pos l1 l2]
  unfold spanLo at h1
  unfold spanHi at h2
  have hH : ∀ i, i < hs.length → (hat (putH hs at_ lo hi) i).id = (hat hs i).id := fun i q => by
    rw [putH_at _ _ _ _ _ q]; split <;> (try split) <;> rfl
  have hHeld : (∀ i, i < hs.length → heldL (putM hs ms at_ lo hi) ma (hat (putH hs at_ lo hi) i).id (iget st i) ms.length = iget en i) ↔ ∀ i, i < hs.length → heldL ms ma (hat hs i).id (iget st i) ms.length = iget en i := by
    have e : ∀ i, i < hs.length → heldL (putM hs ms at_ lo hi) ma (hat (putH hs at_ lo hi) i).id (iget st i) ms.length = heldL ms ma (hat hs i).id (iget st i) ms.length := fun i q => by
      rw [hH i q]
      exact heldL_congr (fun k hk => by rw [putM_at _ _ _ _ _ _ hk]; split <;> exact ⟨rfl, rfl⟩) ma _ _ _ (Nat.le_refl _)
    constructor
    · intro g i q; rw [← e i q]; exact g i q
    · intro g i q; rw [e i q]; exact g i q
  rw [hHeld]
  constructor
  · rintro ⟨_, a, b, c⟩
    have a' : ∀ i, i < hs.length → ((hat hs i).sl ≤ iget st i ∧ iget st i ≤ (hat hs i).sh) ∧ (hat hs i).el ≤ iget en i ∧ iget en i ≤ (hat hs i).eh := fun i q => by
      have := a i q
      rw [putH_at _ _ _ _ _ q] at this
      by_cases c1 : at_ = i
      · rw [if_pos c1] at this; subst c1
        rw [if_pos q] at h1 h2
        simp only [setS] at this
        exact ⟨⟨by omega, by omega⟩, this.2⟩
      · rw [if_neg c1] at this
        by_cases c2 : at_ = hs.length + i
        · rw [if_pos c2] at this; subst c2
          rw [if_neg (by omega), if_pos (by omega), show hs.length + i - hs.length = i by omega] at h1 h2
          simp only [setE] at this
          exact ⟨this.1, by omega, by omega⟩
        · rw [if_neg c2] at this; exact this
    have b' : ∀ k, k < ms.length → (mat ms k).lo ≤ iget ma k ∧ iget ma k ≤ (mat ms k).hi := fun k q => by
      have := b k q
      rw [putM_at _ _ _ _ _ _ q] at this
      by_cases c1 : at_ = 2 * hs.length + k
      · rw [if_pos c1] at this; subst c1
        rw [if_neg (by omega), if_neg (by omega), show 2 * hs.length + k - 2 * hs.length = k by omega] at h1 h2
        simp only [setM] at this
        omega
      · rw [if_neg c1] at this; exact this
    refine ⟨⟨⟨l1, l2, l3⟩, a', b', c⟩, ?_⟩
    by_cases c1 : at_ < hs.length
    · have := a at_ c1
      rw [putH_at _ _ _ _ _ c1, if_pos rfl] at this
      rw [if_pos c1]; exact this.1
    · by_cases c2 : at_ < 2 * hs.length
      · have := a (at_ - hs.length) (by omega)
        rw [putH_at _ _ _ _ _ (by omega), if_neg (by omega), if_pos (by omega)] at this
        rw [if_neg c1, if_pos c2]; exact this.2
      · have := b (at_ - 2 * hs.length) (by omega)
        rw [putM_at _ _ _ _ _ _ (by omega), if_pos (by omega)] at this
        rw [if_neg c1, if_neg c2]; exact this
  · rintro ⟨⟨_, a, b, c⟩, d⟩
    refine ⟨⟨l1, l2, l3⟩, fun i q => ?_, fun k q => ?_, c⟩
    · rw [putH_at _ _ _ _ _ q]
      have := a i q
      by_cases c1 : at_ = i
      · subst c1
        rw [if_pos q] at d
        rw [if_pos rfl]; exact ⟨d, this.2⟩
      · rw [if_neg c1]
        by_cases c2 : at_ = hs.length + i
        · subst c2
          rw [if_neg (by omega), if_pos (by omega), show hs.length + i - hs.length = i by omega] at d
          rw [if_pos rfl]; exact ⟨this.1, d⟩
        · rw [if_neg c2]; exact this
    · rw [putM_at _ _ _ _ _ _ q]
      by_cases c1 : at_ = 2 * hs.length + k
      · subst c1
        rw [if_neg (by omega), if_neg (by omega), show 2 * hs.length + k - 2 * hs.length = k by omega] at d
        rw [if_pos rfl]; exact d
      · rw [if_neg c1]; exact b k q
theorem span_ok {hs : List Hd} {ms : List Mv} (h : TV hs ms) {at_ : Nat} (hat' : at_ < 2 * hs.length + ms.length) : 0 ≤ spanLo hs ms at_ ∧ spanLo hs ms at_ ≤ spanHi hs ms at_ ∧ spanHi hs ms at_ ≤ 65536 := by
  have kh : ∀ i, i < hs.length → okSp (hat hs i).sl (hat hs i).sh = true ∧ okSp (hat hs i).el (hat hs i).eh = true := fun i q => by
    have := h.hd _ (List.getElem_mem q)
    rw [← hat_eq q] at this
    simp only [okHd, Bool.and_eq_true] at this
    exact ⟨this.1.1.2, this.1.2⟩
  have km : ∀ k, k < ms.length → okSp (mat ms k).lo (mat ms k).hi = true := fun k q => by
    have := (h.mv _ (List.getElem_mem q)).2.1
    rw [← mat_eq q] at this; exact this
  have key : ∀ lo hi : Int, okSp lo hi = true → 0 ≤ lo ∧ lo ≤ hi ∧ hi ≤ 65536 := fun lo hi q => by simpa [okSp] using q
  unfold spanLo spanHi
  by_cases c1 : at_ < hs.length
  · rw [if_pos c1, if_pos c1]; exact key _ _ (kh _ c1).1
  · rw [if_neg c1, if_neg c1]
    by_cases c2 : at_ < 2 * hs.length
    · rw [if_pos c2, if_pos c2]; exact key _ _ (kh _ (by omega)).2
    · rw [if_neg c2, if_neg c2]; exact key _ _ (km _ (by omega))
theorem fits_val {hs : List Hd} {ms : List Mv} {st en ma : List Int} (hf : fitsL hs ms st en ma = true) {at_ : Nat} (hat' : at_ < 2 * hs.length + ms.length) : spanLo hs ms at_ ≤ valAt st en ma at_ ∧ valAt st en ma at_ ≤ spanHi hs ms at_ := by
  obtain ⟨⟨l1, l2, l3⟩, a, b, _⟩ := fitsL_prop.1 hf
  rw [valAt_pos l1 l2]
  unfold spanLo spanHi
  by_cases c1 : at_ < hs.length
  · rw [if_pos c1, if_pos c1, if_pos c1]; exact (a _ c1).1
  · rw [if_neg c1, if_neg c1, if_neg c1]
    by_cases c2 : at_ < 2 * hs.length
    · rw [if_pos c2, if_pos c2, if_pos c2]; exact (a _ (by omega)).2
    · rw [if_neg c2, if_neg c2, if_neg c2]; exact b _ (by omega)
theorem put_ids (hs : List Hd) (at_ : Nat) (lo hi : Int) : (putH hs at_ lo hi).map Hd.id = hs.map Hd.id := by
  have key : ∀ (f : Hd → Hd) (k : Nat), (∀ x, (f x).id = x.id) → (hs.modify k f).map Hd.id = hs.map Hd.id := fun f k hf => by
    apply List.ext_getElem?
    intro i
    rw [List.getElem?_map, List.getElem?_modify, List.getElem?_map]
    cases hs[i]? with
    | none => rfl
    | some x => by_cases c : k = i <;> simp [c, hf]
  unfold putH
  split
  · exact key _ _ fun _ => rfl
  · split
    · exact key _ _ fun _ => rfl
    · rfl
theorem mem_putH {hs : List Hd} {at_ : Nat} {lo hi : Int} {x : Hd} (h : x ∈ putH hs at_ lo hi) : x ∈ hs ∨ ∃ y ∈ hs, x = setS lo hi y ∨ x = setE lo hi y := by
  obtain ⟨i, q, rfl⟩ := List.getElem_of_mem h
  rw [putH_len] at q
  have e : (putH hs at_ lo hi)[i] = hat (putH hs at_ lo hi) i := (hat_eq (by rw [putH_len]; exact q)).symm
  rw [e, putH_at _ _ _ _ _ q]
  have hm : hat hs i ∈ hs := by rw [hat_eq q]; exact List.getElem_mem q
  split
  · exact .inr ⟨_, hm, .inl rfl⟩
  · split
    · exact .inr ⟨_, hm, .inr rfl⟩
    · exact .inl hm
theorem mem_putM {hs : List Hd} {ms : List Mv} {at_ : Nat} {lo hi : Int} {x : Mv} (h : x ∈ putM hs ms at_ lo hi) : x ∈ ms ∨ ∃ y ∈ ms, x = setM lo hi y := by
  obtain ⟨i, q, rfl⟩ := List.getElem_of_mem h
  rw [putM_len] at q
  have e : (putM hs ms at_ lo hi)[i] = mat (putM hs ms at_ lo hi) i := (mat_eq (by rw [putM_len]; exact q)).symm
  rw [e, putM_at _ _ _ _ _ _ q]
  have hm : mat ms i ∈ ms := by rw [mat_eq q]; exact List.getElem_mem q
  split
  · exact .inr ⟨_, hm, rfl⟩
  · exact .inl hm
theorem putM_ids (hs : List Hd) (ms : List Mv) (at_ : Nat) (lo hi : Int) : (putM hs ms at_ lo hi).map Mv.id = ms.map Mv.id := by
  unfold putM
  split
  · rfl
  · apply List.ext_getElem?
    intro i
    rw [List.getElem?_map, List.getElem?_modify, List.getElem?_map]
    cases ms[i]? with
    | none => rfl
    | some x => by_cases c : at_ - 2 * hs.length = i <;> simp [c, setM]
theorem TV.put {hs : List Hd} {ms : List Mv} (h : TV hs ms) {lo hi : Int} (hs' : okSp lo hi = true) (at_ : Nat) : TV (putH hs at_ lo hi) (putM hs ms at_ lo hi) := by
  have hids : ∀ id, (∃ x ∈ hs, x.id = id) → ∃ x ∈ putH hs at_ lo hi, x.id = id := fun id ⟨x, hx, e⟩ => by
    have : id ∈ (putH hs at_ lo hi).map Hd.id := by rw [put_ids]; exact List.mem_map.2 ⟨x, hx, e⟩
    obtain ⟨y, hy, e⟩ := List.mem_map.1 this
    exact ⟨y, hy, e⟩
  have key : ∀ m ∈ ms, okId m.id = true ∧ okSp m.lo m.hi = true ∧ m.fr ≠ m.to ∧ (∃ h ∈ putH hs at_ lo hi, h.id = m.fr) ∧ ∃ h ∈ putH hs at_ lo hi, h.id = m.to := fun m hm => by
    obtain ⟨a, b, c, d, e⟩ := h.mv m hm
    exact ⟨a, b, c, hids _ d, hids _ e⟩
  refine ⟨by rw [putH_len]; exact h.lenH, by rw [putM_len]; exact h.lenM, fun x hx => ?_, by rw [put_ids]; exact h.ids, fun m hm => ?_, by rw [putM_ids]; exact h.mids⟩
  · rcases mem_putH hx with hx | ⟨y, hy, rfl | rfl⟩
    · exact h.hd x hx
    · have := h.hd y hy
      simp only [okHd, setS, Bool.and_eq_true] at this ⊢
      exact ⟨⟨⟨this.1.1.1, hs'⟩, this.1.2⟩, this.2⟩
    · have := h.hd y hy
      simp only [okHd, setE, Bool.and_eq_true] at this ⊢
      exact ⟨⟨⟨this.1.1.1, this.1.1.2⟩, hs'⟩, this.2⟩
  · rcases mem_putM hm with hm | ⟨y, hy, rfl⟩
    · exact key m hm
    · obtain ⟨a, b, c, d, e⟩ := key y hy
      exact ⟨a, hs', c, d, e⟩

/-! ### What a limit proves -/
def narLo (hs : List Hd) (ms : List Mv) (at_ : Nat) : Int := leastP (fun u => agrL (putH hs at_ (spanLo hs ms at_) u) (putM hs ms at_ (spanLo hs ms at_) u)) (spanLo hs ms at_) (spanHi hs ms at_ - spanLo hs ms at_).toNat
def narHi (hs : List Hd) (ms : List Mv) (at_ : Nat) : Int := mostP (fun u => agrL (putH hs at_ u (spanHi hs ms at_)) (putM hs ms at_ u (spanHi hs ms at_))) (spanHi hs ms at_) (spanHi hs ms at_ - spanLo hs ms at_).toNat
theorem agr_put {hs : List Hd} {ms : List Mv} (h : TV hs ms) {at_ : Nat} (hat' : at_ < 2 * hs.length + ms.length) {lo hi : Int} (h1 : spanLo hs ms at_ ≤ lo) (h2 : lo ≤ hi) (h3 : hi ≤ spanHi hs ms at_) :
    agrL (putH hs at_ lo hi) (putM hs ms at_ lo hi) = true ↔ ∃ st en ma, fitsL hs ms st en ma = true ∧ lo ≤ valAt st en ma at_ ∧ valAt st en ma at_ ≤ hi := by
  have hk := span_ok h hat'
  rw [agrL_course (h.put (by simp [okSp]; omega) at_)]
  constructor
  · rintro ⟨st, en, ma, hf⟩; exact ⟨st, en, ma, (fits_put hat' h1 h3).1 hf⟩
  · rintro ⟨st, en, ma, hf⟩; exact ⟨st, en, ma, (fits_put hat' h1 h3).2 hf⟩
theorem narLo_eq {hs : List Hd} {ms : List Mv} (h : TV hs ms) {at_ : Nat} (hat' : at_ < 2 * hs.length + ms.length) {st en ma : List Int} (hf : fitsL hs ms st en ma = true) (hmin : ∀ st' en' ma', fitsL hs ms st' en' ma' = true → valAt st en ma at_ ≤ valAt st' en' ma' at_) :
    narLo hs ms at_ = valAt st en ma at_ := by
  have hv := fits_val hf hat'
  refine leastP_eq ?_ _ _ hv.1 (by omega) fun u a b => ?_
  · exact (agr_put h hat' (Int.le_refl _) hv.1 hv.2).2 ⟨st, en, ma, hf, hv.1, Int.le_refl _⟩
  · refine Bool.eq_false_iff.2 fun c => ?_
    obtain ⟨st', en', ma', q, _, r⟩ := (agr_put h hat' (Int.le_refl _) a (by omega)).1 c
    have := hmin st' en' ma' q
    omega
theorem narHi_eq {hs : List Hd} {ms : List Mv} (h : TV hs ms) {at_ : Nat} (hat' : at_ < 2 * hs.length + ms.length) {st en ma : List Int} (hf : fitsL hs ms st en ma = true) (hmax : ∀ st' en' ma', fitsL hs ms st' en' ma' = true → valAt st' en' ma' at_ ≤ valAt st en ma at_) :
    narHi hs ms at_ = valAt st en ma at_ := by
  have hv := fits_val hf hat'
  refine mostP_eq ?_ _ _ hv.2 (by omega) fun u a b => ?_
  · exact (agr_put h hat' hv.1 hv.2 (Int.le_refl _)).2 ⟨st, en, ma, hf, Int.le_refl _, hv.2⟩
  · refine Bool.eq_false_iff.2 fun c => ?_
    obtain ⟨st', en', ma', q, r, _⟩ := (agr_put h hat' (by omega) b (Int.le_refl _)).1 c
    have := hmax st' en' ma' q
    omega
/-- A course, and a cut that shows that no course has less (more). -/
structure LimOk (hs : List Hd) (ms : List Mv) (at_ : Nat) (gr : Bool) (st en ma : List Int) (way : Int) (s : List Int) : Prop where
  fits : fitsL hs ms st en ma = true
  edge : valAt st en ma at_ = (if gr = true then spanHi hs ms at_ else spanLo hs ms at_) → way = 0 ∧ s = []
  cut : valAt st en ma at_ ≠ (if gr = true then spanHi hs ms at_ else spanLo hs ms at_) →
    if gr = true then 0 < thrL (putH hs at_ (valAt st en ma at_ + 1) (spanHi hs ms at_)) (putM hs ms at_ (valAt st en ma at_ + 1) (spanHi hs ms at_)) way s
    else 0 < thrL (putH hs at_ (spanLo hs ms at_) (valAt st en ma at_ - 1)) (putM hs ms at_ (spanLo hs ms at_) (valAt st en ma at_ - 1)) way s
theorem lim_lo {hs : List Hd} {ms : List Mv} (h : TV hs ms) {at_ : Nat} (hat' : at_ < 2 * hs.length + ms.length) {st en ma : List Int} {way : Int} {s : List Int} (hl : LimOk hs ms at_ false st en ma way s) :
    (∀ st' en' ma', fitsL hs ms st' en' ma' = true → valAt st en ma at_ ≤ valAt st' en' ma' at_) ∧ narLo hs ms at_ = valAt st en ma at_ := by
  have hv := fits_val hl.fits hat'
  have hk := span_ok h hat'
  have hmin : ∀ st' en' ma', fitsL hs ms st' en' ma' = true → valAt st en ma at_ ≤ valAt st' en' ma' at_ := fun st' en' ma' q => by
    have hv' := fits_val q hat'
    by_cases c : valAt st en ma at_ = spanLo hs ms at_
    · omega
    · have := hl.cut (by simpa using c)
      rw [if_neg (by decide)] at this
      refine Classical.byContradiction fun d => ?_
      have hf := (fits_put hat' (lo := spanLo hs ms at_) (hi := valAt st en ma at_ - 1) (Int.le_refl _) (by omega)).2 ⟨q, hv'.1, by omega⟩
      have := thrL_le (h.put (by simp [okSp]; omega) at_) hf way s
      omega
  exact ⟨hmin, narLo_eq h hat' hl.fits hmin⟩
theorem lim_hi {hs : List Hd} {ms : List Mv} (h : TV hs ms) {at_ : Nat} (hat' : at_ < 2 * hs.length + ms.length) {st en ma : List Int} {way : Int} {s : List Int} (hl : LimOk hs ms at_ true st en ma way s) :
    (∀ st' en' ma', fitsL hs ms st' en' ma' = true → valAt st' en' ma' at_ ≤ valAt st en ma at_) ∧ narHi hs ms at_ = valAt st en ma at_ := by
  have hv := fits_val hl.fits hat'
  have hk := span_ok h hat'
  have hmax : ∀ st' en' ma', fitsL hs ms st' en' ma' = true → valAt st' en' ma' at_ ≤ valAt st en ma at_ := fun st' en' ma' q => by
    have hv' := fits_val q hat'
    by_cases c : valAt st en ma at_ = spanHi hs ms at_
    · omega
    · have := hl.cut (by simpa using c)
      rw [if_pos rfl] at this
      refine Classical.byContradiction fun d => ?_
      have hf := (fits_put hat' (lo := valAt st en ma at_ + 1) (hi := spanHi hs ms at_) (by omega) (Int.le_refl _)).2 ⟨q, by omega, hv'.2⟩
      have := thrL_le (h.put (by simp [okSp]; omega) at_) hf way s
      omega
  exact ⟨hmax, narHi_eq h hat' hl.fits hmax⟩
end Go.Proofs.YtighfmgkoepfkaaGreat

namespace Go.Proofs.YtighfmgkoepfkaaGreat

/-- The cuts are formed: some holders of the trade, in increasing order. -/
def upL : List Int → Bool
  | [] => true
  | [_] => true
  | x :: y :: t => decide (x < y) && upL (y :: t)
def formedL (hs : List Hd) (way : Int) (s : List Int) : Bool := decide (way = 1 ∨ way = 2) && (!s.isEmpty && (s.all (fun id => decide (0 ≤ pos hs id)) && upL s))
/-- A cut shows that a trade has no course. -/
def showsL (hs : List Hd) (ms : List Mv) (way : Int) (s : List Int) : Bool := formedL hs way s && decide (0 < thrL hs ms way s)

theorem pos_id {hs : List Hd} {id : Int} : 0 ≤ pos hs id ↔ ∃ h ∈ hs, h.id = id := by
  have := @pos_neg hs id
  constructor
  · intro h
    refine Classical.byContradiction fun c => ?_
    have := this.2 fun x hx e => c ⟨x, hx, e⟩
    omega
  · rintro ⟨x, hx, e⟩
    refine Classical.byContradiction fun c => ?_
    exact this.1 (by omega) x hx e
theorem pos_ids {hs hs' : List Hd} (h : hs'.map Hd.id = hs.map Hd.id) (id : Int) : (0 ≤ pos hs' id) = (0 ≤ pos hs id) := by
  apply propext
  rw [pos_id, pos_id]
  have e : ∀ l : List Hd, (∃ x ∈ l, x.id = id) ↔ id ∈ l.map Hd.id := fun l => by simp
  rw [e, e, h]
theorem formedL_ids {hs hs' : List Hd} (h : hs'.map Hd.id = hs.map Hd.id) (way : Int) (s : List Int) : formedL hs' way s = formedL hs way s := by
  unfold formedL
  congr 2
  congr 1
  congr 1
  funext id
  simp only [pos_ids h]

/-- Edges with the same ends: what crosses a border at the bounds is what flows, and one more. -/
theorem cross_one {S : Nat → Bool} {at_ : Nat} : ∀ (es fs : List Eg) (k : Nat),
    (∀ (i : Nat) (e f : Eg), es[i]? = some e → fs[i]? = some f → f.a = e.a ∧ f.b = e.b ∧ (k + i ≠ at_ → (S e.a = true → S e.b = false → e.fl = f.hi) ∧ (S e.b = true → S e.a = false → e.fl = f.lo)) ∧
      (k + i = at_ → (S e.b = true ∧ S e.a = false ∧ f.lo = e.fl + 1) ∨ (S e.a = true ∧ S e.b = false ∧ f.hi = e.fl - 1))) → es.length = fs.length →
    crossE S Eg.lo Eg.hi fs = crossE S Eg.fl Eg.fl es + if k ≤ at_ ∧ at_ < k + es.length then 1 else 0
  | [], [], k, _, _ => by rw [if_neg (by simp only [List.length_nil]; omega)]; rfl
  | [], _ :: _, _, _, h => by simp at h
  | _ :: _, [], _, _, h => by simp at h
  | e :: es, f :: fs, k, h, hl => by
    have ih := cross_one es fs (k + 1) (fun i x y hx hy => by
      have := h (i + 1) x y (by simpa using hx) (by simpa using hy)
      rw [show k + (i + 1) = k + 1 + i by omega] at this
      exact this) (by simpa using hl)
    obtain ⟨h1, h2, h3, h4⟩ := h 0 e f rfl rfl
    rw [Nat.add_zero] at h3 h4
    show (if S f.b = true ∧ S f.a = false then f.lo else 0) - (if S f.a = true ∧ S f.b = false then f.hi else 0) + crossE S Eg.lo Eg.hi fs = (if S e.b = true ∧ S e.a = false then e.fl else 0) - (if S e.a = true ∧ S e.b = false then e.fl else 0) + crossE S Eg.fl Eg.fl es + _
    rw [ih, h1, h2, List.length_cons]
    by_cases c : k = at_
    · rw [if_neg (show ¬ (k + 1 ≤ at_ ∧ at_ < k + 1 + es.length) by omega), if_pos (show k ≤ at_ ∧ at_ < k + (es.length + 1) by omega)]
      rcases h4 c with ⟨a, b, d⟩ | ⟨a, b, d⟩
      · rw [a, b, d]; simp; omega
      · rw [a, b, d]; simp; omega
    · have e1 : (k + 1 ≤ at_ ∧ at_ < k + 1 + es.length) = (k ≤ at_ ∧ at_ < k + (es.length + 1)) := by apply propext; omega
      simp only [e1]
      obtain ⟨g1, g2⟩ := h3 c
      cases ha : S e.a <;> cases hb : S e.b
      · simp
      · rw [g2 hb ha]; simp; omega
      · rw [g1 ha hb]; simp; omega
      · simp

theorem edges_at (hs : List Hd) (ms : List Mv) (i : Nat) : (edges hs ms)[i]? = if i < hs.length then some (egS hs.length i (hat hs i)) else if i < 2 * hs.length then some (egE hs.length (i - hs.length) (hat hs (i - hs.length))) else if i < 2 * hs.length + ms.length then some (egM hs (mat ms (i - 2 * hs.length))) else none := by
  unfold edges
  by_cases c : i < hs.length
  · rw [if_pos c, List.getElem?_append_left (by simpa using c), List.getElem?_mapIdx, List.getElem?_eq_getElem c, hat_eq c]; rfl
  · rw [if_neg c, List.getElem?_append_right (by simpa using c), List.length_mapIdx]
    by_cases d : i < 2 * hs.length
    · rw [if_pos d, List.getElem?_append_left (by simp; omega), List.getElem?_mapIdx, List.getElem?_eq_getElem (by omega), hat_eq (by omega)]; rfl
    · rw [if_neg d, List.getElem?_append_right (by simp; omega), List.length_mapIdx, List.getElem?_map]
      by_cases e : i < 2 * hs.length + ms.length
      · rw [if_pos e, List.getElem?_eq_getElem (by omega), mat_eq (by omega)]
        simp only [show i - hs.length - hs.length = i - 2 * hs.length by omega]; rfl
      · rw [if_neg e, List.getElem?_eq_none (by omega)]; rfl
theorem posN_ids : ∀ (hs hs' : List Hd), hs'.map Hd.id = hs.map Hd.id → ∀ id, posN hs' id = posN hs id
  | [], [], _, _ => rfl
  | [], _ :: _, h, _ => by simp at h
  | _ :: _, [], h, _ => by simp at h
  | x :: t, y :: t', h, id => by
    have h' : y.id = x.id ∧ t'.map Hd.id = t.map Hd.id := by simpa using h
    unfold posN
    rw [h'.1, posN_ids t t' h'.2 id]
/-- The net of a trade with another span for something: that edge has other bounds. -/
theorem edges_put {hs : List Hd} {ms : List Mv} (at_ : Nat) (lo hi : Int) (i : Nat) (f : Eg) (hf : (edges (putH hs at_ lo hi) (putM hs ms at_ lo hi))[i]? = some f) :
    ∃ g, (edges hs ms)[i]? = some g ∧ f.a = g.a ∧ f.b = g.b ∧ (i ≠ at_ → f.lo = g.lo ∧ f.hi = g.hi) ∧ (i = at_ → f.lo = lo ∧ f.hi = hi) := by
  rw [edges_at, putH_len, putM_len] at hf
  rw [edges_at]
  by_cases c : i < hs.length
  · rw [if_pos c] at hf ⊢
    have e := Option.some.inj hf
    subst e
    refine ⟨_, rfl, rfl, rfl, ?_, ?_⟩
    · intro q; show (hat (putH hs at_ lo hi) i).sl = _ ∧ (hat (putH hs at_ lo hi) i).sh = _
      rw [putH_at _ _ _ _ _ c, if_neg (by omega)]
      split <;> exact ⟨rfl, rfl⟩
    · intro q; show (hat (putH hs at_ lo hi) i).sl = _ ∧ (hat (putH hs at_ lo hi) i).sh = _
      rw [putH_at _ _ _ _ _ c, if_pos q.symm]; exact ⟨rfl, rfl⟩
  · rw [if_neg c] at hf ⊢
    by_cases d : i < 2 * hs.length
    · rw [if_pos d] at hf ⊢
      have e := Option.some.inj hf
      subst e
      refine ⟨_, rfl, rfl, rfl, ?_, ?_⟩
      · intro q; show (hat (putH hs at_ lo hi) (i - hs.length)).el = _ ∧ (hat (putH hs at_ lo hi) (i - hs.length)).eh = _
        rw [putH_at _ _ _ _ _ (by omega)]
        split
        · exact ⟨rfl, rfl⟩
        · rw [if_neg (by omega)]; exact ⟨rfl, rfl⟩
      · intro q; show (hat (putH hs at_ lo hi) (i - hs.length)).el = _ ∧ (hat (putH hs at_ lo hi) (i - hs.length)).eh = _
        rw [putH_at _ _ _ _ _ (by omega), if_neg (by omega), if_pos (by omega)]; exact ⟨rfl, rfl⟩
    · rw [if_neg d] at hf ⊢
      by_cases e : i < 2 * hs.length + ms.length
      · rw [if_pos e] at hf ⊢
        have e' := Option.some.inj hf
        subst e'
        have hp := posN_ids hs (putH hs at_ lo hi) (put_ids hs at_ lo hi)
        refine ⟨_, rfl, ?_, ?_, ?_, ?_⟩
        · show posN (putH hs at_ lo hi) (mat (putM hs ms at_ lo hi) (i - 2 * hs.length)).fr = _
          rw [hp, putM_at _ _ _ _ _ _ (by omega)]; split <;> rfl
        · show posN (putH hs at_ lo hi) (mat (putM hs ms at_ lo hi) (i - 2 * hs.length)).to = _
          rw [hp, putM_at _ _ _ _ _ _ (by omega)]; split <;> rfl
        · intro q; show (mat (putM hs ms at_ lo hi) (i - 2 * hs.length)).lo = _ ∧ (mat (putM hs ms at_ lo hi) (i - 2 * hs.length)).hi = _
          rw [putM_at _ _ _ _ _ _ (by omega), if_neg (by omega)]; exact ⟨rfl, rfl⟩
        · intro q; show (mat (putM hs ms at_ lo hi) (i - 2 * hs.length)).lo = _ ∧ (mat (putM hs ms at_ lo hi) (i - 2 * hs.length)).hi = _
          rw [putM_at _ _ _ _ _ _ (by omega), if_pos (by omega)]; exact ⟨rfl, rfl⟩
      · rw [if_neg e] at hf; cases hf
theorem sideL_ids {hs hs' : List Hd} (h : hs'.map Hd.id = hs.map Hd.id) (S : Nat → Bool) (b : Bool) (id : Int) : id ∈ sideL hs' S b ↔ id ∈ sideL hs S b := by
  have hl : hs'.length = hs.length := by have := congrArg List.length h; simpa using this
  have hg : ∀ i (q : i < hs.length), (hs'[i]'(by omega)).id = (hs[i]).id := fun i q => by
    have : (hs'.map Hd.id)[i]'(by simpa [hl] using q) = (hs.map Hd.id)[i]'(by simpa using q) := by simp only [h]
    simpa using this
  rw [mem_sideL, mem_sideL]
  constructor
  · rintro ⟨i, q, e, r⟩; exact ⟨i, by omega, by rw [← hg i (by omega)]; exact e, r⟩
  · rintro ⟨i, q, e, r⟩; exact ⟨i, by omega, by rw [hg i q]; exact e, r⟩
/-- At the end of a search: the nodes that were reached are a cut for what is beyond. -/
theorem lim_cut {hs : List Hd} {ms : List Mv} (h : TV hs ms) {es : List Eg} (ha : Alike es (edges hs ms)) (hz : ∀ v, v < hs.length + 1 → sur es v = 0) {at_ : Nat} (hat' : at_ < 2 * hs.length + ms.length) {e : Eg} (he : es[at_]? = some e) {S : Nat → Bool}
    (hsh : Shut es at_ S) {lo hi : Int} (hok : okSp lo hi = true) (hcase : (S e.b = true ∧ S e.a = false ∧ lo = e.fl + 1) ∨ (S e.a = true ∧ S e.b = false ∧ hi = e.fl - 1)) {s : List Int}
    (hs' : ∀ id, id ∈ s ↔ id ∈ sideL hs S (!(S hs.length))) : 0 < thrL (putH hs at_ lo hi) (putM hs ms at_ lo hi) (if S hs.length = true then 1 else 2) s := by
  have hT := h.put hok at_
  have hids := put_ids hs at_ lo hi
  rw [thrL_cross hT]
  have e1 : decide ((if S hs.length = true then (1 : Int) else 2) = 1) = S hs.length := by cases S hs.length <;> rfl
  have e2 : ∀ v, v ≤ hs.length → nodeS (putH hs at_ lo hi) s (S hs.length) v = S v := by
    have := nodeS_side (hs := putH hs at_ lo hi) hT.ids (S := S) (s := s) (fun id => by rw [hs' id, putH_len, sideL_ids hids])
    rw [putH_len] at this; exact this
  have hin := edges_in hT
  rw [putH_len] at hin
  rw [e1, crossE_congr _ _ e2 hin]
  have hlen : es.length = (edges (putH hs at_ lo hi) (putM hs ms at_ lo hi)).length := by rw [alike_len ha, edges_len, edges_len, putH_len, putM_len]
  rw [cross_one (S := S) (at_ := at_) es _ 0 (fun i x f hx hf => by
    obtain ⟨g, hg, a1, a2, a3, a4⟩ := edges_put at_ lo hi i f hf
    obtain ⟨y, hy, e3⟩ := alike_at ha hx
    rw [hg] at hy
    have := Option.some.inj hy
    subst this
    have xa : x.a = g.a := by rw [e3]
    have xb : x.b = g.b := by rw [e3]
    have xl : x.lo = g.lo := by rw [e3]
    have xh : x.hi = g.hi := by rw [e3]
    refine ⟨by rw [xa]; exact a1, by rw [xb]; exact a2, fun q => ?_, fun q => ?_⟩
    · rw [Nat.zero_add] at q
      obtain ⟨b1, b2⟩ := hsh i x hx (by omega)
      obtain ⟨c1, c2⟩ := a3 q
      exact ⟨fun r1 r2 => by rw [b1 r1 r2, c2, xh], fun r1 r2 => by rw [b2 r1 r2, c1, xl]⟩
    · rw [Nat.zero_add] at q
      subst q
      rw [he] at hx
      have := Option.some.inj hx
      subst this
      obtain ⟨c1, c2⟩ := a4 rfl
      rcases hcase with ⟨r1, r2, r3⟩ | ⟨r1, r2, r3⟩
      · exact .inl ⟨r1, r2, by rw [c1, r3]⟩
      · exact .inr ⟨r1, r2, by rw [c2, r3]⟩) hlen]
  have hin2 := inN_alike ha (edges_in h)
  rw [← sumS_cross S hin2]
  have k : ∀ n, n ≤ hs.length + 1 → sumS es S n = 0 := fun n => by
    induction n with
    | zero => intro _; rfl
    | succ n ih => intro hn; simp only [sumS]; rw [ih (by omega), hz n (by omega)]; simp
  rw [k _ (Nat.le_refl _), if_pos (by rw [alike_len ha, edges_len]; omega)]
  decide
end Go.Proofs.YtighfmgkoepfkaaGreat

namespace Go.Proofs.YtighfmgkoepfkaaGreat

/-- The hops of one edge out of a node. -/
def hopsE (but : Int) (u i : Nat) (e : Eg) : List Hp :=
  if (i : Int) = but then [] else (if e.a = u ∧ e.fl < e.hi then [⟨i, e.b, e.hi - e.fl, 1⟩] else []) ++ (if e.b = u ∧ e.lo < e.fl then [⟨i, e.a, e.fl - e.lo, -1⟩] else [])
/-- The hops of the first edges. -/
def hopsT (es : List Eg) (but : Int) (u : Nat) : Nat → List Hp
  | 0 => []
  | k + 1 => hopsT es but u k ++ (match es[k]? with | some e => hopsE but u k e | none => [])
def hopsL (es : List Eg) (but : Int) (u : Nat) : List Hp := hopsT es but u es.length
theorem hopsT_step {es : List Eg} {but : Int} {u k : Nat} (h : k < es.length) : hopsT es but u (k + 1) = hopsT es but u k ++ hopsE but u k es[k] := by
  rw [hopsT, List.getElem?_eq_getElem h]
theorem hopsT_pre {es : List Eg} {but : Int} {u : Nat} : ∀ (d k : Nat), hopsT es but u k <+: hopsT es but u (k + d)
  | 0, k => List.prefix_refl _
  | d + 1, k => (hopsT_pre d k).trans (by rw [show k + (d + 1) = (k + d) + 1 by omega, hopsT]; exact List.prefix_append _ _)
theorem hopsT_le {es : List Eg} {but : Int} {u k : Nat} (h : k ≤ es.length) : hopsT es but u k <+: hopsL es but u := by
  have := hopsT_pre (es := es) (but := but) (u := u) (es.length - k) k
  rwa [show k + (es.length - k) = es.length by omega] at this
theorem hopsE_res {es : List Eg} {but : Int} {u i : Nat} {e : Eg} (he : es[i]? = some e) {h : Hp} (hh : h ∈ hopsE but u i e) : Res es but u h := by
  unfold hopsE at hh
  split at hh
  · cases hh
  · rename_i c
    rcases List.mem_append.1 hh with hh | hh
    · split at hh
      · rename_i d
        have e1 : h = ⟨i, e.b, e.hi - e.fl, 1⟩ := by simpa using hh
        subst e1
        exact ⟨c, e, he, by show 0 < e.hi - e.fl; omega, .inl ⟨d.1, rfl, rfl, rfl⟩⟩
      · cases hh
    · split at hh
      · rename_i d
        have e1 : h = ⟨i, e.a, e.fl - e.lo, -1⟩ := by simpa using hh
        subst e1
        exact ⟨c, e, he, by show 0 < e.fl - e.lo; omega, .inr ⟨d.1, rfl, rfl, rfl⟩⟩
      · cases hh
theorem hopsT_res {es : List Eg} {but : Int} {u : Nat} {h : Hp} : ∀ k, h ∈ hopsT es but u k → Res es but u h
  | 0, hh => by cases hh
  | k + 1, hh => by
    rw [hopsT] at hh
    rcases List.mem_append.1 hh with hh | hh
    · exact hopsT_res k hh
    · cases he : es[k]? with
      | none => rw [he] at hh; cases hh
      | some e => rw [he] at hh; exact hopsE_res he hh
theorem hops_res {es : List Eg} {but : Int} {u : Nat} {h : Hp} (hh : h ∈ hopsL es but u) : Res es but u h := hopsT_res _ hh
theorem hops_mem {es : List Eg} {but : Int} {u i : Nat} {e : Eg} (he : es[i]? = some e) {h : Hp} (hh : h ∈ hopsE but u i e) : h ∈ hopsL es but u := by
  have hi : i < es.length := (List.getElem?_eq_some_iff.1 he).1
  refine (hopsT_le (k := i + 1) hi).subset ?_
  rw [hopsT, he]
  exact List.mem_append.2 (.inr hh)
theorem hopsE_a {but : Int} {u i : Nat} {e : Eg} (h1 : (i : Int) ≠ but) (h2 : e.a = u) (h3 : e.fl < e.hi) : (⟨i, e.b, e.hi - e.fl, 1⟩ : Hp) ∈ hopsE but u i e := by
  unfold hopsE
  rw [if_neg h1, if_pos ⟨h2, h3⟩]
  simp
theorem hopsE_b {but : Int} {u i : Nat} {e : Eg} (h1 : (i : Int) ≠ but) (h2 : e.b = u) (h3 : e.lo < e.fl) : (⟨i, e.a, e.fl - e.lo, -1⟩ : Hp) ∈ hopsE but u i e := by
  unfold hopsE
  rw [if_neg h1, if_pos (show e.b = u ∧ e.lo < e.fl from ⟨h2, h3⟩)]
  simp

def updF {α : Type} (f : Nat → α) (k : Nat) (x : α) : Nat → α := fun i => if i = k then x else f i
theorem updF_at {α : Type} {f : Nat → α} {k : Nat} {x : α} : updF f k x k = x := if_pos rfl
theorem updF_ne {α : Type} {f : Nat → α} {k i : Nat} {x : α} (h : i ≠ k) : updF f k x i = f i := if_neg h
structure Bfs (es : List Eg) (but : Int) (from_ N : Nat) (q : List Nat) (seen : Nat → Bool) (by_ : Nat → Hp) (back : Nat → Nat) : Prop where
  head : q[0]? = some from_
  nodup : q.Nodup
  lt : ∀ v ∈ q, v < N
  seen : ∀ v, v < N → (seen v = true ↔ v ∈ q)
  link : ∀ j v, 0 < j → q[j]? = some v → ∃ i, i < j ∧ q[i]? = some (back v) ∧ (by_ v).to = v ∧ Res es but (back v) (by_ v)
theorem Bfs.start {es : List Eg} {but : Int} {from_ N : Nat} (hf : from_ < N) (by_ : Nat → Hp) (back : Nat → Nat) : Bfs es but from_ N [from_] (updF (fun _ => false) from_ true) by_ back := by
  refine ⟨rfl, by simp, fun v hv => ?_, fun v _ => ?_, fun j v hj h => ?_⟩
  · have : v = from_ := by simpa using hv
    omega
  · by_cases c : v = from_
    · subst c; simp [updF_at]
    · rw [updF_ne c]; simp [c]
  · match j, hj, h with
    | j + 1, _, h => simp at h
theorem nodup_len : ∀ (N : Nat) (q : List Nat), q.Nodup → (∀ v ∈ q, v < N) → q.length ≤ N
  | 0, q, _, h => by
    cases q with
    | nil => exact Nat.le_refl _
    | cons v t => exact absurd (h v (by simp)) (by omega)
  | N + 1, q, hn, h => by
    by_cases c : N ∈ q
    · have ih := nodup_len N (q.erase N) (hn.erase _) fun v hv => by
        have h1 := h v (List.mem_of_mem_erase hv)
        have h2 : v ≠ N := fun e => by rw [e] at hv; exact hn.not_mem_erase hv
        omega
      rw [List.length_erase_of_mem c] at ih
      omega
    · have ih := nodup_len N q hn fun v hv => by
        have h1 := h v hv
        have h2 : v ≠ N := fun e => c (e ▸ hv)
        omega
      omega
theorem Bfs.len {es : List Eg} {but : Int} {from_ N : Nat} {q : List Nat} {seen : Nat → Bool} {by_ : Nat → Hp} {back : Nat → Nat} (h : Bfs es but from_ N q seen by_ back) : q.length ≤ N := by
  exact nodup_len N q h.nodup h.lt
theorem Bfs.more {es : List Eg} {but : Int} {from_ N : Nat} {q : List Nat} {seen : Nat → Bool} {by_ : Nat → Hp} {back : Nat → Nat} (h : Bfs es but from_ N q seen by_ back) {k u : Nat} (hk : q[k]? = some u) {x : Hp} (hx : Res es but u x) (hN : x.to < N) (hs : seen x.to = false) :
    Bfs es but from_ N (q ++ [x.to]) (updF seen x.to true) (updF by_ x.to x) (updF back x.to u) := by
  have hn : x.to ∉ q := fun c => by rw [(h.seen _ hN).2 c] at hs; cases hs
  have hkl : k < q.length := (List.getElem?_eq_some_iff.1 hk).1
  refine ⟨?_, ?_, fun v hv => ?_, fun v hv => ?_, fun j v hj hv => ?_⟩
  · rw [List.getElem?_append_left (by omega)]; exact h.head
  · rw [List.nodup_append]
    exact ⟨h.nodup, by simp, fun a ha b hb e => by
      have : b = x.to := by simpa using hb
      rw [e, this] at ha; exact hn ha⟩
  · rcases List.mem_append.1 hv with hv | hv
    · exact h.lt v hv
    · have : v = x.to := by simpa using hv
      omega
  · by_cases c : v = x.to
    · subst c; simp [updF_at]
    · rw [updF_ne c, h.seen v hv]; simp [c]
  · by_cases c : j < q.length
    · rw [List.getElem?_append_left c] at hv
      have hvq : v ≠ x.to := fun e => hn (e ▸ List.mem_of_getElem? hv)
      obtain ⟨i, h1, h2, h3, h4⟩ := h.link j v hj hv
      refine ⟨i, h1, ?_, ?_, ?_⟩
      · rw [List.getElem?_append_left (by omega), updF_ne hvq]; exact h2
      · rw [updF_ne hvq]; exact h3
      · rw [updF_ne hvq, updF_ne hvq]; exact h4
    · have hj' : j < (q ++ [x.to]).length := (List.getElem?_eq_some_iff.1 hv).1
      have : j = q.length := by simp at hj'; omega
      subst this
      have e : x.to = v := by simpa using hv
      subst e
      refine ⟨k, by omega, ?_, ?_, ?_⟩
      · rw [List.getElem?_append_left hkl, updF_at]; exact hk
      · rw [updF_at]
      · rw [updF_at, updF_at]; exact hx
/-- The hops that lead to a node. -/
def Chain (by_ : Nat → Hp) (back : Nat → Nat) (from_ : Nat) : Nat → List Hp → Prop
  | v, [] => v = from_
  | v, h :: l => v ≠ from_ ∧ h = by_ v ∧ Chain by_ back from_ (back v) l
theorem Bfs.chain {es : List Eg} {but : Int} {from_ N : Nat} {q : List Nat} {seen : Nat → Bool} {by_ : Nat → Hp} {back : Nat → Nat} (h : Bfs es but from_ N q seen by_ back) : ∀ (j v : Nat), q[j]? = some v →
    ∃ l, Chain by_ back from_ v l ∧ Way es but from_ l ∧ wayEnd from_ l = v ∧ Fresh from_ l ∧ l.length ≤ j ∧ ∀ x ∈ l.map Hp.to ++ [from_], ∃ i, i ≤ j ∧ q[i]? = some x := by
  intro j
  induction j using Nat.strongRecOn with
  | _ j ih =>
    intro v hv
    by_cases c : j = 0
    · subst c
      have : v = from_ := by have := h.head; rw [hv] at this; exact Option.some.inj this
      subst this
      exact ⟨[], rfl, trivial, rfl, by simp [Fresh], Nat.le_refl _, fun x hx => ⟨0, Nat.le_refl _, (show x = v by simpa using hx) ▸ hv⟩⟩
    · obtain ⟨i, h1, h2, h3, h4⟩ := h.link j v (by omega) hv
      obtain ⟨l, a1, a2, a3, a4, a5, a6⟩ := ih i h1 _ h2
      have hdiff : ∀ i' x, i' ≤ i → q[i']? = some x → x ≠ v := fun i' x hi hx e => by
        subst e
        have hl1 := (List.getElem?_eq_some_iff.1 hx).1
        have hl2 := (List.getElem?_eq_some_iff.1 hv).1
        have e1 := (List.getElem?_eq_some_iff.1 hx).2
        have e2 := (List.getElem?_eq_some_iff.1 hv).2
        have := (List.getElem_inj (h₀ := hl1) (h₁ := hl2) h.nodup).1 (e1.trans e2.symm)
        omega
      have hvf : v ≠ from_ := fun e => hdiff 0 from_ (Nat.zero_le _) h.head e.symm
      refine ⟨by_ v :: l, ⟨hvf, rfl, a1⟩, ⟨by rw [a3]; exact h4, a2⟩, h3, ?_, by show l.length + 1 ≤ j; omega, fun x hx => ?_⟩
      · show ((by_ v).to :: (l.map Hp.to ++ [from_])).Nodup
        refine List.nodup_cons.2 ⟨fun hm => ?_, a4⟩
        obtain ⟨i', b1, b2⟩ := a6 _ hm
        exact hdiff i' _ b1 b2 h3
      · have hx' : x ∈ (by_ v).to :: (l.map Hp.to ++ [from_]) := hx
        rcases List.mem_cons.1 hx' with e | hx'
        · exact ⟨j, Nat.le_refl _, by rw [e, h3]; exact hv⟩
        · obtain ⟨i', b1, b2⟩ := a6 x hx'
          exact ⟨i', by omega, b2⟩
/-- All hops of all nodes in the queue lead to nodes that were seen: no more can flow out. -/
theorem Bfs.shut {es : List Eg} {but : Int} {from_ N : Nat} {q : List Nat} {seen : Nat → Bool} {by_ : Nat → Hp} {back : Nat → Nat} (h : Bfs es but from_ N q seen by_ back) (hin : InN es N) (hb : InB es)
    (hc : ∀ u ∈ q, ∀ x ∈ hopsL es but u, seen x.to = true) : Shut es but seen := by
  intro i e he hbut
  have hm := List.mem_of_getElem? he
  obtain ⟨n1, n2⟩ := hin e hm
  obtain ⟨b1, b2⟩ := hb e hm
  constructor
  · intro h1 h2
    refine Classical.byContradiction fun c => ?_
    have := hc e.a ((h.seen _ n1).1 h1) _ (hops_mem he (hopsE_a hbut rfl (by omega)))
    have t : (⟨i, e.b, e.hi - e.fl, 1⟩ : Hp).to = e.b := rfl
    rw [t, h2] at this; cases this
  · intro h1 h2
    refine Classical.byContradiction fun c => ?_
    have := hc e.b ((h.seen _ n2).1 h1) _ (hops_mem he (hopsE_b hbut rfl (by omega)))
    have t : (⟨i, e.a, e.fl - e.lo, -1⟩ : Hp).to = e.a := rfl
    rw [t, h2] at this; cases this
end Go.Proofs.YtighfmgkoepfkaaGreat
