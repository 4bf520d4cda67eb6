/- For every ship, hydrometers with errors that they truly had, two loadings, and at most 8 surveys: TopMassesAreTrue returns true, and its arguments read as they did. No further condition. -/
import Derived.Test.YtgojpgggbflgoaaGreatTop15
import Derived.Test.YtgojpgggbflgoaaGreatTop16
namespace Go.Proofs.YtgojpgggbflgoaaGreat
open Go.RowKit Go.WideShapes Go.ChangeShapes Go.Joins Go.Deep

theorem trodAll_eight {H : Type} {enc : TypeId × Value → H} {P : Program} {w : World} {base : Nat} {spare : Nat → Bool} {held : Bool} {t0 t1 t2 t3 t4 t5 t6 t7 : TypeId} {args : Array Value} {ds : List (DataW H)} {ps : List MemPlace} (h : DataW.TrodAll enc P w base spare held [t0, t1, t2, t3, t4, t5, t6, t7] args.toList ds ps) :
    ∃ v0 v1 v2 v3 v4 v5 v6 v7 d0 d1 d2 d3 d4 d5 d6 d7 p0 p1 p2 p3 p4 p5 p6 p7, args = #[v0, v1, v2, v3, v4, v5, v6, v7] ∧ ds = [d0, d1, d2, d3, d4, d5, d6, d7] ∧ ps = p0 ++ p1 ++ p2 ++ p3 ++ p4 ++ p5 ++ p6 ++ p7 ∧ DataW.Trod enc P w base spare held t0 v0 d0 p0 ∧ DataW.Trod enc P w base spare held t1 v1 d1 p1 ∧ DataW.Trod enc P w base spare held t2 v2 d2 p2 ∧ DataW.Trod enc P w base spare held t3 v3 d3 p3 ∧ DataW.Trod enc P w base spare held t4 v4 d4 p4 ∧ DataW.Trod enc P w base spare held t5 v5 d5 p5 ∧ DataW.Trod enc P w base spare held t6 v6 d6 p6 ∧ DataW.Trod enc P w base spare held t7 v7 d7 p7 := by
  obtain ⟨v0, vs0, d0, ds0, p0, q0, hargs, rfl, rfl, h0, r0⟩ := trodAll_cons h
  obtain ⟨v1, vs1, d1, ds1, p1, q1, rfl, rfl, rfl, h1, r1⟩ := trodAll_cons r0
  obtain ⟨v2, vs2, d2, ds2, p2, q2, rfl, rfl, rfl, h2, r2⟩ := trodAll_cons r1
  obtain ⟨v3, vs3, d3, ds3, p3, q3, rfl, rfl, rfl, h3, r3⟩ := trodAll_cons r2
  obtain ⟨v4, vs4, d4, ds4, p4, q4, rfl, rfl, rfl, h4, r4⟩ := trodAll_cons r3
  obtain ⟨v5, vs5, d5, ds5, p5, q5, rfl, rfl, rfl, h5, r5⟩ := trodAll_cons r4
  obtain ⟨v6, vs6, d6, ds6, p6, q6, rfl, rfl, rfl, h6, r6⟩ := trodAll_cons r5
  obtain ⟨v7, vs7, d7, ds7, p7, q7, rfl, rfl, rfl, h7, r7⟩ := trodAll_cons r6
  obtain ⟨rfl, rfl, rfl⟩ := trodAll_nil r7
  exact ⟨v0, v1, v2, v3, v4, v5, v6, v7, d0, d1, d2, d3, d4, d5, d6, d7, p0, p1, p2, p3, p4, p5, p6, p7, by cases args; simp_all, rfl, by simp, h0, h1, h2, h3, h4, h5, h6, h7⟩
set_option maxRecDepth 100000 in
theorem topMassesAreTrue_lifted (os : Os) (started : os.Started) (H : Type) (enc : TypeId × Value → H) :
    ReturnsInHanded Rows.topMassesAreTrueRow.assume Tryz.checked os 3 .any (Rows.topMassesAreTrueSpec.pre6 enc Tryz.prog Tryz.f3 Rows.topMassesAreTrueRow.domain false) (Rows.topMassesAreTrueSpec.post enc Tryz.prog Tryz.f3 false Rows.topMassesAreTrueRow.fresh Rows.topMassesAreTrueRow.handsOn Rows.topMassesAreTrueRow.again) := by
  refine returnsInHanded_of_change (C := Tryz.checked) (by kernel_rfl) started (by kernel_rfl) Tryz.func3
    (ChangeSpec.witness6 (enc := enc) (C := Tryz.checked) false ⟨#[], #[.agg #[.int .i64 0, .int .i64 0, .int .i64 0, .int .i64 0, .slice none 0 0, .slice none 0 0, .int .i64 0, .slice none 0 0, .int .i64 0, .int .i64 0, .int .i64 0], .agg #[.slice none 0 0, .slice none 0 0], .slice none 0 0, .slice none 0 0, .slice none 0 0, .slice none 0 0, .int .i64 0, .int .i64 0], []⟩ 8 (by kernel_rfl) (by kernel_rfl) (by kernel_rfl) (by kernel_rfl)) ?_
  intro W base args ds gs before hval0 hW hcnd _
  have hval : ∀ (j : Nat) t v, Tryz.f3.params[j]? = some t → args[j]? = some v → Value.okWide Tryz.prog W .any base t v := hval0
  have hW' := hW
  obtain ⟨p, q, hA0, hV, rfl, hfz, hnd⟩ := hW
  obtain ⟨rfl, rfl⟩ := trodVars_none hV
  have hA : DataW.TrodAll enc Tryz.prog W 0 (fun _ => true) true [27, 31, 32, 32, 32, 33, 3, 3] args.toList ds p := hA0
  obtain ⟨v0, v1, v2, v3, v4, v5, v6, v7, d0, d1, d2, d3, d4, d5, d6, d7, p0, p1, p2, p3, p4, p5, p6, p7, rfl, rfl, rfl, h0, h1, h2, h3, h4, h5, h6, h7⟩ := trodAll_eight hA
  obtain ⟨id, light, lever, height, A, n, c, B, m, d, merr, C, q', r, terr, turn, least, hs, mn, mt, rfl, a1, a2, a3, a4, a5, a6, a7, _, rfl⟩ := open_sh (hval 0 27 v0 rfl rfl) h0
  obtain ⟨Y, ny, cy, G, ng, cg, ys, gs, rfl, b1, b2, b3, b4, _, rfl⟩ := open_bu (hval 1 31 v1 rfl rfl) h1
  obtain ⟨E, ne, ce, es, rfl, e1, e2, _⟩ := open_is (hval 2 32 v2 rfl rfl) h2
  obtain ⟨X, xp, pc, xs, rfl, x1, x2, _⟩ := open_is (hval 3 32 v3 rfl rfl) h3
  obtain ⟨Z, k, kc, zs, rfl, z1, z2, _⟩ := open_is (hval 4 32 v4 rfl rfl) h4
  obtain ⟨T, nt, ct, ss, rfl, s1, s2, s3⟩ := open_sg (hval 5 33 v5 rfl rfl) h5
  obtain ⟨depth, rfl, rfl, rfl, _⟩ := open_int Tryz.underlying3 (hval 6 3 v6 rfl rfl) h6
  obtain ⟨keel, rfl, rfl, rfl, _⟩ := open_int Tryz.underlying3 (hval 7 3 v7 rfl rfl) h7
  refine (top_walk id light lever height A n c B m d merr C q' r terr turn least hs mn mt Y ny cy G ng cg ys gs E ne ce es X xp pc xs Z k kc zs T nt ct ss depth keel W a1 a2 a3 a4 a5 a6 a7 b1 b2 b3 b4 e1 e2 x1 x2 z1 z2 s1 s2 s3).mono fun e W' ⟨he, hb⟩ => ⟨_, he, law_post laid_out (by kernel_rfl) rfl Tryz.underlying4 rfl hW' rfl rfl rfl hb⟩

theorem topMassesAreTrue : Rows.TopMassesAreTrueSaid :=
  OpenClaim.holds_of_wide 3 Tryz.f3 rfl rfl rfl rfl rfl rfl rfl ⟨rfl, rfl, rfl, rfl, rfl⟩ rfl rfl rfl rfl rfl (by kernel_rfl) Tryz.func3 (by kernel_rfl)
    (of_decide_eq_true (by kernel_rfl)) (by unfold Func.isWrapper; first | (rw [if_pos (by decide +kernel)]; kernel_rfl) | (rw [if_neg (by decide +kernel)]; exact ⟨rfl, rfl⟩))
    (fun os started H enc _ => topMassesAreTrue_lifted os started H enc)
#print axioms topMassesAreTrue
end Go.Proofs.YtgojpgggbflgoaaGreat
