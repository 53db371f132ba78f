/-
  IntervalReference: the law's call returns true for every input that the given row lets in and every world, as the row says; no condition of its own.
-/
import Derived.Test.YtoigofkddkpijaaRows
import Derived.Test.YtoigofkddkpijaaIvReference
import Derived.WalkKit
import Derived.ProofKit
import Derived.OpenShut
import Derived.ShutString
import Derived.ChangeOld
import Derived.Below
import Derived.SizedLaws
import Derived.Lib.SmallJoins
namespace Go.Proofs.Ytoigofkddkpijaa.intervalReference
open Go.ChangeShapes Go.WideShapes Go.ChangeAt Go.RowKit Go.Joins
theorem walk (a0 : Int) (a1 : Int) (a2 : Int) (a3 : Int) (a4 : Int) (a5 : Int) (a6 : Int) (a7x a7y : Int) (a8x a8y : Int) (a9x a9y : Int) (a10 : Int) (w : World) (w0 : (Lit.int .i64 a0).wf = true) (w1 : (Lit.int .i64 a1).wf = true) (w2 : (Lit.int .i64 a2).wf = true) (w3 : (Lit.int .i64 a3).wf = true) (w4 : (Lit.int .i64 a4).wf = true) (w5 : (Lit.int .i64 a5).wf = true) (w6 : (Lit.int .i64 a6).wf = true) (w7x : (Lit.int .i64 a7x).wf = true) (w7y : (Lit.int .i64 a7y).wf = true) (w8x : (Lit.int .i64 a8x).wf = true) (w8y : (Lit.int .i64 a8y).wf = true) (w9x : (Lit.int .i64 a9x).wf = true) (w9y : (Lit.int .i64 a9y).wf = true) (w10 : (Lit.int .i64 a10).wf = true) : Calls Try.prog 13 #[.int .i64 a0, .int .i64 a1, .int .i64 a2, .int .i64 a3, .int .i64 a4, .int .i64 a5, .int .i64 a6, .agg #[.int .i64 a7x, .int .i64 a7y], .agg #[.int .i64 a8x, .int .i64 a8y], .agg #[.int .i64 a9x, .int .i64 a9y], .int .i64 a10] w fun e w' => e = .returned (.bool true) ∧ Below w.heap.size w w' :=
  Vm.calls_of_runs Vm.G_ok (Vm.law13 a0 a1 a2 a3 a4 a5 a6 a7x a7y a8x a8y a9x a9y a10 (Vm.W.of_wf w7x) (Vm.W.of_wf w7y) (Vm.W.of_wf w8x) (Vm.W.of_wf w8y) (Vm.W.of_wf w9x) (Vm.W.of_wf w9y) (Vm.W.of_wf w10) Vm.St.nil) (cargs := [.int .i64 a0, .int .i64 a1, .int .i64 a2, .int .i64 a3, .int .i64 a4, .int .i64 a5, .int .i64 a6, .agg #[.int .i64 a7x, .int .i64 a7y], .agg #[.int .i64 a8x, .int .i64 a8y], .agg #[.int .i64 a9x, .int .i64 a9y], .int .i64 a10]) ⟨.lit _, .lit _, .lit _, .lit _, .lit _, .lit _, .lit _, Vm.RV.agg2 _ _, Vm.RV.agg2 _ _, Vm.RV.agg2 _ _, .lit _, trivial⟩
theorem cells58 : Try.prog.cellsOf 58 = 2 := by kernel_rfl
theorem own : ownKnob Try.prog.godebug = none := by kernel_rfl
set_option maxRecDepth 100000 in
theorem lifted (os : Os) (started : os.Started) (H : Type) (enc : TypeId × Value → H) :
    ReturnsInHanded {} Try.checked os 13 .any (Rows.intervalReferenceSpec.pre6 enc Try.prog Try.f13 Rows.intervalReferenceRow.domain false) (Rows.intervalReferenceSpec.post enc Try.prog Try.f13 false true false false) := by
  refine returnsInHanded_of_change_sized (C := Try.checked) own started (by kernel_rfl) Try.func13
    (ChangeSpec.witness6 (enc := enc) (C := Try.checked) false ⟨#[], #[.int .i64 0, .int .i64 0, .int .i64 0, .int .i64 0, .int .i64 0, .int .i64 0, .int .i64 0, .agg #[.int .i64 0, .int .i64 0], .agg #[.int .i64 0, .int .i64 0], .agg #[.int .i64 0, .int .i64 0], .int .i64 0], []⟩ 8 (by kernel_rfl) (by kernel_rfl) (by kernel_rfl) (by kernel_rfl)) ?_
  intro W base args ds gs before hval0 hW hcnd hsz0 _
  have hval : ∀ (j : Nat) t v, Try.f13.params[j]? = some t → args[j]? = some v → Value.okWide Try.prog W .any base t v := hval0
  have hW' := hW
  obtain ⟨p, q, hA0, hV, rfl, hfz, hnd⟩ := hW
  have hA : DataW.TrodAll enc Try.prog W 0 (fun _ => true) true Try.f13.params.toList args.toList ds p := hA0
  rw [Try.params13] at hA hval
  obtain ⟨v0, vs0, d0, ds0, p0, q0, hargs, rfl, rfl, h0, r0⟩ := trodAll_cons hA
  obtain ⟨v1, vs1, d1, ds1, p1, q1, rfl, rfl, rfl, h1, r1⟩ := trodAll_cons r0
  obtain ⟨v2, vs2, d2, ds2, p2, q2, rfl, rfl, rfl, h2, r2⟩ := trodAll_cons r1
  obtain ⟨v3, vs3, d3, ds3, p3, q3, rfl, rfl, rfl, h3, r3⟩ := trodAll_cons r2
  obtain ⟨v4, vs4, d4, ds4, p4, q4, rfl, rfl, rfl, h4, r4⟩ := trodAll_cons r3
  obtain ⟨v5, vs5, d5, ds5, p5, q5, rfl, rfl, rfl, h5, r5⟩ := trodAll_cons r4
  obtain ⟨v6, vs6, d6, ds6, p6, q6, rfl, rfl, rfl, h6, r6⟩ := trodAll_cons r5
  obtain ⟨v7, vs7, d7, ds7, p7, q7, rfl, rfl, rfl, h7, r7⟩ := trodAll_cons r6
  obtain ⟨v8, vs8, d8, ds8, p8, q8, rfl, rfl, rfl, h8, r8⟩ := trodAll_cons r7
  obtain ⟨v9, vs9, d9, ds9, p9, q9, rfl, rfl, rfl, h9, r9⟩ := trodAll_cons r8
  obtain ⟨v10, vs10, d10, ds10, p10, q10, rfl, rfl, rfl, h10, r10⟩ := trodAll_cons r9
  obtain ⟨rfl, rfl, rfl⟩ := trodAll_nil r10
  obtain rfl : args = #[v0, v1, v2, v3, v4, v5, v6, v7, v8, v9, v10] := by cases args; simp_all
  obtain ⟨rfl, rfl⟩ := trodVars_none hV
  obtain ⟨a0, rfl, rfl, rfl, w0⟩ := open_int Try.underlying3 (hval 0 3 v0 rfl rfl) h0
  obtain ⟨a1, rfl, rfl, rfl, w1⟩ := open_int Try.underlying3 (hval 1 3 v1 rfl rfl) h1
  obtain ⟨a2, rfl, rfl, rfl, w2⟩ := open_int Try.underlying3 (hval 2 3 v2 rfl rfl) h2
  obtain ⟨a3, rfl, rfl, rfl, w3⟩ := open_int Try.underlying3 (hval 3 3 v3 rfl rfl) h3
  obtain ⟨a4, rfl, rfl, rfl, w4⟩ := open_int Try.underlying3 (hval 4 3 v4 rfl rfl) h4
  obtain ⟨a5, rfl, rfl, rfl, w5⟩ := open_int Try.underlying3 (hval 5 3 v5 rfl rfl) h5
  obtain ⟨a6, rfl, rfl, rfl, w6⟩ := open_int Try.underlying3 (hval 6 3 v6 rfl rfl) h6
  obtain ⟨c7, e7, y7, z7, m7, rfl, rfl, rfl, hy7, hz7⟩ := open_agg2 Try.underlying58 (by kernel_rfl) cells58 (hval 7 58 v7 rfl rfl) h7
  obtain ⟨a7x, f7, rfl, w7x⟩ := DataW.trod_int Try.underlying2 hy7
  obtain ⟨a7y, g7, rfl, w7y⟩ := DataW.trod_int Try.underlying2 hz7
  simp at f7 g7
  subst f7 g7
  obtain ⟨c8, e8, y8, z8, m8, rfl, rfl, rfl, hy8, hz8⟩ := open_agg2 Try.underlying58 (by kernel_rfl) cells58 (hval 8 58 v8 rfl rfl) h8
  obtain ⟨a8x, f8, rfl, w8x⟩ := DataW.trod_int Try.underlying2 hy8
  obtain ⟨a8y, g8, rfl, w8y⟩ := DataW.trod_int Try.underlying2 hz8
  simp at f8 g8
  subst f8 g8
  obtain ⟨c9, e9, y9, z9, m9, rfl, rfl, rfl, hy9, hz9⟩ := open_agg2 Try.underlying58 (by kernel_rfl) cells58 (hval 9 58 v9 rfl rfl) h9
  obtain ⟨a9x, f9, rfl, w9x⟩ := DataW.trod_int Try.underlying2 hy9
  obtain ⟨a9y, g9, rfl, w9y⟩ := DataW.trod_int Try.underlying2 hz9
  simp at f9 g9
  subst f9 g9
  obtain ⟨a10, rfl, rfl, rfl, w10⟩ := open_int Try.underlying2 (hval 10 2 v10 rfl rfl) h10
  clear hA0 hval0 hsz0
  refine (walk a0 a1 a2 a3 a4 a5 a6 a7x a7y a8x a8y a9x a9y a10 W w0 w1 w2 w3 w4 w5 w6 w7x w7y w8x w8y w9x w9y w10).mono fun e W' ⟨he, bel⟩ => ?_
  subst he
  exact ⟨_, rfl, _, _, _, [], _, [], hW', trodAll_mk1 (shut_bool Try.underlying4 _), (trodAll_cons_mk (shut_int Try.underlying3 w0) (trodAll_cons_mk (shut_int Try.underlying3 w1) (trodAll_cons_mk (shut_int Try.underlying3 w2) (trodAll_cons_mk (shut_int Try.underlying3 w3) (trodAll_cons_mk (shut_int Try.underlying3 w4) (trodAll_cons_mk (shut_int Try.underlying3 w5) (trodAll_cons_mk (shut_int Try.underlying3 w6) (trodAll_cons_mk (shut_agg2 (y0 := (.lit (.int .i64 a7x), [])) (y1 := (.lit (.int .i64 a7y), [])) Try.underlying58 (by kernel_rfl) cells58 (shut_int Try.underlying2 w7x) (shut_int Try.underlying2 w7y)) (trodAll_cons_mk (shut_agg2 (y0 := (.lit (.int .i64 a8x), [])) (y1 := (.lit (.int .i64 a8y), [])) Try.underlying58 (by kernel_rfl) cells58 (shut_int Try.underlying2 w8x) (shut_int Try.underlying2 w8y)) (trodAll_cons_mk (shut_agg2 (y0 := (.lit (.int .i64 a9x), [])) (y1 := (.lit (.int .i64 a9y), [])) Try.underlying58 (by kernel_rfl) cells58 (shut_int Try.underlying2 w9x) (shut_int Try.underlying2 w9y)) (trodAll_cons_mk (shut_int Try.underlying2 w10) trodAll_mk0))))))))))), rfl, bel.frame _, fun h => by cases h⟩
theorem over : Rows.intervalReferenceRow.holds Try.pinned (OpenSpec.ofChange Rows.intervalReferenceSpec) :=
  OpenClaim.holds_of_wide 13 Try.f13 rfl rfl rfl rfl rfl rfl rfl ⟨rfl, rfl, rfl, rfl, rfl⟩ rfl rfl rfl rfl rfl (by kernel_rfl) Try.func13 (by kernel_rfl)
    (of_decide_eq_true (by kernel_rfl)) (by unfold Func.isWrapper; first | (rw [if_pos (by decide +kernel)]; kernel_rfl) | (rw [if_neg (by decide +kernel)]; exact ⟨rfl, rfl⟩))
    (fun os started H enc _ => lifted os started H enc)
theorem proved : Rows.IntervalReferenceSaid := over
#print axioms proved
end Go.Proofs.Ytoigofkddkpijaa.intervalReference
namespace Go.Proofs.Ytoigofkddkpijaa
/-- The row, under a short name, for the claim. -/
theorem intervalReference_holds : Rows.IntervalReferenceSaid := intervalReference.proved
end Go.Proofs.Ytoigofkddkpijaa
