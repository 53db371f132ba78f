/-
  AnalysisConditions: the law's call returns true for every input that the given row lets in and every world, as the row says; no condition of its own.
-/
import Derived.Test.YtoigofkddkpijaaGreatRows
import Derived.Test.YtoigofkddkpijaaGreatAcL
import Derived.WalkKit
import Derived.ProofKit
import Derived.OpenShut
import Derived.ShutString
import Derived.ChangeOld
import Derived.Below
import Derived.SizedLaws
import Derived.Lib.SmallJoins
namespace Go.Proofs.YtoigofkddkpijaaGreat.analysisConditions
open Go.ChangeShapes Go.WideShapes Go.ChangeAt Go.RowKit Go.Joins
theorem laidOut : laidOutB Tryz.prog = true := by kernel_rfl
def IsRow (k : IntKind) (w : World) (a : Option Addr) (len cap : Nat) (zs : List Int) : Prop :=
  (a = none ∧ len = 0 ∧ cap = 0 ∧ zs = []) ∨
  ∃ x, a = some x ∧ len ≤ cap ∧ cap ≤ maxLen ∧ zs.length = cap ∧ (∀ i, i < zs.length → w.cell? (x.add i) = some (.int k (zs.getD i 0))) ∧ ∀ n ∈ zs, (Lit.int k n).wf = true
theorem walk (a0x a0y a0z a0t : Int) (a1 : Int) (v2 : Value) (hs2 : List (Int × Int)) (a3 : Option Addr) (len3 cap3 : Nat) (z3 : List Int) (w : World) (w0x : (Lit.int .i64 a0x).wf = true) (w0y : (Lit.int .i64 a0y).wf = true) (w0z : (Lit.int .i64 a0z).wf = true) (w0t : (Lit.int .i64 a0t).wf = true) (w1 : (Lit.int .i64 a1).wf = true) (w2 : Vm.RV (Vm.Mu.all w) (.sl .ro (hs2.map Vm.pair2)) v2) (w3 : IsRow .i64 w a3 len3 cap3 z3) : Calls Tryz.prog 4 #[.agg #[.int .i64 a0x, .int .i64 a0y, .int .i64 a0z, .int .i64 a0t], .int .i64 a1, v2, .slice a3 len3 cap3] w fun e w' => e = .returned (.bool true) ∧ Below w.heap.size w w' :=
  let ⟨_, R⟩ := Vm.law4 a0x a0y a0z a0t a1 hs2 (z3.take len3) (Vm.W.of_wf w0y) (Vm.W.of_wf w0z) Vm.St.nil
  Vm.calls_of_runs Vm.G_ok R (cargs := [.agg #[.int .i64 a0x, .int .i64 a0y, .int .i64 a0z, .int .i64 a0t], .int .i64 a1, v2, .slice a3 len3 cap3]) ⟨Vm.RV.agg4 _ _ _ _, .lit _, w2, Vm.RV.row w3, trivial⟩
theorem cells42 : Tryz.prog.cellsOf 42 = 2 := by kernel_rfl
theorem cells48 : Tryz.prog.cellsOf 48 = 4 := by kernel_rfl
theorem own : ownKnob Tryz.prog.godebug = none := by kernel_rfl
set_option maxRecDepth 100000 in
theorem lifted (os : Os) (started : os.Started) (H : Type) (enc : TypeId × Value → H) :
    ReturnsInHanded {} Tryz.checked os 4 .any (Rows.analysisConditionsSpec.pre6 enc Tryz.prog Tryz.f4 Rows.analysisConditionsRow.domain false) (Rows.analysisConditionsSpec.post enc Tryz.prog Tryz.f4 false true false false) := by
  refine returnsInHanded_of_change_sized (C := Tryz.checked) own started (by kernel_rfl) Tryz.func4
    (ChangeSpec.witness6 (enc := enc) (C := Tryz.checked) false ⟨#[], #[.agg #[.int .i64 0, .int .i64 0, .int .i64 0, .int .i64 0], .int .i64 0, .slice none 0 0, .slice none 0 0], []⟩ 8 (by kernel_rfl) (by kernel_rfl) (by kernel_rfl) (by kernel_rfl)) ?_
  intro W base args ds gs before hval0 hW hcnd hsz0 _
  have hval : ∀ (j : Nat) t v, Tryz.f4.params[j]? = some t → args[j]? = some v → Value.okWide Tryz.prog W .any base t v := hval0
  have hW' := hW
  obtain ⟨p, q, hA0, hV, rfl, hfz, hnd⟩ := hW
  have hA : DataW.TrodAll enc Tryz.prog W 0 (fun _ => true) true Tryz.f4.params.toList args.toList ds p := hA0
  rw [Tryz.params4] at hA hval
  obtain ⟨v0, vs0, d0, ds0, p0, q0, hargs, rfl, rfl, h0, r0⟩ := trodAll_cons hA
  obtain ⟨v1, vs1, d1, ds1, p1, q1, rfl, rfl, rfl, h1, r1⟩ := trodAll_cons r0
  obtain ⟨v2, vs2, d2, ds2, p2, q2, rfl, rfl, rfl, h2, r2⟩ := trodAll_cons r1
  obtain ⟨v3, vs3, d3, ds3, p3, q3, rfl, rfl, rfl, h3, r3⟩ := trodAll_cons r2
  obtain ⟨rfl, rfl, rfl⟩ := trodAll_nil r3
  obtain rfl : args = #[v0, v1, v2, v3] := by cases args; simp_all
  obtain ⟨rfl, rfl⟩ := trodVars_none hV
  obtain ⟨c0x, c0y, c0z, c0t, y0x, y0y, y0z, y0t, m0, rfl, rfl, rfl, hy0x, hy0y, hy0z, hy0t⟩ := open_agg4 Tryz.underlying48 (by kernel_rfl) cells48 (hval 0 48 v0 rfl rfl) h0
  obtain ⟨a0x, f0x, rfl, w0x⟩ := DataW.trod_int Tryz.underlying3 hy0x
  obtain ⟨a0y, f0y, rfl, w0y⟩ := DataW.trod_int Tryz.underlying3 hy0y
  obtain ⟨a0z, f0z, rfl, w0z⟩ := DataW.trod_int Tryz.underlying3 hy0z
  obtain ⟨a0t, f0t, rfl, w0t⟩ := DataW.trod_int Tryz.underlying2 hy0t
  simp at f0x f0y f0z f0t
  subst f0x f0y f0z f0t
  obtain ⟨a1, rfl, rfl, rfl, w1⟩ := open_int Tryz.underlying3 (hval 1 3 v1 rfl rfl) h1
  obtain ⟨a2, len2, cap2, rfl⟩ := okWide_slice Tryz.underlying49 (hval 2 49 v2 rfl rfl)
  have k2 := h2
  have lt2 : ∀ x ∈ p2, x.block < W.heap.size := by obtain ⟨m, hm⟩ := k2; exact DataW.trod_lt m _ _ _ hm
  obtain ⟨hs2, _, w2⟩ := Vm.slice_pairs Tryz.underlying49 Tryz.underlying42 cells42 Tryz.underlying2 Tryz.underlying2 rfl rfl (by kernel_rfl) (by kernel_rfl) h2 rfl
  obtain ⟨a3, len3, cap3, rfl⟩ := okWide_slice Tryz.underlying50 (hval 3 50 v3 rfl rfl)
  have k3 := h3
  have lt3 : ∀ x ∈ p3, x.block < W.heap.size := by obtain ⟨m, hm⟩ := k3; exact DataW.trod_lt m _ _ _ hm
  obtain ⟨z3, w3⟩ : ∃ zs, IsRow .i64 W a3 len3 cap3 zs := by
    obtain ⟨fuel, hf⟩ := h3
    rcases open_ints Tryz.underlying50 Tryz.underlying3 (by kernel_rfl) hf with ⟨hcs, _⟩ | ⟨x, l, c, zs, hcs, _, hl, hm, hz, _, hcell, hwz⟩
    · simp [Value.cells] at hcs
      obtain ⟨rfl, rfl, rfl⟩ := hcs
      exact ⟨[], .inl ⟨rfl, rfl, rfl, rfl⟩⟩
    · simp [Value.cells] at hcs
      obtain ⟨rfl, rfl, rfl⟩ := hcs
      exact ⟨zs, .inr ⟨_, rfl, hl, hm, by simpa using hz, hcell, hwz⟩⟩
  clear hA0 hval0 hsz0
  refine (walk a0x a0y a0z a0t a1 _ hs2 a3 len3 cap3 z3 W w0x w0y w0z w0t w1 w2 w3).mono fun e W' ⟨he, bel⟩ => ?_
  subst he
  exact ⟨_, rfl, _, _, _, [], _, [], hW', trodAll_mk1 (shut_bool Tryz.underlying4 _), (trodAll_cons_mk (shut_agg4 (y0 := (.lit (.int .i64 a0x), [])) (y1 := (.lit (.int .i64 a0y), [])) (y2 := (.lit (.int .i64 a0z), [])) (y3 := (.lit (.int .i64 a0t), [])) Tryz.underlying48 (by kernel_rfl) cells48 (shut_int Tryz.underlying3 w0x) (shut_int Tryz.underlying3 w0y) (shut_int Tryz.underlying3 w0z) (shut_int Tryz.underlying2 w0t)) (trodAll_cons_mk (shut_int Tryz.underlying3 w1) (trodAll_cons_mk (Below.trod laidOut (by kernel_rfl) (of_decide_eq_true (by kernel_rfl)) k2 bel lt2) (trodAll_cons_mk (Below.trod laidOut (by kernel_rfl) (of_decide_eq_true (by kernel_rfl)) k3 bel lt3) trodAll_mk0)))), rfl, bel.frame _, fun h => by cases h⟩
theorem over : Rows.analysisConditionsRow.holds Tryz.pinned (OpenSpec.ofChange Rows.analysisConditionsSpec) :=
  OpenClaim.holds_of_wide 4 Tryz.f4 rfl rfl rfl rfl rfl rfl rfl ⟨rfl, rfl, rfl, rfl, rfl⟩ rfl rfl rfl rfl rfl (by kernel_rfl) Tryz.func4 (by kernel_rfl)
    (of_decide_eq_true (by kernel_rfl)) (by unfold Func.isWrapper; first | (rw [if_pos (by decide +kernel)]; kernel_rfl) | (rw [if_neg (by decide +kernel)]; exact ⟨rfl, rfl⟩))
    (fun os started H enc _ => lifted os started H enc)
theorem proved : Rows.AnalysisConditionsSaid := over
#print axioms proved
end Go.Proofs.YtoigofkddkpijaaGreat.analysisConditions
namespace Go.Proofs.YtoigofkddkpijaaGreat
/-- The row, under a short name, for the claim. -/
theorem analysisConditions_holds : Rows.AnalysisConditionsSaid := analysisConditions.proved
end Go.Proofs.YtoigofkddkpijaaGreat
