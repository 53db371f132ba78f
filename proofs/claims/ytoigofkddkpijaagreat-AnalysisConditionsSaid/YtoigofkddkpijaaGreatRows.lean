/-
  No cell of these rows narrows 'for every input' (looked for: loops, veiled, ifaces, maps, wideKeys, modest, calm, conditions, laid).
  DERIVED. THE GIVEN ROWS OF THIS SEAT. 9 by the template 'for every input the law returns true; each argument reads behind the call as it read before'; 0 by the template 'total and deterministic' (their statements: YtoigofkddkpijaaGreatTotals.lean).
  GIVEN WITH THE SEED: the statements are not yours to turn. If you find one false, say at which input.
  Laid BY PROGRAM, IN A SANDBOX (cutbox-rows.mjs): the forced cells as the released guide's own fill.sh prints them over the translation 90863cd613140229… (all of the seat's roots in one cut). By AI agents, Wed Nov 11 2026. No macro, syntax, notation, axiom, sorry.
-/
import Derived.Test.YtoigofkddkpijaaGreatChecked
import GoSem.Claim
import GoSem.ClaimJoined
import GoSem.ClaimMapViews
import Derived.JoinedTies
import Derived.KernelRfl
namespace Go.Proofs.YtoigofkddkpijaaGreat
/- THE CELL 'sum', in the pinned program and in every row, IS THE sha256 OF THE DUMP (.gsa) THAT YtoigofkddkpijaaGreatProg.lean LOADS. Nothing in Lean hashes anything: it is a label: what it is worth is what the hold of that sum in a sandbox is worth. -/
noncomputable def Tryz.pinned : Pinned := { name := "ytoigofkddkpijaagreat", sum := "90863cd613140229ff90f0cca000d928f200ed968f87f06c7b9d92e47a925acb", checked := Tryz.checked }
namespace Rows
def none {H : Type} : Left H := { results := [], args := [] }

/-- 'fullinglaw14.AnalysisExamples': WHATEVER THE INPUT: true; the input reads as it did. -/
def analysisExamplesSpec : ChangeSpec := { name := "analysisExamples", fn := fun _ => fun
  | [] => { results := [.lit (.bool true)], args := [] }
  | _ => none }
def analysisExamplesRow : OpenClaim := { program := "ytoigofkddkpijaagreat", sum := "90863cd613140229ff90f0cca000d928f200ed968f87f06c7b9d92e47a925acb", func := "fulling/fullinglaw14.AnalysisExamples", spec := "analysisExamples", unfollowed := true, recurses := true, apart := false }
def AnalysisExamplesSaid : Prop := analysisExamplesRow.holds Tryz.pinned (OpenSpec.ofChange analysisExamplesSpec)

/-- ITS FALSE NEIGHBOUR: 'it returns false'. Refute it at one input. -/
def analysisExamplesWrong : ChangeSpec := { name := "analysisExamples", fn := fun _ => fun
  | [] => { results := [.lit (.bool false)], args := [] }
  | _ => none }
def AnalysisExamplesWrongFalsely : Prop := analysisExamplesRow.holds Tryz.pinned (OpenSpec.ofChange analysisExamplesWrong)

/-- 'fullinglaw14.AnalysisConditions': WHATEVER THE INPUT: true; the input reads as it did. -/
def analysisConditionsSpec : ChangeSpec := { name := "analysisConditions", fn := fun _ => fun
  | [d1, d2, d3, d4] => { results := [.lit (.bool true)], args := [d1, d2, d3, d4] }
  | _ => none }
def analysisConditionsRow : OpenClaim := { program := "ytoigofkddkpijaagreat", sum := "90863cd613140229ff90f0cca000d928f200ed968f87f06c7b9d92e47a925acb", func := "fulling/fullinglaw14.AnalysisConditions", spec := "analysisConditions", unfollowed := true, recurses := true, apart := false }
def AnalysisConditionsSaid : Prop := analysisConditionsRow.holds Tryz.pinned (OpenSpec.ofChange analysisConditionsSpec)

/-- ITS FALSE NEIGHBOUR: 'it returns false'. Refute it at one input. -/
def analysisConditionsWrong : ChangeSpec := { name := "analysisConditions", fn := fun _ => fun
  | [d1, d2, d3, d4] => { results := [.lit (.bool false)], args := [d1, d2, d3, d4] }
  | _ => none }
def AnalysisConditionsWrongFalsely : Prop := analysisConditionsRow.holds Tryz.pinned (OpenSpec.ofChange analysisConditionsWrong)

/-- 'fullinglaw14.AnalysisInductive': WHATEVER THE INPUT: true; the input reads as it did. -/
def analysisInductiveSpec : ChangeSpec := { name := "analysisInductive", fn := fun _ => fun
  | [d1, d2] => { results := [.lit (.bool true)], args := [d1, d2] }
  | _ => none }
def analysisInductiveRow : OpenClaim := { program := "ytoigofkddkpijaagreat", sum := "90863cd613140229ff90f0cca000d928f200ed968f87f06c7b9d92e47a925acb", func := "fulling/fullinglaw14.AnalysisInductive", spec := "analysisInductive", unfollowed := true, recurses := true, apart := false }
def AnalysisInductiveSaid : Prop := analysisInductiveRow.holds Tryz.pinned (OpenSpec.ofChange analysisInductiveSpec)

/-- ITS FALSE NEIGHBOUR: 'it returns false'. Refute it at one input. -/
def analysisInductiveWrong : ChangeSpec := { name := "analysisInductive", fn := fun _ => fun
  | [d1, d2] => { results := [.lit (.bool false)], args := [d1, d2] }
  | _ => none }
def AnalysisInductiveWrongFalsely : Prop := analysisInductiveRow.holds Tryz.pinned (OpenSpec.ofChange analysisInductiveWrong)

/-- 'fullinglaw14.AnalysisNested': WHATEVER THE INPUT: true; the input reads as it did. -/
def analysisNestedSpec : ChangeSpec := { name := "analysisNested", fn := fun _ => fun
  | [d1, d2, d3, d4] => { results := [.lit (.bool true)], args := [d1, d2, d3, d4] }
  | _ => none }
def analysisNestedRow : OpenClaim := { program := "ytoigofkddkpijaagreat", sum := "90863cd613140229ff90f0cca000d928f200ed968f87f06c7b9d92e47a925acb", func := "fulling/fullinglaw14.AnalysisNested", spec := "analysisNested", unfollowed := true, recurses := true, apart := false }
def AnalysisNestedSaid : Prop := analysisNestedRow.holds Tryz.pinned (OpenSpec.ofChange analysisNestedSpec)

/-- ITS FALSE NEIGHBOUR: 'it returns false'. Refute it at one input. -/
def analysisNestedWrong : ChangeSpec := { name := "analysisNested", fn := fun _ => fun
  | [d1, d2, d3, d4] => { results := [.lit (.bool false)], args := [d1, d2, d3, d4] }
  | _ => none }
def AnalysisNestedWrongFalsely : Prop := analysisNestedRow.holds Tryz.pinned (OpenSpec.ofChange analysisNestedWrong)

/-- 'fullinglaw14.AnalysisRejects': WHATEVER THE INPUT: true; the input reads as it did. -/
def analysisRejectsSpec : ChangeSpec := { name := "analysisRejects", fn := fun _ => fun
  | [d1, d2, d3] => { results := [.lit (.bool true)], args := [d1, d2, d3] }
  | _ => none }
def analysisRejectsRow : OpenClaim := { program := "ytoigofkddkpijaagreat", sum := "90863cd613140229ff90f0cca000d928f200ed968f87f06c7b9d92e47a925acb", func := "fulling/fullinglaw14.AnalysisRejects", spec := "analysisRejects", unfollowed := true, recurses := true, apart := false }
def AnalysisRejectsSaid : Prop := analysisRejectsRow.holds Tryz.pinned (OpenSpec.ofChange analysisRejectsSpec)

/-- ITS FALSE NEIGHBOUR: 'it returns false'. Refute it at one input. -/
def analysisRejectsWrong : ChangeSpec := { name := "analysisRejects", fn := fun _ => fun
  | [d1, d2, d3] => { results := [.lit (.bool false)], args := [d1, d2, d3] }
  | _ => none }
def AnalysisRejectsWrongFalsely : Prop := analysisRejectsRow.holds Tryz.pinned (OpenSpec.ofChange analysisRejectsWrong)

/-- 'fullinglaw14.AnalysisReference': WHATEVER THE INPUT: true; the input reads as it did. -/
def analysisReferenceSpec : ChangeSpec := { name := "analysisReference", fn := fun _ => fun
  | [d1, d2, d3, d4, d5] => { results := [.lit (.bool true)], args := [d1, d2, d3, d4, d5] }
  | _ => none }
def analysisReferenceRow : OpenClaim := { program := "ytoigofkddkpijaagreat", sum := "90863cd613140229ff90f0cca000d928f200ed968f87f06c7b9d92e47a925acb", func := "fulling/fullinglaw14.AnalysisReference", spec := "analysisReference", unfollowed := true, recurses := true, apart := false }
def AnalysisReferenceSaid : Prop := analysisReferenceRow.holds Tryz.pinned (OpenSpec.ofChange analysisReferenceSpec)

/-- ITS FALSE NEIGHBOUR: 'it returns false'. Refute it at one input. -/
def analysisReferenceWrong : ChangeSpec := { name := "analysisReference", fn := fun _ => fun
  | [d1, d2, d3, d4, d5] => { results := [.lit (.bool false)], args := [d1, d2, d3, d4, d5] }
  | _ => none }
def AnalysisReferenceWrongFalsely : Prop := analysisReferenceRow.holds Tryz.pinned (OpenSpec.ofChange analysisReferenceWrong)

/-- 'fullinglaw14.AnalysisSound': WHATEVER THE INPUT: true; the input reads as it did. -/
def analysisSoundSpec : ChangeSpec := { name := "analysisSound", fn := fun _ => fun
  | [d1, d2, d3, d4] => { results := [.lit (.bool true)], args := [d1, d2, d3, d4] }
  | _ => none }
def analysisSoundRow : OpenClaim := { program := "ytoigofkddkpijaagreat", sum := "90863cd613140229ff90f0cca000d928f200ed968f87f06c7b9d92e47a925acb", func := "fulling/fullinglaw14.AnalysisSound", spec := "analysisSound", unfollowed := true, recurses := true, apart := false }
def AnalysisSoundSaid : Prop := analysisSoundRow.holds Tryz.pinned (OpenSpec.ofChange analysisSoundSpec)

/-- ITS FALSE NEIGHBOUR: 'it returns false'. Refute it at one input. -/
def analysisSoundWrong : ChangeSpec := { name := "analysisSound", fn := fun _ => fun
  | [d1, d2, d3, d4] => { results := [.lit (.bool false)], args := [d1, d2, d3, d4] }
  | _ => none }
def AnalysisSoundWrongFalsely : Prop := analysisSoundRow.holds Tryz.pinned (OpenSpec.ofChange analysisSoundWrong)

/-- 'fullinglaw14.AnalysisLoops': WHATEVER THE INPUT: true; the input reads as it did. -/
def analysisLoopsSpec : ChangeSpec := { name := "analysisLoops", fn := fun _ => fun
  | [d1, d2, d3, d4, d5] => { results := [.lit (.bool true)], args := [d1, d2, d3, d4, d5] }
  | _ => none }
def analysisLoopsRow : OpenClaim := { program := "ytoigofkddkpijaagreat", sum := "90863cd613140229ff90f0cca000d928f200ed968f87f06c7b9d92e47a925acb", func := "fulling/fullinglaw14.AnalysisLoops", spec := "analysisLoops", unfollowed := true, recurses := true, apart := false }
def AnalysisLoopsSaid : Prop := analysisLoopsRow.holds Tryz.pinned (OpenSpec.ofChange analysisLoopsSpec)

/-- ITS FALSE NEIGHBOUR: 'it returns false'. Refute it at one input. -/
def analysisLoopsWrong : ChangeSpec := { name := "analysisLoops", fn := fun _ => fun
  | [d1, d2, d3, d4, d5] => { results := [.lit (.bool false)], args := [d1, d2, d3, d4, d5] }
  | _ => none }
def AnalysisLoopsWrongFalsely : Prop := analysisLoopsRow.holds Tryz.pinned (OpenSpec.ofChange analysisLoopsWrong)

/-- 'fullinglaw14.AnalysisNonempty': WHATEVER THE INPUT: true; the input reads as it did. -/
def analysisNonemptySpec : ChangeSpec := { name := "analysisNonempty", fn := fun _ => fun
  | [d1, d2, d3, d4] => { results := [.lit (.bool true)], args := [d1, d2, d3, d4] }
  | _ => none }
def analysisNonemptyRow : OpenClaim := { program := "ytoigofkddkpijaagreat", sum := "90863cd613140229ff90f0cca000d928f200ed968f87f06c7b9d92e47a925acb", func := "fulling/fullinglaw14.AnalysisNonempty", spec := "analysisNonempty", unfollowed := true, recurses := true, apart := false }
def AnalysisNonemptySaid : Prop := analysisNonemptyRow.holds Tryz.pinned (OpenSpec.ofChange analysisNonemptySpec)

/-- ITS FALSE NEIGHBOUR: 'it returns false'. Refute it at one input. -/
def analysisNonemptyWrong : ChangeSpec := { name := "analysisNonempty", fn := fun _ => fun
  | [d1, d2, d3, d4] => { results := [.lit (.bool false)], args := [d1, d2, d3, d4] }
  | _ => none }
def AnalysisNonemptyWrongFalsely : Prop := analysisNonemptyRow.holds Tryz.pinned (OpenSpec.ofChange analysisNonemptyWrong)

/- THE SECOND FORM. 'bulk': how many values and letters a reading holds, each counted each time it is reached (what is shared counts as often as it is met; a slice's spare places count too). A statement '..UptoSaid' is the law's where the arguments, and the package variables that the reading takes, are together of bulk at most 1048576: NARROWER than '..Said'. Prove '..Said' where nothing that the law and all that it calls make is longer than what came in: it says more and counts as full. Else prove '..UptoSaid'. A law counts once. -/
mutual
def uptoBulk {H : Type} : DataW H → Nat
  | .lit (.string bytes) => bytes.length + 1
  | .lit _ => 1
  | .nil => 1
  | .ptr d => uptoBulk d + 1
  | .slice elems spare => uptoBulkAll elems + uptoBulkAll spare + 1
  | .agg parts => uptoBulkAll parts + 1
  | .iface _ d => uptoBulk d + 1
  | .map entries => uptoBulkEntries entries + 1
  | .held _ => 1
def uptoBulkAll {H : Type} : List (DataW H) → Nat
  | [] => 0
  | d :: r => uptoBulk d + uptoBulkAll r
def uptoBulkEntries {H : Type} : List (Lit × DataW H) → Nat
  | [] => 0
  | x :: r => uptoBulkEntry x + uptoBulkEntries r
def uptoBulkEntry {H : Type} : Lit × DataW H → Nat
  | (.string bytes, d) => bytes.length + uptoBulk d + 1
  | (_, d) => uptoBulk d + 1
 end
def uptoSmall : (H : Type) → List (DataW H) → Bool := fun _ ds => decide (uptoBulkAll ds ≤ 1048576)
def OpenSpec.upto (s : _root_.Go.ChangeSpec) : _root_.Go.OpenSpec := { _root_.Go.OpenSpec.ofChange s with cond := some uptoSmall }

/-- 'fullinglaw14.AnalysisExamples', WHERE WHAT IT READS IS OF BULK AT MOST 1048576: true; the input reads as it did. -/
def analysisExamplesUptoRow : OpenClaim := { program := "ytoigofkddkpijaagreat", sum := "90863cd613140229ff90f0cca000d928f200ed968f87f06c7b9d92e47a925acb", func := "fulling/fullinglaw14.AnalysisExamples", spec := "analysisExamples", unfollowed := true, recurses := true, apart := false, narrowed := true }
def AnalysisExamplesUptoSaid : Prop := analysisExamplesUptoRow.holds Tryz.pinned (OpenSpec.upto analysisExamplesSpec)

/-- 'fullinglaw14.AnalysisConditions', WHERE WHAT IT READS IS OF BULK AT MOST 1048576: true; the input reads as it did. -/
def analysisConditionsUptoRow : OpenClaim := { program := "ytoigofkddkpijaagreat", sum := "90863cd613140229ff90f0cca000d928f200ed968f87f06c7b9d92e47a925acb", func := "fulling/fullinglaw14.AnalysisConditions", spec := "analysisConditions", unfollowed := true, recurses := true, apart := false, narrowed := true }
def AnalysisConditionsUptoSaid : Prop := analysisConditionsUptoRow.holds Tryz.pinned (OpenSpec.upto analysisConditionsSpec)

/-- 'fullinglaw14.AnalysisInductive', WHERE WHAT IT READS IS OF BULK AT MOST 1048576: true; the input reads as it did. -/
def analysisInductiveUptoRow : OpenClaim := { program := "ytoigofkddkpijaagreat", sum := "90863cd613140229ff90f0cca000d928f200ed968f87f06c7b9d92e47a925acb", func := "fulling/fullinglaw14.AnalysisInductive", spec := "analysisInductive", unfollowed := true, recurses := true, apart := false, narrowed := true }
def AnalysisInductiveUptoSaid : Prop := analysisInductiveUptoRow.holds Tryz.pinned (OpenSpec.upto analysisInductiveSpec)

/-- 'fullinglaw14.AnalysisNested', WHERE WHAT IT READS IS OF BULK AT MOST 1048576: true; the input reads as it did. -/
def analysisNestedUptoRow : OpenClaim := { program := "ytoigofkddkpijaagreat", sum := "90863cd613140229ff90f0cca000d928f200ed968f87f06c7b9d92e47a925acb", func := "fulling/fullinglaw14.AnalysisNested", spec := "analysisNested", unfollowed := true, recurses := true, apart := false, narrowed := true }
def AnalysisNestedUptoSaid : Prop := analysisNestedUptoRow.holds Tryz.pinned (OpenSpec.upto analysisNestedSpec)

/-- 'fullinglaw14.AnalysisRejects', WHERE WHAT IT READS IS OF BULK AT MOST 1048576: true; the input reads as it did. -/
def analysisRejectsUptoRow : OpenClaim := { program := "ytoigofkddkpijaagreat", sum := "90863cd613140229ff90f0cca000d928f200ed968f87f06c7b9d92e47a925acb", func := "fulling/fullinglaw14.AnalysisRejects", spec := "analysisRejects", unfollowed := true, recurses := true, apart := false, narrowed := true }
def AnalysisRejectsUptoSaid : Prop := analysisRejectsUptoRow.holds Tryz.pinned (OpenSpec.upto analysisRejectsSpec)

/-- 'fullinglaw14.AnalysisReference', WHERE WHAT IT READS IS OF BULK AT MOST 1048576: true; the input reads as it did. -/
def analysisReferenceUptoRow : OpenClaim := { program := "ytoigofkddkpijaagreat", sum := "90863cd613140229ff90f0cca000d928f200ed968f87f06c7b9d92e47a925acb", func := "fulling/fullinglaw14.AnalysisReference", spec := "analysisReference", unfollowed := true, recurses := true, apart := false, narrowed := true }
def AnalysisReferenceUptoSaid : Prop := analysisReferenceUptoRow.holds Tryz.pinned (OpenSpec.upto analysisReferenceSpec)

/-- 'fullinglaw14.AnalysisSound', WHERE WHAT IT READS IS OF BULK AT MOST 1048576: true; the input reads as it did. -/
def analysisSoundUptoRow : OpenClaim := { program := "ytoigofkddkpijaagreat", sum := "90863cd613140229ff90f0cca000d928f200ed968f87f06c7b9d92e47a925acb", func := "fulling/fullinglaw14.AnalysisSound", spec := "analysisSound", unfollowed := true, recurses := true, apart := false, narrowed := true }
def AnalysisSoundUptoSaid : Prop := analysisSoundUptoRow.holds Tryz.pinned (OpenSpec.upto analysisSoundSpec)

/-- 'fullinglaw14.AnalysisLoops', WHERE WHAT IT READS IS OF BULK AT MOST 1048576: true; the input reads as it did. -/
def analysisLoopsUptoRow : OpenClaim := { program := "ytoigofkddkpijaagreat", sum := "90863cd613140229ff90f0cca000d928f200ed968f87f06c7b9d92e47a925acb", func := "fulling/fullinglaw14.AnalysisLoops", spec := "analysisLoops", unfollowed := true, recurses := true, apart := false, narrowed := true }
def AnalysisLoopsUptoSaid : Prop := analysisLoopsUptoRow.holds Tryz.pinned (OpenSpec.upto analysisLoopsSpec)

/-- 'fullinglaw14.AnalysisNonempty', WHERE WHAT IT READS IS OF BULK AT MOST 1048576: true; the input reads as it did. -/
def analysisNonemptyUptoRow : OpenClaim := { program := "ytoigofkddkpijaagreat", sum := "90863cd613140229ff90f0cca000d928f200ed968f87f06c7b9d92e47a925acb", func := "fulling/fullinglaw14.AnalysisNonempty", spec := "analysisNonempty", unfollowed := true, recurses := true, apart := false, narrowed := true }
def AnalysisNonemptyUptoSaid : Prop := analysisNonemptyUptoRow.holds Tryz.pinned (OpenSpec.upto analysisNonemptySpec)

end Rows
end Go.Proofs.YtoigofkddkpijaaGreat
