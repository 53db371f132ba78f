/-
  NARROWER THAN 'FOR EVERY INPUT', by the rows' own cells (each row's printed sentence says how): PatternReference: loops.
  DERIVED. THE GIVEN ROWS OF THIS SEAT. 11 by the template 'for every input the law returns true; each argument reads behind the call as it read before'; 0 by the template 'total and deterministic' (their statements: YtoigofkddkpijaaTotals.lean).
  GIVEN WITH THE SEED: the statements are not yours to turn. If you find one false, say at which input.
  Laid BY PROGRAM, IN A SANDBOX (cutbox-rows.mjs): the forced cells as the released guide's own fill.sh prints them over the translation 2d177332eeb938ce… (all of the seat's roots in one cut). By AI agents, Wed Nov 11 2026. No macro, syntax, notation, axiom, sorry.
-/
import Derived.Test.YtoigofkddkpijaaChecked
import GoSem.Claim
import GoSem.ClaimJoined
import GoSem.ClaimMapViews
import Derived.JoinedTies
import Derived.KernelRfl
namespace Go.Proofs.Ytoigofkddkpijaa
/- THE CELL 'sum', in the pinned program and in every row, IS THE sha256 OF THE DUMP (.gsa) THAT YtoigofkddkpijaaProg.lean LOADS. Nothing in Lean hashes anything: it is a label: what it is worth is what the hold of that sum in a sandbox is worth. -/
noncomputable def Try.pinned : Pinned := { name := "ytoigofkddkpijaa", sum := "2d177332eeb938cebd4a31e3c109f0d82d25c2234c89377d0458994fafa1fc87", checked := Try.checked }
namespace Rows
def none {H : Type} : Left H := { results := [], args := [] }

/-- 'fullinglaw15.PatternExamples': WHATEVER THE INPUT: true; the input reads as it did. -/
def patternExamplesSpec : ChangeSpec := { name := "patternExamples", fn := fun _ => fun
  | [] => { results := [.lit (.bool true)], args := [] }
  | _ => none }
def patternExamplesRow : OpenClaim := { program := "ytoigofkddkpijaa", sum := "2d177332eeb938cebd4a31e3c109f0d82d25c2234c89377d0458994fafa1fc87", func := "fulling/fullinglaw15.PatternExamples", spec := "patternExamples", recurses := true, apart := false }
def PatternExamplesSaid : Prop := patternExamplesRow.holds Try.pinned (OpenSpec.ofChange patternExamplesSpec)

/-- ITS FALSE NEIGHBOUR: 'it returns false'. Refute it at one input. -/
def patternExamplesWrong : ChangeSpec := { name := "patternExamples", fn := fun _ => fun
  | [] => { results := [.lit (.bool false)], args := [] }
  | _ => none }
def PatternExamplesWrongFalsely : Prop := patternExamplesRow.holds Try.pinned (OpenSpec.ofChange patternExamplesWrong)

/-- 'fullinglaw15.PatternPrograms': WHATEVER THE INPUT: true; the input reads as it did. -/
def patternProgramsSpec : ChangeSpec := { name := "patternPrograms", fn := fun _ => fun
  | [d] => { results := [.lit (.bool true)], args := [d] }
  | _ => none }
def patternProgramsRow : OpenClaim := { program := "ytoigofkddkpijaa", sum := "2d177332eeb938cebd4a31e3c109f0d82d25c2234c89377d0458994fafa1fc87", func := "fulling/fullinglaw15.PatternPrograms", spec := "patternPrograms", recurses := true, apart := false }
def PatternProgramsSaid : Prop := patternProgramsRow.holds Try.pinned (OpenSpec.ofChange patternProgramsSpec)

/-- ITS FALSE NEIGHBOUR: 'it returns false'. Refute it at one input. -/
def patternProgramsWrong : ChangeSpec := { name := "patternPrograms", fn := fun _ => fun
  | [d] => { results := [.lit (.bool false)], args := [d] }
  | _ => none }
def PatternProgramsWrongFalsely : Prop := patternProgramsRow.holds Try.pinned (OpenSpec.ofChange patternProgramsWrong)

/-- 'fullinglaw15.PatternSizes': WHATEVER THE INPUT: true; the input reads as it did. -/
def patternSizesSpec : ChangeSpec := { name := "patternSizes", fn := fun _ => fun
  | [d1, d2] => { results := [.lit (.bool true)], args := [d1, d2] }
  | _ => none }
def patternSizesRow : OpenClaim := { program := "ytoigofkddkpijaa", sum := "2d177332eeb938cebd4a31e3c109f0d82d25c2234c89377d0458994fafa1fc87", func := "fulling/fullinglaw15.PatternSizes", spec := "patternSizes", recurses := true, apart := false }
def PatternSizesSaid : Prop := patternSizesRow.holds Try.pinned (OpenSpec.ofChange patternSizesSpec)

/-- ITS FALSE NEIGHBOUR: 'it returns false'. Refute it at one input. -/
def patternSizesWrong : ChangeSpec := { name := "patternSizes", fn := fun _ => fun
  | [d1, d2] => { results := [.lit (.bool false)], args := [d1, d2] }
  | _ => none }
def PatternSizesWrongFalsely : Prop := patternSizesRow.holds Try.pinned (OpenSpec.ofChange patternSizesWrong)

/-- 'fullinglaw15.PatternReference': WHATEVER THE INPUT: true; the input reads as it did. -/
def patternReferenceSpec : ChangeSpec := { name := "patternReference", fn := fun _ => fun
  | [d1, d2, d3, d4, d5, d6, d7, d8, d9] => { results := [.lit (.bool true)], args := [d1, d2, d3, d4, d5, d6, d7, d8, d9] }
  | _ => none }
def patternReferenceRow : OpenClaim := { program := "ytoigofkddkpijaa", sum := "2d177332eeb938cebd4a31e3c109f0d82d25c2234c89377d0458994fafa1fc87", func := "fulling/fullinglaw15.PatternReference", spec := "patternReference", recurses := true, loops := true, apart := false }
def PatternReferenceSaid : Prop := patternReferenceRow.holds Try.pinned (OpenSpec.ofChange patternReferenceSpec)

/-- ITS FALSE NEIGHBOUR: 'it returns false'. Refute it at one input. -/
def patternReferenceWrong : ChangeSpec := { name := "patternReference", fn := fun _ => fun
  | [d1, d2, d3, d4, d5, d6, d7, d8, d9] => { results := [.lit (.bool false)], args := [d1, d2, d3, d4, d5, d6, d7, d8, d9] }
  | _ => none }
def PatternReferenceWrongFalsely : Prop := patternReferenceRow.holds Try.pinned (OpenSpec.ofChange patternReferenceWrong)

/-- 'fullinglaw15.PatternInstances': WHATEVER THE INPUT: true; the input reads as it did. -/
def patternInstancesSpec : ChangeSpec := { name := "patternInstances", fn := fun _ => fun
  | [d1, d2, d3] => { results := [.lit (.bool true)], args := [d1, d2, d3] }
  | _ => none }
def patternInstancesRow : OpenClaim := { program := "ytoigofkddkpijaa", sum := "2d177332eeb938cebd4a31e3c109f0d82d25c2234c89377d0458994fafa1fc87", func := "fulling/fullinglaw15.PatternInstances", spec := "patternInstances", recurses := true, apart := false }
def PatternInstancesSaid : Prop := patternInstancesRow.holds Try.pinned (OpenSpec.ofChange patternInstancesSpec)

/-- ITS FALSE NEIGHBOUR: 'it returns false'. Refute it at one input. -/
def patternInstancesWrong : ChangeSpec := { name := "patternInstances", fn := fun _ => fun
  | [d1, d2, d3] => { results := [.lit (.bool false)], args := [d1, d2, d3] }
  | _ => none }
def PatternInstancesWrongFalsely : Prop := patternInstancesRow.holds Try.pinned (OpenSpec.ofChange patternInstancesWrong)

/-- 'fullinglaw15.PatternSorts': WHATEVER THE INPUT: true; the input reads as it did. -/
def patternSortsSpec : ChangeSpec := { name := "patternSorts", fn := fun _ => fun
  | [d1, d2, d3] => { results := [.lit (.bool true)], args := [d1, d2, d3] }
  | _ => none }
def patternSortsRow : OpenClaim := { program := "ytoigofkddkpijaa", sum := "2d177332eeb938cebd4a31e3c109f0d82d25c2234c89377d0458994fafa1fc87", func := "fulling/fullinglaw15.PatternSorts", spec := "patternSorts", recurses := true, apart := false }
def PatternSortsSaid : Prop := patternSortsRow.holds Try.pinned (OpenSpec.ofChange patternSortsSpec)

/-- ITS FALSE NEIGHBOUR: 'it returns false'. Refute it at one input. -/
def patternSortsWrong : ChangeSpec := { name := "patternSorts", fn := fun _ => fun
  | [d1, d2, d3] => { results := [.lit (.bool false)], args := [d1, d2, d3] }
  | _ => none }
def PatternSortsWrongFalsely : Prop := patternSortsRow.holds Try.pinned (OpenSpec.ofChange patternSortsWrong)

/-- 'fullinglaw13.IntervalExamples': WHATEVER THE INPUT: true; the input reads as it did. -/
def intervalExamplesSpec : ChangeSpec := { name := "intervalExamples", fn := fun _ => fun
  | [] => { results := [.lit (.bool true)], args := [] }
  | _ => none }
def intervalExamplesRow : OpenClaim := { program := "ytoigofkddkpijaa", sum := "2d177332eeb938cebd4a31e3c109f0d82d25c2234c89377d0458994fafa1fc87", func := "fulling/fullinglaw13.IntervalExamples", spec := "intervalExamples", unfollowed := true, recurses := true, apart := false }
def IntervalExamplesSaid : Prop := intervalExamplesRow.holds Try.pinned (OpenSpec.ofChange intervalExamplesSpec)

/-- ITS FALSE NEIGHBOUR: 'it returns false'. Refute it at one input. -/
def intervalExamplesWrong : ChangeSpec := { name := "intervalExamples", fn := fun _ => fun
  | [] => { results := [.lit (.bool false)], args := [] }
  | _ => none }
def IntervalExamplesWrongFalsely : Prop := intervalExamplesRow.holds Try.pinned (OpenSpec.ofChange intervalExamplesWrong)

/-- 'fullinglaw13.IntervalLattice': WHATEVER THE INPUT: true; the input reads as it did. -/
def intervalLatticeSpec : ChangeSpec := { name := "intervalLattice", fn := fun _ => fun
  | [d1, d2, d3, d4, d5, d6, d7] => { results := [.lit (.bool true)], args := [d1, d2, d3, d4, d5, d6, d7] }
  | _ => none }
def intervalLatticeRow : OpenClaim := { program := "ytoigofkddkpijaa", sum := "2d177332eeb938cebd4a31e3c109f0d82d25c2234c89377d0458994fafa1fc87", func := "fulling/fullinglaw13.IntervalLattice", spec := "intervalLattice", unfollowed := true, recurses := true, apart := false }
def IntervalLatticeSaid : Prop := intervalLatticeRow.holds Try.pinned (OpenSpec.ofChange intervalLatticeSpec)

/-- ITS FALSE NEIGHBOUR: 'it returns false'. Refute it at one input. -/
def intervalLatticeWrong : ChangeSpec := { name := "intervalLattice", fn := fun _ => fun
  | [d1, d2, d3, d4, d5, d6, d7] => { results := [.lit (.bool false)], args := [d1, d2, d3, d4, d5, d6, d7] }
  | _ => none }
def IntervalLatticeWrongFalsely : Prop := intervalLatticeRow.holds Try.pinned (OpenSpec.ofChange intervalLatticeWrong)

/-- 'fullinglaw13.IntervalExact': WHATEVER THE INPUT: true; the input reads as it did. -/
def intervalExactSpec : ChangeSpec := { name := "intervalExact", fn := fun _ => fun
  | [d1, d2, d3, d4, d5] => { results := [.lit (.bool true)], args := [d1, d2, d3, d4, d5] }
  | _ => none }
def intervalExactRow : OpenClaim := { program := "ytoigofkddkpijaa", sum := "2d177332eeb938cebd4a31e3c109f0d82d25c2234c89377d0458994fafa1fc87", func := "fulling/fullinglaw13.IntervalExact", spec := "intervalExact", unfollowed := true, recurses := true, apart := false }
def IntervalExactSaid : Prop := intervalExactRow.holds Try.pinned (OpenSpec.ofChange intervalExactSpec)

/-- ITS FALSE NEIGHBOUR: 'it returns false'. Refute it at one input. -/
def intervalExactWrong : ChangeSpec := { name := "intervalExact", fn := fun _ => fun
  | [d1, d2, d3, d4, d5] => { results := [.lit (.bool false)], args := [d1, d2, d3, d4, d5] }
  | _ => none }
def IntervalExactWrongFalsely : Prop := intervalExactRow.holds Try.pinned (OpenSpec.ofChange intervalExactWrong)

/-- 'fullinglaw13.IntervalSound': WHATEVER THE INPUT: true; the input reads as it did. -/
def intervalSoundSpec : ChangeSpec := { name := "intervalSound", fn := fun _ => fun
  | [d1, d2, d3, d4, d5, d6, d7, d8, d9, d10, d11] => { results := [.lit (.bool true)], args := [d1, d2, d3, d4, d5, d6, d7, d8, d9, d10, d11] }
  | _ => none }
def intervalSoundRow : OpenClaim := { program := "ytoigofkddkpijaa", sum := "2d177332eeb938cebd4a31e3c109f0d82d25c2234c89377d0458994fafa1fc87", func := "fulling/fullinglaw13.IntervalSound", spec := "intervalSound", unfollowed := true, recurses := true, apart := false }
def IntervalSoundSaid : Prop := intervalSoundRow.holds Try.pinned (OpenSpec.ofChange intervalSoundSpec)

/-- ITS FALSE NEIGHBOUR: 'it returns false'. Refute it at one input. -/
def intervalSoundWrong : ChangeSpec := { name := "intervalSound", fn := fun _ => fun
  | [d1, d2, d3, d4, d5, d6, d7, d8, d9, d10, d11] => { results := [.lit (.bool false)], args := [d1, d2, d3, d4, d5, d6, d7, d8, d9, d10, d11] }
  | _ => none }
def IntervalSoundWrongFalsely : Prop := intervalSoundRow.holds Try.pinned (OpenSpec.ofChange intervalSoundWrong)

/-- 'fullinglaw13.IntervalReference': WHATEVER THE INPUT: true; the input reads as it did. -/
def intervalReferenceSpec : ChangeSpec := { name := "intervalReference", fn := fun _ => fun
  | [d1, d2, d3, d4, d5, d6, d7, d8, d9, d10, d11] => { results := [.lit (.bool true)], args := [d1, d2, d3, d4, d5, d6, d7, d8, d9, d10, d11] }
  | _ => none }
def intervalReferenceRow : OpenClaim := { program := "ytoigofkddkpijaa", sum := "2d177332eeb938cebd4a31e3c109f0d82d25c2234c89377d0458994fafa1fc87", func := "fulling/fullinglaw13.IntervalReference", spec := "intervalReference", unfollowed := true, recurses := true, apart := false }
def IntervalReferenceSaid : Prop := intervalReferenceRow.holds Try.pinned (OpenSpec.ofChange intervalReferenceSpec)

/-- ITS FALSE NEIGHBOUR: 'it returns false'. Refute it at one input. -/
def intervalReferenceWrong : ChangeSpec := { name := "intervalReference", fn := fun _ => fun
  | [d1, d2, d3, d4, d5, d6, d7, d8, d9, d10, d11] => { results := [.lit (.bool false)], args := [d1, d2, d3, d4, d5, d6, d7, d8, d9, d10, d11] }
  | _ => none }
def IntervalReferenceWrongFalsely : Prop := intervalReferenceRow.holds Try.pinned (OpenSpec.ofChange intervalReferenceWrong)

/- THE SECOND FORM. 'bulk': how many values and letters a reading holds, each counted each time it is reached (what is shared counts as often as it is met; a slice's spare places count too). A statement '..UptoSaid' is the law's where the arguments, and the package variables that the reading takes, are together of bulk at most 1048576: NARROWER than '..Said'. Prove '..Said' where nothing that the law and all that it calls make is longer than what came in: it says more and counts as full. Else prove '..UptoSaid'. A law counts once. -/
mutual
def uptoBulk {H : Type} : DataW H → Nat
  | .lit (.string bytes) => bytes.length + 1
  | .lit _ => 1
  | .nil => 1
  | .ptr d => uptoBulk d + 1
  | .slice elems spare => uptoBulkAll elems + uptoBulkAll spare + 1
  | .agg parts => uptoBulkAll parts + 1
  | .iface _ d => uptoBulk d + 1
  | .map entries => uptoBulkEntries entries + 1
  | .held _ => 1
def uptoBulkAll {H : Type} : List (DataW H) → Nat
  | [] => 0
  | d :: r => uptoBulk d + uptoBulkAll r
def uptoBulkEntries {H : Type} : List (Lit × DataW H) → Nat
  | [] => 0
  | x :: r => uptoBulkEntry x + uptoBulkEntries r
def uptoBulkEntry {H : Type} : Lit × DataW H → Nat
  | (.string bytes, d) => bytes.length + uptoBulk d + 1
  | (_, d) => uptoBulk d + 1
 end
def uptoSmall : (H : Type) → List (DataW H) → Bool := fun _ ds => decide (uptoBulkAll ds ≤ 1048576)
def OpenSpec.upto (s : _root_.Go.ChangeSpec) : _root_.Go.OpenSpec := { _root_.Go.OpenSpec.ofChange s with cond := some uptoSmall }

/-- 'fullinglaw15.PatternExamples', WHERE WHAT IT READS IS OF BULK AT MOST 1048576: true; the input reads as it did. -/
def patternExamplesUptoRow : OpenClaim := { program := "ytoigofkddkpijaa", sum := "2d177332eeb938cebd4a31e3c109f0d82d25c2234c89377d0458994fafa1fc87", func := "fulling/fullinglaw15.PatternExamples", spec := "patternExamples", recurses := true, apart := false, narrowed := true }
def PatternExamplesUptoSaid : Prop := patternExamplesUptoRow.holds Try.pinned (OpenSpec.upto patternExamplesSpec)

/-- 'fullinglaw15.PatternPrograms', WHERE WHAT IT READS IS OF BULK AT MOST 1048576: true; the input reads as it did. -/
def patternProgramsUptoRow : OpenClaim := { program := "ytoigofkddkpijaa", sum := "2d177332eeb938cebd4a31e3c109f0d82d25c2234c89377d0458994fafa1fc87", func := "fulling/fullinglaw15.PatternPrograms", spec := "patternPrograms", recurses := true, apart := false, narrowed := true }
def PatternProgramsUptoSaid : Prop := patternProgramsUptoRow.holds Try.pinned (OpenSpec.upto patternProgramsSpec)

/-- 'fullinglaw15.PatternSizes', WHERE WHAT IT READS IS OF BULK AT MOST 1048576: true; the input reads as it did. -/
def patternSizesUptoRow : OpenClaim := { program := "ytoigofkddkpijaa", sum := "2d177332eeb938cebd4a31e3c109f0d82d25c2234c89377d0458994fafa1fc87", func := "fulling/fullinglaw15.PatternSizes", spec := "patternSizes", recurses := true, apart := false, narrowed := true }
def PatternSizesUptoSaid : Prop := patternSizesUptoRow.holds Try.pinned (OpenSpec.upto patternSizesSpec)

/-- 'fullinglaw15.PatternReference', WHERE WHAT IT READS IS OF BULK AT MOST 1048576: true; the input reads as it did. -/
def patternReferenceUptoRow : OpenClaim := { program := "ytoigofkddkpijaa", sum := "2d177332eeb938cebd4a31e3c109f0d82d25c2234c89377d0458994fafa1fc87", func := "fulling/fullinglaw15.PatternReference", spec := "patternReference", recurses := true, loops := true, apart := false, narrowed := true }
def PatternReferenceUptoSaid : Prop := patternReferenceUptoRow.holds Try.pinned (OpenSpec.upto patternReferenceSpec)

/-- 'fullinglaw15.PatternInstances', WHERE WHAT IT READS IS OF BULK AT MOST 1048576: true; the input reads as it did. -/
def patternInstancesUptoRow : OpenClaim := { program := "ytoigofkddkpijaa", sum := "2d177332eeb938cebd4a31e3c109f0d82d25c2234c89377d0458994fafa1fc87", func := "fulling/fullinglaw15.PatternInstances", spec := "patternInstances", recurses := true, apart := false, narrowed := true }
def PatternInstancesUptoSaid : Prop := patternInstancesUptoRow.holds Try.pinned (OpenSpec.upto patternInstancesSpec)

/-- 'fullinglaw15.PatternSorts', WHERE WHAT IT READS IS OF BULK AT MOST 1048576: true; the input reads as it did. -/
def patternSortsUptoRow : OpenClaim := { program := "ytoigofkddkpijaa", sum := "2d177332eeb938cebd4a31e3c109f0d82d25c2234c89377d0458994fafa1fc87", func := "fulling/fullinglaw15.PatternSorts", spec := "patternSorts", recurses := true, apart := false, narrowed := true }
def PatternSortsUptoSaid : Prop := patternSortsUptoRow.holds Try.pinned (OpenSpec.upto patternSortsSpec)

/-- 'fullinglaw13.IntervalExamples', WHERE WHAT IT READS IS OF BULK AT MOST 1048576: true; the input reads as it did. -/
def intervalExamplesUptoRow : OpenClaim := { program := "ytoigofkddkpijaa", sum := "2d177332eeb938cebd4a31e3c109f0d82d25c2234c89377d0458994fafa1fc87", func := "fulling/fullinglaw13.IntervalExamples", spec := "intervalExamples", unfollowed := true, recurses := true, apart := false, narrowed := true }
def IntervalExamplesUptoSaid : Prop := intervalExamplesUptoRow.holds Try.pinned (OpenSpec.upto intervalExamplesSpec)

/-- 'fullinglaw13.IntervalLattice', WHERE WHAT IT READS IS OF BULK AT MOST 1048576: true; the input reads as it did. -/
def intervalLatticeUptoRow : OpenClaim := { program := "ytoigofkddkpijaa", sum := "2d177332eeb938cebd4a31e3c109f0d82d25c2234c89377d0458994fafa1fc87", func := "fulling/fullinglaw13.IntervalLattice", spec := "intervalLattice", unfollowed := true, recurses := true, apart := false, narrowed := true }
def IntervalLatticeUptoSaid : Prop := intervalLatticeUptoRow.holds Try.pinned (OpenSpec.upto intervalLatticeSpec)

/-- 'fullinglaw13.IntervalExact', WHERE WHAT IT READS IS OF BULK AT MOST 1048576: true; the input reads as it did. -/
def intervalExactUptoRow : OpenClaim := { program := "ytoigofkddkpijaa", sum := "2d177332eeb938cebd4a31e3c109f0d82d25c2234c89377d0458994fafa1fc87", func := "fulling/fullinglaw13.IntervalExact", spec := "intervalExact", unfollowed := true, recurses := true, apart := false, narrowed := true }
def IntervalExactUptoSaid : Prop := intervalExactUptoRow.holds Try.pinned (OpenSpec.upto intervalExactSpec)

/-- 'fullinglaw13.IntervalSound', WHERE WHAT IT READS IS OF BULK AT MOST 1048576: true; the input reads as it did. -/
def intervalSoundUptoRow : OpenClaim := { program := "ytoigofkddkpijaa", sum := "2d177332eeb938cebd4a31e3c109f0d82d25c2234c89377d0458994fafa1fc87", func := "fulling/fullinglaw13.IntervalSound", spec := "intervalSound", unfollowed := true, recurses := true, apart := false, narrowed := true }
def IntervalSoundUptoSaid : Prop := intervalSoundUptoRow.holds Try.pinned (OpenSpec.upto intervalSoundSpec)

/-- 'fullinglaw13.IntervalReference', WHERE WHAT IT READS IS OF BULK AT MOST 1048576: true; the input reads as it did. -/
def intervalReferenceUptoRow : OpenClaim := { program := "ytoigofkddkpijaa", sum := "2d177332eeb938cebd4a31e3c109f0d82d25c2234c89377d0458994fafa1fc87", func := "fulling/fullinglaw13.IntervalReference", spec := "intervalReference", unfollowed := true, recurses := true, apart := false, narrowed := true }
def IntervalReferenceUptoSaid : Prop := intervalReferenceUptoRow.holds Try.pinned (OpenSpec.upto intervalReferenceSpec)

end Rows
end Go.Proofs.Ytoigofkddkpijaa
