/-
  No cell of these rows narrows 'for every input' (looked for: loops, veiled, ifaces, maps, wideKeys, modest, calm, conditions, laid).
  DERIVED. THE GIVEN ROWS OF THIS SEAT. 4 by the template 'for every input the law returns true; each argument reads behind the call as it read before'; 0 by the template 'total and deterministic' (their statements: YtkjghdlaeibaiaaGreatTotals.lean).
  GIVEN WITH THE SEED: the statements are not yours to turn. If you find one false, say at which input.
  Laid BY PROGRAM, IN A SANDBOX (cutbox-rows.mjs): the forced cells as the released guide's own fill.sh prints them over the translation be4a90f6ca445852… (all of the seat's roots in one cut). By AI agents, Wed Nov 11 2026. No macro, syntax, notation, axiom, sorry.
-/
import Derived.Test.YtkjghdlaeibaiaaGreatChecked
import GoSem.Claim
import GoSem.ClaimJoined
import GoSem.ClaimMapViews
import Derived.JoinedTies
import Derived.KernelRfl
namespace Go.Proofs.YtkjghdlaeibaiaaGreat
/- THE CELL 'sum', in the pinned program and in every row, IS THE sha256 OF THE DUMP (.gsa) THAT YtkjghdlaeibaiaaGreatProg.lean LOADS. Nothing in Lean hashes anything: it is a label: what it is worth is what the hold of that sum in a sandbox is worth. -/
noncomputable def Tryz.pinned : Pinned := { name := "ytkjghdlaeibaiaagreat", sum := "be4a90f6ca4458529834ccee6b5e0d5b4fcc3fcc2c7ae3fb78e7d1bc77df30d2", checked := Tryz.checked }
namespace Rows
def none {H : Type} : Left H := { results := [], args := [] }

/-- 'fullinglaw23.ReplayExamples': WHATEVER THE INPUT: true; the input reads as it did. -/
def replayExamplesSpec : ChangeSpec := { name := "replayExamples", fn := fun _ => fun
  | [] => { results := [.lit (.bool true)], args := [] }
  | _ => none }
def replayExamplesRow : OpenClaim := { program := "ytkjghdlaeibaiaagreat", sum := "be4a90f6ca4458529834ccee6b5e0d5b4fcc3fcc2c7ae3fb78e7d1bc77df30d2", func := "fulling/fullinglaw23.ReplayExamples", spec := "replayExamples", unfollowed := true, recurses := true, apart := false }
def ReplayExamplesSaid : Prop := replayExamplesRow.holds Tryz.pinned (OpenSpec.ofChange replayExamplesSpec)

/-- ITS FALSE NEIGHBOUR: 'it returns false'. Refute it at one input. -/
def replayExamplesWrong : ChangeSpec := { name := "replayExamples", fn := fun _ => fun
  | [] => { results := [.lit (.bool false)], args := [] }
  | _ => none }
def ReplayExamplesWrongFalsely : Prop := replayExamplesRow.holds Tryz.pinned (OpenSpec.ofChange replayExamplesWrong)

/-- 'fullinglaw23.ReplaySound': WHATEVER THE INPUT: true; the input reads as it did. -/
def replaySoundSpec : ChangeSpec := { name := "replaySound", fn := fun _ => fun
  | [d1, d2, d3, d4, d5, d6, d7, d8] => { results := [.lit (.bool true)], args := [d1, d2, d3, d4, d5, d6, d7, d8] }
  | _ => none }
def replaySoundRow : OpenClaim := { program := "ytkjghdlaeibaiaagreat", sum := "be4a90f6ca4458529834ccee6b5e0d5b4fcc3fcc2c7ae3fb78e7d1bc77df30d2", func := "fulling/fullinglaw23.ReplaySound", spec := "replaySound", unfollowed := true, recurses := true, apart := false }
def ReplaySoundSaid : Prop := replaySoundRow.holds Tryz.pinned (OpenSpec.ofChange replaySoundSpec)

/-- ITS FALSE NEIGHBOUR: 'it returns false'. Refute it at one input. -/
def replaySoundWrong : ChangeSpec := { name := "replaySound", fn := fun _ => fun
  | [d1, d2, d3, d4, d5, d6, d7, d8] => { results := [.lit (.bool false)], args := [d1, d2, d3, d4, d5, d6, d7, d8] }
  | _ => none }
def ReplaySoundWrongFalsely : Prop := replaySoundRow.holds Tryz.pinned (OpenSpec.ofChange replaySoundWrong)

/-- 'fullinglaw23.ReplaySaturation': WHATEVER THE INPUT: true; the input reads as it did. -/
def replaySaturationSpec : ChangeSpec := { name := "replaySaturation", fn := fun _ => fun
  | [d1, d2, d3, d4, d5] => { results := [.lit (.bool true)], args := [d1, d2, d3, d4, d5] }
  | _ => none }
def replaySaturationRow : OpenClaim := { program := "ytkjghdlaeibaiaagreat", sum := "be4a90f6ca4458529834ccee6b5e0d5b4fcc3fcc2c7ae3fb78e7d1bc77df30d2", func := "fulling/fullinglaw23.ReplaySaturation", spec := "replaySaturation", unfollowed := true, recurses := true, apart := false }
def ReplaySaturationSaid : Prop := replaySaturationRow.holds Tryz.pinned (OpenSpec.ofChange replaySaturationSpec)

/-- ITS FALSE NEIGHBOUR: 'it returns false'. Refute it at one input. -/
def replaySaturationWrong : ChangeSpec := { name := "replaySaturation", fn := fun _ => fun
  | [d1, d2, d3, d4, d5] => { results := [.lit (.bool false)], args := [d1, d2, d3, d4, d5] }
  | _ => none }
def ReplaySaturationWrongFalsely : Prop := replaySaturationRow.holds Tryz.pinned (OpenSpec.ofChange replaySaturationWrong)

/-- 'fullinglaw23.ReplayMutated': WHATEVER THE INPUT: true; the input reads as it did. -/
def replayMutatedSpec : ChangeSpec := { name := "replayMutated", fn := fun _ => fun
  | [d1, d2, d3, d4, d5, d6, d7] => { results := [.lit (.bool true)], args := [d1, d2, d3, d4, d5, d6, d7] }
  | _ => none }
def replayMutatedRow : OpenClaim := { program := "ytkjghdlaeibaiaagreat", sum := "be4a90f6ca4458529834ccee6b5e0d5b4fcc3fcc2c7ae3fb78e7d1bc77df30d2", func := "fulling/fullinglaw23.ReplayMutated", spec := "replayMutated", unfollowed := true, recurses := true, apart := false }
def ReplayMutatedSaid : Prop := replayMutatedRow.holds Tryz.pinned (OpenSpec.ofChange replayMutatedSpec)

/-- ITS FALSE NEIGHBOUR: 'it returns false'. Refute it at one input. -/
def replayMutatedWrong : ChangeSpec := { name := "replayMutated", fn := fun _ => fun
  | [d1, d2, d3, d4, d5, d6, d7] => { results := [.lit (.bool false)], args := [d1, d2, d3, d4, d5, d6, d7] }
  | _ => none }
def ReplayMutatedWrongFalsely : Prop := replayMutatedRow.holds Tryz.pinned (OpenSpec.ofChange replayMutatedWrong)

/- THE SECOND FORM. 'bulk': how many values and letters a reading holds, each counted each time it is reached (what is shared counts as often as it is met; a slice's spare places count too). A statement '..UptoSaid' is the law's where the arguments, and the package variables that the reading takes, are together of bulk at most 1048576: NARROWER than '..Said'. Prove '..Said' where nothing that the law and all that it calls make is longer than what came in: it says more and counts as full. Else prove '..UptoSaid'. A law counts once. -/
mutual
def uptoBulk {H : Type} : DataW H → Nat
  | .lit (.string bytes) => bytes.length + 1
  | .lit _ => 1
  | .nil => 1
  | .ptr d => uptoBulk d + 1
  | .slice elems spare => uptoBulkAll elems + uptoBulkAll spare + 1
  | .agg parts => uptoBulkAll parts + 1
  | .iface _ d => uptoBulk d + 1
  | .map entries => uptoBulkEntries entries + 1
  | .held _ => 1
def uptoBulkAll {H : Type} : List (DataW H) → Nat
  | [] => 0
  | d :: r => uptoBulk d + uptoBulkAll r
def uptoBulkEntries {H : Type} : List (Lit × DataW H) → Nat
  | [] => 0
  | x :: r => uptoBulkEntry x + uptoBulkEntries r
def uptoBulkEntry {H : Type} : Lit × DataW H → Nat
  | (.string bytes, d) => bytes.length + uptoBulk d + 1
  | (_, d) => uptoBulk d + 1
 end
def uptoSmall : (H : Type) → List (DataW H) → Bool := fun _ ds => decide (uptoBulkAll ds ≤ 1048576)
def OpenSpec.upto (s : _root_.Go.ChangeSpec) : _root_.Go.OpenSpec := { _root_.Go.OpenSpec.ofChange s with cond := some uptoSmall }

/-- 'fullinglaw23.ReplayExamples', WHERE WHAT IT READS IS OF BULK AT MOST 1048576: true; the input reads as it did. -/
def replayExamplesUptoRow : OpenClaim := { program := "ytkjghdlaeibaiaagreat", sum := "be4a90f6ca4458529834ccee6b5e0d5b4fcc3fcc2c7ae3fb78e7d1bc77df30d2", func := "fulling/fullinglaw23.ReplayExamples", spec := "replayExamples", unfollowed := true, recurses := true, apart := false, narrowed := true }
def ReplayExamplesUptoSaid : Prop := replayExamplesUptoRow.holds Tryz.pinned (OpenSpec.upto replayExamplesSpec)

/-- 'fullinglaw23.ReplaySound', WHERE WHAT IT READS IS OF BULK AT MOST 1048576: true; the input reads as it did. -/
def replaySoundUptoRow : OpenClaim := { program := "ytkjghdlaeibaiaagreat", sum := "be4a90f6ca4458529834ccee6b5e0d5b4fcc3fcc2c7ae3fb78e7d1bc77df30d2", func := "fulling/fullinglaw23.ReplaySound", spec := "replaySound", unfollowed := true, recurses := true, apart := false, narrowed := true }
def ReplaySoundUptoSaid : Prop := replaySoundUptoRow.holds Tryz.pinned (OpenSpec.upto replaySoundSpec)

/-- 'fullinglaw23.ReplaySaturation', WHERE WHAT IT READS IS OF BULK AT MOST 1048576: true; the input reads as it did. -/
def replaySaturationUptoRow : OpenClaim := { program := "ytkjghdlaeibaiaagreat", sum := "be4a90f6ca4458529834ccee6b5e0d5b4fcc3fcc2c7ae3fb78e7d1bc77df30d2", func := "fulling/fullinglaw23.ReplaySaturation", spec := "replaySaturation", unfollowed := true, recurses := true, apart := false, narrowed := true }
def ReplaySaturationUptoSaid : Prop := replaySaturationUptoRow.holds Tryz.pinned (OpenSpec.upto replaySaturationSpec)

/-- 'fullinglaw23.ReplayMutated', WHERE WHAT IT READS IS OF BULK AT MOST 1048576: true; the input reads as it did. -/
def replayMutatedUptoRow : OpenClaim := { program := "ytkjghdlaeibaiaagreat", sum := "be4a90f6ca4458529834ccee6b5e0d5b4fcc3fcc2c7ae3fb78e7d1bc77df30d2", func := "fulling/fullinglaw23.ReplayMutated", spec := "replayMutated", unfollowed := true, recurses := true, apart := false, narrowed := true }
def ReplayMutatedUptoSaid : Prop := replayMutatedUptoRow.holds Tryz.pinned (OpenSpec.upto replayMutatedSpec)

end Rows
end Go.Proofs.YtkjghdlaeibaiaaGreat
