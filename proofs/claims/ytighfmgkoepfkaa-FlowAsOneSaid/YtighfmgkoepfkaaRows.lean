/-
  No cell of these rows narrows 'for every input' (looked for: loops, veiled, ifaces, maps, wideKeys, modest, calm, conditions, laid).
  DERIVED. THE GIVEN ROWS OF THIS SEAT. 10 by the template 'for every input the law returns true; each argument reads behind the call as it read before'; 0 by the template 'total and deterministic' (their statements: YtighfmgkoepfkaaTotals.lean).
  GIVEN WITH THE SEED: the statements are not yours to turn. If you find one false, say at which input.
  Laid BY PROGRAM, IN A SANDBOX (cutbox-rows.mjs): the forced cells as the released guide's own fill.sh prints them over the translation 4d83b5059c18bf79… (all of the seat's roots in one cut). By AI agents, Wed Nov 11 2026. No macro, syntax, notation, axiom, sorry.
-/
import Derived.Test.YtighfmgkoepfkaaChecked
import GoSem.Claim
import GoSem.ClaimJoined
import GoSem.ClaimMapViews
import Derived.JoinedTies
import Derived.KernelRfl
namespace Go.Proofs.Ytighfmgkoepfkaa
/- THE CELL 'sum', in the pinned program and in every row, IS THE sha256 OF THE DUMP (.gsa) THAT YtighfmgkoepfkaaProg.lean LOADS. Nothing in Lean hashes anything: it is a label: what it is worth is what the hold of that sum in a sandbox is worth. -/
noncomputable def Try.pinned : Pinned := { name := "ytighfmgkoepfkaa", sum := "4d83b5059c18bf79c3094588c55105788fd38ffa340e42b8cce15e324ae5a428", checked := Try.checked }
namespace Rows
def none {H : Type} : Left H := { results := [], args := [] }

/-- 'kentledgelaw05.FlowConserves': WHATEVER THE INPUT: true; the input reads as it did. -/
def flowConservesSpec : ChangeSpec := { name := "flowConserves", fn := fun _ => fun
  | [d1, d2, d3] => { results := [.lit (.bool true)], args := [d1, d2, d3] }
  | _ => none }
def flowConservesRow : OpenClaim := { program := "ytighfmgkoepfkaa", sum := "4d83b5059c18bf79c3094588c55105788fd38ffa340e42b8cce15e324ae5a428", func := "kentledge/kentledgelaw05.FlowConserves", spec := "flowConserves", unfollowed := true, recurses := true, apart := false }
def FlowConservesSaid : Prop := flowConservesRow.holds Try.pinned (OpenSpec.ofChange flowConservesSpec)

/-- ITS FALSE NEIGHBOUR: 'it returns false'. Refute it at one input. -/
def flowConservesWrong : ChangeSpec := { name := "flowConserves", fn := fun _ => fun
  | [d1, d2, d3] => { results := [.lit (.bool false)], args := [d1, d2, d3] }
  | _ => none }
def FlowConservesWrongFalsely : Prop := flowConservesRow.holds Try.pinned (OpenSpec.ofChange flowConservesWrong)

/-- 'kentledgelaw05.FlowFinds': WHATEVER THE INPUT: true; the input reads as it did. -/
def flowFindsSpec : ChangeSpec := { name := "flowFinds", fn := fun _ => fun
  | [d] => { results := [.lit (.bool true)], args := [d] }
  | _ => none }
def flowFindsRow : OpenClaim := { program := "ytighfmgkoepfkaa", sum := "4d83b5059c18bf79c3094588c55105788fd38ffa340e42b8cce15e324ae5a428", func := "kentledge/kentledgelaw05.FlowFinds", spec := "flowFinds", unfollowed := true, recurses := true, apart := false }
def FlowFindsSaid : Prop := flowFindsRow.holds Try.pinned (OpenSpec.ofChange flowFindsSpec)

/-- ITS FALSE NEIGHBOUR: 'it returns false'. Refute it at one input. -/
def flowFindsWrong : ChangeSpec := { name := "flowFinds", fn := fun _ => fun
  | [d] => { results := [.lit (.bool false)], args := [d] }
  | _ => none }
def FlowFindsWrongFalsely : Prop := flowFindsRow.holds Try.pinned (OpenSpec.ofChange flowFindsWrong)

/-- 'kentledgelaw05.FlowChecks': WHATEVER THE INPUT: true; the input reads as it did. -/
def flowChecksSpec : ChangeSpec := { name := "flowChecks", fn := fun _ => fun
  | [d1, d2] => { results := [.lit (.bool true)], args := [d1, d2] }
  | _ => none }
def flowChecksRow : OpenClaim := { program := "ytighfmgkoepfkaa", sum := "4d83b5059c18bf79c3094588c55105788fd38ffa340e42b8cce15e324ae5a428", func := "kentledge/kentledgelaw05.FlowChecks", spec := "flowChecks", unfollowed := true, recurses := true, apart := false }
def FlowChecksSaid : Prop := flowChecksRow.holds Try.pinned (OpenSpec.ofChange flowChecksSpec)

/-- ITS FALSE NEIGHBOUR: 'it returns false'. Refute it at one input. -/
def flowChecksWrong : ChangeSpec := { name := "flowChecks", fn := fun _ => fun
  | [d1, d2] => { results := [.lit (.bool false)], args := [d1, d2] }
  | _ => none }
def FlowChecksWrongFalsely : Prop := flowChecksRow.holds Try.pinned (OpenSpec.ofChange flowChecksWrong)

/-- 'kentledgelaw05.FlowLeftOut': WHATEVER THE INPUT: true; the input reads as it did. -/
def flowLeftOutSpec : ChangeSpec := { name := "flowLeftOut", fn := fun _ => fun
  | [d1, d2] => { results := [.lit (.bool true)], args := [d1, d2] }
  | _ => none }
def flowLeftOutRow : OpenClaim := { program := "ytighfmgkoepfkaa", sum := "4d83b5059c18bf79c3094588c55105788fd38ffa340e42b8cce15e324ae5a428", func := "kentledge/kentledgelaw05.FlowLeftOut", spec := "flowLeftOut", unfollowed := true, recurses := true, apart := false }
def FlowLeftOutSaid : Prop := flowLeftOutRow.holds Try.pinned (OpenSpec.ofChange flowLeftOutSpec)

/-- ITS FALSE NEIGHBOUR: 'it returns false'. Refute it at one input. -/
def flowLeftOutWrong : ChangeSpec := { name := "flowLeftOut", fn := fun _ => fun
  | [d1, d2] => { results := [.lit (.bool false)], args := [d1, d2] }
  | _ => none }
def FlowLeftOutWrongFalsely : Prop := flowLeftOutRow.holds Try.pinned (OpenSpec.ofChange flowLeftOutWrong)

/-- 'kentledgelaw05.FlowNarrowed': WHATEVER THE INPUT: true; the input reads as it did. -/
def flowNarrowedSpec : ChangeSpec := { name := "flowNarrowed", fn := fun _ => fun
  | [d1, d2] => { results := [.lit (.bool true)], args := [d1, d2] }
  | _ => none }
def flowNarrowedRow : OpenClaim := { program := "ytighfmgkoepfkaa", sum := "4d83b5059c18bf79c3094588c55105788fd38ffa340e42b8cce15e324ae5a428", func := "kentledge/kentledgelaw05.FlowNarrowed", spec := "flowNarrowed", unfollowed := true, recurses := true, apart := false }
def FlowNarrowedSaid : Prop := flowNarrowedRow.holds Try.pinned (OpenSpec.ofChange flowNarrowedSpec)

/-- ITS FALSE NEIGHBOUR: 'it returns false'. Refute it at one input. -/
def flowNarrowedWrong : ChangeSpec := { name := "flowNarrowed", fn := fun _ => fun
  | [d1, d2] => { results := [.lit (.bool false)], args := [d1, d2] }
  | _ => none }
def FlowNarrowedWrongFalsely : Prop := flowNarrowedRow.holds Try.pinned (OpenSpec.ofChange flowNarrowedWrong)

/-- 'kentledgelaw05.FlowTruth': WHATEVER THE INPUT: true; the input reads as it did. -/
def flowTruthSpec : ChangeSpec := { name := "flowTruth", fn := fun _ => fun
  | [d1, d2, d3, d4] => { results := [.lit (.bool true)], args := [d1, d2, d3, d4] }
  | _ => none }
def flowTruthRow : OpenClaim := { program := "ytighfmgkoepfkaa", sum := "4d83b5059c18bf79c3094588c55105788fd38ffa340e42b8cce15e324ae5a428", func := "kentledge/kentledgelaw05.FlowTruth", spec := "flowTruth", unfollowed := true, recurses := true, apart := false }
def FlowTruthSaid : Prop := flowTruthRow.holds Try.pinned (OpenSpec.ofChange flowTruthSpec)

/-- ITS FALSE NEIGHBOUR: 'it returns false'. Refute it at one input. -/
def flowTruthWrong : ChangeSpec := { name := "flowTruth", fn := fun _ => fun
  | [d1, d2, d3, d4] => { results := [.lit (.bool false)], args := [d1, d2, d3, d4] }
  | _ => none }
def FlowTruthWrongFalsely : Prop := flowTruthRow.holds Try.pinned (OpenSpec.ofChange flowTruthWrong)

/-- 'kentledgelaw05.FlowDual': WHATEVER THE INPUT: true; the input reads as it did. -/
def flowDualSpec : ChangeSpec := { name := "flowDual", fn := fun _ => fun
  | [d1, d2, d3] => { results := [.lit (.bool true)], args := [d1, d2, d3] }
  | _ => none }
def flowDualRow : OpenClaim := { program := "ytighfmgkoepfkaa", sum := "4d83b5059c18bf79c3094588c55105788fd38ffa340e42b8cce15e324ae5a428", func := "kentledge/kentledgelaw05.FlowDual", spec := "flowDual", unfollowed := true, recurses := true, apart := false }
def FlowDualSaid : Prop := flowDualRow.holds Try.pinned (OpenSpec.ofChange flowDualSpec)

/-- ITS FALSE NEIGHBOUR: 'it returns false'. Refute it at one input. -/
def flowDualWrong : ChangeSpec := { name := "flowDual", fn := fun _ => fun
  | [d1, d2, d3] => { results := [.lit (.bool false)], args := [d1, d2, d3] }
  | _ => none }
def FlowDualWrongFalsely : Prop := flowDualRow.holds Try.pinned (OpenSpec.ofChange flowDualWrong)

/-- 'kentledgelaw05.FlowAsOne': WHATEVER THE INPUT: true; the input reads as it did. -/
def flowAsOneSpec : ChangeSpec := { name := "flowAsOne", fn := fun _ => fun
  | [d1, d2, d3, d4] => { results := [.lit (.bool true)], args := [d1, d2, d3, d4] }
  | _ => none }
def flowAsOneRow : OpenClaim := { program := "ytighfmgkoepfkaa", sum := "4d83b5059c18bf79c3094588c55105788fd38ffa340e42b8cce15e324ae5a428", func := "kentledge/kentledgelaw05.FlowAsOne", spec := "flowAsOne", unfollowed := true, recurses := true, apart := false }
def FlowAsOneSaid : Prop := flowAsOneRow.holds Try.pinned (OpenSpec.ofChange flowAsOneSpec)

/-- ITS FALSE NEIGHBOUR: 'it returns false'. Refute it at one input. -/
def flowAsOneWrong : ChangeSpec := { name := "flowAsOne", fn := fun _ => fun
  | [d1, d2, d3, d4] => { results := [.lit (.bool false)], args := [d1, d2, d3, d4] }
  | _ => none }
def FlowAsOneWrongFalsely : Prop := flowAsOneRow.holds Try.pinned (OpenSpec.ofChange flowAsOneWrong)

/-- 'kentledgelaw05.FlowJudges': WHATEVER THE INPUT: true; the input reads as it did. -/
def flowJudgesSpec : ChangeSpec := { name := "flowJudges", fn := fun _ => fun
  | [d1, d2, d3] => { results := [.lit (.bool true)], args := [d1, d2, d3] }
  | _ => none }
def flowJudgesRow : OpenClaim := { program := "ytighfmgkoepfkaa", sum := "4d83b5059c18bf79c3094588c55105788fd38ffa340e42b8cce15e324ae5a428", func := "kentledge/kentledgelaw05.FlowJudges", spec := "flowJudges", unfollowed := true, recurses := true, apart := false }
def FlowJudgesSaid : Prop := flowJudgesRow.holds Try.pinned (OpenSpec.ofChange flowJudgesSpec)

/-- ITS FALSE NEIGHBOUR: 'it returns false'. Refute it at one input. -/
def flowJudgesWrong : ChangeSpec := { name := "flowJudges", fn := fun _ => fun
  | [d1, d2, d3] => { results := [.lit (.bool false)], args := [d1, d2, d3] }
  | _ => none }
def FlowJudgesWrongFalsely : Prop := flowJudgesRow.holds Try.pinned (OpenSpec.ofChange flowJudgesWrong)

/-- 'kentledgelaw05.FlowGapsHold': WHATEVER THE INPUT: true; the input reads as it did. -/
def flowGapsHoldSpec : ChangeSpec := { name := "flowGapsHold", fn := fun _ => fun
  | [d1, d2] => { results := [.lit (.bool true)], args := [d1, d2] }
  | _ => none }
def flowGapsHoldRow : OpenClaim := { program := "ytighfmgkoepfkaa", sum := "4d83b5059c18bf79c3094588c55105788fd38ffa340e42b8cce15e324ae5a428", func := "kentledge/kentledgelaw05.FlowGapsHold", spec := "flowGapsHold", unfollowed := true, recurses := true, apart := false }
def FlowGapsHoldSaid : Prop := flowGapsHoldRow.holds Try.pinned (OpenSpec.ofChange flowGapsHoldSpec)

/-- ITS FALSE NEIGHBOUR: 'it returns false'. Refute it at one input. -/
def flowGapsHoldWrong : ChangeSpec := { name := "flowGapsHold", fn := fun _ => fun
  | [d1, d2] => { results := [.lit (.bool false)], args := [d1, d2] }
  | _ => none }
def FlowGapsHoldWrongFalsely : Prop := flowGapsHoldRow.holds Try.pinned (OpenSpec.ofChange flowGapsHoldWrong)

/- THE SECOND FORM. 'bulk': how many values and letters a reading holds, each counted each time it is reached (what is shared counts as often as it is met; a slice's spare places count too). A statement '..UptoSaid' is the law's where the arguments, and the package variables that the reading takes, are together of bulk at most 1048576: NARROWER than '..Said'. Prove '..Said' where nothing that the law and all that it calls make is longer than what came in: it says more and counts as full. Else prove '..UptoSaid'. A law counts once. -/
mutual
def uptoBulk {H : Type} : DataW H → Nat
  | .lit (.string bytes) => bytes.length + 1
  | .lit _ => 1
  | .nil => 1
  | .ptr d => uptoBulk d + 1
  | .slice elems spare => uptoBulkAll elems + uptoBulkAll spare + 1
  | .agg parts => uptoBulkAll parts + 1
  | .iface _ d => uptoBulk d + 1
  | .map entries => uptoBulkEntries entries + 1
  | .held _ => 1
def uptoBulkAll {H : Type} : List (DataW H) → Nat
  | [] => 0
  | d :: r => uptoBulk d + uptoBulkAll r
def uptoBulkEntries {H : Type} : List (Lit × DataW H) → Nat
  | [] => 0
  | x :: r => uptoBulkEntry x + uptoBulkEntries r
def uptoBulkEntry {H : Type} : Lit × DataW H → Nat
  | (.string bytes, d) => bytes.length + uptoBulk d + 1
  | (_, d) => uptoBulk d + 1
 end
def uptoSmall : (H : Type) → List (DataW H) → Bool := fun _ ds => decide (uptoBulkAll ds ≤ 1048576)
def OpenSpec.upto (s : _root_.Go.ChangeSpec) : _root_.Go.OpenSpec := { _root_.Go.OpenSpec.ofChange s with cond := some uptoSmall }

/-- 'kentledgelaw05.FlowConserves', WHERE WHAT IT READS IS OF BULK AT MOST 1048576: true; the input reads as it did. -/
def flowConservesUptoRow : OpenClaim := { program := "ytighfmgkoepfkaa", sum := "4d83b5059c18bf79c3094588c55105788fd38ffa340e42b8cce15e324ae5a428", func := "kentledge/kentledgelaw05.FlowConserves", spec := "flowConserves", unfollowed := true, recurses := true, apart := false, narrowed := true }
def FlowConservesUptoSaid : Prop := flowConservesUptoRow.holds Try.pinned (OpenSpec.upto flowConservesSpec)

/-- 'kentledgelaw05.FlowFinds', WHERE WHAT IT READS IS OF BULK AT MOST 1048576: true; the input reads as it did. -/
def flowFindsUptoRow : OpenClaim := { program := "ytighfmgkoepfkaa", sum := "4d83b5059c18bf79c3094588c55105788fd38ffa340e42b8cce15e324ae5a428", func := "kentledge/kentledgelaw05.FlowFinds", spec := "flowFinds", unfollowed := true, recurses := true, apart := false, narrowed := true }
def FlowFindsUptoSaid : Prop := flowFindsUptoRow.holds Try.pinned (OpenSpec.upto flowFindsSpec)

/-- 'kentledgelaw05.FlowChecks', WHERE WHAT IT READS IS OF BULK AT MOST 1048576: true; the input reads as it did. -/
def flowChecksUptoRow : OpenClaim := { program := "ytighfmgkoepfkaa", sum := "4d83b5059c18bf79c3094588c55105788fd38ffa340e42b8cce15e324ae5a428", func := "kentledge/kentledgelaw05.FlowChecks", spec := "flowChecks", unfollowed := true, recurses := true, apart := false, narrowed := true }
def FlowChecksUptoSaid : Prop := flowChecksUptoRow.holds Try.pinned (OpenSpec.upto flowChecksSpec)

/-- 'kentledgelaw05.FlowLeftOut', WHERE WHAT IT READS IS OF BULK AT MOST 1048576: true; the input reads as it did. -/
def flowLeftOutUptoRow : OpenClaim := { program := "ytighfmgkoepfkaa", sum := "4d83b5059c18bf79c3094588c55105788fd38ffa340e42b8cce15e324ae5a428", func := "kentledge/kentledgelaw05.FlowLeftOut", spec := "flowLeftOut", unfollowed := true, recurses := true, apart := false, narrowed := true }
def FlowLeftOutUptoSaid : Prop := flowLeftOutUptoRow.holds Try.pinned (OpenSpec.upto flowLeftOutSpec)

/-- 'kentledgelaw05.FlowNarrowed', WHERE WHAT IT READS IS OF BULK AT MOST 1048576: true; the input reads as it did. -/
def flowNarrowedUptoRow : OpenClaim := { program := "ytighfmgkoepfkaa", sum := "4d83b5059c18bf79c3094588c55105788fd38ffa340e42b8cce15e324ae5a428", func := "kentledge/kentledgelaw05.FlowNarrowed", spec := "flowNarrowed", unfollowed := true, recurses := true, apart := false, narrowed := true }
def FlowNarrowedUptoSaid : Prop := flowNarrowedUptoRow.holds Try.pinned (OpenSpec.upto flowNarrowedSpec)

/-- 'kentledgelaw05.FlowTruth', WHERE WHAT IT READS IS OF BULK AT MOST 1048576: true; the input reads as it did. -/
def flowTruthUptoRow : OpenClaim := { program := "ytighfmgkoepfkaa", sum := "4d83b5059c18bf79c3094588c55105788fd38ffa340e42b8cce15e324ae5a428", func := "kentledge/kentledgelaw05.FlowTruth", spec := "flowTruth", unfollowed := true, recurses := true, apart := false, narrowed := true }
def FlowTruthUptoSaid : Prop := flowTruthUptoRow.holds Try.pinned (OpenSpec.upto flowTruthSpec)

/-- 'kentledgelaw05.FlowDual', WHERE WHAT IT READS IS OF BULK AT MOST 1048576: true; the input reads as it did. -/
def flowDualUptoRow : OpenClaim := { program := "ytighfmgkoepfkaa", sum := "4d83b5059c18bf79c3094588c55105788fd38ffa340e42b8cce15e324ae5a428", func := "kentledge/kentledgelaw05.FlowDual", spec := "flowDual", unfollowed := true, recurses := true, apart := false, narrowed := true }
def FlowDualUptoSaid : Prop := flowDualUptoRow.holds Try.pinned (OpenSpec.upto flowDualSpec)

/-- 'kentledgelaw05.FlowAsOne', WHERE WHAT IT READS IS OF BULK AT MOST 1048576: true; the input reads as it did. -/
def flowAsOneUptoRow : OpenClaim := { program := "ytighfmgkoepfkaa", sum := "4d83b5059c18bf79c3094588c55105788fd38ffa340e42b8cce15e324ae5a428", func := "kentledge/kentledgelaw05.FlowAsOne", spec := "flowAsOne", unfollowed := true, recurses := true, apart := false, narrowed := true }
def FlowAsOneUptoSaid : Prop := flowAsOneUptoRow.holds Try.pinned (OpenSpec.upto flowAsOneSpec)

/-- 'kentledgelaw05.FlowJudges', WHERE WHAT IT READS IS OF BULK AT MOST 1048576: true; the input reads as it did. -/
def flowJudgesUptoRow : OpenClaim := { program := "ytighfmgkoepfkaa", sum := "4d83b5059c18bf79c3094588c55105788fd38ffa340e42b8cce15e324ae5a428", func := "kentledge/kentledgelaw05.FlowJudges", spec := "flowJudges", unfollowed := true, recurses := true, apart := false, narrowed := true }
def FlowJudgesUptoSaid : Prop := flowJudgesUptoRow.holds Try.pinned (OpenSpec.upto flowJudgesSpec)

/-- 'kentledgelaw05.FlowGapsHold', WHERE WHAT IT READS IS OF BULK AT MOST 1048576: true; the input reads as it did. -/
def flowGapsHoldUptoRow : OpenClaim := { program := "ytighfmgkoepfkaa", sum := "4d83b5059c18bf79c3094588c55105788fd38ffa340e42b8cce15e324ae5a428", func := "kentledge/kentledgelaw05.FlowGapsHold", spec := "flowGapsHold", unfollowed := true, recurses := true, apart := false, narrowed := true }
def FlowGapsHoldUptoSaid : Prop := flowGapsHoldUptoRow.holds Try.pinned (OpenSpec.upto flowGapsHoldSpec)

end Rows
end Go.Proofs.Ytighfmgkoepfkaa
