/-
  No cell of these rows narrows 'for every input' (looked for: loops, veiled, ifaces, maps, wideKeys, modest, calm, conditions, laid).
  DERIVED. THE GIVEN ROWS OF THIS SEAT. 9 by the template 'for every input the law returns true; each argument reads behind the call as it read before'; 0 by the template 'total and deterministic' (their statements: YtighfmgkoepfkaaGreatTotals.lean).
  GIVEN WITH THE SEED: the statements are not yours to turn. If you find one false, say at which input.
  Laid BY PROGRAM, IN A SANDBOX (cutbox-rows.mjs): the forced cells as the released guide's own fill.sh prints them over the translation 041e2a98e1f59150… (all of the seat's roots in one cut). By AI agents, Wed Nov 11 2026. No macro, syntax, notation, axiom, sorry.
-/
import Derived.Test.YtighfmgkoepfkaaGreatChecked
import GoSem.Claim
import GoSem.ClaimJoined
import GoSem.ClaimMapViews
import Derived.JoinedTies
import Derived.KernelRfl
namespace Go.Proofs.YtighfmgkoepfkaaGreat
/- THE CELL 'sum', in the pinned program and in every row, IS THE sha256 OF THE DUMP (.gsa) THAT YtighfmgkoepfkaaGreatProg.lean LOADS. Nothing in Lean hashes anything: it is a label: what it is worth is what the hold of that sum in a sandbox is worth. -/
noncomputable def Tryz.pinned : Pinned := { name := "ytighfmgkoepfkaagreat", sum := "041e2a98e1f5915027673d8a4998e8e024c9bfb8e19e28a4dadf0bdb83e3c9e2", checked := Tryz.checked }
namespace Rows
def none {H : Type} : Left H := { results := [], args := [] }

/-- 'kentledgelaw05.FlowSpans': WHATEVER THE INPUT: true; the input reads as it did. -/
def flowSpansSpec : ChangeSpec := { name := "flowSpans", fn := fun _ => fun
  | [d] => { results := [.lit (.bool true)], args := [d] }
  | _ => none }
def flowSpansRow : OpenClaim := { program := "ytighfmgkoepfkaagreat", sum := "041e2a98e1f5915027673d8a4998e8e024c9bfb8e19e28a4dadf0bdb83e3c9e2", func := "kentledge/kentledgelaw05.FlowSpans", spec := "flowSpans", unfollowed := true, recurses := true, apart := false }
def FlowSpansSaid : Prop := flowSpansRow.holds Tryz.pinned (OpenSpec.ofChange flowSpansSpec)

/-- ITS FALSE NEIGHBOUR: 'it returns false'. Refute it at one input. -/
def flowSpansWrong : ChangeSpec := { name := "flowSpans", fn := fun _ => fun
  | [d] => { results := [.lit (.bool false)], args := [d] }
  | _ => none }
def FlowSpansWrongFalsely : Prop := flowSpansRow.holds Tryz.pinned (OpenSpec.ofChange flowSpansWrong)

/-- 'kentledgelaw05.FlowLeaves': WHATEVER THE INPUT: true; the input reads as it did. -/
def flowLeavesSpec : ChangeSpec := { name := "flowLeaves", fn := fun _ => fun
  | [d] => { results := [.lit (.bool true)], args := [d] }
  | _ => none }
def flowLeavesRow : OpenClaim := { program := "ytighfmgkoepfkaagreat", sum := "041e2a98e1f5915027673d8a4998e8e024c9bfb8e19e28a4dadf0bdb83e3c9e2", func := "kentledge/kentledgelaw05.FlowLeaves", spec := "flowLeaves", unfollowed := true, recurses := true, apart := false }
def FlowLeavesSaid : Prop := flowLeavesRow.holds Tryz.pinned (OpenSpec.ofChange flowLeavesSpec)

/-- ITS FALSE NEIGHBOUR: 'it returns false'. Refute it at one input. -/
def flowLeavesWrong : ChangeSpec := { name := "flowLeaves", fn := fun _ => fun
  | [d] => { results := [.lit (.bool false)], args := [d] }
  | _ => none }
def FlowLeavesWrongFalsely : Prop := flowLeavesRow.holds Tryz.pinned (OpenSpec.ofChange flowLeavesWrong)

/-- 'kentledgelaw05.FlowGaps': WHATEVER THE INPUT: true; the input reads as it did. -/
def flowGapsSpec : ChangeSpec := { name := "flowGaps", fn := fun _ => fun
  | [d] => { results := [.lit (.bool true)], args := [d] }
  | _ => none }
def flowGapsRow : OpenClaim := { program := "ytighfmgkoepfkaagreat", sum := "041e2a98e1f5915027673d8a4998e8e024c9bfb8e19e28a4dadf0bdb83e3c9e2", func := "kentledge/kentledgelaw05.FlowGaps", spec := "flowGaps", unfollowed := true, recurses := true, apart := false }
def FlowGapsSaid : Prop := flowGapsRow.holds Tryz.pinned (OpenSpec.ofChange flowGapsSpec)

/-- ITS FALSE NEIGHBOUR: 'it returns false'. Refute it at one input. -/
def flowGapsWrong : ChangeSpec := { name := "flowGaps", fn := fun _ => fun
  | [d] => { results := [.lit (.bool false)], args := [d] }
  | _ => none }
def FlowGapsWrongFalsely : Prop := flowGapsRow.holds Tryz.pinned (OpenSpec.ofChange flowGapsWrong)

/-- 'kentledgelaw05.FlowOneByOne': WHATEVER THE INPUT: true; the input reads as it did. -/
def flowOneByOneSpec : ChangeSpec := { name := "flowOneByOne", fn := fun _ => fun
  | [d1, d2, d3] => { results := [.lit (.bool true)], args := [d1, d2, d3] }
  | _ => none }
def flowOneByOneRow : OpenClaim := { program := "ytighfmgkoepfkaagreat", sum := "041e2a98e1f5915027673d8a4998e8e024c9bfb8e19e28a4dadf0bdb83e3c9e2", func := "kentledge/kentledgelaw05.FlowOneByOne", spec := "flowOneByOne", unfollowed := true, recurses := true, apart := false }
def FlowOneByOneSaid : Prop := flowOneByOneRow.holds Tryz.pinned (OpenSpec.ofChange flowOneByOneSpec)

/-- ITS FALSE NEIGHBOUR: 'it returns false'. Refute it at one input. -/
def flowOneByOneWrong : ChangeSpec := { name := "flowOneByOne", fn := fun _ => fun
  | [d1, d2, d3] => { results := [.lit (.bool false)], args := [d1, d2, d3] }
  | _ => none }
def FlowOneByOneWrongFalsely : Prop := flowOneByOneRow.holds Tryz.pinned (OpenSpec.ofChange flowOneByOneWrong)

/-- 'kentledgelaw05.FlowOffices': WHATEVER THE INPUT: true; the input reads as it did. -/
def flowOfficesSpec : ChangeSpec := { name := "flowOffices", fn := fun _ => fun
  | [d1, d2] => { results := [.lit (.bool true)], args := [d1, d2] }
  | _ => none }
def flowOfficesRow : OpenClaim := { program := "ytighfmgkoepfkaagreat", sum := "041e2a98e1f5915027673d8a4998e8e024c9bfb8e19e28a4dadf0bdb83e3c9e2", func := "kentledge/kentledgelaw05.FlowOffices", spec := "flowOffices", unfollowed := true, recurses := true, apart := false }
def FlowOfficesSaid : Prop := flowOfficesRow.holds Tryz.pinned (OpenSpec.ofChange flowOfficesSpec)

/-- ITS FALSE NEIGHBOUR: 'it returns false'. Refute it at one input. -/
def flowOfficesWrong : ChangeSpec := { name := "flowOffices", fn := fun _ => fun
  | [d1, d2] => { results := [.lit (.bool false)], args := [d1, d2] }
  | _ => none }
def FlowOfficesWrongFalsely : Prop := flowOfficesRow.holds Tryz.pinned (OpenSpec.ofChange flowOfficesWrong)

/-- 'kentledgelaw05.FlowRests': WHATEVER THE INPUT: true; the input reads as it did. -/
def flowRestsSpec : ChangeSpec := { name := "flowRests", fn := fun _ => fun
  | [d1, d2, d3, d4] => { results := [.lit (.bool true)], args := [d1, d2, d3, d4] }
  | _ => none }
def flowRestsRow : OpenClaim := { program := "ytighfmgkoepfkaagreat", sum := "041e2a98e1f5915027673d8a4998e8e024c9bfb8e19e28a4dadf0bdb83e3c9e2", func := "kentledge/kentledgelaw05.FlowRests", spec := "flowRests", unfollowed := true, recurses := true, apart := false }
def FlowRestsSaid : Prop := flowRestsRow.holds Tryz.pinned (OpenSpec.ofChange flowRestsSpec)

/-- ITS FALSE NEIGHBOUR: 'it returns false'. Refute it at one input. -/
def flowRestsWrong : ChangeSpec := { name := "flowRests", fn := fun _ => fun
  | [d1, d2, d3, d4] => { results := [.lit (.bool false)], args := [d1, d2, d3, d4] }
  | _ => none }
def FlowRestsWrongFalsely : Prop := flowRestsRow.holds Tryz.pinned (OpenSpec.ofChange flowRestsWrong)

/-- 'kentledgelaw05.FlowLimits': WHATEVER THE INPUT: true; the input reads as it did. -/
def flowLimitsSpec : ChangeSpec := { name := "flowLimits", fn := fun _ => fun
  | [d1, d2] => { results := [.lit (.bool true)], args := [d1, d2] }
  | _ => none }
def flowLimitsRow : OpenClaim := { program := "ytighfmgkoepfkaagreat", sum := "041e2a98e1f5915027673d8a4998e8e024c9bfb8e19e28a4dadf0bdb83e3c9e2", func := "kentledge/kentledgelaw05.FlowLimits", spec := "flowLimits", unfollowed := true, recurses := true, apart := false }
def FlowLimitsSaid : Prop := flowLimitsRow.holds Tryz.pinned (OpenSpec.ofChange flowLimitsSpec)

/-- ITS FALSE NEIGHBOUR: 'it returns false'. Refute it at one input. -/
def flowLimitsWrong : ChangeSpec := { name := "flowLimits", fn := fun _ => fun
  | [d1, d2] => { results := [.lit (.bool false)], args := [d1, d2] }
  | _ => none }
def FlowLimitsWrongFalsely : Prop := flowLimitsRow.holds Tryz.pinned (OpenSpec.ofChange flowLimitsWrong)

/-- 'kentledgelaw05.FlowTampers': WHATEVER THE INPUT: true; the input reads as it did. -/
def flowTampersSpec : ChangeSpec := { name := "flowTampers", fn := fun _ => fun
  | [d1, d2, d3, d4, d5] => { results := [.lit (.bool true)], args := [d1, d2, d3, d4, d5] }
  | _ => none }
def flowTampersRow : OpenClaim := { program := "ytighfmgkoepfkaagreat", sum := "041e2a98e1f5915027673d8a4998e8e024c9bfb8e19e28a4dadf0bdb83e3c9e2", func := "kentledge/kentledgelaw05.FlowTampers", spec := "flowTampers", unfollowed := true, recurses := true, apart := false }
def FlowTampersSaid : Prop := flowTampersRow.holds Tryz.pinned (OpenSpec.ofChange flowTampersSpec)

/-- ITS FALSE NEIGHBOUR: 'it returns false'. Refute it at one input. -/
def flowTampersWrong : ChangeSpec := { name := "flowTampers", fn := fun _ => fun
  | [d1, d2, d3, d4, d5] => { results := [.lit (.bool false)], args := [d1, d2, d3, d4, d5] }
  | _ => none }
def FlowTampersWrongFalsely : Prop := flowTampersRow.holds Tryz.pinned (OpenSpec.ofChange flowTampersWrong)

/-- 'kentledgelaw05.FlowLimitsHold': WHATEVER THE INPUT: true; the input reads as it did. -/
def flowLimitsHoldSpec : ChangeSpec := { name := "flowLimitsHold", fn := fun _ => fun
  | [d1, d2, d3, d4, d5, d6] => { results := [.lit (.bool true)], args := [d1, d2, d3, d4, d5, d6] }
  | _ => none }
def flowLimitsHoldRow : OpenClaim := { program := "ytighfmgkoepfkaagreat", sum := "041e2a98e1f5915027673d8a4998e8e024c9bfb8e19e28a4dadf0bdb83e3c9e2", func := "kentledge/kentledgelaw05.FlowLimitsHold", spec := "flowLimitsHold", unfollowed := true, recurses := true, apart := false }
def FlowLimitsHoldSaid : Prop := flowLimitsHoldRow.holds Tryz.pinned (OpenSpec.ofChange flowLimitsHoldSpec)

/-- ITS FALSE NEIGHBOUR: 'it returns false'. Refute it at one input. -/
def flowLimitsHoldWrong : ChangeSpec := { name := "flowLimitsHold", fn := fun _ => fun
  | [d1, d2, d3, d4, d5, d6] => { results := [.lit (.bool false)], args := [d1, d2, d3, d4, d5, d6] }
  | _ => none }
def FlowLimitsHoldWrongFalsely : Prop := flowLimitsHoldRow.holds Tryz.pinned (OpenSpec.ofChange flowLimitsHoldWrong)

/- THE SECOND FORM. 'bulk': how many values and letters a reading holds, each counted each time it is reached (what is shared counts as often as it is met; a slice's spare places count too). A statement '..UptoSaid' is the law's where the arguments, and the package variables that the reading takes, are together of bulk at most 1048576: NARROWER than '..Said'. Prove '..Said' where nothing that the law and all that it calls make is longer than what came in: it says more and counts as full. Else prove '..UptoSaid'. A law counts once. -/
mutual
def uptoBulk {H : Type} : DataW H → Nat
  | .lit (.string bytes) => bytes.length + 1
  | .lit _ => 1
  | .nil => 1
  | .ptr d => uptoBulk d + 1
  | .slice elems spare => uptoBulkAll elems + uptoBulkAll spare + 1
  | .agg parts => uptoBulkAll parts + 1
  | .iface _ d => uptoBulk d + 1
  | .map entries => uptoBulkEntries entries + 1
  | .held _ => 1
def uptoBulkAll {H : Type} : List (DataW H) → Nat
  | [] => 0
  | d :: r => uptoBulk d + uptoBulkAll r
def uptoBulkEntries {H : Type} : List (Lit × DataW H) → Nat
  | [] => 0
  | x :: r => uptoBulkEntry x + uptoBulkEntries r
def uptoBulkEntry {H : Type} : Lit × DataW H → Nat
  | (.string bytes, d) => bytes.length + uptoBulk d + 1
  | (_, d) => uptoBulk d + 1
 end
def uptoSmall : (H : Type) → List (DataW H) → Bool := fun _ ds => decide (uptoBulkAll ds ≤ 1048576)
def OpenSpec.upto (s : _root_.Go.ChangeSpec) : _root_.Go.OpenSpec := { _root_.Go.OpenSpec.ofChange s with cond := some uptoSmall }

/-- 'kentledgelaw05.FlowSpans', WHERE WHAT IT READS IS OF BULK AT MOST 1048576: true; the input reads as it did. -/
def flowSpansUptoRow : OpenClaim := { program := "ytighfmgkoepfkaagreat", sum := "041e2a98e1f5915027673d8a4998e8e024c9bfb8e19e28a4dadf0bdb83e3c9e2", func := "kentledge/kentledgelaw05.FlowSpans", spec := "flowSpans", unfollowed := true, recurses := true, apart := false, narrowed := true }
def FlowSpansUptoSaid : Prop := flowSpansUptoRow.holds Tryz.pinned (OpenSpec.upto flowSpansSpec)

/-- 'kentledgelaw05.FlowLeaves', WHERE WHAT IT READS IS OF BULK AT MOST 1048576: true; the input reads as it did. -/
def flowLeavesUptoRow : OpenClaim := { program := "ytighfmgkoepfkaagreat", sum := "041e2a98e1f5915027673d8a4998e8e024c9bfb8e19e28a4dadf0bdb83e3c9e2", func := "kentledge/kentledgelaw05.FlowLeaves", spec := "flowLeaves", unfollowed := true, recurses := true, apart := false, narrowed := true }
def FlowLeavesUptoSaid : Prop := flowLeavesUptoRow.holds Tryz.pinned (OpenSpec.upto flowLeavesSpec)

/-- 'kentledgelaw05.FlowGaps', WHERE WHAT IT READS IS OF BULK AT MOST 1048576: true; the input reads as it did. -/
def flowGapsUptoRow : OpenClaim := { program := "ytighfmgkoepfkaagreat", sum := "041e2a98e1f5915027673d8a4998e8e024c9bfb8e19e28a4dadf0bdb83e3c9e2", func := "kentledge/kentledgelaw05.FlowGaps", spec := "flowGaps", unfollowed := true, recurses := true, apart := false, narrowed := true }
def FlowGapsUptoSaid : Prop := flowGapsUptoRow.holds Tryz.pinned (OpenSpec.upto flowGapsSpec)

/-- 'kentledgelaw05.FlowOneByOne', WHERE WHAT IT READS IS OF BULK AT MOST 1048576: true; the input reads as it did. -/
def flowOneByOneUptoRow : OpenClaim := { program := "ytighfmgkoepfkaagreat", sum := "041e2a98e1f5915027673d8a4998e8e024c9bfb8e19e28a4dadf0bdb83e3c9e2", func := "kentledge/kentledgelaw05.FlowOneByOne", spec := "flowOneByOne", unfollowed := true, recurses := true, apart := false, narrowed := true }
def FlowOneByOneUptoSaid : Prop := flowOneByOneUptoRow.holds Tryz.pinned (OpenSpec.upto flowOneByOneSpec)

/-- 'kentledgelaw05.FlowOffices', WHERE WHAT IT READS IS OF BULK AT MOST 1048576: true; the input reads as it did. -/
def flowOfficesUptoRow : OpenClaim := { program := "ytighfmgkoepfkaagreat", sum := "041e2a98e1f5915027673d8a4998e8e024c9bfb8e19e28a4dadf0bdb83e3c9e2", func := "kentledge/kentledgelaw05.FlowOffices", spec := "flowOffices", unfollowed := true, recurses := true, apart := false, narrowed := true }
def FlowOfficesUptoSaid : Prop := flowOfficesUptoRow.holds Tryz.pinned (OpenSpec.upto flowOfficesSpec)

/-- 'kentledgelaw05.FlowRests', WHERE WHAT IT READS IS OF BULK AT MOST 1048576: true; the input reads as it did. -/
def flowRestsUptoRow : OpenClaim := { program := "ytighfmgkoepfkaagreat", sum := "041e2a98e1f5915027673d8a4998e8e024c9bfb8e19e28a4dadf0bdb83e3c9e2", func := "kentledge/kentledgelaw05.FlowRests", spec := "flowRests", unfollowed := true, recurses := true, apart := false, narrowed := true }
def FlowRestsUptoSaid : Prop := flowRestsUptoRow.holds Tryz.pinned (OpenSpec.upto flowRestsSpec)

/-- 'kentledgelaw05.FlowLimits', WHERE WHAT IT READS IS OF BULK AT MOST 1048576: true; the input reads as it did. -/
def flowLimitsUptoRow : OpenClaim := { program := "ytighfmgkoepfkaagreat", sum := "041e2a98e1f5915027673d8a4998e8e024c9bfb8e19e28a4dadf0bdb83e3c9e2", func := "kentledge/kentledgelaw05.FlowLimits", spec := "flowLimits", unfollowed := true, recurses := true, apart := false, narrowed := true }
def FlowLimitsUptoSaid : Prop := flowLimitsUptoRow.holds Tryz.pinned (OpenSpec.upto flowLimitsSpec)

/-- 'kentledgelaw05.FlowTampers', WHERE WHAT IT READS IS OF BULK AT MOST 1048576: true; the input reads as it did. -/
def flowTampersUptoRow : OpenClaim := { program := "ytighfmgkoepfkaagreat", sum := "041e2a98e1f5915027673d8a4998e8e024c9bfb8e19e28a4dadf0bdb83e3c9e2", func := "kentledge/kentledgelaw05.FlowTampers", spec := "flowTampers", unfollowed := true, recurses := true, apart := false, narrowed := true }
def FlowTampersUptoSaid : Prop := flowTampersUptoRow.holds Tryz.pinned (OpenSpec.upto flowTampersSpec)

/-- 'kentledgelaw05.FlowLimitsHold', WHERE WHAT IT READS IS OF BULK AT MOST 1048576: true; the input reads as it did. -/
def flowLimitsHoldUptoRow : OpenClaim := { program := "ytighfmgkoepfkaagreat", sum := "041e2a98e1f5915027673d8a4998e8e024c9bfb8e19e28a4dadf0bdb83e3c9e2", func := "kentledge/kentledgelaw05.FlowLimitsHold", spec := "flowLimitsHold", unfollowed := true, recurses := true, apart := false, narrowed := true }
def FlowLimitsHoldUptoSaid : Prop := flowLimitsHoldUptoRow.holds Tryz.pinned (OpenSpec.upto flowLimitsHoldSpec)

end Rows
end Go.Proofs.YtighfmgkoepfkaaGreat
