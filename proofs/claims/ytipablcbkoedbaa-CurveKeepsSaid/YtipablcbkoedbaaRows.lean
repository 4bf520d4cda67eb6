/-
  No cell of these rows narrows 'for every input' (looked for: loops, veiled, ifaces, maps, wideKeys, modest, calm, conditions, laid).
  DERIVED. THE GIVEN ROWS OF THIS SEAT. 14 by the template 'for every input the law returns true; each argument reads behind the call as it read before'; 0 by the template 'total and deterministic' (their statements: YtipablcbkoedbaaTotals.lean).
  GIVEN WITH THE SEED: the statements are not yours to turn. If you find one false, say at which input.
  Laid BY PROGRAM, IN A SANDBOX (cutbox-rows.mjs): the forced cells as the released guide's own fill.sh prints them over the translation 368608fa8e17dc5e… (all of the seat's roots in one cut). By AI agents, Wed Nov 11 2026. No macro, syntax, notation, axiom, sorry.
-/
import Derived.Test.YtipablcbkoedbaaChecked
import GoSem.Claim
import GoSem.ClaimJoined
import GoSem.ClaimMapViews
import Derived.JoinedTies
import Derived.KernelRfl
namespace Go.Proofs.Ytipablcbkoedbaa
/- THE CELL 'sum', in the pinned program and in every row, IS THE sha256 OF THE DUMP (.gsa) THAT YtipablcbkoedbaaProg.lean LOADS. Nothing in Lean hashes anything: it is a label: what it is worth is what the hold of that sum in a sandbox is worth. -/
noncomputable def Try.pinned : Pinned := { name := "ytipablcbkoedbaa", sum := "368608fa8e17dc5e4dfd01734087d176a0d2784309a4d90c2f5b2ceeabb7e1cb", checked := Try.checked }
namespace Rows
def none {H : Type} : Left H := { results := [], args := [] }

/-- 'kentledgelaw01.CurveInverses': WHATEVER THE INPUT: true; the input reads as it did. -/
def curveInversesSpec : ChangeSpec := { name := "curveInverses", fn := fun _ => fun
  | [d1, d2, d3] => { results := [.lit (.bool true)], args := [d1, d2, d3] }
  | _ => none }
def curveInversesRow : OpenClaim := { program := "ytipablcbkoedbaa", sum := "368608fa8e17dc5e4dfd01734087d176a0d2784309a4d90c2f5b2ceeabb7e1cb", func := "kentledge/kentledgelaw01.CurveInverses", spec := "curveInverses", unfollowed := true, recurses := true, apart := false }
def CurveInversesSaid : Prop := curveInversesRow.holds Try.pinned (OpenSpec.ofChange curveInversesSpec)

/-- ITS FALSE NEIGHBOUR: 'it returns false'. Refute it at one input. -/
def curveInversesWrong : ChangeSpec := { name := "curveInverses", fn := fun _ => fun
  | [d1, d2, d3] => { results := [.lit (.bool false)], args := [d1, d2, d3] }
  | _ => none }
def CurveInversesWrongFalsely : Prop := curveInversesRow.holds Try.pinned (OpenSpec.ofChange curveInversesWrong)

/-- 'kentledgelaw01.CurveOvers': WHATEVER THE INPUT: true; the input reads as it did. -/
def curveOversSpec : ChangeSpec := { name := "curveOvers", fn := fun _ => fun
  | [d1, d2, d3, d4] => { results := [.lit (.bool true)], args := [d1, d2, d3, d4] }
  | _ => none }
def curveOversRow : OpenClaim := { program := "ytipablcbkoedbaa", sum := "368608fa8e17dc5e4dfd01734087d176a0d2784309a4d90c2f5b2ceeabb7e1cb", func := "kentledge/kentledgelaw01.CurveOvers", spec := "curveOvers", unfollowed := true, recurses := true, apart := false }
def CurveOversSaid : Prop := curveOversRow.holds Try.pinned (OpenSpec.ofChange curveOversSpec)

/-- ITS FALSE NEIGHBOUR: 'it returns false'. Refute it at one input. -/
def curveOversWrong : ChangeSpec := { name := "curveOvers", fn := fun _ => fun
  | [d1, d2, d3, d4] => { results := [.lit (.bool false)], args := [d1, d2, d3, d4] }
  | _ => none }
def CurveOversWrongFalsely : Prop := curveOversRow.holds Try.pinned (OpenSpec.ofChange curveOversWrong)

/-- 'kentledgelaw01.CurveSheaves': WHATEVER THE INPUT: true; the input reads as it did. -/
def curveSheavesSpec : ChangeSpec := { name := "curveSheaves", fn := fun _ => fun
  | [d1, d2] => { results := [.lit (.bool true)], args := [d1, d2] }
  | _ => none }
def curveSheavesRow : OpenClaim := { program := "ytipablcbkoedbaa", sum := "368608fa8e17dc5e4dfd01734087d176a0d2784309a4d90c2f5b2ceeabb7e1cb", func := "kentledge/kentledgelaw01.CurveSheaves", spec := "curveSheaves", unfollowed := true, recurses := true, apart := false }
def CurveSheavesSaid : Prop := curveSheavesRow.holds Try.pinned (OpenSpec.ofChange curveSheavesSpec)

/-- ITS FALSE NEIGHBOUR: 'it returns false'. Refute it at one input. -/
def curveSheavesWrong : ChangeSpec := { name := "curveSheaves", fn := fun _ => fun
  | [d1, d2] => { results := [.lit (.bool false)], args := [d1, d2] }
  | _ => none }
def CurveSheavesWrongFalsely : Prop := curveSheavesRow.holds Try.pinned (OpenSpec.ofChange curveSheavesWrong)

/-- 'kentledgelaw01.CurveValues': WHATEVER THE INPUT: true; the input reads as it did. -/
def curveValuesSpec : ChangeSpec := { name := "curveValues", fn := fun _ => fun
  | [d1, d2] => { results := [.lit (.bool true)], args := [d1, d2] }
  | _ => none }
def curveValuesRow : OpenClaim := { program := "ytipablcbkoedbaa", sum := "368608fa8e17dc5e4dfd01734087d176a0d2784309a4d90c2f5b2ceeabb7e1cb", func := "kentledge/kentledgelaw01.CurveValues", spec := "curveValues", unfollowed := true, recurses := true, apart := false }
def CurveValuesSaid : Prop := curveValuesRow.holds Try.pinned (OpenSpec.ofChange curveValuesSpec)

/-- ITS FALSE NEIGHBOUR: 'it returns false'. Refute it at one input. -/
def curveValuesWrong : ChangeSpec := { name := "curveValues", fn := fun _ => fun
  | [d1, d2] => { results := [.lit (.bool false)], args := [d1, d2] }
  | _ => none }
def CurveValuesWrongFalsely : Prop := curveValuesRow.holds Try.pinned (OpenSpec.ofChange curveValuesWrong)

/-- 'kentledgelaw01.CurveFracs': WHATEVER THE INPUT: true; the input reads as it did. -/
def curveFracsSpec : ChangeSpec := { name := "curveFracs", fn := fun _ => fun
  | [d1, d2, d3, d4] => { results := [.lit (.bool true)], args := [d1, d2, d3, d4] }
  | _ => none }
def curveFracsRow : OpenClaim := { program := "ytipablcbkoedbaa", sum := "368608fa8e17dc5e4dfd01734087d176a0d2784309a4d90c2f5b2ceeabb7e1cb", func := "kentledge/kentledgelaw01.CurveFracs", spec := "curveFracs", unfollowed := true, recurses := true, apart := false }
def CurveFracsSaid : Prop := curveFracsRow.holds Try.pinned (OpenSpec.ofChange curveFracsSpec)

/-- ITS FALSE NEIGHBOUR: 'it returns false'. Refute it at one input. -/
def curveFracsWrong : ChangeSpec := { name := "curveFracs", fn := fun _ => fun
  | [d1, d2, d3, d4] => { results := [.lit (.bool false)], args := [d1, d2, d3, d4] }
  | _ => none }
def CurveFracsWrongFalsely : Prop := curveFracsRow.holds Try.pinned (OpenSpec.ofChange curveFracsWrong)

/-- 'kentledgelaw01.CurveCrossings': WHATEVER THE INPUT: true; the input reads as it did. -/
def curveCrossingsSpec : ChangeSpec := { name := "curveCrossings", fn := fun _ => fun
  | [d1, d2] => { results := [.lit (.bool true)], args := [d1, d2] }
  | _ => none }
def curveCrossingsRow : OpenClaim := { program := "ytipablcbkoedbaa", sum := "368608fa8e17dc5e4dfd01734087d176a0d2784309a4d90c2f5b2ceeabb7e1cb", func := "kentledge/kentledgelaw01.CurveCrossings", spec := "curveCrossings", unfollowed := true, recurses := true, apart := false }
def CurveCrossingsSaid : Prop := curveCrossingsRow.holds Try.pinned (OpenSpec.ofChange curveCrossingsSpec)

/-- ITS FALSE NEIGHBOUR: 'it returns false'. Refute it at one input. -/
def curveCrossingsWrong : ChangeSpec := { name := "curveCrossings", fn := fun _ => fun
  | [d1, d2] => { results := [.lit (.bool false)], args := [d1, d2] }
  | _ => none }
def CurveCrossingsWrongFalsely : Prop := curveCrossingsRow.holds Try.pinned (OpenSpec.ofChange curveCrossingsWrong)

/-- 'kentledgelaw01.CurveSlopes': WHATEVER THE INPUT: true; the input reads as it did. -/
def curveSlopesSpec : ChangeSpec := { name := "curveSlopes", fn := fun _ => fun
  | [d] => { results := [.lit (.bool true)], args := [d] }
  | _ => none }
def curveSlopesRow : OpenClaim := { program := "ytipablcbkoedbaa", sum := "368608fa8e17dc5e4dfd01734087d176a0d2784309a4d90c2f5b2ceeabb7e1cb", func := "kentledge/kentledgelaw01.CurveSlopes", spec := "curveSlopes", unfollowed := true, recurses := true, apart := false }
def CurveSlopesSaid : Prop := curveSlopesRow.holds Try.pinned (OpenSpec.ofChange curveSlopesSpec)

/-- ITS FALSE NEIGHBOUR: 'it returns false'. Refute it at one input. -/
def curveSlopesWrong : ChangeSpec := { name := "curveSlopes", fn := fun _ => fun
  | [d] => { results := [.lit (.bool false)], args := [d] }
  | _ => none }
def CurveSlopesWrongFalsely : Prop := curveSlopesRow.holds Try.pinned (OpenSpec.ofChange curveSlopesWrong)

/-- 'kentledgelaw01.CurveInverts': WHATEVER THE INPUT: true; the input reads as it did. -/
def curveInvertsSpec : ChangeSpec := { name := "curveInverts", fn := fun _ => fun
  | [d1, d2, d3, d4, d5] => { results := [.lit (.bool true)], args := [d1, d2, d3, d4, d5] }
  | _ => none }
def curveInvertsRow : OpenClaim := { program := "ytipablcbkoedbaa", sum := "368608fa8e17dc5e4dfd01734087d176a0d2784309a4d90c2f5b2ceeabb7e1cb", func := "kentledge/kentledgelaw01.CurveInverts", spec := "curveInverts", unfollowed := true, recurses := true, apart := false }
def CurveInvertsSaid : Prop := curveInvertsRow.holds Try.pinned (OpenSpec.ofChange curveInvertsSpec)

/-- ITS FALSE NEIGHBOUR: 'it returns false'. Refute it at one input. -/
def curveInvertsWrong : ChangeSpec := { name := "curveInverts", fn := fun _ => fun
  | [d1, d2, d3, d4, d5] => { results := [.lit (.bool false)], args := [d1, d2, d3, d4, d5] }
  | _ => none }
def CurveInvertsWrongFalsely : Prop := curveInvertsRow.holds Try.pinned (OpenSpec.ofChange curveInvertsWrong)

/-- 'kentledgelaw01.CurveBounds': WHATEVER THE INPUT: true; the input reads as it did. -/
def curveBoundsSpec : ChangeSpec := { name := "curveBounds", fn := fun _ => fun
  | [d1, d2, d3, d4, d5] => { results := [.lit (.bool true)], args := [d1, d2, d3, d4, d5] }
  | _ => none }
def curveBoundsRow : OpenClaim := { program := "ytipablcbkoedbaa", sum := "368608fa8e17dc5e4dfd01734087d176a0d2784309a4d90c2f5b2ceeabb7e1cb", func := "kentledge/kentledgelaw01.CurveBounds", spec := "curveBounds", unfollowed := true, recurses := true, apart := false }
def CurveBoundsSaid : Prop := curveBoundsRow.holds Try.pinned (OpenSpec.ofChange curveBoundsSpec)

/-- ITS FALSE NEIGHBOUR: 'it returns false'. Refute it at one input. -/
def curveBoundsWrong : ChangeSpec := { name := "curveBounds", fn := fun _ => fun
  | [d1, d2, d3, d4, d5] => { results := [.lit (.bool false)], args := [d1, d2, d3, d4, d5] }
  | _ => none }
def CurveBoundsWrongFalsely : Prop := curveBoundsRow.holds Try.pinned (OpenSpec.ofChange curveBoundsWrong)

/-- 'kentledgelaw01.CurveSums': WHATEVER THE INPUT: true; the input reads as it did. -/
def curveSumsSpec : ChangeSpec := { name := "curveSums", fn := fun _ => fun
  | [d1, d2] => { results := [.lit (.bool true)], args := [d1, d2] }
  | _ => none }
def curveSumsRow : OpenClaim := { program := "ytipablcbkoedbaa", sum := "368608fa8e17dc5e4dfd01734087d176a0d2784309a4d90c2f5b2ceeabb7e1cb", func := "kentledge/kentledgelaw01.CurveSums", spec := "curveSums", unfollowed := true, recurses := true, apart := false }
def CurveSumsSaid : Prop := curveSumsRow.holds Try.pinned (OpenSpec.ofChange curveSumsSpec)

/-- ITS FALSE NEIGHBOUR: 'it returns false'. Refute it at one input. -/
def curveSumsWrong : ChangeSpec := { name := "curveSums", fn := fun _ => fun
  | [d1, d2] => { results := [.lit (.bool false)], args := [d1, d2] }
  | _ => none }
def CurveSumsWrongFalsely : Prop := curveSumsRow.holds Try.pinned (OpenSpec.ofChange curveSumsWrong)

/-- 'kentledgelaw01.CurveTruth': WHATEVER THE INPUT: true; the input reads as it did. -/
def curveTruthSpec : ChangeSpec := { name := "curveTruth", fn := fun _ => fun
  | [d1, d2, d3] => { results := [.lit (.bool true)], args := [d1, d2, d3] }
  | _ => none }
def curveTruthRow : OpenClaim := { program := "ytipablcbkoedbaa", sum := "368608fa8e17dc5e4dfd01734087d176a0d2784309a4d90c2f5b2ceeabb7e1cb", func := "kentledge/kentledgelaw01.CurveTruth", spec := "curveTruth", unfollowed := true, recurses := true, apart := false }
def CurveTruthSaid : Prop := curveTruthRow.holds Try.pinned (OpenSpec.ofChange curveTruthSpec)

/-- ITS FALSE NEIGHBOUR: 'it returns false'. Refute it at one input. -/
def curveTruthWrong : ChangeSpec := { name := "curveTruth", fn := fun _ => fun
  | [d1, d2, d3] => { results := [.lit (.bool false)], args := [d1, d2, d3] }
  | _ => none }
def CurveTruthWrongFalsely : Prop := curveTruthRow.holds Try.pinned (OpenSpec.ofChange curveTruthWrong)

/-- 'kentledgelaw01.CurvePairs': WHATEVER THE INPUT: true; the input reads as it did. -/
def curvePairsSpec : ChangeSpec := { name := "curvePairs", fn := fun _ => fun
  | [d1, d2, d3] => { results := [.lit (.bool true)], args := [d1, d2, d3] }
  | _ => none }
def curvePairsRow : OpenClaim := { program := "ytipablcbkoedbaa", sum := "368608fa8e17dc5e4dfd01734087d176a0d2784309a4d90c2f5b2ceeabb7e1cb", func := "kentledge/kentledgelaw01.CurvePairs", spec := "curvePairs", unfollowed := true, recurses := true, apart := false }
def CurvePairsSaid : Prop := curvePairsRow.holds Try.pinned (OpenSpec.ofChange curvePairsSpec)

/-- ITS FALSE NEIGHBOUR: 'it returns false'. Refute it at one input. -/
def curvePairsWrong : ChangeSpec := { name := "curvePairs", fn := fun _ => fun
  | [d1, d2, d3] => { results := [.lit (.bool false)], args := [d1, d2, d3] }
  | _ => none }
def CurvePairsWrongFalsely : Prop := curvePairsRow.holds Try.pinned (OpenSpec.ofChange curvePairsWrong)

/-- 'kentledgelaw01.CurveChanges': WHATEVER THE INPUT: true; the input reads as it did. -/
def curveChangesSpec : ChangeSpec := { name := "curveChanges", fn := fun _ => fun
  | [d1, d2, d3] => { results := [.lit (.bool true)], args := [d1, d2, d3] }
  | _ => none }
def curveChangesRow : OpenClaim := { program := "ytipablcbkoedbaa", sum := "368608fa8e17dc5e4dfd01734087d176a0d2784309a4d90c2f5b2ceeabb7e1cb", func := "kentledge/kentledgelaw01.CurveChanges", spec := "curveChanges", unfollowed := true, recurses := true, apart := false }
def CurveChangesSaid : Prop := curveChangesRow.holds Try.pinned (OpenSpec.ofChange curveChangesSpec)

/-- ITS FALSE NEIGHBOUR: 'it returns false'. Refute it at one input. -/
def curveChangesWrong : ChangeSpec := { name := "curveChanges", fn := fun _ => fun
  | [d1, d2, d3] => { results := [.lit (.bool false)], args := [d1, d2, d3] }
  | _ => none }
def CurveChangesWrongFalsely : Prop := curveChangesRow.holds Try.pinned (OpenSpec.ofChange curveChangesWrong)

/-- 'kentledgelaw01.CurveKeeps': WHATEVER THE INPUT: true; the input reads as it did. -/
def curveKeepsSpec : ChangeSpec := { name := "curveKeeps", fn := fun _ => fun
  | [d1, d2, d3, d4, d5] => { results := [.lit (.bool true)], args := [d1, d2, d3, d4, d5] }
  | _ => none }
def curveKeepsRow : OpenClaim := { program := "ytipablcbkoedbaa", sum := "368608fa8e17dc5e4dfd01734087d176a0d2784309a4d90c2f5b2ceeabb7e1cb", func := "kentledge/kentledgelaw01.CurveKeeps", spec := "curveKeeps", unfollowed := true, recurses := true, apart := false }
def CurveKeepsSaid : Prop := curveKeepsRow.holds Try.pinned (OpenSpec.ofChange curveKeepsSpec)

/-- ITS FALSE NEIGHBOUR: 'it returns false'. Refute it at one input. -/
def curveKeepsWrong : ChangeSpec := { name := "curveKeeps", fn := fun _ => fun
  | [d1, d2, d3, d4, d5] => { results := [.lit (.bool false)], args := [d1, d2, d3, d4, d5] }
  | _ => none }
def CurveKeepsWrongFalsely : Prop := curveKeepsRow.holds Try.pinned (OpenSpec.ofChange curveKeepsWrong)

/- THE SECOND FORM. 'bulk': how many values and letters a reading holds, each counted each time it is reached (what is shared counts as often as it is met; a slice's spare places count too). A statement '..UptoSaid' is the law's where the arguments, and the package variables that the reading takes, are together of bulk at most 1048576: NARROWER than '..Said'. Prove '..Said' where nothing that the law and all that it calls make is longer than what came in: it says more and counts as full. Else prove '..UptoSaid'. A law counts once. -/
mutual
def uptoBulk {H : Type} : DataW H → Nat
  | .lit (.string bytes) => bytes.length + 1
  | .lit _ => 1
  | .nil => 1
  | .ptr d => uptoBulk d + 1
  | .slice elems spare => uptoBulkAll elems + uptoBulkAll spare + 1
  | .agg parts => uptoBulkAll parts + 1
  | .iface _ d => uptoBulk d + 1
  | .map entries => uptoBulkEntries entries + 1
  | .held _ => 1
def uptoBulkAll {H : Type} : List (DataW H) → Nat
  | [] => 0
  | d :: r => uptoBulk d + uptoBulkAll r
def uptoBulkEntries {H : Type} : List (Lit × DataW H) → Nat
  | [] => 0
  | x :: r => uptoBulkEntry x + uptoBulkEntries r
def uptoBulkEntry {H : Type} : Lit × DataW H → Nat
  | (.string bytes, d) => bytes.length + uptoBulk d + 1
  | (_, d) => uptoBulk d + 1
 end
def uptoSmall : (H : Type) → List (DataW H) → Bool := fun _ ds => decide (uptoBulkAll ds ≤ 1048576)
def OpenSpec.upto (s : _root_.Go.ChangeSpec) : _root_.Go.OpenSpec := { _root_.Go.OpenSpec.ofChange s with cond := some uptoSmall }

/-- 'kentledgelaw01.CurveInverses', WHERE WHAT IT READS IS OF BULK AT MOST 1048576: true; the input reads as it did. -/
def curveInversesUptoRow : OpenClaim := { program := "ytipablcbkoedbaa", sum := "368608fa8e17dc5e4dfd01734087d176a0d2784309a4d90c2f5b2ceeabb7e1cb", func := "kentledge/kentledgelaw01.CurveInverses", spec := "curveInverses", unfollowed := true, recurses := true, apart := false, narrowed := true }
def CurveInversesUptoSaid : Prop := curveInversesUptoRow.holds Try.pinned (OpenSpec.upto curveInversesSpec)

/-- 'kentledgelaw01.CurveOvers', WHERE WHAT IT READS IS OF BULK AT MOST 1048576: true; the input reads as it did. -/
def curveOversUptoRow : OpenClaim := { program := "ytipablcbkoedbaa", sum := "368608fa8e17dc5e4dfd01734087d176a0d2784309a4d90c2f5b2ceeabb7e1cb", func := "kentledge/kentledgelaw01.CurveOvers", spec := "curveOvers", unfollowed := true, recurses := true, apart := false, narrowed := true }
def CurveOversUptoSaid : Prop := curveOversUptoRow.holds Try.pinned (OpenSpec.upto curveOversSpec)

/-- 'kentledgelaw01.CurveSheaves', WHERE WHAT IT READS IS OF BULK AT MOST 1048576: true; the input reads as it did. -/
def curveSheavesUptoRow : OpenClaim := { program := "ytipablcbkoedbaa", sum := "368608fa8e17dc5e4dfd01734087d176a0d2784309a4d90c2f5b2ceeabb7e1cb", func := "kentledge/kentledgelaw01.CurveSheaves", spec := "curveSheaves", unfollowed := true, recurses := true, apart := false, narrowed := true }
def CurveSheavesUptoSaid : Prop := curveSheavesUptoRow.holds Try.pinned (OpenSpec.upto curveSheavesSpec)

/-- 'kentledgelaw01.CurveValues', WHERE WHAT IT READS IS OF BULK AT MOST 1048576: true; the input reads as it did. -/
def curveValuesUptoRow : OpenClaim := { program := "ytipablcbkoedbaa", sum := "368608fa8e17dc5e4dfd01734087d176a0d2784309a4d90c2f5b2ceeabb7e1cb", func := "kentledge/kentledgelaw01.CurveValues", spec := "curveValues", unfollowed := true, recurses := true, apart := false, narrowed := true }
def CurveValuesUptoSaid : Prop := curveValuesUptoRow.holds Try.pinned (OpenSpec.upto curveValuesSpec)

/-- 'kentledgelaw01.CurveFracs', WHERE WHAT IT READS IS OF BULK AT MOST 1048576: true; the input reads as it did. -/
def curveFracsUptoRow : OpenClaim := { program := "ytipablcbkoedbaa", sum := "368608fa8e17dc5e4dfd01734087d176a0d2784309a4d90c2f5b2ceeabb7e1cb", func := "kentledge/kentledgelaw01.CurveFracs", spec := "curveFracs", unfollowed := true, recurses := true, apart := false, narrowed := true }
def CurveFracsUptoSaid : Prop := curveFracsUptoRow.holds Try.pinned (OpenSpec.upto curveFracsSpec)

/-- 'kentledgelaw01.CurveCrossings', WHERE WHAT IT READS IS OF BULK AT MOST 1048576: true; the input reads as it did. -/
def curveCrossingsUptoRow : OpenClaim := { program := "ytipablcbkoedbaa", sum := "368608fa8e17dc5e4dfd01734087d176a0d2784309a4d90c2f5b2ceeabb7e1cb", func := "kentledge/kentledgelaw01.CurveCrossings", spec := "curveCrossings", unfollowed := true, recurses := true, apart := false, narrowed := true }
def CurveCrossingsUptoSaid : Prop := curveCrossingsUptoRow.holds Try.pinned (OpenSpec.upto curveCrossingsSpec)

/-- 'kentledgelaw01.CurveSlopes', WHERE WHAT IT READS IS OF BULK AT MOST 1048576: true; the input reads as it did. -/
def curveSlopesUptoRow : OpenClaim := { program := "ytipablcbkoedbaa", sum := "368608fa8e17dc5e4dfd01734087d176a0d2784309a4d90c2f5b2ceeabb7e1cb", func := "kentledge/kentledgelaw01.CurveSlopes", spec := "curveSlopes", unfollowed := true, recurses := true, apart := false, narrowed := true }
def CurveSlopesUptoSaid : Prop := curveSlopesUptoRow.holds Try.pinned (OpenSpec.upto curveSlopesSpec)

/-- 'kentledgelaw01.CurveInverts', WHERE WHAT IT READS IS OF BULK AT MOST 1048576: true; the input reads as it did. -/
def curveInvertsUptoRow : OpenClaim := { program := "ytipablcbkoedbaa", sum := "368608fa8e17dc5e4dfd01734087d176a0d2784309a4d90c2f5b2ceeabb7e1cb", func := "kentledge/kentledgelaw01.CurveInverts", spec := "curveInverts", unfollowed := true, recurses := true, apart := false, narrowed := true }
def CurveInvertsUptoSaid : Prop := curveInvertsUptoRow.holds Try.pinned (OpenSpec.upto curveInvertsSpec)

/-- 'kentledgelaw01.CurveBounds', WHERE WHAT IT READS IS OF BULK AT MOST 1048576: true; the input reads as it did. -/
def curveBoundsUptoRow : OpenClaim := { program := "ytipablcbkoedbaa", sum := "368608fa8e17dc5e4dfd01734087d176a0d2784309a4d90c2f5b2ceeabb7e1cb", func := "kentledge/kentledgelaw01.CurveBounds", spec := "curveBounds", unfollowed := true, recurses := true, apart := false, narrowed := true }
def CurveBoundsUptoSaid : Prop := curveBoundsUptoRow.holds Try.pinned (OpenSpec.upto curveBoundsSpec)

/-- 'kentledgelaw01.CurveSums', WHERE WHAT IT READS IS OF BULK AT MOST 1048576: true; the input reads as it did. -/
def curveSumsUptoRow : OpenClaim := { program := "ytipablcbkoedbaa", sum := "368608fa8e17dc5e4dfd01734087d176a0d2784309a4d90c2f5b2ceeabb7e1cb", func := "kentledge/kentledgelaw01.CurveSums", spec := "curveSums", unfollowed := true, recurses := true, apart := false, narrowed := true }
def CurveSumsUptoSaid : Prop := curveSumsUptoRow.holds Try.pinned (OpenSpec.upto curveSumsSpec)

/-- 'kentledgelaw01.CurveTruth', WHERE WHAT IT READS IS OF BULK AT MOST 1048576: true; the input reads as it did. -/
def curveTruthUptoRow : OpenClaim := { program := "ytipablcbkoedbaa", sum := "368608fa8e17dc5e4dfd01734087d176a0d2784309a4d90c2f5b2ceeabb7e1cb", func := "kentledge/kentledgelaw01.CurveTruth", spec := "curveTruth", unfollowed := true, recurses := true, apart := false, narrowed := true }
def CurveTruthUptoSaid : Prop := curveTruthUptoRow.holds Try.pinned (OpenSpec.upto curveTruthSpec)

/-- 'kentledgelaw01.CurvePairs', WHERE WHAT IT READS IS OF BULK AT MOST 1048576: true; the input reads as it did. -/
def curvePairsUptoRow : OpenClaim := { program := "ytipablcbkoedbaa", sum := "368608fa8e17dc5e4dfd01734087d176a0d2784309a4d90c2f5b2ceeabb7e1cb", func := "kentledge/kentledgelaw01.CurvePairs", spec := "curvePairs", unfollowed := true, recurses := true, apart := false, narrowed := true }
def CurvePairsUptoSaid : Prop := curvePairsUptoRow.holds Try.pinned (OpenSpec.upto curvePairsSpec)

/-- 'kentledgelaw01.CurveChanges', WHERE WHAT IT READS IS OF BULK AT MOST 1048576: true; the input reads as it did. -/
def curveChangesUptoRow : OpenClaim := { program := "ytipablcbkoedbaa", sum := "368608fa8e17dc5e4dfd01734087d176a0d2784309a4d90c2f5b2ceeabb7e1cb", func := "kentledge/kentledgelaw01.CurveChanges", spec := "curveChanges", unfollowed := true, recurses := true, apart := false, narrowed := true }
def CurveChangesUptoSaid : Prop := curveChangesUptoRow.holds Try.pinned (OpenSpec.upto curveChangesSpec)

/-- 'kentledgelaw01.CurveKeeps', WHERE WHAT IT READS IS OF BULK AT MOST 1048576: true; the input reads as it did. -/
def curveKeepsUptoRow : OpenClaim := { program := "ytipablcbkoedbaa", sum := "368608fa8e17dc5e4dfd01734087d176a0d2784309a4d90c2f5b2ceeabb7e1cb", func := "kentledge/kentledgelaw01.CurveKeeps", spec := "curveKeeps", unfollowed := true, recurses := true, apart := false, narrowed := true }
def CurveKeepsUptoSaid : Prop := curveKeepsUptoRow.holds Try.pinned (OpenSpec.upto curveKeepsSpec)

end Rows
end Go.Proofs.Ytipablcbkoedbaa
