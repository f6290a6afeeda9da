/-
  No cell of these rows narrows 'for every input' (looked for: loops, veiled, ifaces, maps, wideKeys, modest, calm, conditions, laid).
  DERIVED. THE GIVEN ROWS OF THIS SEAT. 23 by the template 'for every input the law returns true; each argument reads behind the call as it read before'; 0 by the template 'total and deterministic' (their statements: YtnajihlhcdedgaaTotals.lean).
  GIVEN WITH THE SEED: the statements are not yours to turn. If you find one false, say at which input.
  Laid BY PROGRAM, IN A SANDBOX (cutbox-rows.mjs): the forced cells as the released guide's own fill.sh prints them over the translation 7a232fd8fbad940b… (all of the seat's roots in one cut). By AI agents, Wed Nov 11 2026. No macro, syntax, notation, axiom, sorry.
-/
import Derived.Test.YtnajihlhcdedgaaChecked
import GoSem.Claim
import GoSem.ClaimJoined
import GoSem.ClaimMapViews
import Derived.JoinedTies
import Derived.KernelRfl
namespace Go.Proofs.Ytnajihlhcdedgaa
/- THE CELL 'sum', in the pinned program and in every row, IS THE sha256 OF THE DUMP (.gsa) THAT YtnajihlhcdedgaaProg.lean LOADS. Nothing in Lean hashes anything: it is a label: what it is worth is what the hold of that sum in a sandbox is worth. -/
noncomputable def Try.pinned : Pinned := { name := "ytnajihlhcdedgaa", sum := "7a232fd8fbad940b7cd5f126a7343b6505acbd3e18996997aadc2c073e0a9fcc", checked := Try.checked }
namespace Rows
def none {H : Type} : Left H := { results := [], args := [] }

/-- 'tallymanlaw01.GoldRules': WHATEVER THE INPUT: true; the input reads as it did. -/
def goldRulesSpec : ChangeSpec := { name := "goldRules", fn := fun _ => fun
  | [d1, d2, d3] => { results := [.lit (.bool true)], args := [d1, d2, d3] }
  | _ => none }
def goldRulesRow : OpenClaim := { program := "ytnajihlhcdedgaa", sum := "7a232fd8fbad940b7cd5f126a7343b6505acbd3e18996997aadc2c073e0a9fcc", func := "tallyman/tallymanlaw01.GoldRules", spec := "goldRules", inPlace := ["math/bits.Sub64", "math/bits.Add64"], apart := false }
def GoldRulesSaid : Prop := goldRulesRow.holds Try.pinned (OpenSpec.ofChange goldRulesSpec)

/-- ITS FALSE NEIGHBOUR: 'it returns false'. Refute it at one input. -/
def goldRulesWrong : ChangeSpec := { name := "goldRules", fn := fun _ => fun
  | [d1, d2, d3] => { results := [.lit (.bool false)], args := [d1, d2, d3] }
  | _ => none }
def GoldRulesWrongFalsely : Prop := goldRulesRow.holds Try.pinned (OpenSpec.ofChange goldRulesWrong)

/-- 'tallymanlaw01.GoldSums': WHATEVER THE INPUT: true; the input reads as it did. -/
def goldSumsSpec : ChangeSpec := { name := "goldSums", fn := fun _ => fun
  | [d1, d2] => { results := [.lit (.bool true)], args := [d1, d2] }
  | _ => none }
def goldSumsRow : OpenClaim := { program := "ytnajihlhcdedgaa", sum := "7a232fd8fbad940b7cd5f126a7343b6505acbd3e18996997aadc2c073e0a9fcc", func := "tallyman/tallymanlaw01.GoldSums", spec := "goldSums", inPlace := ["math/bits.Sub64", "math/bits.Add64"], apart := false }
def GoldSumsSaid : Prop := goldSumsRow.holds Try.pinned (OpenSpec.ofChange goldSumsSpec)

/-- ITS FALSE NEIGHBOUR: 'it returns false'. Refute it at one input. -/
def goldSumsWrong : ChangeSpec := { name := "goldSums", fn := fun _ => fun
  | [d1, d2] => { results := [.lit (.bool false)], args := [d1, d2] }
  | _ => none }
def GoldSumsWrongFalsely : Prop := goldSumsRow.holds Try.pinned (OpenSpec.ofChange goldSumsWrong)

/-- 'tallymanlaw01.GoldPowers': WHATEVER THE INPUT: true; the input reads as it did. -/
def goldPowersSpec : ChangeSpec := { name := "goldPowers", fn := fun _ => fun
  | [d1, d2] => { results := [.lit (.bool true)], args := [d1, d2] }
  | _ => none }
def goldPowersRow : OpenClaim := { program := "ytnajihlhcdedgaa", sum := "7a232fd8fbad940b7cd5f126a7343b6505acbd3e18996997aadc2c073e0a9fcc", func := "tallyman/tallymanlaw01.GoldPowers", spec := "goldPowers", inPlace := ["math/bits.Sub64", "math/bits.Add64"], apart := false }
def GoldPowersSaid : Prop := goldPowersRow.holds Try.pinned (OpenSpec.ofChange goldPowersSpec)

/-- ITS FALSE NEIGHBOUR: 'it returns false'. Refute it at one input. -/
def goldPowersWrong : ChangeSpec := { name := "goldPowers", fn := fun _ => fun
  | [d1, d2] => { results := [.lit (.bool false)], args := [d1, d2] }
  | _ => none }
def GoldPowersWrongFalsely : Prop := goldPowersRow.holds Try.pinned (OpenSpec.ofChange goldPowersWrong)

/-- 'tallymanlaw01.GoldBytes': WHATEVER THE INPUT: true; the input reads as it did. -/
def goldBytesSpec : ChangeSpec := { name := "goldBytes", fn := fun _ => fun
  | [d1, d2] => { results := [.lit (.bool true)], args := [d1, d2] }
  | _ => none }
def goldBytesRow : OpenClaim := { program := "ytnajihlhcdedgaa", sum := "7a232fd8fbad940b7cd5f126a7343b6505acbd3e18996997aadc2c073e0a9fcc", func := "tallyman/tallymanlaw01.GoldBytes", spec := "goldBytes", inPlace := ["math/bits.Sub64", "math/bits.Add64"], apart := false }
def GoldBytesSaid : Prop := goldBytesRow.holds Try.pinned (OpenSpec.ofChange goldBytesSpec)

/-- ITS FALSE NEIGHBOUR: 'it returns false'. Refute it at one input. -/
def goldBytesWrong : ChangeSpec := { name := "goldBytes", fn := fun _ => fun
  | [d1, d2] => { results := [.lit (.bool false)], args := [d1, d2] }
  | _ => none }
def GoldBytesWrongFalsely : Prop := goldBytesRow.holds Try.pinned (OpenSpec.ofChange goldBytesWrong)

/-- 'tallymanlaw01.GoldRoots': WHATEVER THE INPUT: true; the input reads as it did. -/
def goldRootsSpec : ChangeSpec := { name := "goldRoots", fn := fun _ => fun
  | [d] => { results := [.lit (.bool true)], args := [d] }
  | _ => none }
def goldRootsRow : OpenClaim := { program := "ytnajihlhcdedgaa", sum := "7a232fd8fbad940b7cd5f126a7343b6505acbd3e18996997aadc2c073e0a9fcc", func := "tallyman/tallymanlaw01.GoldRoots", spec := "goldRoots", inPlace := ["math/bits.Sub64", "math/bits.Add64"], apart := false }
def GoldRootsSaid : Prop := goldRootsRow.holds Try.pinned (OpenSpec.ofChange goldRootsSpec)

/-- ITS FALSE NEIGHBOUR: 'it returns false'. Refute it at one input. -/
def goldRootsWrong : ChangeSpec := { name := "goldRoots", fn := fun _ => fun
  | [d] => { results := [.lit (.bool false)], args := [d] }
  | _ => none }
def GoldRootsWrongFalsely : Prop := goldRootsRow.holds Try.pinned (OpenSpec.ofChange goldRootsWrong)

/-- 'tallymanlaw02.WideSums': WHATEVER THE INPUT: true; the input reads as it did. -/
def wideSumsSpec : ChangeSpec := { name := "wideSums", fn := fun _ => fun
  | [d1, d2] => { results := [.lit (.bool true)], args := [d1, d2] }
  | _ => none }
def wideSumsRow : OpenClaim := { program := "ytnajihlhcdedgaa", sum := "7a232fd8fbad940b7cd5f126a7343b6505acbd3e18996997aadc2c073e0a9fcc", func := "tallyman/tallymanlaw02.WideSums", spec := "wideSums", inPlace := ["math/bits.Sub64", "math/bits.Add64"], apart := false }
def WideSumsSaid : Prop := wideSumsRow.holds Try.pinned (OpenSpec.ofChange wideSumsSpec)

/-- ITS FALSE NEIGHBOUR: 'it returns false'. Refute it at one input. -/
def wideSumsWrong : ChangeSpec := { name := "wideSums", fn := fun _ => fun
  | [d1, d2] => { results := [.lit (.bool false)], args := [d1, d2] }
  | _ => none }
def WideSumsWrongFalsely : Prop := wideSumsRow.holds Try.pinned (OpenSpec.ofChange wideSumsWrong)

/-- 'tallymanlaw02.WidePowers': WHATEVER THE INPUT: true; the input reads as it did. -/
def widePowersSpec : ChangeSpec := { name := "widePowers", fn := fun _ => fun
  | [d1, d2] => { results := [.lit (.bool true)], args := [d1, d2] }
  | _ => none }
def widePowersRow : OpenClaim := { program := "ytnajihlhcdedgaa", sum := "7a232fd8fbad940b7cd5f126a7343b6505acbd3e18996997aadc2c073e0a9fcc", func := "tallyman/tallymanlaw02.WidePowers", spec := "widePowers", inPlace := ["math/bits.Sub64", "math/bits.Add64"], apart := false }
def WidePowersSaid : Prop := widePowersRow.holds Try.pinned (OpenSpec.ofChange widePowersSpec)

/-- ITS FALSE NEIGHBOUR: 'it returns false'. Refute it at one input. -/
def widePowersWrong : ChangeSpec := { name := "widePowers", fn := fun _ => fun
  | [d1, d2] => { results := [.lit (.bool false)], args := [d1, d2] }
  | _ => none }
def WidePowersWrongFalsely : Prop := widePowersRow.holds Try.pinned (OpenSpec.ofChange widePowersWrong)

/-- 'tallymanlaw02.WideRules': WHATEVER THE INPUT: true; the input reads as it did. -/
def wideRulesSpec : ChangeSpec := { name := "wideRules", fn := fun _ => fun
  | [d1, d2, d3] => { results := [.lit (.bool true)], args := [d1, d2, d3] }
  | _ => none }
def wideRulesRow : OpenClaim := { program := "ytnajihlhcdedgaa", sum := "7a232fd8fbad940b7cd5f126a7343b6505acbd3e18996997aadc2c073e0a9fcc", func := "tallyman/tallymanlaw02.WideRules", spec := "wideRules", inPlace := ["math/bits.Sub64", "math/bits.Add64"], apart := false }
def WideRulesSaid : Prop := wideRulesRow.holds Try.pinned (OpenSpec.ofChange wideRulesSpec)

/-- ITS FALSE NEIGHBOUR: 'it returns false'. Refute it at one input. -/
def wideRulesWrong : ChangeSpec := { name := "wideRules", fn := fun _ => fun
  | [d1, d2, d3] => { results := [.lit (.bool false)], args := [d1, d2, d3] }
  | _ => none }
def WideRulesWrongFalsely : Prop := wideRulesRow.holds Try.pinned (OpenSpec.ofChange wideRulesWrong)

/-- 'tallymanlaw02.WideBytes': WHATEVER THE INPUT: true; the input reads as it did. -/
def wideBytesSpec : ChangeSpec := { name := "wideBytes", fn := fun _ => fun
  | [d1, d2] => { results := [.lit (.bool true)], args := [d1, d2] }
  | _ => none }
def wideBytesRow : OpenClaim := { program := "ytnajihlhcdedgaa", sum := "7a232fd8fbad940b7cd5f126a7343b6505acbd3e18996997aadc2c073e0a9fcc", func := "tallyman/tallymanlaw02.WideBytes", spec := "wideBytes", inPlace := ["math/bits.Sub64", "math/bits.Add64"], apart := false }
def WideBytesSaid : Prop := wideBytesRow.holds Try.pinned (OpenSpec.ofChange wideBytesSpec)

/-- ITS FALSE NEIGHBOUR: 'it returns false'. Refute it at one input. -/
def wideBytesWrong : ChangeSpec := { name := "wideBytes", fn := fun _ => fun
  | [d1, d2] => { results := [.lit (.bool false)], args := [d1, d2] }
  | _ => none }
def WideBytesWrongFalsely : Prop := wideBytesRow.holds Try.pinned (OpenSpec.ofChange wideBytesWrong)

/-- 'tallymanlaw06.KeccakPermutes': WHATEVER THE INPUT: true; the input reads as it did. -/
def keccakPermutesSpec : ChangeSpec := { name := "keccakPermutes", fn := fun _ => fun
  | [d1, d2] => { results := [.lit (.bool true)], args := [d1, d2] }
  | _ => none }
def keccakPermutesRow : OpenClaim := { program := "ytnajihlhcdedgaa", sum := "7a232fd8fbad940b7cd5f126a7343b6505acbd3e18996997aadc2c073e0a9fcc", func := "tallyman/tallymanlaw06.KeccakPermutes", spec := "keccakPermutes", apart := false }
def KeccakPermutesSaid : Prop := keccakPermutesRow.holds Try.pinned (OpenSpec.ofChange keccakPermutesSpec)

/-- ITS FALSE NEIGHBOUR: 'it returns false'. Refute it at one input. -/
def keccakPermutesWrong : ChangeSpec := { name := "keccakPermutes", fn := fun _ => fun
  | [d1, d2] => { results := [.lit (.bool false)], args := [d1, d2] }
  | _ => none }
def KeccakPermutesWrongFalsely : Prop := keccakPermutesRow.holds Try.pinned (OpenSpec.ofChange keccakPermutesWrong)

/-- 'tallymanlaw06.KeccakEdges': WHATEVER THE INPUT: true; the input reads as it did. -/
def keccakEdgesSpec : ChangeSpec := { name := "keccakEdges", fn := fun _ => fun
  | [d1, d2, d3, d4] => { results := [.lit (.bool true)], args := [d1, d2, d3, d4] }
  | _ => none }
def keccakEdgesRow : OpenClaim := { program := "ytnajihlhcdedgaa", sum := "7a232fd8fbad940b7cd5f126a7343b6505acbd3e18996997aadc2c073e0a9fcc", func := "tallyman/tallymanlaw06.KeccakEdges", spec := "keccakEdges", apart := false }
def KeccakEdgesSaid : Prop := keccakEdgesRow.holds Try.pinned (OpenSpec.ofChange keccakEdgesSpec)

/-- ITS FALSE NEIGHBOUR: 'it returns false'. Refute it at one input. -/
def keccakEdgesWrong : ChangeSpec := { name := "keccakEdges", fn := fun _ => fun
  | [d1, d2, d3, d4] => { results := [.lit (.bool false)], args := [d1, d2, d3, d4] }
  | _ => none }
def KeccakEdgesWrongFalsely : Prop := keccakEdgesRow.holds Try.pinned (OpenSpec.ofChange keccakEdgesWrong)

/-- 'tallymanlaw06.KeccakNone': WHATEVER THE INPUT: true; the input reads as it did. -/
def keccakNoneSpec : ChangeSpec := { name := "keccakNone", fn := fun _ => fun
  | [d1, d2] => { results := [.lit (.bool true)], args := [d1, d2] }
  | _ => none }
def keccakNoneRow : OpenClaim := { program := "ytnajihlhcdedgaa", sum := "7a232fd8fbad940b7cd5f126a7343b6505acbd3e18996997aadc2c073e0a9fcc", func := "tallyman/tallymanlaw06.KeccakNone", spec := "keccakNone", apart := false }
def KeccakNoneSaid : Prop := keccakNoneRow.holds Try.pinned (OpenSpec.ofChange keccakNoneSpec)

/-- ITS FALSE NEIGHBOUR: 'it returns false'. Refute it at one input. -/
def keccakNoneWrong : ChangeSpec := { name := "keccakNone", fn := fun _ => fun
  | [d1, d2] => { results := [.lit (.bool false)], args := [d1, d2] }
  | _ => none }
def KeccakNoneWrongFalsely : Prop := keccakNoneRow.holds Try.pinned (OpenSpec.ofChange keccakNoneWrong)

/-- 'tallymanlaw02.WideRoots': WHATEVER THE INPUT: true; the input reads as it did. -/
def wideRootsSpec : ChangeSpec := { name := "wideRoots", fn := fun _ => fun
  | [d] => { results := [.lit (.bool true)], args := [d] }
  | _ => none }
def wideRootsRow : OpenClaim := { program := "ytnajihlhcdedgaa", sum := "7a232fd8fbad940b7cd5f126a7343b6505acbd3e18996997aadc2c073e0a9fcc", func := "tallyman/tallymanlaw02.WideRoots", spec := "wideRoots", inPlace := ["math/bits.Sub64", "math/bits.Add64"], apart := false }
def WideRootsSaid : Prop := wideRootsRow.holds Try.pinned (OpenSpec.ofChange wideRootsSpec)

/-- ITS FALSE NEIGHBOUR: 'it returns false'. Refute it at one input. -/
def wideRootsWrong : ChangeSpec := { name := "wideRoots", fn := fun _ => fun
  | [d] => { results := [.lit (.bool false)], args := [d] }
  | _ => none }
def WideRootsWrongFalsely : Prop := wideRootsRow.holds Try.pinned (OpenSpec.ofChange wideRootsWrong)

/-- 'tallymanlaw07.XofReal': WHATEVER THE INPUT: true; the input reads as it did. -/
def xofRealSpec : ChangeSpec := { name := "xofReal", fn := fun _ => fun
  | [d] => { results := [.lit (.bool true)], args := [d] }
  | _ => none }
def xofRealRow : OpenClaim := { program := "ytnajihlhcdedgaa", sum := "7a232fd8fbad940b7cd5f126a7343b6505acbd3e18996997aadc2c073e0a9fcc", func := "tallyman/tallymanlaw07.XofReal", spec := "xofReal", apart := false }
def XofRealSaid : Prop := xofRealRow.holds Try.pinned (OpenSpec.ofChange xofRealSpec)

/-- ITS FALSE NEIGHBOUR: 'it returns false'. Refute it at one input. -/
def xofRealWrong : ChangeSpec := { name := "xofReal", fn := fun _ => fun
  | [d] => { results := [.lit (.bool false)], args := [d] }
  | _ => none }
def XofRealWrongFalsely : Prop := xofRealRow.holds Try.pinned (OpenSpec.ofChange xofRealWrong)

/-- 'tallymanlaw03.FieldLists': WHATEVER THE INPUT: true; the input reads as it did. -/
def fieldListsSpec : ChangeSpec := { name := "fieldLists", fn := fun _ => fun
  | [d1, d2, d3, d4, d5] => { results := [.lit (.bool true)], args := [d1, d2, d3, d4, d5] }
  | _ => none }
def fieldListsRow : OpenClaim := { program := "ytnajihlhcdedgaa", sum := "7a232fd8fbad940b7cd5f126a7343b6505acbd3e18996997aadc2c073e0a9fcc", func := "tallyman/tallymanlaw03.FieldLists", spec := "fieldLists", inPlace := ["math/bits.Sub64", "math/bits.Add64"], unfollowed := true, recurses := true, apart := false }
def FieldListsSaid : Prop := fieldListsRow.holds Try.pinned (OpenSpec.ofChange fieldListsSpec)

/-- ITS FALSE NEIGHBOUR: 'it returns false'. Refute it at one input. -/
def fieldListsWrong : ChangeSpec := { name := "fieldLists", fn := fun _ => fun
  | [d1, d2, d3, d4, d5] => { results := [.lit (.bool false)], args := [d1, d2, d3, d4, d5] }
  | _ => none }
def FieldListsWrongFalsely : Prop := fieldListsRow.holds Try.pinned (OpenSpec.ofChange fieldListsWrong)

/-- 'tallymanlaw03.FieldRoots': WHATEVER THE INPUT: true; the input reads as it did. -/
def fieldRootsSpec : ChangeSpec := { name := "fieldRoots", fn := fun _ => fun
  | [d] => { results := [.lit (.bool true)], args := [d] }
  | _ => none }
def fieldRootsRow : OpenClaim := { program := "ytnajihlhcdedgaa", sum := "7a232fd8fbad940b7cd5f126a7343b6505acbd3e18996997aadc2c073e0a9fcc", func := "tallyman/tallymanlaw03.FieldRoots", spec := "fieldRoots", inPlace := ["math/bits.Sub64", "math/bits.Add64"], unfollowed := true, recurses := true, apart := false }
def FieldRootsSaid : Prop := fieldRootsRow.holds Try.pinned (OpenSpec.ofChange fieldRootsSpec)

/-- ITS FALSE NEIGHBOUR: 'it returns false'. Refute it at one input. -/
def fieldRootsWrong : ChangeSpec := { name := "fieldRoots", fn := fun _ => fun
  | [d] => { results := [.lit (.bool false)], args := [d] }
  | _ => none }
def FieldRootsWrongFalsely : Prop := fieldRootsRow.holds Try.pinned (OpenSpec.ofChange fieldRootsWrong)

/-- 'tallymanlaw07.XofVecs': WHATEVER THE INPUT: true; the input reads as it did. -/
def xofVecsSpec : ChangeSpec := { name := "xofVecs", fn := fun _ => fun
  | [d1, d2, d3] => { results := [.lit (.bool true)], args := [d1, d2, d3] }
  | _ => none }
def xofVecsRow : OpenClaim := { program := "ytnajihlhcdedgaa", sum := "7a232fd8fbad940b7cd5f126a7343b6505acbd3e18996997aadc2c073e0a9fcc", func := "tallyman/tallymanlaw07.XofVecs", spec := "xofVecs", apart := false }
def XofVecsSaid : Prop := xofVecsRow.holds Try.pinned (OpenSpec.ofChange xofVecsSpec)

/-- ITS FALSE NEIGHBOUR: 'it returns false'. Refute it at one input. -/
def xofVecsWrong : ChangeSpec := { name := "xofVecs", fn := fun _ => fun
  | [d1, d2, d3] => { results := [.lit (.bool false)], args := [d1, d2, d3] }
  | _ => none }
def XofVecsWrongFalsely : Prop := xofVecsRow.holds Try.pinned (OpenSpec.ofChange xofVecsWrong)

/-- 'tallymanlaw07.XofStuck': WHATEVER THE INPUT: true; the input reads as it did. -/
def xofStuckSpec : ChangeSpec := { name := "xofStuck", fn := fun _ => fun
  | [d1, d2, d3] => { results := [.lit (.bool true)], args := [d1, d2, d3] }
  | _ => none }
def xofStuckRow : OpenClaim := { program := "ytnajihlhcdedgaa", sum := "7a232fd8fbad940b7cd5f126a7343b6505acbd3e18996997aadc2c073e0a9fcc", func := "tallyman/tallymanlaw07.XofStuck", spec := "xofStuck", apart := false }
def XofStuckSaid : Prop := xofStuckRow.holds Try.pinned (OpenSpec.ofChange xofStuckSpec)

/-- ITS FALSE NEIGHBOUR: 'it returns false'. Refute it at one input. -/
def xofStuckWrong : ChangeSpec := { name := "xofStuck", fn := fun _ => fun
  | [d1, d2, d3] => { results := [.lit (.bool false)], args := [d1, d2, d3] }
  | _ => none }
def XofStuckWrongFalsely : Prop := xofStuckRow.holds Try.pinned (OpenSpec.ofChange xofStuckWrong)

/-- 'tallymanlaw07.XofNone': WHATEVER THE INPUT: true; the input reads as it did. -/
def xofNoneSpec : ChangeSpec := { name := "xofNone", fn := fun _ => fun
  | [d1, d2, d3] => { results := [.lit (.bool true)], args := [d1, d2, d3] }
  | _ => none }
def xofNoneRow : OpenClaim := { program := "ytnajihlhcdedgaa", sum := "7a232fd8fbad940b7cd5f126a7343b6505acbd3e18996997aadc2c073e0a9fcc", func := "tallyman/tallymanlaw07.XofNone", spec := "xofNone", apart := false }
def XofNoneSaid : Prop := xofNoneRow.holds Try.pinned (OpenSpec.ofChange xofNoneSpec)

/-- ITS FALSE NEIGHBOUR: 'it returns false'. Refute it at one input. -/
def xofNoneWrong : ChangeSpec := { name := "xofNone", fn := fun _ => fun
  | [d1, d2, d3] => { results := [.lit (.bool false)], args := [d1, d2, d3] }
  | _ => none }
def XofNoneWrongFalsely : Prop := xofNoneRow.holds Try.pinned (OpenSpec.ofChange xofNoneWrong)

/-- 'tallymanlaw03.FieldInverses': WHATEVER THE INPUT: true; the input reads as it did. -/
def fieldInversesSpec : ChangeSpec := { name := "fieldInverses", fn := fun _ => fun
  | [d1, d2] => { results := [.lit (.bool true)], args := [d1, d2] }
  | _ => none }
def fieldInversesRow : OpenClaim := { program := "ytnajihlhcdedgaa", sum := "7a232fd8fbad940b7cd5f126a7343b6505acbd3e18996997aadc2c073e0a9fcc", func := "tallyman/tallymanlaw03.FieldInverses", spec := "fieldInverses", inPlace := ["math/bits.Sub64", "math/bits.Add64"], unfollowed := true, recurses := true, apart := false }
def FieldInversesSaid : Prop := fieldInversesRow.holds Try.pinned (OpenSpec.ofChange fieldInversesSpec)

/-- ITS FALSE NEIGHBOUR: 'it returns false'. Refute it at one input. -/
def fieldInversesWrong : ChangeSpec := { name := "fieldInverses", fn := fun _ => fun
  | [d1, d2] => { results := [.lit (.bool false)], args := [d1, d2] }
  | _ => none }
def FieldInversesWrongFalsely : Prop := fieldInversesRow.holds Try.pinned (OpenSpec.ofChange fieldInversesWrong)

/-- 'tallymanlaw03.FieldVecs': WHATEVER THE INPUT: true; the input reads as it did. -/
def fieldVecsSpec : ChangeSpec := { name := "fieldVecs", fn := fun _ => fun
  | [d1, d2, d3, d4] => { results := [.lit (.bool true)], args := [d1, d2, d3, d4] }
  | _ => none }
def fieldVecsRow : OpenClaim := { program := "ytnajihlhcdedgaa", sum := "7a232fd8fbad940b7cd5f126a7343b6505acbd3e18996997aadc2c073e0a9fcc", func := "tallyman/tallymanlaw03.FieldVecs", spec := "fieldVecs", inPlace := ["math/bits.Sub64", "math/bits.Add64"], unfollowed := true, recurses := true, apart := false }
def FieldVecsSaid : Prop := fieldVecsRow.holds Try.pinned (OpenSpec.ofChange fieldVecsSpec)

/-- ITS FALSE NEIGHBOUR: 'it returns false'. Refute it at one input. -/
def fieldVecsWrong : ChangeSpec := { name := "fieldVecs", fn := fun _ => fun
  | [d1, d2, d3, d4] => { results := [.lit (.bool false)], args := [d1, d2, d3, d4] }
  | _ => none }
def FieldVecsWrongFalsely : Prop := fieldVecsRow.holds Try.pinned (OpenSpec.ofChange fieldVecsWrong)

/-- 'tallymanlaw03.FieldSums': WHATEVER THE INPUT: true; the input reads as it did. -/
def fieldSumsSpec : ChangeSpec := { name := "fieldSums", fn := fun _ => fun
  | [d1, d2, d3, d4] => { results := [.lit (.bool true)], args := [d1, d2, d3, d4] }
  | _ => none }
def fieldSumsRow : OpenClaim := { program := "ytnajihlhcdedgaa", sum := "7a232fd8fbad940b7cd5f126a7343b6505acbd3e18996997aadc2c073e0a9fcc", func := "tallyman/tallymanlaw03.FieldSums", spec := "fieldSums", inPlace := ["math/bits.Sub64", "math/bits.Add64"], unfollowed := true, recurses := true, apart := false }
def FieldSumsSaid : Prop := fieldSumsRow.holds Try.pinned (OpenSpec.ofChange fieldSumsSpec)

/-- ITS FALSE NEIGHBOUR: 'it returns false'. Refute it at one input. -/
def fieldSumsWrong : ChangeSpec := { name := "fieldSums", fn := fun _ => fun
  | [d1, d2, d3, d4] => { results := [.lit (.bool false)], args := [d1, d2, d3, d4] }
  | _ => none }
def FieldSumsWrongFalsely : Prop := fieldSumsRow.holds Try.pinned (OpenSpec.ofChange fieldSumsWrong)

/-- 'tallymanlaw03.FieldNone': WHATEVER THE INPUT: true; the input reads as it did. -/
def fieldNoneSpec : ChangeSpec := { name := "fieldNone", fn := fun _ => fun
  | [d1, d2, d3, d4, d5] => { results := [.lit (.bool true)], args := [d1, d2, d3, d4, d5] }
  | _ => none }
def fieldNoneRow : OpenClaim := { program := "ytnajihlhcdedgaa", sum := "7a232fd8fbad940b7cd5f126a7343b6505acbd3e18996997aadc2c073e0a9fcc", func := "tallyman/tallymanlaw03.FieldNone", spec := "fieldNone", inPlace := ["math/bits.Sub64", "math/bits.Add64"], unfollowed := true, recurses := true, apart := false }
def FieldNoneSaid : Prop := fieldNoneRow.holds Try.pinned (OpenSpec.ofChange fieldNoneSpec)

/-- ITS FALSE NEIGHBOUR: 'it returns false'. Refute it at one input. -/
def fieldNoneWrong : ChangeSpec := { name := "fieldNone", fn := fun _ => fun
  | [d1, d2, d3, d4, d5] => { results := [.lit (.bool false)], args := [d1, d2, d3, d4, d5] }
  | _ => none }
def FieldNoneWrongFalsely : Prop := fieldNoneRow.holds Try.pinned (OpenSpec.ofChange fieldNoneWrong)

/- THE SECOND FORM. 'bulk': how many values and letters a reading holds, each counted each time it is reached (what is shared counts as often as it is met; a slice's spare places count too). A statement '..UptoSaid' is the law's where the arguments, and the package variables that the reading takes, are together of bulk at most 1048576: NARROWER than '..Said'. Prove '..Said' where nothing that the law and all that it calls make is longer than what came in: it says more and counts as full. Else prove '..UptoSaid'. A law counts once. -/
mutual
def uptoBulk {H : Type} : DataW H → Nat
  | .lit (.string bytes) => bytes.length + 1
  | .lit _ => 1
  | .nil => 1
  | .ptr d => uptoBulk d + 1
  | .slice elems spare => uptoBulkAll elems + uptoBulkAll spare + 1
  | .agg parts => uptoBulkAll parts + 1
  | .iface _ d => uptoBulk d + 1
  | .map entries => uptoBulkEntries entries + 1
  | .held _ => 1
def uptoBulkAll {H : Type} : List (DataW H) → Nat
  | [] => 0
  | d :: r => uptoBulk d + uptoBulkAll r
def uptoBulkEntries {H : Type} : List (Lit × DataW H) → Nat
  | [] => 0
  | x :: r => uptoBulkEntry x + uptoBulkEntries r
def uptoBulkEntry {H : Type} : Lit × DataW H → Nat
  | (.string bytes, d) => bytes.length + uptoBulk d + 1
  | (_, d) => uptoBulk d + 1
 end
def uptoSmall : (H : Type) → List (DataW H) → Bool := fun _ ds => decide (uptoBulkAll ds ≤ 1048576)
def OpenSpec.upto (s : _root_.Go.ChangeSpec) : _root_.Go.OpenSpec := { _root_.Go.OpenSpec.ofChange s with cond := some uptoSmall }

/-- 'tallymanlaw01.GoldRules', WHERE WHAT IT READS IS OF BULK AT MOST 1048576: true; the input reads as it did. -/
def goldRulesUptoRow : OpenClaim := { program := "ytnajihlhcdedgaa", sum := "7a232fd8fbad940b7cd5f126a7343b6505acbd3e18996997aadc2c073e0a9fcc", func := "tallyman/tallymanlaw01.GoldRules", spec := "goldRules", inPlace := ["math/bits.Sub64", "math/bits.Add64"], apart := false, narrowed := true }
def GoldRulesUptoSaid : Prop := goldRulesUptoRow.holds Try.pinned (OpenSpec.upto goldRulesSpec)

/-- 'tallymanlaw01.GoldSums', WHERE WHAT IT READS IS OF BULK AT MOST 1048576: true; the input reads as it did. -/
def goldSumsUptoRow : OpenClaim := { program := "ytnajihlhcdedgaa", sum := "7a232fd8fbad940b7cd5f126a7343b6505acbd3e18996997aadc2c073e0a9fcc", func := "tallyman/tallymanlaw01.GoldSums", spec := "goldSums", inPlace := ["math/bits.Sub64", "math/bits.Add64"], apart := false, narrowed := true }
def GoldSumsUptoSaid : Prop := goldSumsUptoRow.holds Try.pinned (OpenSpec.upto goldSumsSpec)

/-- 'tallymanlaw01.GoldPowers', WHERE WHAT IT READS IS OF BULK AT MOST 1048576: true; the input reads as it did. -/
def goldPowersUptoRow : OpenClaim := { program := "ytnajihlhcdedgaa", sum := "7a232fd8fbad940b7cd5f126a7343b6505acbd3e18996997aadc2c073e0a9fcc", func := "tallyman/tallymanlaw01.GoldPowers", spec := "goldPowers", inPlace := ["math/bits.Sub64", "math/bits.Add64"], apart := false, narrowed := true }
def GoldPowersUptoSaid : Prop := goldPowersUptoRow.holds Try.pinned (OpenSpec.upto goldPowersSpec)

/-- 'tallymanlaw01.GoldBytes', WHERE WHAT IT READS IS OF BULK AT MOST 1048576: true; the input reads as it did. -/
def goldBytesUptoRow : OpenClaim := { program := "ytnajihlhcdedgaa", sum := "7a232fd8fbad940b7cd5f126a7343b6505acbd3e18996997aadc2c073e0a9fcc", func := "tallyman/tallymanlaw01.GoldBytes", spec := "goldBytes", inPlace := ["math/bits.Sub64", "math/bits.Add64"], apart := false, narrowed := true }
def GoldBytesUptoSaid : Prop := goldBytesUptoRow.holds Try.pinned (OpenSpec.upto goldBytesSpec)

/-- 'tallymanlaw01.GoldRoots', WHERE WHAT IT READS IS OF BULK AT MOST 1048576: true; the input reads as it did. -/
def goldRootsUptoRow : OpenClaim := { program := "ytnajihlhcdedgaa", sum := "7a232fd8fbad940b7cd5f126a7343b6505acbd3e18996997aadc2c073e0a9fcc", func := "tallyman/tallymanlaw01.GoldRoots", spec := "goldRoots", inPlace := ["math/bits.Sub64", "math/bits.Add64"], apart := false, narrowed := true }
def GoldRootsUptoSaid : Prop := goldRootsUptoRow.holds Try.pinned (OpenSpec.upto goldRootsSpec)

/-- 'tallymanlaw02.WideSums', WHERE WHAT IT READS IS OF BULK AT MOST 1048576: true; the input reads as it did. -/
def wideSumsUptoRow : OpenClaim := { program := "ytnajihlhcdedgaa", sum := "7a232fd8fbad940b7cd5f126a7343b6505acbd3e18996997aadc2c073e0a9fcc", func := "tallyman/tallymanlaw02.WideSums", spec := "wideSums", inPlace := ["math/bits.Sub64", "math/bits.Add64"], apart := false, narrowed := true }
def WideSumsUptoSaid : Prop := wideSumsUptoRow.holds Try.pinned (OpenSpec.upto wideSumsSpec)

/-- 'tallymanlaw02.WidePowers', WHERE WHAT IT READS IS OF BULK AT MOST 1048576: true; the input reads as it did. -/
def widePowersUptoRow : OpenClaim := { program := "ytnajihlhcdedgaa", sum := "7a232fd8fbad940b7cd5f126a7343b6505acbd3e18996997aadc2c073e0a9fcc", func := "tallyman/tallymanlaw02.WidePowers", spec := "widePowers", inPlace := ["math/bits.Sub64", "math/bits.Add64"], apart := false, narrowed := true }
def WidePowersUptoSaid : Prop := widePowersUptoRow.holds Try.pinned (OpenSpec.upto widePowersSpec)

/-- 'tallymanlaw02.WideRules', WHERE WHAT IT READS IS OF BULK AT MOST 1048576: true; the input reads as it did. -/
def wideRulesUptoRow : OpenClaim := { program := "ytnajihlhcdedgaa", sum := "7a232fd8fbad940b7cd5f126a7343b6505acbd3e18996997aadc2c073e0a9fcc", func := "tallyman/tallymanlaw02.WideRules", spec := "wideRules", inPlace := ["math/bits.Sub64", "math/bits.Add64"], apart := false, narrowed := true }
def WideRulesUptoSaid : Prop := wideRulesUptoRow.holds Try.pinned (OpenSpec.upto wideRulesSpec)

/-- 'tallymanlaw02.WideBytes', WHERE WHAT IT READS IS OF BULK AT MOST 1048576: true; the input reads as it did. -/
def wideBytesUptoRow : OpenClaim := { program := "ytnajihlhcdedgaa", sum := "7a232fd8fbad940b7cd5f126a7343b6505acbd3e18996997aadc2c073e0a9fcc", func := "tallyman/tallymanlaw02.WideBytes", spec := "wideBytes", inPlace := ["math/bits.Sub64", "math/bits.Add64"], apart := false, narrowed := true }
def WideBytesUptoSaid : Prop := wideBytesUptoRow.holds Try.pinned (OpenSpec.upto wideBytesSpec)

/-- 'tallymanlaw06.KeccakPermutes', WHERE WHAT IT READS IS OF BULK AT MOST 1048576: true; the input reads as it did. -/
def keccakPermutesUptoRow : OpenClaim := { program := "ytnajihlhcdedgaa", sum := "7a232fd8fbad940b7cd5f126a7343b6505acbd3e18996997aadc2c073e0a9fcc", func := "tallyman/tallymanlaw06.KeccakPermutes", spec := "keccakPermutes", apart := false, narrowed := true }
def KeccakPermutesUptoSaid : Prop := keccakPermutesUptoRow.holds Try.pinned (OpenSpec.upto keccakPermutesSpec)

/-- 'tallymanlaw06.KeccakEdges', WHERE WHAT IT READS IS OF BULK AT MOST 1048576: true; the input reads as it did. -/
def keccakEdgesUptoRow : OpenClaim := { program := "ytnajihlhcdedgaa", sum := "7a232fd8fbad940b7cd5f126a7343b6505acbd3e18996997aadc2c073e0a9fcc", func := "tallyman/tallymanlaw06.KeccakEdges", spec := "keccakEdges", apart := false, narrowed := true }
def KeccakEdgesUptoSaid : Prop := keccakEdgesUptoRow.holds Try.pinned (OpenSpec.upto keccakEdgesSpec)

/-- 'tallymanlaw06.KeccakNone', WHERE WHAT IT READS IS OF BULK AT MOST 1048576: true; the input reads as it did. -/
def keccakNoneUptoRow : OpenClaim := { program := "ytnajihlhcdedgaa", sum := "7a232fd8fbad940b7cd5f126a7343b6505acbd3e18996997aadc2c073e0a9fcc", func := "tallyman/tallymanlaw06.KeccakNone", spec := "keccakNone", apart := false, narrowed := true }
def KeccakNoneUptoSaid : Prop := keccakNoneUptoRow.holds Try.pinned (OpenSpec.upto keccakNoneSpec)

/-- 'tallymanlaw02.WideRoots', WHERE WHAT IT READS IS OF BULK AT MOST 1048576: true; the input reads as it did. -/
def wideRootsUptoRow : OpenClaim := { program := "ytnajihlhcdedgaa", sum := "7a232fd8fbad940b7cd5f126a7343b6505acbd3e18996997aadc2c073e0a9fcc", func := "tallyman/tallymanlaw02.WideRoots", spec := "wideRoots", inPlace := ["math/bits.Sub64", "math/bits.Add64"], apart := false, narrowed := true }
def WideRootsUptoSaid : Prop := wideRootsUptoRow.holds Try.pinned (OpenSpec.upto wideRootsSpec)

/-- 'tallymanlaw07.XofReal', WHERE WHAT IT READS IS OF BULK AT MOST 1048576: true; the input reads as it did. -/
def xofRealUptoRow : OpenClaim := { program := "ytnajihlhcdedgaa", sum := "7a232fd8fbad940b7cd5f126a7343b6505acbd3e18996997aadc2c073e0a9fcc", func := "tallyman/tallymanlaw07.XofReal", spec := "xofReal", apart := false, narrowed := true }
def XofRealUptoSaid : Prop := xofRealUptoRow.holds Try.pinned (OpenSpec.upto xofRealSpec)

/-- 'tallymanlaw03.FieldLists', WHERE WHAT IT READS IS OF BULK AT MOST 1048576: true; the input reads as it did. -/
def fieldListsUptoRow : OpenClaim := { program := "ytnajihlhcdedgaa", sum := "7a232fd8fbad940b7cd5f126a7343b6505acbd3e18996997aadc2c073e0a9fcc", func := "tallyman/tallymanlaw03.FieldLists", spec := "fieldLists", inPlace := ["math/bits.Sub64", "math/bits.Add64"], unfollowed := true, recurses := true, apart := false, narrowed := true }
def FieldListsUptoSaid : Prop := fieldListsUptoRow.holds Try.pinned (OpenSpec.upto fieldListsSpec)

/-- 'tallymanlaw03.FieldRoots', WHERE WHAT IT READS IS OF BULK AT MOST 1048576: true; the input reads as it did. -/
def fieldRootsUptoRow : OpenClaim := { program := "ytnajihlhcdedgaa", sum := "7a232fd8fbad940b7cd5f126a7343b6505acbd3e18996997aadc2c073e0a9fcc", func := "tallyman/tallymanlaw03.FieldRoots", spec := "fieldRoots", inPlace := ["math/bits.Sub64", "math/bits.Add64"], unfollowed := true, recurses := true, apart := false, narrowed := true }
def FieldRootsUptoSaid : Prop := fieldRootsUptoRow.holds Try.pinned (OpenSpec.upto fieldRootsSpec)

/-- 'tallymanlaw07.XofVecs', WHERE WHAT IT READS IS OF BULK AT MOST 1048576: true; the input reads as it did. -/
def xofVecsUptoRow : OpenClaim := { program := "ytnajihlhcdedgaa", sum := "7a232fd8fbad940b7cd5f126a7343b6505acbd3e18996997aadc2c073e0a9fcc", func := "tallyman/tallymanlaw07.XofVecs", spec := "xofVecs", apart := false, narrowed := true }
def XofVecsUptoSaid : Prop := xofVecsUptoRow.holds Try.pinned (OpenSpec.upto xofVecsSpec)

/-- 'tallymanlaw07.XofStuck', WHERE WHAT IT READS IS OF BULK AT MOST 1048576: true; the input reads as it did. -/
def xofStuckUptoRow : OpenClaim := { program := "ytnajihlhcdedgaa", sum := "7a232fd8fbad940b7cd5f126a7343b6505acbd3e18996997aadc2c073e0a9fcc", func := "tallyman/tallymanlaw07.XofStuck", spec := "xofStuck", apart := false, narrowed := true }
def XofStuckUptoSaid : Prop := xofStuckUptoRow.holds Try.pinned (OpenSpec.upto xofStuckSpec)

/-- 'tallymanlaw07.XofNone', WHERE WHAT IT READS IS OF BULK AT MOST 1048576: true; the input reads as it did. -/
def xofNoneUptoRow : OpenClaim := { program := "ytnajihlhcdedgaa", sum := "7a232fd8fbad940b7cd5f126a7343b6505acbd3e18996997aadc2c073e0a9fcc", func := "tallyman/tallymanlaw07.XofNone", spec := "xofNone", apart := false, narrowed := true }
def XofNoneUptoSaid : Prop := xofNoneUptoRow.holds Try.pinned (OpenSpec.upto xofNoneSpec)

/-- 'tallymanlaw03.FieldInverses', WHERE WHAT IT READS IS OF BULK AT MOST 1048576: true; the input reads as it did. -/
def fieldInversesUptoRow : OpenClaim := { program := "ytnajihlhcdedgaa", sum := "7a232fd8fbad940b7cd5f126a7343b6505acbd3e18996997aadc2c073e0a9fcc", func := "tallyman/tallymanlaw03.FieldInverses", spec := "fieldInverses", inPlace := ["math/bits.Sub64", "math/bits.Add64"], unfollowed := true, recurses := true, apart := false, narrowed := true }
def FieldInversesUptoSaid : Prop := fieldInversesUptoRow.holds Try.pinned (OpenSpec.upto fieldInversesSpec)

/-- 'tallymanlaw03.FieldVecs', WHERE WHAT IT READS IS OF BULK AT MOST 1048576: true; the input reads as it did. -/
def fieldVecsUptoRow : OpenClaim := { program := "ytnajihlhcdedgaa", sum := "7a232fd8fbad940b7cd5f126a7343b6505acbd3e18996997aadc2c073e0a9fcc", func := "tallyman/tallymanlaw03.FieldVecs", spec := "fieldVecs", inPlace := ["math/bits.Sub64", "math/bits.Add64"], unfollowed := true, recurses := true, apart := false, narrowed := true }
def FieldVecsUptoSaid : Prop := fieldVecsUptoRow.holds Try.pinned (OpenSpec.upto fieldVecsSpec)

/-- 'tallymanlaw03.FieldSums', WHERE WHAT IT READS IS OF BULK AT MOST 1048576: true; the input reads as it did. -/
def fieldSumsUptoRow : OpenClaim := { program := "ytnajihlhcdedgaa", sum := "7a232fd8fbad940b7cd5f126a7343b6505acbd3e18996997aadc2c073e0a9fcc", func := "tallyman/tallymanlaw03.FieldSums", spec := "fieldSums", inPlace := ["math/bits.Sub64", "math/bits.Add64"], unfollowed := true, recurses := true, apart := false, narrowed := true }
def FieldSumsUptoSaid : Prop := fieldSumsUptoRow.holds Try.pinned (OpenSpec.upto fieldSumsSpec)

/-- 'tallymanlaw03.FieldNone', WHERE WHAT IT READS IS OF BULK AT MOST 1048576: true; the input reads as it did. -/
def fieldNoneUptoRow : OpenClaim := { program := "ytnajihlhcdedgaa", sum := "7a232fd8fbad940b7cd5f126a7343b6505acbd3e18996997aadc2c073e0a9fcc", func := "tallyman/tallymanlaw03.FieldNone", spec := "fieldNone", inPlace := ["math/bits.Sub64", "math/bits.Add64"], unfollowed := true, recurses := true, apart := false, narrowed := true }
def FieldNoneUptoSaid : Prop := fieldNoneUptoRow.holds Try.pinned (OpenSpec.upto fieldNoneSpec)

end Rows
end Go.Proofs.Ytnajihlhcdedgaa
