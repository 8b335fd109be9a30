/-
  No cell of these rows narrows 'for every input' (looked for: loops, veiled, ifaces, maps, wideKeys, modest, calm, conditions, laid).
  DERIVED. THE GIVEN ROWS OF THIS SEAT. 17 by the template 'for every input the law returns true; each argument reads behind the call as it read before'; 0 by the template 'total and deterministic' (their statements: YtaaanoklhiomlaaGreatTotals.lean).
  GIVEN WITH THE SEED: the statements are not yours to turn. If you find one false, say at which input.
  Laid BY PROGRAM, IN A SANDBOX (cutbox-rows.mjs): the forced cells as the released guide's own fill.sh prints them over the translation c4805820d1776bb1… (all of the seat's roots in one cut). By AI agents, Wed Nov 11 2026. No macro, syntax, notation, axiom, sorry.
-/
import Derived.Test.YtaaanoklhiomlaaGreatChecked
import GoSem.Claim
import GoSem.ClaimJoined
import GoSem.ClaimMapViews
import Derived.JoinedTies
import Derived.KernelRfl
namespace Go.Proofs.YtaaanoklhiomlaaGreat
/- THE CELL 'sum', in the pinned program and in every row, IS THE sha256 OF THE DUMP (.gsa) THAT YtaaanoklhiomlaaGreatProg.lean LOADS. Nothing in Lean hashes anything: it is a label: what it is worth is what the hold of that sum in a sandbox is worth. -/
noncomputable def Tryz.pinned : Pinned := { name := "ytaaanoklhiomlaagreat", sum := "c4805820d1776bb118c75ea788aade43f0929755224e8dee62f2ebd2696ae533", checked := Tryz.checked }
namespace Rows
def none {H : Type} : Left H := { results := [], args := [] }

/-- 'wringerlaw22.ChooseLeast': WHATEVER THE INPUT: true; the input reads as it did. -/
def chooseLeastSpec : ChangeSpec := { name := "chooseLeast", fn := fun _ => fun
  | [d1, d2, d3, d4, d5] => { results := [.lit (.bool true)], args := [d1, d2, d3, d4, d5] }
  | _ => none }
def chooseLeastRow : OpenClaim := { program := "ytaaanoklhiomlaagreat", sum := "c4805820d1776bb118c75ea788aade43f0929755224e8dee62f2ebd2696ae533", func := "wringer/wringerlaw22.ChooseLeast", spec := "chooseLeast", inPlace := ["internal/abi.NoEscape"], unfollowed := true, recurses := true, plainKeys := false, apart := false }
def ChooseLeastSaid : Prop := chooseLeastRow.holds Tryz.pinned (OpenSpec.ofChange chooseLeastSpec)

/-- ITS FALSE NEIGHBOUR: 'it returns false'. Refute it at one input. -/
def chooseLeastWrong : ChangeSpec := { name := "chooseLeast", fn := fun _ => fun
  | [d1, d2, d3, d4, d5] => { results := [.lit (.bool false)], args := [d1, d2, d3, d4, d5] }
  | _ => none }
def ChooseLeastWrongFalsely : Prop := chooseLeastRow.holds Tryz.pinned (OpenSpec.ofChange chooseLeastWrong)

/-- 'wringerlaw22.ChooseAlike': WHATEVER THE INPUT: true; the input reads as it did. -/
def chooseAlikeSpec : ChangeSpec := { name := "chooseAlike", fn := fun _ => fun
  | [d1, d2, d3, d4] => { results := [.lit (.bool true)], args := [d1, d2, d3, d4] }
  | _ => none }
def chooseAlikeRow : OpenClaim := { program := "ytaaanoklhiomlaagreat", sum := "c4805820d1776bb118c75ea788aade43f0929755224e8dee62f2ebd2696ae533", func := "wringer/wringerlaw22.ChooseAlike", spec := "chooseAlike", inPlace := ["internal/abi.NoEscape"], unfollowed := true, recurses := true, plainKeys := false, apart := false }
def ChooseAlikeSaid : Prop := chooseAlikeRow.holds Tryz.pinned (OpenSpec.ofChange chooseAlikeSpec)

/-- ITS FALSE NEIGHBOUR: 'it returns false'. Refute it at one input. -/
def chooseAlikeWrong : ChangeSpec := { name := "chooseAlike", fn := fun _ => fun
  | [d1, d2, d3, d4] => { results := [.lit (.bool false)], args := [d1, d2, d3, d4] }
  | _ => none }
def ChooseAlikeWrongFalsely : Prop := chooseAlikeRow.holds Tryz.pinned (OpenSpec.ofChange chooseAlikeWrong)

/-- 'wringerlaw22.ChooseRefuses': WHATEVER THE INPUT: true; the input reads as it did. -/
def chooseRefusesSpec : ChangeSpec := { name := "chooseRefuses", fn := fun _ => fun
  | [d1, d2, d3] => { results := [.lit (.bool true)], args := [d1, d2, d3] }
  | _ => none }
def chooseRefusesRow : OpenClaim := { program := "ytaaanoklhiomlaagreat", sum := "c4805820d1776bb118c75ea788aade43f0929755224e8dee62f2ebd2696ae533", func := "wringer/wringerlaw22.ChooseRefuses", spec := "chooseRefuses", inPlace := ["internal/abi.NoEscape"], unfollowed := true, recurses := true, plainKeys := false, apart := false }
def ChooseRefusesSaid : Prop := chooseRefusesRow.holds Tryz.pinned (OpenSpec.ofChange chooseRefusesSpec)

/-- ITS FALSE NEIGHBOUR: 'it returns false'. Refute it at one input. -/
def chooseRefusesWrong : ChangeSpec := { name := "chooseRefuses", fn := fun _ => fun
  | [d1, d2, d3] => { results := [.lit (.bool false)], args := [d1, d2, d3] }
  | _ => none }
def ChooseRefusesWrongFalsely : Prop := chooseRefusesRow.holds Tryz.pinned (OpenSpec.ofChange chooseRefusesWrong)

/-- 'wringerlaw25.WriteAll': WHATEVER THE INPUT: true; the input reads as it did. -/
def writeAllSpec : ChangeSpec := { name := "writeAll", fn := fun _ => fun
  | [d1, d2, d3] => { results := [.lit (.bool true)], args := [d1, d2, d3] }
  | _ => none }
def writeAllRow : OpenClaim := { program := "ytaaanoklhiomlaagreat", sum := "c4805820d1776bb118c75ea788aade43f0929755224e8dee62f2ebd2696ae533", func := "wringer/wringerlaw25.WriteAll", spec := "writeAll", inPlace := ["internal/abi.NoEscape"], unfollowed := true, recurses := true, plainKeys := false, apart := false }
def WriteAllSaid : Prop := writeAllRow.holds Tryz.pinned (OpenSpec.ofChange writeAllSpec)

/-- ITS FALSE NEIGHBOUR: 'it returns false'. Refute it at one input. -/
def writeAllWrong : ChangeSpec := { name := "writeAll", fn := fun _ => fun
  | [d1, d2, d3] => { results := [.lit (.bool false)], args := [d1, d2, d3] }
  | _ => none }
def WriteAllWrongFalsely : Prop := writeAllRow.holds Tryz.pinned (OpenSpec.ofChange writeAllWrong)

/-- 'wringertop.TopReads': WHATEVER THE INPUT: true; the input reads as it did. -/
def topReadsSpec : ChangeSpec := { name := "topReads", fn := fun _ => fun
  | [d1, d2] => { results := [.lit (.bool true)], args := [d1, d2] }
  | _ => none }
def topReadsRow : OpenClaim := { program := "ytaaanoklhiomlaagreat", sum := "c4805820d1776bb118c75ea788aade43f0929755224e8dee62f2ebd2696ae533", func := "wringer/wringertop.TopReads", spec := "topReads", inPlace := ["internal/abi.NoEscape"], unfollowed := true, recurses := true, plainKeys := false, apart := false }
def TopReadsSaid : Prop := topReadsRow.holds Tryz.pinned (OpenSpec.ofChange topReadsSpec)

/-- ITS FALSE NEIGHBOUR: 'it returns false'. Refute it at one input. -/
def topReadsWrong : ChangeSpec := { name := "topReads", fn := fun _ => fun
  | [d1, d2] => { results := [.lit (.bool false)], args := [d1, d2] }
  | _ => none }
def TopReadsWrongFalsely : Prop := topReadsRow.holds Tryz.pinned (OpenSpec.ofChange topReadsWrong)

/-- 'wringerlaw25.WriteCuts': WHATEVER THE INPUT: true; the input reads as it did. -/
def writeCutsSpec : ChangeSpec := { name := "writeCuts", fn := fun _ => fun
  | [d1, d2, d3, d4, d5, d6, d7] => { results := [.lit (.bool true)], args := [d1, d2, d3, d4, d5, d6, d7] }
  | _ => none }
def writeCutsRow : OpenClaim := { program := "ytaaanoklhiomlaagreat", sum := "c4805820d1776bb118c75ea788aade43f0929755224e8dee62f2ebd2696ae533", func := "wringer/wringerlaw25.WriteCuts", spec := "writeCuts", inPlace := ["internal/abi.NoEscape"], unfollowed := true, recurses := true, plainKeys := false, apart := false }
def WriteCutsSaid : Prop := writeCutsRow.holds Tryz.pinned (OpenSpec.ofChange writeCutsSpec)

/-- ITS FALSE NEIGHBOUR: 'it returns false'. Refute it at one input. -/
def writeCutsWrong : ChangeSpec := { name := "writeCuts", fn := fun _ => fun
  | [d1, d2, d3, d4, d5, d6, d7] => { results := [.lit (.bool false)], args := [d1, d2, d3, d4, d5, d6, d7] }
  | _ => none }
def WriteCutsWrongFalsely : Prop := writeCutsRow.holds Tryz.pinned (OpenSpec.ofChange writeCutsWrong)

/-- 'wringertop.TopWays': WHATEVER THE INPUT: true; the input reads as it did. -/
def topWaysSpec : ChangeSpec := { name := "topWays", fn := fun _ => fun
  | [d1, d2, d3, d4, d5] => { results := [.lit (.bool true)], args := [d1, d2, d3, d4, d5] }
  | _ => none }
def topWaysRow : OpenClaim := { program := "ytaaanoklhiomlaagreat", sum := "c4805820d1776bb118c75ea788aade43f0929755224e8dee62f2ebd2696ae533", func := "wringer/wringertop.TopWays", spec := "topWays", inPlace := ["internal/abi.NoEscape"], unfollowed := true, recurses := true, plainKeys := false, apart := false }
def TopWaysSaid : Prop := topWaysRow.holds Tryz.pinned (OpenSpec.ofChange topWaysSpec)

/-- ITS FALSE NEIGHBOUR: 'it returns false'. Refute it at one input. -/
def topWaysWrong : ChangeSpec := { name := "topWays", fn := fun _ => fun
  | [d1, d2, d3, d4, d5] => { results := [.lit (.bool false)], args := [d1, d2, d3, d4, d5] }
  | _ => none }
def TopWaysWrongFalsely : Prop := topWaysRow.holds Tryz.pinned (OpenSpec.ofChange topWaysWrong)

/-- 'wringerlaw25.WriteMany': WHATEVER THE INPUT: true; the input reads as it did. -/
def writeManySpec : ChangeSpec := { name := "writeMany", fn := fun _ => fun
  | [d1, d2] => { results := [.lit (.bool true)], args := [d1, d2] }
  | _ => none }
def writeManyRow : OpenClaim := { program := "ytaaanoklhiomlaagreat", sum := "c4805820d1776bb118c75ea788aade43f0929755224e8dee62f2ebd2696ae533", func := "wringer/wringerlaw25.WriteMany", spec := "writeMany", inPlace := ["internal/abi.NoEscape"], unfollowed := true, recurses := true, plainKeys := false, apart := false }
def WriteManySaid : Prop := writeManyRow.holds Tryz.pinned (OpenSpec.ofChange writeManySpec)

/-- ITS FALSE NEIGHBOUR: 'it returns false'. Refute it at one input. -/
def writeManyWrong : ChangeSpec := { name := "writeMany", fn := fun _ => fun
  | [d1, d2] => { results := [.lit (.bool false)], args := [d1, d2] }
  | _ => none }
def WriteManyWrongFalsely : Prop := writeManyRow.holds Tryz.pinned (OpenSpec.ofChange writeManyWrong)

/-- 'wringerlaw25.WriteBlocks': WHATEVER THE INPUT: true; the input reads as it did. -/
def writeBlocksSpec : ChangeSpec := { name := "writeBlocks", fn := fun _ => fun
  | [d1, d2, d3, d4, d5, d6] => { results := [.lit (.bool true)], args := [d1, d2, d3, d4, d5, d6] }
  | _ => none }
def writeBlocksRow : OpenClaim := { program := "ytaaanoklhiomlaagreat", sum := "c4805820d1776bb118c75ea788aade43f0929755224e8dee62f2ebd2696ae533", func := "wringer/wringerlaw25.WriteBlocks", spec := "writeBlocks", inPlace := ["internal/abi.NoEscape"], unfollowed := true, recurses := true, plainKeys := false, apart := false }
def WriteBlocksSaid : Prop := writeBlocksRow.holds Tryz.pinned (OpenSpec.ofChange writeBlocksSpec)

/-- ITS FALSE NEIGHBOUR: 'it returns false'. Refute it at one input. -/
def writeBlocksWrong : ChangeSpec := { name := "writeBlocks", fn := fun _ => fun
  | [d1, d2, d3, d4, d5, d6] => { results := [.lit (.bool false)], args := [d1, d2, d3, d4, d5, d6] }
  | _ => none }
def WriteBlocksWrongFalsely : Prop := writeBlocksRow.holds Tryz.pinned (OpenSpec.ofChange writeBlocksWrong)

/-- 'wringerlaw25.WriteRefuses': WHATEVER THE INPUT: true; the input reads as it did. -/
def writeRefusesSpec : ChangeSpec := { name := "writeRefuses", fn := fun _ => fun
  | [d1, d2, d3] => { results := [.lit (.bool true)], args := [d1, d2, d3] }
  | _ => none }
def writeRefusesRow : OpenClaim := { program := "ytaaanoklhiomlaagreat", sum := "c4805820d1776bb118c75ea788aade43f0929755224e8dee62f2ebd2696ae533", func := "wringer/wringerlaw25.WriteRefuses", spec := "writeRefuses", inPlace := ["internal/abi.NoEscape"], unfollowed := true, recurses := true, plainKeys := false, apart := false }
def WriteRefusesSaid : Prop := writeRefusesRow.holds Tryz.pinned (OpenSpec.ofChange writeRefusesSpec)

/-- ITS FALSE NEIGHBOUR: 'it returns false'. Refute it at one input. -/
def writeRefusesWrong : ChangeSpec := { name := "writeRefuses", fn := fun _ => fun
  | [d1, d2, d3] => { results := [.lit (.bool false)], args := [d1, d2, d3] }
  | _ => none }
def WriteRefusesWrongFalsely : Prop := writeRefusesRow.holds Tryz.pinned (OpenSpec.ofChange writeRefusesWrong)

/-- 'wringerlaw24.PushCuts': WHATEVER THE INPUT: true; the input reads as it did. -/
def pushCutsSpec : ChangeSpec := { name := "pushCuts", fn := fun _ => fun
  | [d1, d2, d3, d4, d5, d6, d7] => { results := [.lit (.bool true)], args := [d1, d2, d3, d4, d5, d6, d7] }
  | _ => none }
def pushCutsRow : OpenClaim := { program := "ytaaanoklhiomlaagreat", sum := "c4805820d1776bb118c75ea788aade43f0929755224e8dee62f2ebd2696ae533", func := "wringer/wringerlaw24.PushCuts", spec := "pushCuts", inPlace := ["internal/abi.NoEscape"], unfollowed := true, recurses := true, plainKeys := false, apart := false }
def PushCutsSaid : Prop := pushCutsRow.holds Tryz.pinned (OpenSpec.ofChange pushCutsSpec)

/-- ITS FALSE NEIGHBOUR: 'it returns false'. Refute it at one input. -/
def pushCutsWrong : ChangeSpec := { name := "pushCuts", fn := fun _ => fun
  | [d1, d2, d3, d4, d5, d6, d7] => { results := [.lit (.bool false)], args := [d1, d2, d3, d4, d5, d6, d7] }
  | _ => none }
def PushCutsWrongFalsely : Prop := pushCutsRow.holds Tryz.pinned (OpenSpec.ofChange pushCutsWrong)

/-- 'wringerlaw24.PushOne': WHATEVER THE INPUT: true; the input reads as it did. -/
def pushOneSpec : ChangeSpec := { name := "pushOne", fn := fun _ => fun
  | [d1, d2, d3, d4, d5] => { results := [.lit (.bool true)], args := [d1, d2, d3, d4, d5] }
  | _ => none }
def pushOneRow : OpenClaim := { program := "ytaaanoklhiomlaagreat", sum := "c4805820d1776bb118c75ea788aade43f0929755224e8dee62f2ebd2696ae533", func := "wringer/wringerlaw24.PushOne", spec := "pushOne", inPlace := ["internal/abi.NoEscape"], unfollowed := true, recurses := true, plainKeys := false, apart := false }
def PushOneSaid : Prop := pushOneRow.holds Tryz.pinned (OpenSpec.ofChange pushOneSpec)

/-- ITS FALSE NEIGHBOUR: 'it returns false'. Refute it at one input. -/
def pushOneWrong : ChangeSpec := { name := "pushOne", fn := fun _ => fun
  | [d1, d2, d3, d4, d5] => { results := [.lit (.bool false)], args := [d1, d2, d3, d4, d5] }
  | _ => none }
def PushOneWrongFalsely : Prop := pushOneRow.holds Tryz.pinned (OpenSpec.ofChange pushOneWrong)

/-- 'wringerlaw24.PushLimits': WHATEVER THE INPUT: true; the input reads as it did. -/
def pushLimitsSpec : ChangeSpec := { name := "pushLimits", fn := fun _ => fun
  | [d1, d2, d3, d4, d5, d6, d7, d8] => { results := [.lit (.bool true)], args := [d1, d2, d3, d4, d5, d6, d7, d8] }
  | _ => none }
def pushLimitsRow : OpenClaim := { program := "ytaaanoklhiomlaagreat", sum := "c4805820d1776bb118c75ea788aade43f0929755224e8dee62f2ebd2696ae533", func := "wringer/wringerlaw24.PushLimits", spec := "pushLimits", inPlace := ["internal/abi.NoEscape"], unfollowed := true, recurses := true, plainKeys := false, apart := false }
def PushLimitsSaid : Prop := pushLimitsRow.holds Tryz.pinned (OpenSpec.ofChange pushLimitsSpec)

/-- ITS FALSE NEIGHBOUR: 'it returns false'. Refute it at one input. -/
def pushLimitsWrong : ChangeSpec := { name := "pushLimits", fn := fun _ => fun
  | [d1, d2, d3, d4, d5, d6, d7, d8] => { results := [.lit (.bool false)], args := [d1, d2, d3, d4, d5, d6, d7, d8] }
  | _ => none }
def PushLimitsWrongFalsely : Prop := pushLimitsRow.holds Tryz.pinned (OpenSpec.ofChange pushLimitsWrong)

/-- 'wringerlaw24.PushHeads': WHATEVER THE INPUT: true; the input reads as it did. -/
def pushHeadsSpec : ChangeSpec := { name := "pushHeads", fn := fun _ => fun
  | [d1, d2, d3, d4] => { results := [.lit (.bool true)], args := [d1, d2, d3, d4] }
  | _ => none }
def pushHeadsRow : OpenClaim := { program := "ytaaanoklhiomlaagreat", sum := "c4805820d1776bb118c75ea788aade43f0929755224e8dee62f2ebd2696ae533", func := "wringer/wringerlaw24.PushHeads", spec := "pushHeads", inPlace := ["internal/abi.NoEscape"], unfollowed := true, recurses := true, plainKeys := false, apart := false }
def PushHeadsSaid : Prop := pushHeadsRow.holds Tryz.pinned (OpenSpec.ofChange pushHeadsSpec)

/-- ITS FALSE NEIGHBOUR: 'it returns false'. Refute it at one input. -/
def pushHeadsWrong : ChangeSpec := { name := "pushHeads", fn := fun _ => fun
  | [d1, d2, d3, d4] => { results := [.lit (.bool false)], args := [d1, d2, d3, d4] }
  | _ => none }
def PushHeadsWrongFalsely : Prop := pushHeadsRow.holds Tryz.pinned (OpenSpec.ofChange pushHeadsWrong)

/-- 'wringerlaw24.PushAll': WHATEVER THE INPUT: true; the input reads as it did. -/
def pushAllSpec : ChangeSpec := { name := "pushAll", fn := fun _ => fun
  | [d1, d2] => { results := [.lit (.bool true)], args := [d1, d2] }
  | _ => none }
def pushAllRow : OpenClaim := { program := "ytaaanoklhiomlaagreat", sum := "c4805820d1776bb118c75ea788aade43f0929755224e8dee62f2ebd2696ae533", func := "wringer/wringerlaw24.PushAll", spec := "pushAll", inPlace := ["internal/abi.NoEscape"], unfollowed := true, recurses := true, plainKeys := false, apart := false }
def PushAllSaid : Prop := pushAllRow.holds Tryz.pinned (OpenSpec.ofChange pushAllSpec)

/-- ITS FALSE NEIGHBOUR: 'it returns false'. Refute it at one input. -/
def pushAllWrong : ChangeSpec := { name := "pushAll", fn := fun _ => fun
  | [d1, d2] => { results := [.lit (.bool false)], args := [d1, d2] }
  | _ => none }
def PushAllWrongFalsely : Prop := pushAllRow.holds Tryz.pinned (OpenSpec.ofChange pushAllWrong)

/-- 'wringerlaw24.PushMade': WHATEVER THE INPUT: true; the input reads as it did. -/
def pushMadeSpec : ChangeSpec := { name := "pushMade", fn := fun _ => fun
  | [d1, d2, d3, d4, d5, d6, d7, d8, d9, d10] => { results := [.lit (.bool true)], args := [d1, d2, d3, d4, d5, d6, d7, d8, d9, d10] }
  | _ => none }
def pushMadeRow : OpenClaim := { program := "ytaaanoklhiomlaagreat", sum := "c4805820d1776bb118c75ea788aade43f0929755224e8dee62f2ebd2696ae533", func := "wringer/wringerlaw24.PushMade", spec := "pushMade", inPlace := ["internal/abi.NoEscape"], unfollowed := true, recurses := true, plainKeys := false, apart := false }
def PushMadeSaid : Prop := pushMadeRow.holds Tryz.pinned (OpenSpec.ofChange pushMadeSpec)

/-- ITS FALSE NEIGHBOUR: 'it returns false'. Refute it at one input. -/
def pushMadeWrong : ChangeSpec := { name := "pushMade", fn := fun _ => fun
  | [d1, d2, d3, d4, d5, d6, d7, d8, d9, d10] => { results := [.lit (.bool false)], args := [d1, d2, d3, d4, d5, d6, d7, d8, d9, d10] }
  | _ => none }
def PushMadeWrongFalsely : Prop := pushMadeRow.holds Tryz.pinned (OpenSpec.ofChange pushMadeWrong)

/-- 'wringerlaw24.PushStays': WHATEVER THE INPUT: true; the input reads as it did. -/
def pushStaysSpec : ChangeSpec := { name := "pushStays", fn := fun _ => fun
  | [d1, d2, d3, d4] => { results := [.lit (.bool true)], args := [d1, d2, d3, d4] }
  | _ => none }
def pushStaysRow : OpenClaim := { program := "ytaaanoklhiomlaagreat", sum := "c4805820d1776bb118c75ea788aade43f0929755224e8dee62f2ebd2696ae533", func := "wringer/wringerlaw24.PushStays", spec := "pushStays", inPlace := ["internal/abi.NoEscape"], unfollowed := true, recurses := true, plainKeys := false, apart := false }
def PushStaysSaid : Prop := pushStaysRow.holds Tryz.pinned (OpenSpec.ofChange pushStaysSpec)

/-- ITS FALSE NEIGHBOUR: 'it returns false'. Refute it at one input. -/
def pushStaysWrong : ChangeSpec := { name := "pushStays", fn := fun _ => fun
  | [d1, d2, d3, d4] => { results := [.lit (.bool false)], args := [d1, d2, d3, d4] }
  | _ => none }
def PushStaysWrongFalsely : Prop := pushStaysRow.holds Tryz.pinned (OpenSpec.ofChange pushStaysWrong)

/- THE SECOND FORM. 'bulk': how many values and letters a reading holds, each counted each time it is reached (what is shared counts as often as it is met; a slice's spare places count too). A statement '..UptoSaid' is the law's where the arguments, and the package variables that the reading takes, are together of bulk at most 1048576: NARROWER than '..Said'. Prove '..Said' where nothing that the law and all that it calls make is longer than what came in: it says more and counts as full. Else prove '..UptoSaid'. A law counts once. -/
mutual
def uptoBulk {H : Type} : DataW H → Nat
  | .lit (.string bytes) => bytes.length + 1
  | .lit _ => 1
  | .nil => 1
  | .ptr d => uptoBulk d + 1
  | .slice elems spare => uptoBulkAll elems + uptoBulkAll spare + 1
  | .agg parts => uptoBulkAll parts + 1
  | .iface _ d => uptoBulk d + 1
  | .map entries => uptoBulkEntries entries + 1
  | .held _ => 1
def uptoBulkAll {H : Type} : List (DataW H) → Nat
  | [] => 0
  | d :: r => uptoBulk d + uptoBulkAll r
def uptoBulkEntries {H : Type} : List (Lit × DataW H) → Nat
  | [] => 0
  | x :: r => uptoBulkEntry x + uptoBulkEntries r
def uptoBulkEntry {H : Type} : Lit × DataW H → Nat
  | (.string bytes, d) => bytes.length + uptoBulk d + 1
  | (_, d) => uptoBulk d + 1
 end
def uptoSmall : (H : Type) → List (DataW H) → Bool := fun _ ds => decide (uptoBulkAll ds ≤ 1048576)
def OpenSpec.upto (s : _root_.Go.ChangeSpec) : _root_.Go.OpenSpec := { _root_.Go.OpenSpec.ofChange s with cond := some uptoSmall }

/-- 'wringerlaw22.ChooseLeast', WHERE WHAT IT READS IS OF BULK AT MOST 1048576: true; the input reads as it did. -/
def chooseLeastUptoRow : OpenClaim := { program := "ytaaanoklhiomlaagreat", sum := "c4805820d1776bb118c75ea788aade43f0929755224e8dee62f2ebd2696ae533", func := "wringer/wringerlaw22.ChooseLeast", spec := "chooseLeast", inPlace := ["internal/abi.NoEscape"], unfollowed := true, recurses := true, plainKeys := false, apart := false, narrowed := true }
def ChooseLeastUptoSaid : Prop := chooseLeastUptoRow.holds Tryz.pinned (OpenSpec.upto chooseLeastSpec)

/-- 'wringerlaw22.ChooseAlike', WHERE WHAT IT READS IS OF BULK AT MOST 1048576: true; the input reads as it did. -/
def chooseAlikeUptoRow : OpenClaim := { program := "ytaaanoklhiomlaagreat", sum := "c4805820d1776bb118c75ea788aade43f0929755224e8dee62f2ebd2696ae533", func := "wringer/wringerlaw22.ChooseAlike", spec := "chooseAlike", inPlace := ["internal/abi.NoEscape"], unfollowed := true, recurses := true, plainKeys := false, apart := false, narrowed := true }
def ChooseAlikeUptoSaid : Prop := chooseAlikeUptoRow.holds Tryz.pinned (OpenSpec.upto chooseAlikeSpec)

/-- 'wringerlaw22.ChooseRefuses', WHERE WHAT IT READS IS OF BULK AT MOST 1048576: true; the input reads as it did. -/
def chooseRefusesUptoRow : OpenClaim := { program := "ytaaanoklhiomlaagreat", sum := "c4805820d1776bb118c75ea788aade43f0929755224e8dee62f2ebd2696ae533", func := "wringer/wringerlaw22.ChooseRefuses", spec := "chooseRefuses", inPlace := ["internal/abi.NoEscape"], unfollowed := true, recurses := true, plainKeys := false, apart := false, narrowed := true }
def ChooseRefusesUptoSaid : Prop := chooseRefusesUptoRow.holds Tryz.pinned (OpenSpec.upto chooseRefusesSpec)

/-- 'wringerlaw25.WriteAll', WHERE WHAT IT READS IS OF BULK AT MOST 1048576: true; the input reads as it did. -/
def writeAllUptoRow : OpenClaim := { program := "ytaaanoklhiomlaagreat", sum := "c4805820d1776bb118c75ea788aade43f0929755224e8dee62f2ebd2696ae533", func := "wringer/wringerlaw25.WriteAll", spec := "writeAll", inPlace := ["internal/abi.NoEscape"], unfollowed := true, recurses := true, plainKeys := false, apart := false, narrowed := true }
def WriteAllUptoSaid : Prop := writeAllUptoRow.holds Tryz.pinned (OpenSpec.upto writeAllSpec)

/-- 'wringertop.TopReads', WHERE WHAT IT READS IS OF BULK AT MOST 1048576: true; the input reads as it did. -/
def topReadsUptoRow : OpenClaim := { program := "ytaaanoklhiomlaagreat", sum := "c4805820d1776bb118c75ea788aade43f0929755224e8dee62f2ebd2696ae533", func := "wringer/wringertop.TopReads", spec := "topReads", inPlace := ["internal/abi.NoEscape"], unfollowed := true, recurses := true, plainKeys := false, apart := false, narrowed := true }
def TopReadsUptoSaid : Prop := topReadsUptoRow.holds Tryz.pinned (OpenSpec.upto topReadsSpec)

/-- 'wringerlaw25.WriteCuts', WHERE WHAT IT READS IS OF BULK AT MOST 1048576: true; the input reads as it did. -/
def writeCutsUptoRow : OpenClaim := { program := "ytaaanoklhiomlaagreat", sum := "c4805820d1776bb118c75ea788aade43f0929755224e8dee62f2ebd2696ae533", func := "wringer/wringerlaw25.WriteCuts", spec := "writeCuts", inPlace := ["internal/abi.NoEscape"], unfollowed := true, recurses := true, plainKeys := false, apart := false, narrowed := true }
def WriteCutsUptoSaid : Prop := writeCutsUptoRow.holds Tryz.pinned (OpenSpec.upto writeCutsSpec)

/-- 'wringertop.TopWays', WHERE WHAT IT READS IS OF BULK AT MOST 1048576: true; the input reads as it did. -/
def topWaysUptoRow : OpenClaim := { program := "ytaaanoklhiomlaagreat", sum := "c4805820d1776bb118c75ea788aade43f0929755224e8dee62f2ebd2696ae533", func := "wringer/wringertop.TopWays", spec := "topWays", inPlace := ["internal/abi.NoEscape"], unfollowed := true, recurses := true, plainKeys := false, apart := false, narrowed := true }
def TopWaysUptoSaid : Prop := topWaysUptoRow.holds Tryz.pinned (OpenSpec.upto topWaysSpec)

/-- 'wringerlaw25.WriteMany', WHERE WHAT IT READS IS OF BULK AT MOST 1048576: true; the input reads as it did. -/
def writeManyUptoRow : OpenClaim := { program := "ytaaanoklhiomlaagreat", sum := "c4805820d1776bb118c75ea788aade43f0929755224e8dee62f2ebd2696ae533", func := "wringer/wringerlaw25.WriteMany", spec := "writeMany", inPlace := ["internal/abi.NoEscape"], unfollowed := true, recurses := true, plainKeys := false, apart := false, narrowed := true }
def WriteManyUptoSaid : Prop := writeManyUptoRow.holds Tryz.pinned (OpenSpec.upto writeManySpec)

/-- 'wringerlaw25.WriteBlocks', WHERE WHAT IT READS IS OF BULK AT MOST 1048576: true; the input reads as it did. -/
def writeBlocksUptoRow : OpenClaim := { program := "ytaaanoklhiomlaagreat", sum := "c4805820d1776bb118c75ea788aade43f0929755224e8dee62f2ebd2696ae533", func := "wringer/wringerlaw25.WriteBlocks", spec := "writeBlocks", inPlace := ["internal/abi.NoEscape"], unfollowed := true, recurses := true, plainKeys := false, apart := false, narrowed := true }
def WriteBlocksUptoSaid : Prop := writeBlocksUptoRow.holds Tryz.pinned (OpenSpec.upto writeBlocksSpec)

/-- 'wringerlaw25.WriteRefuses', WHERE WHAT IT READS IS OF BULK AT MOST 1048576: true; the input reads as it did. -/
def writeRefusesUptoRow : OpenClaim := { program := "ytaaanoklhiomlaagreat", sum := "c4805820d1776bb118c75ea788aade43f0929755224e8dee62f2ebd2696ae533", func := "wringer/wringerlaw25.WriteRefuses", spec := "writeRefuses", inPlace := ["internal/abi.NoEscape"], unfollowed := true, recurses := true, plainKeys := false, apart := false, narrowed := true }
def WriteRefusesUptoSaid : Prop := writeRefusesUptoRow.holds Tryz.pinned (OpenSpec.upto writeRefusesSpec)

/-- 'wringerlaw24.PushCuts', WHERE WHAT IT READS IS OF BULK AT MOST 1048576: true; the input reads as it did. -/
def pushCutsUptoRow : OpenClaim := { program := "ytaaanoklhiomlaagreat", sum := "c4805820d1776bb118c75ea788aade43f0929755224e8dee62f2ebd2696ae533", func := "wringer/wringerlaw24.PushCuts", spec := "pushCuts", inPlace := ["internal/abi.NoEscape"], unfollowed := true, recurses := true, plainKeys := false, apart := false, narrowed := true }
def PushCutsUptoSaid : Prop := pushCutsUptoRow.holds Tryz.pinned (OpenSpec.upto pushCutsSpec)

/-- 'wringerlaw24.PushOne', WHERE WHAT IT READS IS OF BULK AT MOST 1048576: true; the input reads as it did. -/
def pushOneUptoRow : OpenClaim := { program := "ytaaanoklhiomlaagreat", sum := "c4805820d1776bb118c75ea788aade43f0929755224e8dee62f2ebd2696ae533", func := "wringer/wringerlaw24.PushOne", spec := "pushOne", inPlace := ["internal/abi.NoEscape"], unfollowed := true, recurses := true, plainKeys := false, apart := false, narrowed := true }
def PushOneUptoSaid : Prop := pushOneUptoRow.holds Tryz.pinned (OpenSpec.upto pushOneSpec)

/-- 'wringerlaw24.PushLimits', WHERE WHAT IT READS IS OF BULK AT MOST 1048576: true; the input reads as it did. -/
def pushLimitsUptoRow : OpenClaim := { program := "ytaaanoklhiomlaagreat", sum := "c4805820d1776bb118c75ea788aade43f0929755224e8dee62f2ebd2696ae533", func := "wringer/wringerlaw24.PushLimits", spec := "pushLimits", inPlace := ["internal/abi.NoEscape"], unfollowed := true, recurses := true, plainKeys := false, apart := false, narrowed := true }
def PushLimitsUptoSaid : Prop := pushLimitsUptoRow.holds Tryz.pinned (OpenSpec.upto pushLimitsSpec)

/-- 'wringerlaw24.PushHeads', WHERE WHAT IT READS IS OF BULK AT MOST 1048576: true; the input reads as it did. -/
def pushHeadsUptoRow : OpenClaim := { program := "ytaaanoklhiomlaagreat", sum := "c4805820d1776bb118c75ea788aade43f0929755224e8dee62f2ebd2696ae533", func := "wringer/wringerlaw24.PushHeads", spec := "pushHeads", inPlace := ["internal/abi.NoEscape"], unfollowed := true, recurses := true, plainKeys := false, apart := false, narrowed := true }
def PushHeadsUptoSaid : Prop := pushHeadsUptoRow.holds Tryz.pinned (OpenSpec.upto pushHeadsSpec)

/-- 'wringerlaw24.PushAll', WHERE WHAT IT READS IS OF BULK AT MOST 1048576: true; the input reads as it did. -/
def pushAllUptoRow : OpenClaim := { program := "ytaaanoklhiomlaagreat", sum := "c4805820d1776bb118c75ea788aade43f0929755224e8dee62f2ebd2696ae533", func := "wringer/wringerlaw24.PushAll", spec := "pushAll", inPlace := ["internal/abi.NoEscape"], unfollowed := true, recurses := true, plainKeys := false, apart := false, narrowed := true }
def PushAllUptoSaid : Prop := pushAllUptoRow.holds Tryz.pinned (OpenSpec.upto pushAllSpec)

/-- 'wringerlaw24.PushMade', WHERE WHAT IT READS IS OF BULK AT MOST 1048576: true; the input reads as it did. -/
def pushMadeUptoRow : OpenClaim := { program := "ytaaanoklhiomlaagreat", sum := "c4805820d1776bb118c75ea788aade43f0929755224e8dee62f2ebd2696ae533", func := "wringer/wringerlaw24.PushMade", spec := "pushMade", inPlace := ["internal/abi.NoEscape"], unfollowed := true, recurses := true, plainKeys := false, apart := false, narrowed := true }
def PushMadeUptoSaid : Prop := pushMadeUptoRow.holds Tryz.pinned (OpenSpec.upto pushMadeSpec)

/-- 'wringerlaw24.PushStays', WHERE WHAT IT READS IS OF BULK AT MOST 1048576: true; the input reads as it did. -/
def pushStaysUptoRow : OpenClaim := { program := "ytaaanoklhiomlaagreat", sum := "c4805820d1776bb118c75ea788aade43f0929755224e8dee62f2ebd2696ae533", func := "wringer/wringerlaw24.PushStays", spec := "pushStays", inPlace := ["internal/abi.NoEscape"], unfollowed := true, recurses := true, plainKeys := false, apart := false, narrowed := true }
def PushStaysUptoSaid : Prop := pushStaysUptoRow.holds Tryz.pinned (OpenSpec.upto pushStaysSpec)

end Rows
end Go.Proofs.YtaaanoklhiomlaaGreat
