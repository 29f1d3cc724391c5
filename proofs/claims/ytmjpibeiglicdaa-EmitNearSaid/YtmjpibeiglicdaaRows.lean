/-
  No cell of these rows narrows 'for every input' (looked for: loops, veiled, ifaces, maps, wideKeys, modest, calm, conditions, laid).
  DERIVED. THE GIVEN ROWS OF THIS SEAT. 25 by the template 'for every input the law returns true; each argument reads behind the call as it read before'; 0 by the template 'total and deterministic' (their statements: YtmjpibeiglicdaaTotals.lean).
  GIVEN WITH THE SEED: the statements are not yours to turn. If you find one false, say at which input.
  Laid BY PROGRAM, IN A SANDBOX (cutbox-rows.mjs): the forced cells as the released guide's own fill.sh prints them over the translation 1782e64c9842046c… (all of the seat's roots in one cut). By AI agents, Wed Nov 11 2026. No macro, syntax, notation, axiom, sorry.
-/
import Derived.Test.YtmjpibeiglicdaaChecked
import GoSem.Claim
import GoSem.ClaimJoined
import GoSem.ClaimMapViews
import Derived.JoinedTies
import Derived.KernelRfl
namespace Go.Proofs.Ytmjpibeiglicdaa
/- THE CELL 'sum', in the pinned program and in every row, IS THE sha256 OF THE DUMP (.gsa) THAT YtmjpibeiglicdaaProg.lean LOADS. Nothing in Lean hashes anything: it is a label: what it is worth is what the hold of that sum in a sandbox is worth. -/
noncomputable def Try.pinned : Pinned := { name := "ytmjpibeiglicdaa", sum := "1782e64c9842046cdde815edc938c4dffd90f5bbd93324acd7896a708e182137", checked := Try.checked }
namespace Rows
def none {H : Type} : Left H := { results := [], args := [] }

/-- 'tamislaw24.TreeTells': WHATEVER THE INPUT: true; the input reads as it did. -/
def treeTellsSpec : ChangeSpec := { name := "treeTells", fn := fun _ => fun
  | [d1, d2, d3] => { results := [.lit (.bool true)], args := [d1, d2, d3] }
  | _ => none }
def treeTellsRow : OpenClaim := { program := "ytmjpibeiglicdaa", sum := "1782e64c9842046cdde815edc938c4dffd90f5bbd93324acd7896a708e182137", func := "tamis/tamislaw24.TreeTells", spec := "treeTells", recurses := true, apart := false }
def TreeTellsSaid : Prop := treeTellsRow.holds Try.pinned (OpenSpec.ofChange treeTellsSpec)

/-- ITS FALSE NEIGHBOUR: 'it returns false'. Refute it at one input. -/
def treeTellsWrong : ChangeSpec := { name := "treeTells", fn := fun _ => fun
  | [d1, d2, d3] => { results := [.lit (.bool false)], args := [d1, d2, d3] }
  | _ => none }
def TreeTellsWrongFalsely : Prop := treeTellsRow.holds Try.pinned (OpenSpec.ofChange treeTellsWrong)

/-- 'tamislaw24.TreeSize': WHATEVER THE INPUT: true; the input reads as it did. -/
def treeSizeSpec : ChangeSpec := { name := "treeSize", fn := fun _ => fun
  | [d1, d2, d3] => { results := [.lit (.bool true)], args := [d1, d2, d3] }
  | _ => none }
def treeSizeRow : OpenClaim := { program := "ytmjpibeiglicdaa", sum := "1782e64c9842046cdde815edc938c4dffd90f5bbd93324acd7896a708e182137", func := "tamis/tamislaw24.TreeSize", spec := "treeSize", recurses := true, apart := false }
def TreeSizeSaid : Prop := treeSizeRow.holds Try.pinned (OpenSpec.ofChange treeSizeSpec)

/-- ITS FALSE NEIGHBOUR: 'it returns false'. Refute it at one input. -/
def treeSizeWrong : ChangeSpec := { name := "treeSize", fn := fun _ => fun
  | [d1, d2, d3] => { results := [.lit (.bool false)], args := [d1, d2, d3] }
  | _ => none }
def TreeSizeWrongFalsely : Prop := treeSizeRow.holds Try.pinned (OpenSpec.ofChange treeSizeWrong)

/-- 'tamislaw06.VerifyChecks': WHATEVER THE INPUT: true; the input reads as it did. -/
def verifyChecksSpec : ChangeSpec := { name := "verifyChecks", fn := fun _ => fun
  | [d] => { results := [.lit (.bool true)], args := [d] }
  | _ => none }
def verifyChecksRow : OpenClaim := { program := "ytmjpibeiglicdaa", sum := "1782e64c9842046cdde815edc938c4dffd90f5bbd93324acd7896a708e182137", func := "tamis/tamislaw06.VerifyChecks", spec := "verifyChecks", apart := false }
def VerifyChecksSaid : Prop := verifyChecksRow.holds Try.pinned (OpenSpec.ofChange verifyChecksSpec)

/-- ITS FALSE NEIGHBOUR: 'it returns false'. Refute it at one input. -/
def verifyChecksWrong : ChangeSpec := { name := "verifyChecks", fn := fun _ => fun
  | [d] => { results := [.lit (.bool false)], args := [d] }
  | _ => none }
def VerifyChecksWrongFalsely : Prop := verifyChecksRow.holds Try.pinned (OpenSpec.ofChange verifyChecksWrong)

/-- 'tamislaw06.VerifyWritten': WHATEVER THE INPUT: true; the input reads as it did. -/
def verifyWrittenSpec : ChangeSpec := { name := "verifyWritten", fn := fun _ => fun
  | [d] => { results := [.lit (.bool true)], args := [d] }
  | _ => none }
def verifyWrittenRow : OpenClaim := { program := "ytmjpibeiglicdaa", sum := "1782e64c9842046cdde815edc938c4dffd90f5bbd93324acd7896a708e182137", func := "tamis/tamislaw06.VerifyWritten", spec := "verifyWritten", apart := false }
def VerifyWrittenSaid : Prop := verifyWrittenRow.holds Try.pinned (OpenSpec.ofChange verifyWrittenSpec)

/-- ITS FALSE NEIGHBOUR: 'it returns false'. Refute it at one input. -/
def verifyWrittenWrong : ChangeSpec := { name := "verifyWritten", fn := fun _ => fun
  | [d] => { results := [.lit (.bool false)], args := [d] }
  | _ => none }
def VerifyWrittenWrongFalsely : Prop := verifyWrittenRow.holds Try.pinned (OpenSpec.ofChange verifyWrittenWrong)

/-- 'tamislaw06.VerifyWays': WHATEVER THE INPUT: true; the input reads as it did. -/
def verifyWaysSpec : ChangeSpec := { name := "verifyWays", fn := fun _ => fun
  | [d1, d2] => { results := [.lit (.bool true)], args := [d1, d2] }
  | _ => none }
def verifyWaysRow : OpenClaim := { program := "ytmjpibeiglicdaa", sum := "1782e64c9842046cdde815edc938c4dffd90f5bbd93324acd7896a708e182137", func := "tamis/tamislaw06.VerifyWays", spec := "verifyWays", apart := false }
def VerifyWaysSaid : Prop := verifyWaysRow.holds Try.pinned (OpenSpec.ofChange verifyWaysSpec)

/-- ITS FALSE NEIGHBOUR: 'it returns false'. Refute it at one input. -/
def verifyWaysWrong : ChangeSpec := { name := "verifyWays", fn := fun _ => fun
  | [d1, d2] => { results := [.lit (.bool false)], args := [d1, d2] }
  | _ => none }
def VerifyWaysWrongFalsely : Prop := verifyWaysRow.holds Try.pinned (OpenSpec.ofChange verifyWaysWrong)

/-- 'tamislaw06.VerifyMore': WHATEVER THE INPUT: true; the input reads as it did. -/
def verifyMoreSpec : ChangeSpec := { name := "verifyMore", fn := fun _ => fun
  | [d1, d2] => { results := [.lit (.bool true)], args := [d1, d2] }
  | _ => none }
def verifyMoreRow : OpenClaim := { program := "ytmjpibeiglicdaa", sum := "1782e64c9842046cdde815edc938c4dffd90f5bbd93324acd7896a708e182137", func := "tamis/tamislaw06.VerifyMore", spec := "verifyMore", apart := false }
def VerifyMoreSaid : Prop := verifyMoreRow.holds Try.pinned (OpenSpec.ofChange verifyMoreSpec)

/-- ITS FALSE NEIGHBOUR: 'it returns false'. Refute it at one input. -/
def verifyMoreWrong : ChangeSpec := { name := "verifyMore", fn := fun _ => fun
  | [d1, d2] => { results := [.lit (.bool false)], args := [d1, d2] }
  | _ => none }
def VerifyMoreWrongFalsely : Prop := verifyMoreRow.holds Try.pinned (OpenSpec.ofChange verifyMoreWrong)

/-- 'tamislaw06.VerifyOne': WHATEVER THE INPUT: true; the input reads as it did. -/
def verifyOneSpec : ChangeSpec := { name := "verifyOne", fn := fun _ => fun
  | [d] => { results := [.lit (.bool true)], args := [d] }
  | _ => none }
def verifyOneRow : OpenClaim := { program := "ytmjpibeiglicdaa", sum := "1782e64c9842046cdde815edc938c4dffd90f5bbd93324acd7896a708e182137", func := "tamis/tamislaw06.VerifyOne", spec := "verifyOne", apart := false }
def VerifyOneSaid : Prop := verifyOneRow.holds Try.pinned (OpenSpec.ofChange verifyOneSpec)

/-- ITS FALSE NEIGHBOUR: 'it returns false'. Refute it at one input. -/
def verifyOneWrong : ChangeSpec := { name := "verifyOne", fn := fun _ => fun
  | [d] => { results := [.lit (.bool false)], args := [d] }
  | _ => none }
def VerifyOneWrongFalsely : Prop := verifyOneRow.holds Try.pinned (OpenSpec.ofChange verifyOneWrong)

/-- 'tamislaw06.VerifyLong': WHATEVER THE INPUT: true; the input reads as it did. -/
def verifyLongSpec : ChangeSpec := { name := "verifyLong", fn := fun _ => fun
  | [d1, d2] => { results := [.lit (.bool true)], args := [d1, d2] }
  | _ => none }
def verifyLongRow : OpenClaim := { program := "ytmjpibeiglicdaa", sum := "1782e64c9842046cdde815edc938c4dffd90f5bbd93324acd7896a708e182137", func := "tamis/tamislaw06.VerifyLong", spec := "verifyLong", apart := false }
def VerifyLongSaid : Prop := verifyLongRow.holds Try.pinned (OpenSpec.ofChange verifyLongSpec)

/-- ITS FALSE NEIGHBOUR: 'it returns false'. Refute it at one input. -/
def verifyLongWrong : ChangeSpec := { name := "verifyLong", fn := fun _ => fun
  | [d1, d2] => { results := [.lit (.bool false)], args := [d1, d2] }
  | _ => none }
def VerifyLongWrongFalsely : Prop := verifyLongRow.holds Try.pinned (OpenSpec.ofChange verifyLongWrong)

/-- 'tamislaw06.VerifyFirst': WHATEVER THE INPUT: true; the input reads as it did. -/
def verifyFirstSpec : ChangeSpec := { name := "verifyFirst", fn := fun _ => fun
  | [d] => { results := [.lit (.bool true)], args := [d] }
  | _ => none }
def verifyFirstRow : OpenClaim := { program := "ytmjpibeiglicdaa", sum := "1782e64c9842046cdde815edc938c4dffd90f5bbd93324acd7896a708e182137", func := "tamis/tamislaw06.VerifyFirst", spec := "verifyFirst", apart := false }
def VerifyFirstSaid : Prop := verifyFirstRow.holds Try.pinned (OpenSpec.ofChange verifyFirstSpec)

/-- ITS FALSE NEIGHBOUR: 'it returns false'. Refute it at one input. -/
def verifyFirstWrong : ChangeSpec := { name := "verifyFirst", fn := fun _ => fun
  | [d] => { results := [.lit (.bool false)], args := [d] }
  | _ => none }
def VerifyFirstWrongFalsely : Prop := verifyFirstRow.holds Try.pinned (OpenSpec.ofChange verifyFirstWrong)

/-- 'tamislaw23.EmitTells': WHATEVER THE INPUT: true; the input reads as it did. -/
def emitTellsSpec : ChangeSpec := { name := "emitTells", fn := fun _ => fun
  | [d] => { results := [.lit (.bool true)], args := [d] }
  | _ => none }
def emitTellsRow : OpenClaim := { program := "ytmjpibeiglicdaa", sum := "1782e64c9842046cdde815edc938c4dffd90f5bbd93324acd7896a708e182137", func := "tamis/tamislaw23.EmitTells", spec := "emitTells", apart := false }
def EmitTellsSaid : Prop := emitTellsRow.holds Try.pinned (OpenSpec.ofChange emitTellsSpec)

/-- ITS FALSE NEIGHBOUR: 'it returns false'. Refute it at one input. -/
def emitTellsWrong : ChangeSpec := { name := "emitTells", fn := fun _ => fun
  | [d] => { results := [.lit (.bool false)], args := [d] }
  | _ => none }
def EmitTellsWrongFalsely : Prop := emitTellsRow.holds Try.pinned (OpenSpec.ofChange emitTellsWrong)

/-- 'tamislaw23.EmitFew': WHATEVER THE INPUT: true; the input reads as it did. -/
def emitFewSpec : ChangeSpec := { name := "emitFew", fn := fun _ => fun
  | [d] => { results := [.lit (.bool true)], args := [d] }
  | _ => none }
def emitFewRow : OpenClaim := { program := "ytmjpibeiglicdaa", sum := "1782e64c9842046cdde815edc938c4dffd90f5bbd93324acd7896a708e182137", func := "tamis/tamislaw23.EmitFew", spec := "emitFew", apart := false }
def EmitFewSaid : Prop := emitFewRow.holds Try.pinned (OpenSpec.ofChange emitFewSpec)

/-- ITS FALSE NEIGHBOUR: 'it returns false'. Refute it at one input. -/
def emitFewWrong : ChangeSpec := { name := "emitFew", fn := fun _ => fun
  | [d] => { results := [.lit (.bool false)], args := [d] }
  | _ => none }
def EmitFewWrongFalsely : Prop := emitFewRow.holds Try.pinned (OpenSpec.ofChange emitFewWrong)

/-- 'tamislaw23.EmitNear': WHATEVER THE INPUT: true; the input reads as it did. -/
def emitNearSpec : ChangeSpec := { name := "emitNear", fn := fun _ => fun
  | [d] => { results := [.lit (.bool true)], args := [d] }
  | _ => none }
def emitNearRow : OpenClaim := { program := "ytmjpibeiglicdaa", sum := "1782e64c9842046cdde815edc938c4dffd90f5bbd93324acd7896a708e182137", func := "tamis/tamislaw23.EmitNear", spec := "emitNear", apart := false }
def EmitNearSaid : Prop := emitNearRow.holds Try.pinned (OpenSpec.ofChange emitNearSpec)

/-- ITS FALSE NEIGHBOUR: 'it returns false'. Refute it at one input. -/
def emitNearWrong : ChangeSpec := { name := "emitNear", fn := fun _ => fun
  | [d] => { results := [.lit (.bool false)], args := [d] }
  | _ => none }
def EmitNearWrongFalsely : Prop := emitNearRow.holds Try.pinned (OpenSpec.ofChange emitNearWrong)

/-- 'tamislaw23.EmitMarks': WHATEVER THE INPUT: true; the input reads as it did. -/
def emitMarksSpec : ChangeSpec := { name := "emitMarks", fn := fun _ => fun
  | [d1, d2, d3] => { results := [.lit (.bool true)], args := [d1, d2, d3] }
  | _ => none }
def emitMarksRow : OpenClaim := { program := "ytmjpibeiglicdaa", sum := "1782e64c9842046cdde815edc938c4dffd90f5bbd93324acd7896a708e182137", func := "tamis/tamislaw23.EmitMarks", spec := "emitMarks", apart := false }
def EmitMarksSaid : Prop := emitMarksRow.holds Try.pinned (OpenSpec.ofChange emitMarksSpec)

/-- ITS FALSE NEIGHBOUR: 'it returns false'. Refute it at one input. -/
def emitMarksWrong : ChangeSpec := { name := "emitMarks", fn := fun _ => fun
  | [d1, d2, d3] => { results := [.lit (.bool false)], args := [d1, d2, d3] }
  | _ => none }
def EmitMarksWrongFalsely : Prop := emitMarksRow.holds Try.pinned (OpenSpec.ofChange emitMarksWrong)

/-- 'tamislaw07.MachineSteps': WHATEVER THE INPUT: true; the input reads as it did. -/
def machineStepsSpec : ChangeSpec := { name := "machineSteps", fn := fun _ => fun
  | [d1, d2, d3] => { results := [.lit (.bool true)], args := [d1, d2, d3] }
  | _ => none }
def machineStepsRow : OpenClaim := { program := "ytmjpibeiglicdaa", sum := "1782e64c9842046cdde815edc938c4dffd90f5bbd93324acd7896a708e182137", func := "tamis/tamislaw07.MachineSteps", spec := "machineSteps", apart := false }
def MachineStepsSaid : Prop := machineStepsRow.holds Try.pinned (OpenSpec.ofChange machineStepsSpec)

/-- ITS FALSE NEIGHBOUR: 'it returns false'. Refute it at one input. -/
def machineStepsWrong : ChangeSpec := { name := "machineSteps", fn := fun _ => fun
  | [d1, d2, d3] => { results := [.lit (.bool false)], args := [d1, d2, d3] }
  | _ => none }
def MachineStepsWrongFalsely : Prop := machineStepsRow.holds Try.pinned (OpenSpec.ofChange machineStepsWrong)

/-- 'tamislaw07.MachineRuns': WHATEVER THE INPUT: true; the input reads as it did. -/
def machineRunsSpec : ChangeSpec := { name := "machineRuns", fn := fun _ => fun
  | [d1, d2] => { results := [.lit (.bool true)], args := [d1, d2] }
  | _ => none }
def machineRunsRow : OpenClaim := { program := "ytmjpibeiglicdaa", sum := "1782e64c9842046cdde815edc938c4dffd90f5bbd93324acd7896a708e182137", func := "tamis/tamislaw07.MachineRuns", spec := "machineRuns", apart := false }
def MachineRunsSaid : Prop := machineRunsRow.holds Try.pinned (OpenSpec.ofChange machineRunsSpec)

/-- ITS FALSE NEIGHBOUR: 'it returns false'. Refute it at one input. -/
def machineRunsWrong : ChangeSpec := { name := "machineRuns", fn := fun _ => fun
  | [d1, d2] => { results := [.lit (.bool false)], args := [d1, d2] }
  | _ => none }
def MachineRunsWrongFalsely : Prop := machineRunsRow.holds Try.pinned (OpenSpec.ofChange machineRunsWrong)

/-- 'tamislaw07.MachineWords': WHATEVER THE INPUT: true; the input reads as it did. -/
def machineWordsSpec : ChangeSpec := { name := "machineWords", fn := fun _ => fun
  | [d1, d2, d3] => { results := [.lit (.bool true)], args := [d1, d2, d3] }
  | _ => none }
def machineWordsRow : OpenClaim := { program := "ytmjpibeiglicdaa", sum := "1782e64c9842046cdde815edc938c4dffd90f5bbd93324acd7896a708e182137", func := "tamis/tamislaw07.MachineWords", spec := "machineWords", apart := false }
def MachineWordsSaid : Prop := machineWordsRow.holds Try.pinned (OpenSpec.ofChange machineWordsSpec)

/-- ITS FALSE NEIGHBOUR: 'it returns false'. Refute it at one input. -/
def machineWordsWrong : ChangeSpec := { name := "machineWords", fn := fun _ => fun
  | [d1, d2, d3] => { results := [.lit (.bool false)], args := [d1, d2, d3] }
  | _ => none }
def MachineWordsWrongFalsely : Prop := machineWordsRow.holds Try.pinned (OpenSpec.ofChange machineWordsWrong)

/-- 'tamislaw07.MachineFirst': WHATEVER THE INPUT: true; the input reads as it did. -/
def machineFirstSpec : ChangeSpec := { name := "machineFirst", fn := fun _ => fun
  | [d1, d2] => { results := [.lit (.bool true)], args := [d1, d2] }
  | _ => none }
def machineFirstRow : OpenClaim := { program := "ytmjpibeiglicdaa", sum := "1782e64c9842046cdde815edc938c4dffd90f5bbd93324acd7896a708e182137", func := "tamis/tamislaw07.MachineFirst", spec := "machineFirst", apart := false }
def MachineFirstSaid : Prop := machineFirstRow.holds Try.pinned (OpenSpec.ofChange machineFirstSpec)

/-- ITS FALSE NEIGHBOUR: 'it returns false'. Refute it at one input. -/
def machineFirstWrong : ChangeSpec := { name := "machineFirst", fn := fun _ => fun
  | [d1, d2] => { results := [.lit (.bool false)], args := [d1, d2] }
  | _ => none }
def MachineFirstWrongFalsely : Prop := machineFirstRow.holds Try.pinned (OpenSpec.ofChange machineFirstWrong)

/-- 'tamislaw07.MachineZero': WHATEVER THE INPUT: true; the input reads as it did. -/
def machineZeroSpec : ChangeSpec := { name := "machineZero", fn := fun _ => fun
  | [d1, d2, d3] => { results := [.lit (.bool true)], args := [d1, d2, d3] }
  | _ => none }
def machineZeroRow : OpenClaim := { program := "ytmjpibeiglicdaa", sum := "1782e64c9842046cdde815edc938c4dffd90f5bbd93324acd7896a708e182137", func := "tamis/tamislaw07.MachineZero", spec := "machineZero", apart := false }
def MachineZeroSaid : Prop := machineZeroRow.holds Try.pinned (OpenSpec.ofChange machineZeroSpec)

/-- ITS FALSE NEIGHBOUR: 'it returns false'. Refute it at one input. -/
def machineZeroWrong : ChangeSpec := { name := "machineZero", fn := fun _ => fun
  | [d1, d2, d3] => { results := [.lit (.bool false)], args := [d1, d2, d3] }
  | _ => none }
def MachineZeroWrongFalsely : Prop := machineZeroRow.holds Try.pinned (OpenSpec.ofChange machineZeroWrong)

/-- 'tamislaw07.MachineKept': WHATEVER THE INPUT: true; the input reads as it did. -/
def machineKeptSpec : ChangeSpec := { name := "machineKept", fn := fun _ => fun
  | [d1, d2] => { results := [.lit (.bool true)], args := [d1, d2] }
  | _ => none }
def machineKeptRow : OpenClaim := { program := "ytmjpibeiglicdaa", sum := "1782e64c9842046cdde815edc938c4dffd90f5bbd93324acd7896a708e182137", func := "tamis/tamislaw07.MachineKept", spec := "machineKept", apart := false }
def MachineKeptSaid : Prop := machineKeptRow.holds Try.pinned (OpenSpec.ofChange machineKeptSpec)

/-- ITS FALSE NEIGHBOUR: 'it returns false'. Refute it at one input. -/
def machineKeptWrong : ChangeSpec := { name := "machineKept", fn := fun _ => fun
  | [d1, d2] => { results := [.lit (.bool false)], args := [d1, d2] }
  | _ => none }
def MachineKeptWrongFalsely : Prop := machineKeptRow.holds Try.pinned (OpenSpec.ofChange machineKeptWrong)

/-- 'tamislaw07.MachineLoads': WHATEVER THE INPUT: true; the input reads as it did. -/
def machineLoadsSpec : ChangeSpec := { name := "machineLoads", fn := fun _ => fun
  | [d1, d2, d3] => { results := [.lit (.bool true)], args := [d1, d2, d3] }
  | _ => none }
def machineLoadsRow : OpenClaim := { program := "ytmjpibeiglicdaa", sum := "1782e64c9842046cdde815edc938c4dffd90f5bbd93324acd7896a708e182137", func := "tamis/tamislaw07.MachineLoads", spec := "machineLoads", apart := false }
def MachineLoadsSaid : Prop := machineLoadsRow.holds Try.pinned (OpenSpec.ofChange machineLoadsSpec)

/-- ITS FALSE NEIGHBOUR: 'it returns false'. Refute it at one input. -/
def machineLoadsWrong : ChangeSpec := { name := "machineLoads", fn := fun _ => fun
  | [d1, d2, d3] => { results := [.lit (.bool false)], args := [d1, d2, d3] }
  | _ => none }
def MachineLoadsWrongFalsely : Prop := machineLoadsRow.holds Try.pinned (OpenSpec.ofChange machineLoadsWrong)

/-- 'tamislaw07.MachineAsks': WHATEVER THE INPUT: true; the input reads as it did. -/
def machineAsksSpec : ChangeSpec := { name := "machineAsks", fn := fun _ => fun
  | [d1, d2, d3] => { results := [.lit (.bool true)], args := [d1, d2, d3] }
  | _ => none }
def machineAsksRow : OpenClaim := { program := "ytmjpibeiglicdaa", sum := "1782e64c9842046cdde815edc938c4dffd90f5bbd93324acd7896a708e182137", func := "tamis/tamislaw07.MachineAsks", spec := "machineAsks", apart := false }
def MachineAsksSaid : Prop := machineAsksRow.holds Try.pinned (OpenSpec.ofChange machineAsksSpec)

/-- ITS FALSE NEIGHBOUR: 'it returns false'. Refute it at one input. -/
def machineAsksWrong : ChangeSpec := { name := "machineAsks", fn := fun _ => fun
  | [d1, d2, d3] => { results := [.lit (.bool false)], args := [d1, d2, d3] }
  | _ => none }
def MachineAsksWrongFalsely : Prop := machineAsksRow.holds Try.pinned (OpenSpec.ofChange machineAsksWrong)

/-- 'tamislaw23.EmitRuns': WHATEVER THE INPUT: true; the input reads as it did. -/
def emitRunsSpec : ChangeSpec := { name := "emitRuns", fn := fun _ => fun
  | [d1, d2] => { results := [.lit (.bool true)], args := [d1, d2] }
  | _ => none }
def emitRunsRow : OpenClaim := { program := "ytmjpibeiglicdaa", sum := "1782e64c9842046cdde815edc938c4dffd90f5bbd93324acd7896a708e182137", func := "tamis/tamislaw23.EmitRuns", spec := "emitRuns", apart := false }
def EmitRunsSaid : Prop := emitRunsRow.holds Try.pinned (OpenSpec.ofChange emitRunsSpec)

/-- ITS FALSE NEIGHBOUR: 'it returns false'. Refute it at one input. -/
def emitRunsWrong : ChangeSpec := { name := "emitRuns", fn := fun _ => fun
  | [d1, d2] => { results := [.lit (.bool false)], args := [d1, d2] }
  | _ => none }
def EmitRunsWrongFalsely : Prop := emitRunsRow.holds Try.pinned (OpenSpec.ofChange emitRunsWrong)

/-- 'tamislaw23.EmitFar': WHATEVER THE INPUT: true; the input reads as it did. -/
def emitFarSpec : ChangeSpec := { name := "emitFar", fn := fun _ => fun
  | [d1, d2, d3] => { results := [.lit (.bool true)], args := [d1, d2, d3] }
  | _ => none }
def emitFarRow : OpenClaim := { program := "ytmjpibeiglicdaa", sum := "1782e64c9842046cdde815edc938c4dffd90f5bbd93324acd7896a708e182137", func := "tamis/tamislaw23.EmitFar", spec := "emitFar", apart := false }
def EmitFarSaid : Prop := emitFarRow.holds Try.pinned (OpenSpec.ofChange emitFarSpec)

/-- ITS FALSE NEIGHBOUR: 'it returns false'. Refute it at one input. -/
def emitFarWrong : ChangeSpec := { name := "emitFar", fn := fun _ => fun
  | [d1, d2, d3] => { results := [.lit (.bool false)], args := [d1, d2, d3] }
  | _ => none }
def EmitFarWrongFalsely : Prop := emitFarRow.holds Try.pinned (OpenSpec.ofChange emitFarWrong)

/-- 'tamislaw24.TreeGoes': WHATEVER THE INPUT: true; the input reads as it did. -/
def treeGoesSpec : ChangeSpec := { name := "treeGoes", fn := fun _ => fun
  | [d1, d2, d3] => { results := [.lit (.bool true)], args := [d1, d2, d3] }
  | _ => none }
def treeGoesRow : OpenClaim := { program := "ytmjpibeiglicdaa", sum := "1782e64c9842046cdde815edc938c4dffd90f5bbd93324acd7896a708e182137", func := "tamis/tamislaw24.TreeGoes", spec := "treeGoes", recurses := true, apart := false }
def TreeGoesSaid : Prop := treeGoesRow.holds Try.pinned (OpenSpec.ofChange treeGoesSpec)

/-- ITS FALSE NEIGHBOUR: 'it returns false'. Refute it at one input. -/
def treeGoesWrong : ChangeSpec := { name := "treeGoes", fn := fun _ => fun
  | [d1, d2, d3] => { results := [.lit (.bool false)], args := [d1, d2, d3] }
  | _ => none }
def TreeGoesWrongFalsely : Prop := treeGoesRow.holds Try.pinned (OpenSpec.ofChange treeGoesWrong)

/-- 'tamislaw24.TreeFew': WHATEVER THE INPUT: true; the input reads as it did. -/
def treeFewSpec : ChangeSpec := { name := "treeFew", fn := fun _ => fun
  | [d1, d2, d3] => { results := [.lit (.bool true)], args := [d1, d2, d3] }
  | _ => none }
def treeFewRow : OpenClaim := { program := "ytmjpibeiglicdaa", sum := "1782e64c9842046cdde815edc938c4dffd90f5bbd93324acd7896a708e182137", func := "tamis/tamislaw24.TreeFew", spec := "treeFew", recurses := true, apart := false }
def TreeFewSaid : Prop := treeFewRow.holds Try.pinned (OpenSpec.ofChange treeFewSpec)

/-- ITS FALSE NEIGHBOUR: 'it returns false'. Refute it at one input. -/
def treeFewWrong : ChangeSpec := { name := "treeFew", fn := fun _ => fun
  | [d1, d2, d3] => { results := [.lit (.bool false)], args := [d1, d2, d3] }
  | _ => none }
def TreeFewWrongFalsely : Prop := treeFewRow.holds Try.pinned (OpenSpec.ofChange treeFewWrong)

/- THE SECOND FORM. 'bulk': how many values and letters a reading holds, each counted each time it is reached (what is shared counts as often as it is met; a slice's spare places count too). A statement '..UptoSaid' is the law's where the arguments, and the package variables that the reading takes, are together of bulk at most 1048576: NARROWER than '..Said'. Prove '..Said' where nothing that the law and all that it calls make is longer than what came in: it says more and counts as full. Else prove '..UptoSaid'. A law counts once. -/
mutual
def uptoBulk {H : Type} : DataW H → Nat
  | .lit (.string bytes) => bytes.length + 1
  | .lit _ => 1
  | .nil => 1
  | .ptr d => uptoBulk d + 1
  | .slice elems spare => uptoBulkAll elems + uptoBulkAll spare + 1
  | .agg parts => uptoBulkAll parts + 1
  | .iface _ d => uptoBulk d + 1
  | .map entries => uptoBulkEntries entries + 1
  | .held _ => 1
def uptoBulkAll {H : Type} : List (DataW H) → Nat
  | [] => 0
  | d :: r => uptoBulk d + uptoBulkAll r
def uptoBulkEntries {H : Type} : List (Lit × DataW H) → Nat
  | [] => 0
  | x :: r => uptoBulkEntry x + uptoBulkEntries r
def uptoBulkEntry {H : Type} : Lit × DataW H → Nat
  | (.string bytes, d) => bytes.length + uptoBulk d + 1
  | (_, d) => uptoBulk d + 1
 end
def uptoSmall : (H : Type) → List (DataW H) → Bool := fun _ ds => decide (uptoBulkAll ds ≤ 1048576)
def OpenSpec.upto (s : _root_.Go.ChangeSpec) : _root_.Go.OpenSpec := { _root_.Go.OpenSpec.ofChange s with cond := some uptoSmall }

/-- 'tamislaw24.TreeTells', WHERE WHAT IT READS IS OF BULK AT MOST 1048576: true; the input reads as it did. -/
def treeTellsUptoRow : OpenClaim := { program := "ytmjpibeiglicdaa", sum := "1782e64c9842046cdde815edc938c4dffd90f5bbd93324acd7896a708e182137", func := "tamis/tamislaw24.TreeTells", spec := "treeTells", recurses := true, apart := false, narrowed := true }
def TreeTellsUptoSaid : Prop := treeTellsUptoRow.holds Try.pinned (OpenSpec.upto treeTellsSpec)

/-- 'tamislaw24.TreeSize', WHERE WHAT IT READS IS OF BULK AT MOST 1048576: true; the input reads as it did. -/
def treeSizeUptoRow : OpenClaim := { program := "ytmjpibeiglicdaa", sum := "1782e64c9842046cdde815edc938c4dffd90f5bbd93324acd7896a708e182137", func := "tamis/tamislaw24.TreeSize", spec := "treeSize", recurses := true, apart := false, narrowed := true }
def TreeSizeUptoSaid : Prop := treeSizeUptoRow.holds Try.pinned (OpenSpec.upto treeSizeSpec)

/-- 'tamislaw06.VerifyChecks', WHERE WHAT IT READS IS OF BULK AT MOST 1048576: true; the input reads as it did. -/
def verifyChecksUptoRow : OpenClaim := { program := "ytmjpibeiglicdaa", sum := "1782e64c9842046cdde815edc938c4dffd90f5bbd93324acd7896a708e182137", func := "tamis/tamislaw06.VerifyChecks", spec := "verifyChecks", apart := false, narrowed := true }
def VerifyChecksUptoSaid : Prop := verifyChecksUptoRow.holds Try.pinned (OpenSpec.upto verifyChecksSpec)

/-- 'tamislaw06.VerifyWritten', WHERE WHAT IT READS IS OF BULK AT MOST 1048576: true; the input reads as it did. -/
def verifyWrittenUptoRow : OpenClaim := { program := "ytmjpibeiglicdaa", sum := "1782e64c9842046cdde815edc938c4dffd90f5bbd93324acd7896a708e182137", func := "tamis/tamislaw06.VerifyWritten", spec := "verifyWritten", apart := false, narrowed := true }
def VerifyWrittenUptoSaid : Prop := verifyWrittenUptoRow.holds Try.pinned (OpenSpec.upto verifyWrittenSpec)

/-- 'tamislaw06.VerifyWays', WHERE WHAT IT READS IS OF BULK AT MOST 1048576: true; the input reads as it did. -/
def verifyWaysUptoRow : OpenClaim := { program := "ytmjpibeiglicdaa", sum := "1782e64c9842046cdde815edc938c4dffd90f5bbd93324acd7896a708e182137", func := "tamis/tamislaw06.VerifyWays", spec := "verifyWays", apart := false, narrowed := true }
def VerifyWaysUptoSaid : Prop := verifyWaysUptoRow.holds Try.pinned (OpenSpec.upto verifyWaysSpec)

/-- 'tamislaw06.VerifyMore', WHERE WHAT IT READS IS OF BULK AT MOST 1048576: true; the input reads as it did. -/
def verifyMoreUptoRow : OpenClaim := { program := "ytmjpibeiglicdaa", sum := "1782e64c9842046cdde815edc938c4dffd90f5bbd93324acd7896a708e182137", func := "tamis/tamislaw06.VerifyMore", spec := "verifyMore", apart := false, narrowed := true }
def VerifyMoreUptoSaid : Prop := verifyMoreUptoRow.holds Try.pinned (OpenSpec.upto verifyMoreSpec)

/-- 'tamislaw06.VerifyOne', WHERE WHAT IT READS IS OF BULK AT MOST 1048576: true; the input reads as it did. -/
def verifyOneUptoRow : OpenClaim := { program := "ytmjpibeiglicdaa", sum := "1782e64c9842046cdde815edc938c4dffd90f5bbd93324acd7896a708e182137", func := "tamis/tamislaw06.VerifyOne", spec := "verifyOne", apart := false, narrowed := true }
def VerifyOneUptoSaid : Prop := verifyOneUptoRow.holds Try.pinned (OpenSpec.upto verifyOneSpec)

/-- 'tamislaw06.VerifyLong', WHERE WHAT IT READS IS OF BULK AT MOST 1048576: true; the input reads as it did. -/
def verifyLongUptoRow : OpenClaim := { program := "ytmjpibeiglicdaa", sum := "1782e64c9842046cdde815edc938c4dffd90f5bbd93324acd7896a708e182137", func := "tamis/tamislaw06.VerifyLong", spec := "verifyLong", apart := false, narrowed := true }
def VerifyLongUptoSaid : Prop := verifyLongUptoRow.holds Try.pinned (OpenSpec.upto verifyLongSpec)

/-- 'tamislaw06.VerifyFirst', WHERE WHAT IT READS IS OF BULK AT MOST 1048576: true; the input reads as it did. -/
def verifyFirstUptoRow : OpenClaim := { program := "ytmjpibeiglicdaa", sum := "1782e64c9842046cdde815edc938c4dffd90f5bbd93324acd7896a708e182137", func := "tamis/tamislaw06.VerifyFirst", spec := "verifyFirst", apart := false, narrowed := true }
def VerifyFirstUptoSaid : Prop := verifyFirstUptoRow.holds Try.pinned (OpenSpec.upto verifyFirstSpec)

/-- 'tamislaw23.EmitTells', WHERE WHAT IT READS IS OF BULK AT MOST 1048576: true; the input reads as it did. -/
def emitTellsUptoRow : OpenClaim := { program := "ytmjpibeiglicdaa", sum := "1782e64c9842046cdde815edc938c4dffd90f5bbd93324acd7896a708e182137", func := "tamis/tamislaw23.EmitTells", spec := "emitTells", apart := false, narrowed := true }
def EmitTellsUptoSaid : Prop := emitTellsUptoRow.holds Try.pinned (OpenSpec.upto emitTellsSpec)

/-- 'tamislaw23.EmitFew', WHERE WHAT IT READS IS OF BULK AT MOST 1048576: true; the input reads as it did. -/
def emitFewUptoRow : OpenClaim := { program := "ytmjpibeiglicdaa", sum := "1782e64c9842046cdde815edc938c4dffd90f5bbd93324acd7896a708e182137", func := "tamis/tamislaw23.EmitFew", spec := "emitFew", apart := false, narrowed := true }
def EmitFewUptoSaid : Prop := emitFewUptoRow.holds Try.pinned (OpenSpec.upto emitFewSpec)

/-- 'tamislaw23.EmitNear', WHERE WHAT IT READS IS OF BULK AT MOST 1048576: true; the input reads as it did. -/
def emitNearUptoRow : OpenClaim := { program := "ytmjpibeiglicdaa", sum := "1782e64c9842046cdde815edc938c4dffd90f5bbd93324acd7896a708e182137", func := "tamis/tamislaw23.EmitNear", spec := "emitNear", apart := false, narrowed := true }
def EmitNearUptoSaid : Prop := emitNearUptoRow.holds Try.pinned (OpenSpec.upto emitNearSpec)

/-- 'tamislaw23.EmitMarks', WHERE WHAT IT READS IS OF BULK AT MOST 1048576: true; the input reads as it did. -/
def emitMarksUptoRow : OpenClaim := { program := "ytmjpibeiglicdaa", sum := "1782e64c9842046cdde815edc938c4dffd90f5bbd93324acd7896a708e182137", func := "tamis/tamislaw23.EmitMarks", spec := "emitMarks", apart := false, narrowed := true }
def EmitMarksUptoSaid : Prop := emitMarksUptoRow.holds Try.pinned (OpenSpec.upto emitMarksSpec)

/-- 'tamislaw07.MachineSteps', WHERE WHAT IT READS IS OF BULK AT MOST 1048576: true; the input reads as it did. -/
def machineStepsUptoRow : OpenClaim := { program := "ytmjpibeiglicdaa", sum := "1782e64c9842046cdde815edc938c4dffd90f5bbd93324acd7896a708e182137", func := "tamis/tamislaw07.MachineSteps", spec := "machineSteps", apart := false, narrowed := true }
def MachineStepsUptoSaid : Prop := machineStepsUptoRow.holds Try.pinned (OpenSpec.upto machineStepsSpec)

/-- 'tamislaw07.MachineRuns', WHERE WHAT IT READS IS OF BULK AT MOST 1048576: true; the input reads as it did. -/
def machineRunsUptoRow : OpenClaim := { program := "ytmjpibeiglicdaa", sum := "1782e64c9842046cdde815edc938c4dffd90f5bbd93324acd7896a708e182137", func := "tamis/tamislaw07.MachineRuns", spec := "machineRuns", apart := false, narrowed := true }
def MachineRunsUptoSaid : Prop := machineRunsUptoRow.holds Try.pinned (OpenSpec.upto machineRunsSpec)

/-- 'tamislaw07.MachineWords', WHERE WHAT IT READS IS OF BULK AT MOST 1048576: true; the input reads as it did. -/
def machineWordsUptoRow : OpenClaim := { program := "ytmjpibeiglicdaa", sum := "1782e64c9842046cdde815edc938c4dffd90f5bbd93324acd7896a708e182137", func := "tamis/tamislaw07.MachineWords", spec := "machineWords", apart := false, narrowed := true }
def MachineWordsUptoSaid : Prop := machineWordsUptoRow.holds Try.pinned (OpenSpec.upto machineWordsSpec)

/-- 'tamislaw07.MachineFirst', WHERE WHAT IT READS IS OF BULK AT MOST 1048576: true; the input reads as it did. -/
def machineFirstUptoRow : OpenClaim := { program := "ytmjpibeiglicdaa", sum := "1782e64c9842046cdde815edc938c4dffd90f5bbd93324acd7896a708e182137", func := "tamis/tamislaw07.MachineFirst", spec := "machineFirst", apart := false, narrowed := true }
def MachineFirstUptoSaid : Prop := machineFirstUptoRow.holds Try.pinned (OpenSpec.upto machineFirstSpec)

/-- 'tamislaw07.MachineZero', WHERE WHAT IT READS IS OF BULK AT MOST 1048576: true; the input reads as it did. -/
def machineZeroUptoRow : OpenClaim := { program := "ytmjpibeiglicdaa", sum := "1782e64c9842046cdde815edc938c4dffd90f5bbd93324acd7896a708e182137", func := "tamis/tamislaw07.MachineZero", spec := "machineZero", apart := false, narrowed := true }
def MachineZeroUptoSaid : Prop := machineZeroUptoRow.holds Try.pinned (OpenSpec.upto machineZeroSpec)

/-- 'tamislaw07.MachineKept', WHERE WHAT IT READS IS OF BULK AT MOST 1048576: true; the input reads as it did. -/
def machineKeptUptoRow : OpenClaim := { program := "ytmjpibeiglicdaa", sum := "1782e64c9842046cdde815edc938c4dffd90f5bbd93324acd7896a708e182137", func := "tamis/tamislaw07.MachineKept", spec := "machineKept", apart := false, narrowed := true }
def MachineKeptUptoSaid : Prop := machineKeptUptoRow.holds Try.pinned (OpenSpec.upto machineKeptSpec)

/-- 'tamislaw07.MachineLoads', WHERE WHAT IT READS IS OF BULK AT MOST 1048576: true; the input reads as it did. -/
def machineLoadsUptoRow : OpenClaim := { program := "ytmjpibeiglicdaa", sum := "1782e64c9842046cdde815edc938c4dffd90f5bbd93324acd7896a708e182137", func := "tamis/tamislaw07.MachineLoads", spec := "machineLoads", apart := false, narrowed := true }
def MachineLoadsUptoSaid : Prop := machineLoadsUptoRow.holds Try.pinned (OpenSpec.upto machineLoadsSpec)

/-- 'tamislaw07.MachineAsks', WHERE WHAT IT READS IS OF BULK AT MOST 1048576: true; the input reads as it did. -/
def machineAsksUptoRow : OpenClaim := { program := "ytmjpibeiglicdaa", sum := "1782e64c9842046cdde815edc938c4dffd90f5bbd93324acd7896a708e182137", func := "tamis/tamislaw07.MachineAsks", spec := "machineAsks", apart := false, narrowed := true }
def MachineAsksUptoSaid : Prop := machineAsksUptoRow.holds Try.pinned (OpenSpec.upto machineAsksSpec)

/-- 'tamislaw23.EmitRuns', WHERE WHAT IT READS IS OF BULK AT MOST 1048576: true; the input reads as it did. -/
def emitRunsUptoRow : OpenClaim := { program := "ytmjpibeiglicdaa", sum := "1782e64c9842046cdde815edc938c4dffd90f5bbd93324acd7896a708e182137", func := "tamis/tamislaw23.EmitRuns", spec := "emitRuns", apart := false, narrowed := true }
def EmitRunsUptoSaid : Prop := emitRunsUptoRow.holds Try.pinned (OpenSpec.upto emitRunsSpec)

/-- 'tamislaw23.EmitFar', WHERE WHAT IT READS IS OF BULK AT MOST 1048576: true; the input reads as it did. -/
def emitFarUptoRow : OpenClaim := { program := "ytmjpibeiglicdaa", sum := "1782e64c9842046cdde815edc938c4dffd90f5bbd93324acd7896a708e182137", func := "tamis/tamislaw23.EmitFar", spec := "emitFar", apart := false, narrowed := true }
def EmitFarUptoSaid : Prop := emitFarUptoRow.holds Try.pinned (OpenSpec.upto emitFarSpec)

/-- 'tamislaw24.TreeGoes', WHERE WHAT IT READS IS OF BULK AT MOST 1048576: true; the input reads as it did. -/
def treeGoesUptoRow : OpenClaim := { program := "ytmjpibeiglicdaa", sum := "1782e64c9842046cdde815edc938c4dffd90f5bbd93324acd7896a708e182137", func := "tamis/tamislaw24.TreeGoes", spec := "treeGoes", recurses := true, apart := false, narrowed := true }
def TreeGoesUptoSaid : Prop := treeGoesUptoRow.holds Try.pinned (OpenSpec.upto treeGoesSpec)

/-- 'tamislaw24.TreeFew', WHERE WHAT IT READS IS OF BULK AT MOST 1048576: true; the input reads as it did. -/
def treeFewUptoRow : OpenClaim := { program := "ytmjpibeiglicdaa", sum := "1782e64c9842046cdde815edc938c4dffd90f5bbd93324acd7896a708e182137", func := "tamis/tamislaw24.TreeFew", spec := "treeFew", recurses := true, apart := false, narrowed := true }
def TreeFewUptoSaid : Prop := treeFewUptoRow.holds Try.pinned (OpenSpec.upto treeFewSpec)

end Rows
end Go.Proofs.Ytmjpibeiglicdaa
