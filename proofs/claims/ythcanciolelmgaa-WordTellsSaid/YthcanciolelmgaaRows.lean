/-
  No cell of these rows narrows 'for every input' (looked for: loops, veiled, ifaces, maps, wideKeys, modest, calm, conditions, laid).
  DERIVED. THE GIVEN ROWS OF THIS SEAT. 9 by the template 'for every input the law returns true; each argument reads behind the call as it read before'; 0 by the template 'total and deterministic' (their statements: YthcanciolelmgaaTotals.lean).
  GIVEN WITH THE SEED: the statements are not yours to turn. If you find one false, say at which input.
  Laid BY PROGRAM, IN A SANDBOX (cutbox-rows.mjs): the forced cells as the released guide's own fill.sh prints them over the translation ec17ca87d8543178… (all of the seat's roots in one cut). By AI agents, Wed Nov 11 2026. No macro, syntax, notation, axiom, sorry.
-/
import Derived.Test.YthcanciolelmgaaChecked
import GoSem.Claim
import GoSem.ClaimJoined
import GoSem.ClaimMapViews
import Derived.JoinedTies
import Derived.KernelRfl
namespace Go.Proofs.Ythcanciolelmgaa
/- THE CELL 'sum', in the pinned program and in every row, IS THE sha256 OF THE DUMP (.gsa) THAT YthcanciolelmgaaProg.lean LOADS. Nothing in Lean hashes anything: it is a label: what it is worth is what the hold of that sum in a sandbox is worth. -/
noncomputable def Try.pinned : Pinned := { name := "ythcanciolelmgaa", sum := "ec17ca87d8543178705afb96f655a6c478924a49b4d7ca4d8a5eda783d01ed85", checked := Try.checked }
namespace Rows
def none {H : Type} : Left H := { results := [], args := [] }

/-- 'tamislaw01.WordTells': WHATEVER THE INPUT: true; the input reads as it did. -/
def wordTellsSpec : ChangeSpec := { name := "wordTells", fn := fun _ => fun
  | [d1, d2, d3] => { results := [.lit (.bool true)], args := [d1, d2, d3] }
  | _ => none }
def wordTellsRow : OpenClaim := { program := "ythcanciolelmgaa", sum := "ec17ca87d8543178705afb96f655a6c478924a49b4d7ca4d8a5eda783d01ed85", func := "tamis/tamislaw01.WordTells", spec := "wordTells", apart := false }
def WordTellsSaid : Prop := wordTellsRow.holds Try.pinned (OpenSpec.ofChange wordTellsSpec)

/-- ITS FALSE NEIGHBOUR: 'it returns false'. Refute it at one input. -/
def wordTellsWrong : ChangeSpec := { name := "wordTells", fn := fun _ => fun
  | [d1, d2, d3] => { results := [.lit (.bool false)], args := [d1, d2, d3] }
  | _ => none }
def WordTellsWrongFalsely : Prop := wordTellsRow.holds Try.pinned (OpenSpec.ofChange wordTellsWrong)

/-- 'tamislaw01.WordUndo': WHATEVER THE INPUT: true; the input reads as it did. -/
def wordUndoSpec : ChangeSpec := { name := "wordUndo", fn := fun _ => fun
  | [d1, d2] => { results := [.lit (.bool true)], args := [d1, d2] }
  | _ => none }
def wordUndoRow : OpenClaim := { program := "ythcanciolelmgaa", sum := "ec17ca87d8543178705afb96f655a6c478924a49b4d7ca4d8a5eda783d01ed85", func := "tamis/tamislaw01.WordUndo", spec := "wordUndo", apart := false }
def WordUndoSaid : Prop := wordUndoRow.holds Try.pinned (OpenSpec.ofChange wordUndoSpec)

/-- ITS FALSE NEIGHBOUR: 'it returns false'. Refute it at one input. -/
def wordUndoWrong : ChangeSpec := { name := "wordUndo", fn := fun _ => fun
  | [d1, d2] => { results := [.lit (.bool false)], args := [d1, d2] }
  | _ => none }
def WordUndoWrongFalsely : Prop := wordUndoRow.holds Try.pinned (OpenSpec.ofChange wordUndoWrong)

/-- 'tamislaw01.WordDiv': WHATEVER THE INPUT: true; the input reads as it did. -/
def wordDivSpec : ChangeSpec := { name := "wordDiv", fn := fun _ => fun
  | [d1, d2] => { results := [.lit (.bool true)], args := [d1, d2] }
  | _ => none }
def wordDivRow : OpenClaim := { program := "ythcanciolelmgaa", sum := "ec17ca87d8543178705afb96f655a6c478924a49b4d7ca4d8a5eda783d01ed85", func := "tamis/tamislaw01.WordDiv", spec := "wordDiv", apart := false }
def WordDivSaid : Prop := wordDivRow.holds Try.pinned (OpenSpec.ofChange wordDivSpec)

/-- ITS FALSE NEIGHBOUR: 'it returns false'. Refute it at one input. -/
def wordDivWrong : ChangeSpec := { name := "wordDiv", fn := fun _ => fun
  | [d1, d2] => { results := [.lit (.bool false)], args := [d1, d2] }
  | _ => none }
def WordDivWrongFalsely : Prop := wordDivRow.holds Try.pinned (OpenSpec.ofChange wordDivWrong)

/-- 'tamislaw01.WordMoves': WHATEVER THE INPUT: true; the input reads as it did. -/
def wordMovesSpec : ChangeSpec := { name := "wordMoves", fn := fun _ => fun
  | [d1, d2] => { results := [.lit (.bool true)], args := [d1, d2] }
  | _ => none }
def wordMovesRow : OpenClaim := { program := "ythcanciolelmgaa", sum := "ec17ca87d8543178705afb96f655a6c478924a49b4d7ca4d8a5eda783d01ed85", func := "tamis/tamislaw01.WordMoves", spec := "wordMoves", apart := false }
def WordMovesSaid : Prop := wordMovesRow.holds Try.pinned (OpenSpec.ofChange wordMovesSpec)

/-- ITS FALSE NEIGHBOUR: 'it returns false'. Refute it at one input. -/
def wordMovesWrong : ChangeSpec := { name := "wordMoves", fn := fun _ => fun
  | [d1, d2] => { results := [.lit (.bool false)], args := [d1, d2] }
  | _ => none }
def WordMovesWrongFalsely : Prop := wordMovesRow.holds Try.pinned (OpenSpec.ofChange wordMovesWrong)

/-- 'tamislaw01.WordPairs': WHATEVER THE INPUT: true; the input reads as it did. -/
def wordPairsSpec : ChangeSpec := { name := "wordPairs", fn := fun _ => fun
  | [d1, d2] => { results := [.lit (.bool true)], args := [d1, d2] }
  | _ => none }
def wordPairsRow : OpenClaim := { program := "ythcanciolelmgaa", sum := "ec17ca87d8543178705afb96f655a6c478924a49b4d7ca4d8a5eda783d01ed85", func := "tamis/tamislaw01.WordPairs", spec := "wordPairs", apart := false }
def WordPairsSaid : Prop := wordPairsRow.holds Try.pinned (OpenSpec.ofChange wordPairsSpec)

/-- ITS FALSE NEIGHBOUR: 'it returns false'. Refute it at one input. -/
def wordPairsWrong : ChangeSpec := { name := "wordPairs", fn := fun _ => fun
  | [d1, d2] => { results := [.lit (.bool false)], args := [d1, d2] }
  | _ => none }
def WordPairsWrongFalsely : Prop := wordPairsRow.holds Try.pinned (OpenSpec.ofChange wordPairsWrong)

/-- 'tamislaw01.WordBits': WHATEVER THE INPUT: true; the input reads as it did. -/
def wordBitsSpec : ChangeSpec := { name := "wordBits", fn := fun _ => fun
  | [d1, d2, d3] => { results := [.lit (.bool true)], args := [d1, d2, d3] }
  | _ => none }
def wordBitsRow : OpenClaim := { program := "ythcanciolelmgaa", sum := "ec17ca87d8543178705afb96f655a6c478924a49b4d7ca4d8a5eda783d01ed85", func := "tamis/tamislaw01.WordBits", spec := "wordBits", apart := false }
def WordBitsSaid : Prop := wordBitsRow.holds Try.pinned (OpenSpec.ofChange wordBitsSpec)

/-- ITS FALSE NEIGHBOUR: 'it returns false'. Refute it at one input. -/
def wordBitsWrong : ChangeSpec := { name := "wordBits", fn := fun _ => fun
  | [d1, d2, d3] => { results := [.lit (.bool false)], args := [d1, d2, d3] }
  | _ => none }
def WordBitsWrongFalsely : Prop := wordBitsRow.holds Try.pinned (OpenSpec.ofChange wordBitsWrong)

/-- 'tamislaw01.WordAsks': WHATEVER THE INPUT: true; the input reads as it did. -/
def wordAsksSpec : ChangeSpec := { name := "wordAsks", fn := fun _ => fun
  | [d1, d2] => { results := [.lit (.bool true)], args := [d1, d2] }
  | _ => none }
def wordAsksRow : OpenClaim := { program := "ythcanciolelmgaa", sum := "ec17ca87d8543178705afb96f655a6c478924a49b4d7ca4d8a5eda783d01ed85", func := "tamis/tamislaw01.WordAsks", spec := "wordAsks", apart := false }
def WordAsksSaid : Prop := wordAsksRow.holds Try.pinned (OpenSpec.ofChange wordAsksSpec)

/-- ITS FALSE NEIGHBOUR: 'it returns false'. Refute it at one input. -/
def wordAsksWrong : ChangeSpec := { name := "wordAsks", fn := fun _ => fun
  | [d1, d2] => { results := [.lit (.bool false)], args := [d1, d2] }
  | _ => none }
def WordAsksWrongFalsely : Prop := wordAsksRow.holds Try.pinned (OpenSpec.ofChange wordAsksWrong)

/-- 'tamislaw01.WordRing': WHATEVER THE INPUT: true; the input reads as it did. -/
def wordRingSpec : ChangeSpec := { name := "wordRing", fn := fun _ => fun
  | [d1, d2, d3] => { results := [.lit (.bool true)], args := [d1, d2, d3] }
  | _ => none }
def wordRingRow : OpenClaim := { program := "ythcanciolelmgaa", sum := "ec17ca87d8543178705afb96f655a6c478924a49b4d7ca4d8a5eda783d01ed85", func := "tamis/tamislaw01.WordRing", spec := "wordRing", apart := false }
def WordRingSaid : Prop := wordRingRow.holds Try.pinned (OpenSpec.ofChange wordRingSpec)

/-- ITS FALSE NEIGHBOUR: 'it returns false'. Refute it at one input. -/
def wordRingWrong : ChangeSpec := { name := "wordRing", fn := fun _ => fun
  | [d1, d2, d3] => { results := [.lit (.bool false)], args := [d1, d2, d3] }
  | _ => none }
def WordRingWrongFalsely : Prop := wordRingRow.holds Try.pinned (OpenSpec.ofChange wordRingWrong)

/-- 'tamislaw01.WordGates': WHATEVER THE INPUT: true; the input reads as it did. -/
def wordGatesSpec : ChangeSpec := { name := "wordGates", fn := fun _ => fun
  | [d1, d2] => { results := [.lit (.bool true)], args := [d1, d2] }
  | _ => none }
def wordGatesRow : OpenClaim := { program := "ythcanciolelmgaa", sum := "ec17ca87d8543178705afb96f655a6c478924a49b4d7ca4d8a5eda783d01ed85", func := "tamis/tamislaw01.WordGates", spec := "wordGates", apart := false }
def WordGatesSaid : Prop := wordGatesRow.holds Try.pinned (OpenSpec.ofChange wordGatesSpec)

/-- ITS FALSE NEIGHBOUR: 'it returns false'. Refute it at one input. -/
def wordGatesWrong : ChangeSpec := { name := "wordGates", fn := fun _ => fun
  | [d1, d2] => { results := [.lit (.bool false)], args := [d1, d2] }
  | _ => none }
def WordGatesWrongFalsely : Prop := wordGatesRow.holds Try.pinned (OpenSpec.ofChange wordGatesWrong)

/- THE SECOND FORM. 'bulk': how many values and letters a reading holds, each counted each time it is reached (what is shared counts as often as it is met; a slice's spare places count too). A statement '..UptoSaid' is the law's where the arguments, and the package variables that the reading takes, are together of bulk at most 1048576: NARROWER than '..Said'. Prove '..Said' where nothing that the law and all that it calls make is longer than what came in: it says more and counts as full. Else prove '..UptoSaid'. A law counts once. -/
mutual
def uptoBulk {H : Type} : DataW H → Nat
  | .lit (.string bytes) => bytes.length + 1
  | .lit _ => 1
  | .nil => 1
  | .ptr d => uptoBulk d + 1
  | .slice elems spare => uptoBulkAll elems + uptoBulkAll spare + 1
  | .agg parts => uptoBulkAll parts + 1
  | .iface _ d => uptoBulk d + 1
  | .map entries => uptoBulkEntries entries + 1
  | .held _ => 1
def uptoBulkAll {H : Type} : List (DataW H) → Nat
  | [] => 0
  | d :: r => uptoBulk d + uptoBulkAll r
def uptoBulkEntries {H : Type} : List (Lit × DataW H) → Nat
  | [] => 0
  | x :: r => uptoBulkEntry x + uptoBulkEntries r
def uptoBulkEntry {H : Type} : Lit × DataW H → Nat
  | (.string bytes, d) => bytes.length + uptoBulk d + 1
  | (_, d) => uptoBulk d + 1
 end
def uptoSmall : (H : Type) → List (DataW H) → Bool := fun _ ds => decide (uptoBulkAll ds ≤ 1048576)
def OpenSpec.upto (s : _root_.Go.ChangeSpec) : _root_.Go.OpenSpec := { _root_.Go.OpenSpec.ofChange s with cond := some uptoSmall }

/-- 'tamislaw01.WordTells', WHERE WHAT IT READS IS OF BULK AT MOST 1048576: true; the input reads as it did. -/
def wordTellsUptoRow : OpenClaim := { program := "ythcanciolelmgaa", sum := "ec17ca87d8543178705afb96f655a6c478924a49b4d7ca4d8a5eda783d01ed85", func := "tamis/tamislaw01.WordTells", spec := "wordTells", apart := false, narrowed := true }
def WordTellsUptoSaid : Prop := wordTellsUptoRow.holds Try.pinned (OpenSpec.upto wordTellsSpec)

/-- 'tamislaw01.WordUndo', WHERE WHAT IT READS IS OF BULK AT MOST 1048576: true; the input reads as it did. -/
def wordUndoUptoRow : OpenClaim := { program := "ythcanciolelmgaa", sum := "ec17ca87d8543178705afb96f655a6c478924a49b4d7ca4d8a5eda783d01ed85", func := "tamis/tamislaw01.WordUndo", spec := "wordUndo", apart := false, narrowed := true }
def WordUndoUptoSaid : Prop := wordUndoUptoRow.holds Try.pinned (OpenSpec.upto wordUndoSpec)

/-- 'tamislaw01.WordDiv', WHERE WHAT IT READS IS OF BULK AT MOST 1048576: true; the input reads as it did. -/
def wordDivUptoRow : OpenClaim := { program := "ythcanciolelmgaa", sum := "ec17ca87d8543178705afb96f655a6c478924a49b4d7ca4d8a5eda783d01ed85", func := "tamis/tamislaw01.WordDiv", spec := "wordDiv", apart := false, narrowed := true }
def WordDivUptoSaid : Prop := wordDivUptoRow.holds Try.pinned (OpenSpec.upto wordDivSpec)

/-- 'tamislaw01.WordMoves', WHERE WHAT IT READS IS OF BULK AT MOST 1048576: true; the input reads as it did. -/
def wordMovesUptoRow : OpenClaim := { program := "ythcanciolelmgaa", sum := "ec17ca87d8543178705afb96f655a6c478924a49b4d7ca4d8a5eda783d01ed85", func := "tamis/tamislaw01.WordMoves", spec := "wordMoves", apart := false, narrowed := true }
def WordMovesUptoSaid : Prop := wordMovesUptoRow.holds Try.pinned (OpenSpec.upto wordMovesSpec)

/-- 'tamislaw01.WordPairs', WHERE WHAT IT READS IS OF BULK AT MOST 1048576: true; the input reads as it did. -/
def wordPairsUptoRow : OpenClaim := { program := "ythcanciolelmgaa", sum := "ec17ca87d8543178705afb96f655a6c478924a49b4d7ca4d8a5eda783d01ed85", func := "tamis/tamislaw01.WordPairs", spec := "wordPairs", apart := false, narrowed := true }
def WordPairsUptoSaid : Prop := wordPairsUptoRow.holds Try.pinned (OpenSpec.upto wordPairsSpec)

/-- 'tamislaw01.WordBits', WHERE WHAT IT READS IS OF BULK AT MOST 1048576: true; the input reads as it did. -/
def wordBitsUptoRow : OpenClaim := { program := "ythcanciolelmgaa", sum := "ec17ca87d8543178705afb96f655a6c478924a49b4d7ca4d8a5eda783d01ed85", func := "tamis/tamislaw01.WordBits", spec := "wordBits", apart := false, narrowed := true }
def WordBitsUptoSaid : Prop := wordBitsUptoRow.holds Try.pinned (OpenSpec.upto wordBitsSpec)

/-- 'tamislaw01.WordAsks', WHERE WHAT IT READS IS OF BULK AT MOST 1048576: true; the input reads as it did. -/
def wordAsksUptoRow : OpenClaim := { program := "ythcanciolelmgaa", sum := "ec17ca87d8543178705afb96f655a6c478924a49b4d7ca4d8a5eda783d01ed85", func := "tamis/tamislaw01.WordAsks", spec := "wordAsks", apart := false, narrowed := true }
def WordAsksUptoSaid : Prop := wordAsksUptoRow.holds Try.pinned (OpenSpec.upto wordAsksSpec)

/-- 'tamislaw01.WordRing', WHERE WHAT IT READS IS OF BULK AT MOST 1048576: true; the input reads as it did. -/
def wordRingUptoRow : OpenClaim := { program := "ythcanciolelmgaa", sum := "ec17ca87d8543178705afb96f655a6c478924a49b4d7ca4d8a5eda783d01ed85", func := "tamis/tamislaw01.WordRing", spec := "wordRing", apart := false, narrowed := true }
def WordRingUptoSaid : Prop := wordRingUptoRow.holds Try.pinned (OpenSpec.upto wordRingSpec)

/-- 'tamislaw01.WordGates', WHERE WHAT IT READS IS OF BULK AT MOST 1048576: true; the input reads as it did. -/
def wordGatesUptoRow : OpenClaim := { program := "ythcanciolelmgaa", sum := "ec17ca87d8543178705afb96f655a6c478924a49b4d7ca4d8a5eda783d01ed85", func := "tamis/tamislaw01.WordGates", spec := "wordGates", apart := false, narrowed := true }
def WordGatesUptoSaid : Prop := wordGatesUptoRow.holds Try.pinned (OpenSpec.upto wordGatesSpec)

end Rows
end Go.Proofs.Ythcanciolelmgaa
