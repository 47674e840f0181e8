/-
  No cell of these rows narrows 'for every input' (looked for: loops, veiled, ifaces, maps, wideKeys, modest, calm, conditions, laid).
  DERIVED. THE GIVEN ROWS OF THIS SEAT. 5 by the template 'for every input the law returns true; each argument reads behind the call as it read before'; 0 by the template 'total and deterministic' (their statements: YtghcgnahdeaofaaTotals.lean).
  GIVEN WITH THE SEED: the statements are not yours to turn. If you find one false, say at which input.
  Laid BY PROGRAM, IN A SANDBOX (cutbox-rows.mjs): the forced cells as the released guide's own fill.sh prints them over the translation aa42bc6f2b70cd07… (all of the seat's roots in one cut). By AI agents, Wed Nov 11 2026. No macro, syntax, notation, axiom, sorry.
-/
import Derived.Test.YtghcgnahdeaofaaChecked
import GoSem.Claim
import GoSem.ClaimJoined
import GoSem.ClaimMapViews
import Derived.JoinedTies
import Derived.KernelRfl
namespace Go.Proofs.Ytghcgnahdeaofaa
/- THE CELL 'sum', in the pinned program and in every row, IS THE sha256 OF THE DUMP (.gsa) THAT YtghcgnahdeaofaaProg.lean LOADS. Nothing in Lean hashes anything: it is a label: what it is worth is what the hold of that sum in a sandbox is worth. -/
noncomputable def Try.pinned : Pinned := { name := "ytghcgnahdeaofaa", sum := "aa42bc6f2b70cd07b974ff66af526a341ff5346db4cb75d395e00713bebb4c41", checked := Try.checked }
namespace Rows
def none {H : Type} : Left H := { results := [], args := [] }

/-- 'hostlerlaw03.ReaderNil': WHATEVER THE INPUT: true; the input reads as it did. -/
def readerNilSpec : ChangeSpec := { name := "readerNil", fn := fun _ => fun
  | [d] => { results := [.lit (.bool true)], args := [d] }
  | _ => none }
def readerNilRow : OpenClaim := { program := "ytghcgnahdeaofaa", sum := "aa42bc6f2b70cd07b974ff66af526a341ff5346db4cb75d395e00713bebb4c41", func := "hostler/hostlerlaw03.ReaderNil", spec := "readerNil", apart := false }
def ReaderNilSaid : Prop := readerNilRow.holds Try.pinned (OpenSpec.ofChange readerNilSpec)

/-- ITS FALSE NEIGHBOUR: 'it returns false'. Refute it at one input. -/
def readerNilWrong : ChangeSpec := { name := "readerNil", fn := fun _ => fun
  | [d] => { results := [.lit (.bool false)], args := [d] }
  | _ => none }
def ReaderNilWrongFalsely : Prop := readerNilRow.holds Try.pinned (OpenSpec.ofChange readerNilWrong)

/-- 'hostlerlaw03.ReaderAfter': WHATEVER THE INPUT: true; the input reads as it did. -/
def readerAfterSpec : ChangeSpec := { name := "readerAfter", fn := fun _ => fun
  | [d1, d2] => { results := [.lit (.bool true)], args := [d1, d2] }
  | _ => none }
def readerAfterRow : OpenClaim := { program := "ytghcgnahdeaofaa", sum := "aa42bc6f2b70cd07b974ff66af526a341ff5346db4cb75d395e00713bebb4c41", func := "hostler/hostlerlaw03.ReaderAfter", spec := "readerAfter", apart := false }
def ReaderAfterSaid : Prop := readerAfterRow.holds Try.pinned (OpenSpec.ofChange readerAfterSpec)

/-- ITS FALSE NEIGHBOUR: 'it returns false'. Refute it at one input. -/
def readerAfterWrong : ChangeSpec := { name := "readerAfter", fn := fun _ => fun
  | [d1, d2] => { results := [.lit (.bool false)], args := [d1, d2] }
  | _ => none }
def ReaderAfterWrongFalsely : Prop := readerAfterRow.holds Try.pinned (OpenSpec.ofChange readerAfterWrong)

/-- 'hostlerlaw03.ReaderPieces': WHATEVER THE INPUT: true; the input reads as it did. -/
def readerPiecesSpec : ChangeSpec := { name := "readerPieces", fn := fun _ => fun
  | [d1, d2, d3] => { results := [.lit (.bool true)], args := [d1, d2, d3] }
  | _ => none }
def readerPiecesRow : OpenClaim := { program := "ytghcgnahdeaofaa", sum := "aa42bc6f2b70cd07b974ff66af526a341ff5346db4cb75d395e00713bebb4c41", func := "hostler/hostlerlaw03.ReaderPieces", spec := "readerPieces", apart := false }
def ReaderPiecesSaid : Prop := readerPiecesRow.holds Try.pinned (OpenSpec.ofChange readerPiecesSpec)

/-- ITS FALSE NEIGHBOUR: 'it returns false'. Refute it at one input. -/
def readerPiecesWrong : ChangeSpec := { name := "readerPieces", fn := fun _ => fun
  | [d1, d2, d3] => { results := [.lit (.bool false)], args := [d1, d2, d3] }
  | _ => none }
def ReaderPiecesWrongFalsely : Prop := readerPiecesRow.holds Try.pinned (OpenSpec.ofChange readerPiecesWrong)

/-- 'hostlerlaw03.ReaderSplits': WHATEVER THE INPUT: true; the input reads as it did. -/
def readerSplitsSpec : ChangeSpec := { name := "readerSplits", fn := fun _ => fun
  | [d1, d2] => { results := [.lit (.bool true)], args := [d1, d2] }
  | _ => none }
def readerSplitsRow : OpenClaim := { program := "ytghcgnahdeaofaa", sum := "aa42bc6f2b70cd07b974ff66af526a341ff5346db4cb75d395e00713bebb4c41", func := "hostler/hostlerlaw03.ReaderSplits", spec := "readerSplits", apart := false }
def ReaderSplitsSaid : Prop := readerSplitsRow.holds Try.pinned (OpenSpec.ofChange readerSplitsSpec)

/-- ITS FALSE NEIGHBOUR: 'it returns false'. Refute it at one input. -/
def readerSplitsWrong : ChangeSpec := { name := "readerSplits", fn := fun _ => fun
  | [d1, d2] => { results := [.lit (.bool false)], args := [d1, d2] }
  | _ => none }
def ReaderSplitsWrongFalsely : Prop := readerSplitsRow.holds Try.pinned (OpenSpec.ofChange readerSplitsWrong)

/-- 'hostlerlaw03.ReaderWhole': WHATEVER THE INPUT: true; the input reads as it did. -/
def readerWholeSpec : ChangeSpec := { name := "readerWhole", fn := fun _ => fun
  | [d1, d2] => { results := [.lit (.bool true)], args := [d1, d2] }
  | _ => none }
def readerWholeRow : OpenClaim := { program := "ytghcgnahdeaofaa", sum := "aa42bc6f2b70cd07b974ff66af526a341ff5346db4cb75d395e00713bebb4c41", func := "hostler/hostlerlaw03.ReaderWhole", spec := "readerWhole", apart := false }
def ReaderWholeSaid : Prop := readerWholeRow.holds Try.pinned (OpenSpec.ofChange readerWholeSpec)

/-- ITS FALSE NEIGHBOUR: 'it returns false'. Refute it at one input. -/
def readerWholeWrong : ChangeSpec := { name := "readerWhole", fn := fun _ => fun
  | [d1, d2] => { results := [.lit (.bool false)], args := [d1, d2] }
  | _ => none }
def ReaderWholeWrongFalsely : Prop := readerWholeRow.holds Try.pinned (OpenSpec.ofChange readerWholeWrong)

/- THE SECOND FORM. 'bulk': how many values and letters a reading holds, each counted each time it is reached (what is shared counts as often as it is met; a slice's spare places count too). A statement '..UptoSaid' is the law's where the arguments, and the package variables that the reading takes, are together of bulk at most 1048576: NARROWER than '..Said'. Prove '..Said' where nothing that the law and all that it calls make is longer than what came in: it says more and counts as full. Else prove '..UptoSaid'. A law counts once. -/
mutual
def uptoBulk {H : Type} : DataW H → Nat
  | .lit (.string bytes) => bytes.length + 1
  | .lit _ => 1
  | .nil => 1
  | .ptr d => uptoBulk d + 1
  | .slice elems spare => uptoBulkAll elems + uptoBulkAll spare + 1
  | .agg parts => uptoBulkAll parts + 1
  | .iface _ d => uptoBulk d + 1
  | .map entries => uptoBulkEntries entries + 1
  | .held _ => 1
def uptoBulkAll {H : Type} : List (DataW H) → Nat
  | [] => 0
  | d :: r => uptoBulk d + uptoBulkAll r
def uptoBulkEntries {H : Type} : List (Lit × DataW H) → Nat
  | [] => 0
  | x :: r => uptoBulkEntry x + uptoBulkEntries r
def uptoBulkEntry {H : Type} : Lit × DataW H → Nat
  | (.string bytes, d) => bytes.length + uptoBulk d + 1
  | (_, d) => uptoBulk d + 1
 end
def uptoSmall : (H : Type) → List (DataW H) → Bool := fun _ ds => decide (uptoBulkAll ds ≤ 1048576)
def OpenSpec.upto (s : _root_.Go.ChangeSpec) : _root_.Go.OpenSpec := { _root_.Go.OpenSpec.ofChange s with cond := some uptoSmall }

/-- 'hostlerlaw03.ReaderNil', WHERE WHAT IT READS IS OF BULK AT MOST 1048576: true; the input reads as it did. -/
def readerNilUptoRow : OpenClaim := { program := "ytghcgnahdeaofaa", sum := "aa42bc6f2b70cd07b974ff66af526a341ff5346db4cb75d395e00713bebb4c41", func := "hostler/hostlerlaw03.ReaderNil", spec := "readerNil", apart := false, narrowed := true }
def ReaderNilUptoSaid : Prop := readerNilUptoRow.holds Try.pinned (OpenSpec.upto readerNilSpec)

/-- 'hostlerlaw03.ReaderAfter', WHERE WHAT IT READS IS OF BULK AT MOST 1048576: true; the input reads as it did. -/
def readerAfterUptoRow : OpenClaim := { program := "ytghcgnahdeaofaa", sum := "aa42bc6f2b70cd07b974ff66af526a341ff5346db4cb75d395e00713bebb4c41", func := "hostler/hostlerlaw03.ReaderAfter", spec := "readerAfter", apart := false, narrowed := true }
def ReaderAfterUptoSaid : Prop := readerAfterUptoRow.holds Try.pinned (OpenSpec.upto readerAfterSpec)

/-- 'hostlerlaw03.ReaderPieces', WHERE WHAT IT READS IS OF BULK AT MOST 1048576: true; the input reads as it did. -/
def readerPiecesUptoRow : OpenClaim := { program := "ytghcgnahdeaofaa", sum := "aa42bc6f2b70cd07b974ff66af526a341ff5346db4cb75d395e00713bebb4c41", func := "hostler/hostlerlaw03.ReaderPieces", spec := "readerPieces", apart := false, narrowed := true }
def ReaderPiecesUptoSaid : Prop := readerPiecesUptoRow.holds Try.pinned (OpenSpec.upto readerPiecesSpec)

/-- 'hostlerlaw03.ReaderSplits', WHERE WHAT IT READS IS OF BULK AT MOST 1048576: true; the input reads as it did. -/
def readerSplitsUptoRow : OpenClaim := { program := "ytghcgnahdeaofaa", sum := "aa42bc6f2b70cd07b974ff66af526a341ff5346db4cb75d395e00713bebb4c41", func := "hostler/hostlerlaw03.ReaderSplits", spec := "readerSplits", apart := false, narrowed := true }
def ReaderSplitsUptoSaid : Prop := readerSplitsUptoRow.holds Try.pinned (OpenSpec.upto readerSplitsSpec)

/-- 'hostlerlaw03.ReaderWhole', WHERE WHAT IT READS IS OF BULK AT MOST 1048576: true; the input reads as it did. -/
def readerWholeUptoRow : OpenClaim := { program := "ytghcgnahdeaofaa", sum := "aa42bc6f2b70cd07b974ff66af526a341ff5346db4cb75d395e00713bebb4c41", func := "hostler/hostlerlaw03.ReaderWhole", spec := "readerWhole", apart := false, narrowed := true }
def ReaderWholeUptoSaid : Prop := readerWholeUptoRow.holds Try.pinned (OpenSpec.upto readerWholeSpec)

end Rows
end Go.Proofs.Ytghcgnahdeaofaa
