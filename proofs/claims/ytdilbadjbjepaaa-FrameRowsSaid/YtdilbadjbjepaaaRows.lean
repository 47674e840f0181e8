/-
  No cell of these rows narrows 'for every input' (looked for: loops, veiled, ifaces, maps, wideKeys, modest, calm, conditions, laid).
  DERIVED. THE GIVEN ROWS OF THIS SEAT. 6 by the template 'for every input the law returns true; each argument reads behind the call as it read before'; 0 by the template 'total and deterministic' (their statements: YtdilbadjbjepaaaTotals.lean).
  GIVEN WITH THE SEED: the statements are not yours to turn. If you find one false, say at which input.
  Laid BY PROGRAM, IN A SANDBOX (cutbox-rows.mjs): the forced cells as the released guide's own fill.sh prints them over the translation 3d0035c24057257f… (all of the seat's roots in one cut). By AI agents, Wed Nov 11 2026. No macro, syntax, notation, axiom, sorry.
-/
import Derived.Test.YtdilbadjbjepaaaChecked
import GoSem.Claim
import GoSem.ClaimJoined
import GoSem.ClaimMapViews
import Derived.JoinedTies
import Derived.KernelRfl
namespace Go.Proofs.Ytdilbadjbjepaaa
/- THE CELL 'sum', in the pinned program and in every row, IS THE sha256 OF THE DUMP (.gsa) THAT YtdilbadjbjepaaaProg.lean LOADS. Nothing in Lean hashes anything: it is a label: what it is worth is what the hold of that sum in a sandbox is worth. -/
noncomputable def Try.pinned : Pinned := { name := "ytdilbadjbjepaaa", sum := "3d0035c24057257f51823fffa7c7d6d85b98563f519c0fd0988ebb5b27e39d56", checked := Try.checked }
namespace Rows
def none {H : Type} : Left H := { results := [], args := [] }

/-- 'hostlerlaw02.FrameBack': WHATEVER THE INPUT: true; the input reads as it did. -/
def frameBackSpec : ChangeSpec := { name := "frameBack", fn := fun _ => fun
  | [d1, d2] => { results := [.lit (.bool true)], args := [d1, d2] }
  | _ => none }
def frameBackRow : OpenClaim := { program := "ytdilbadjbjepaaa", sum := "3d0035c24057257f51823fffa7c7d6d85b98563f519c0fd0988ebb5b27e39d56", func := "hostler/hostlerlaw02.FrameBack", spec := "frameBack", apart := false }
def FrameBackSaid : Prop := frameBackRow.holds Try.pinned (OpenSpec.ofChange frameBackSpec)

/-- ITS FALSE NEIGHBOUR: 'it returns false'. Refute it at one input. -/
def frameBackWrong : ChangeSpec := { name := "frameBack", fn := fun _ => fun
  | [d1, d2] => { results := [.lit (.bool false)], args := [d1, d2] }
  | _ => none }
def FrameBackWrongFalsely : Prop := frameBackRow.holds Try.pinned (OpenSpec.ofChange frameBackWrong)

/-- 'hostlerlaw02.FrameCaps': WHATEVER THE INPUT: true; the input reads as it did. -/
def frameCapsSpec : ChangeSpec := { name := "frameCaps", fn := fun _ => fun
  | [d1, d2, d3] => { results := [.lit (.bool true)], args := [d1, d2, d3] }
  | _ => none }
def frameCapsRow : OpenClaim := { program := "ytdilbadjbjepaaa", sum := "3d0035c24057257f51823fffa7c7d6d85b98563f519c0fd0988ebb5b27e39d56", func := "hostler/hostlerlaw02.FrameCaps", spec := "frameCaps", apart := false }
def FrameCapsSaid : Prop := frameCapsRow.holds Try.pinned (OpenSpec.ofChange frameCapsSpec)

/-- ITS FALSE NEIGHBOUR: 'it returns false'. Refute it at one input. -/
def frameCapsWrong : ChangeSpec := { name := "frameCaps", fn := fun _ => fun
  | [d1, d2, d3] => { results := [.lit (.bool false)], args := [d1, d2, d3] }
  | _ => none }
def FrameCapsWrongFalsely : Prop := frameCapsRow.holds Try.pinned (OpenSpec.ofChange frameCapsWrong)

/-- 'hostlerlaw02.FrameWrites': WHATEVER THE INPUT: true; the input reads as it did. -/
def frameWritesSpec : ChangeSpec := { name := "frameWrites", fn := fun _ => fun
  | [d1, d2] => { results := [.lit (.bool true)], args := [d1, d2] }
  | _ => none }
def frameWritesRow : OpenClaim := { program := "ytdilbadjbjepaaa", sum := "3d0035c24057257f51823fffa7c7d6d85b98563f519c0fd0988ebb5b27e39d56", func := "hostler/hostlerlaw02.FrameWrites", spec := "frameWrites", apart := false }
def FrameWritesSaid : Prop := frameWritesRow.holds Try.pinned (OpenSpec.ofChange frameWritesSpec)

/-- ITS FALSE NEIGHBOUR: 'it returns false'. Refute it at one input. -/
def frameWritesWrong : ChangeSpec := { name := "frameWrites", fn := fun _ => fun
  | [d1, d2] => { results := [.lit (.bool false)], args := [d1, d2] }
  | _ => none }
def FrameWritesWrongFalsely : Prop := frameWritesRow.holds Try.pinned (OpenSpec.ofChange frameWritesWrong)

/-- 'hostlerlaw02.FrameKinds': WHATEVER THE INPUT: true; the input reads as it did. -/
def frameKindsSpec : ChangeSpec := { name := "frameKinds", fn := fun _ => fun
  | [d1, d2] => { results := [.lit (.bool true)], args := [d1, d2] }
  | _ => none }
def frameKindsRow : OpenClaim := { program := "ytdilbadjbjepaaa", sum := "3d0035c24057257f51823fffa7c7d6d85b98563f519c0fd0988ebb5b27e39d56", func := "hostler/hostlerlaw02.FrameKinds", spec := "frameKinds", apart := false }
def FrameKindsSaid : Prop := frameKindsRow.holds Try.pinned (OpenSpec.ofChange frameKindsSpec)

/-- ITS FALSE NEIGHBOUR: 'it returns false'. Refute it at one input. -/
def frameKindsWrong : ChangeSpec := { name := "frameKinds", fn := fun _ => fun
  | [d1, d2] => { results := [.lit (.bool false)], args := [d1, d2] }
  | _ => none }
def FrameKindsWrongFalsely : Prop := frameKindsRow.holds Try.pinned (OpenSpec.ofChange frameKindsWrong)

/-- 'hostlerlaw02.FrameReads': WHATEVER THE INPUT: true; the input reads as it did. -/
def frameReadsSpec : ChangeSpec := { name := "frameReads", fn := fun _ => fun
  | [d1, d2] => { results := [.lit (.bool true)], args := [d1, d2] }
  | _ => none }
def frameReadsRow : OpenClaim := { program := "ytdilbadjbjepaaa", sum := "3d0035c24057257f51823fffa7c7d6d85b98563f519c0fd0988ebb5b27e39d56", func := "hostler/hostlerlaw02.FrameReads", spec := "frameReads", apart := false }
def FrameReadsSaid : Prop := frameReadsRow.holds Try.pinned (OpenSpec.ofChange frameReadsSpec)

/-- ITS FALSE NEIGHBOUR: 'it returns false'. Refute it at one input. -/
def frameReadsWrong : ChangeSpec := { name := "frameReads", fn := fun _ => fun
  | [d1, d2] => { results := [.lit (.bool false)], args := [d1, d2] }
  | _ => none }
def FrameReadsWrongFalsely : Prop := frameReadsRow.holds Try.pinned (OpenSpec.ofChange frameReadsWrong)

/-- 'hostlerlaw02.FrameRows': WHATEVER THE INPUT: true; the input reads as it did. -/
def frameRowsSpec : ChangeSpec := { name := "frameRows", fn := fun _ => fun
  | [d1, d2] => { results := [.lit (.bool true)], args := [d1, d2] }
  | _ => none }
def frameRowsRow : OpenClaim := { program := "ytdilbadjbjepaaa", sum := "3d0035c24057257f51823fffa7c7d6d85b98563f519c0fd0988ebb5b27e39d56", func := "hostler/hostlerlaw02.FrameRows", spec := "frameRows", apart := false }
def FrameRowsSaid : Prop := frameRowsRow.holds Try.pinned (OpenSpec.ofChange frameRowsSpec)

/-- ITS FALSE NEIGHBOUR: 'it returns false'. Refute it at one input. -/
def frameRowsWrong : ChangeSpec := { name := "frameRows", fn := fun _ => fun
  | [d1, d2] => { results := [.lit (.bool false)], args := [d1, d2] }
  | _ => none }
def FrameRowsWrongFalsely : Prop := frameRowsRow.holds Try.pinned (OpenSpec.ofChange frameRowsWrong)

/- THE SECOND FORM. 'bulk': how many values and letters a reading holds, each counted each time it is reached (what is shared counts as often as it is met; a slice's spare places count too). A statement '..UptoSaid' is the law's where the arguments, and the package variables that the reading takes, are together of bulk at most 1048576: NARROWER than '..Said'. Prove '..Said' where nothing that the law and all that it calls make is longer than what came in: it says more and counts as full. Else prove '..UptoSaid'. A law counts once. -/
mutual
def uptoBulk {H : Type} : DataW H → Nat
  | .lit (.string bytes) => bytes.length + 1
  | .lit _ => 1
  | .nil => 1
  | .ptr d => uptoBulk d + 1
  | .slice elems spare => uptoBulkAll elems + uptoBulkAll spare + 1
  | .agg parts => uptoBulkAll parts + 1
  | .iface _ d => uptoBulk d + 1
  | .map entries => uptoBulkEntries entries + 1
  | .held _ => 1
def uptoBulkAll {H : Type} : List (DataW H) → Nat
  | [] => 0
  | d :: r => uptoBulk d + uptoBulkAll r
def uptoBulkEntries {H : Type} : List (Lit × DataW H) → Nat
  | [] => 0
  | x :: r => uptoBulkEntry x + uptoBulkEntries r
def uptoBulkEntry {H : Type} : Lit × DataW H → Nat
  | (.string bytes, d) => bytes.length + uptoBulk d + 1
  | (_, d) => uptoBulk d + 1
 end
def uptoSmall : (H : Type) → List (DataW H) → Bool := fun _ ds => decide (uptoBulkAll ds ≤ 1048576)
def OpenSpec.upto (s : _root_.Go.ChangeSpec) : _root_.Go.OpenSpec := { _root_.Go.OpenSpec.ofChange s with cond := some uptoSmall }

/-- 'hostlerlaw02.FrameBack', WHERE WHAT IT READS IS OF BULK AT MOST 1048576: true; the input reads as it did. -/
def frameBackUptoRow : OpenClaim := { program := "ytdilbadjbjepaaa", sum := "3d0035c24057257f51823fffa7c7d6d85b98563f519c0fd0988ebb5b27e39d56", func := "hostler/hostlerlaw02.FrameBack", spec := "frameBack", apart := false, narrowed := true }
def FrameBackUptoSaid : Prop := frameBackUptoRow.holds Try.pinned (OpenSpec.upto frameBackSpec)

/-- 'hostlerlaw02.FrameCaps', WHERE WHAT IT READS IS OF BULK AT MOST 1048576: true; the input reads as it did. -/
def frameCapsUptoRow : OpenClaim := { program := "ytdilbadjbjepaaa", sum := "3d0035c24057257f51823fffa7c7d6d85b98563f519c0fd0988ebb5b27e39d56", func := "hostler/hostlerlaw02.FrameCaps", spec := "frameCaps", apart := false, narrowed := true }
def FrameCapsUptoSaid : Prop := frameCapsUptoRow.holds Try.pinned (OpenSpec.upto frameCapsSpec)

/-- 'hostlerlaw02.FrameWrites', WHERE WHAT IT READS IS OF BULK AT MOST 1048576: true; the input reads as it did. -/
def frameWritesUptoRow : OpenClaim := { program := "ytdilbadjbjepaaa", sum := "3d0035c24057257f51823fffa7c7d6d85b98563f519c0fd0988ebb5b27e39d56", func := "hostler/hostlerlaw02.FrameWrites", spec := "frameWrites", apart := false, narrowed := true }
def FrameWritesUptoSaid : Prop := frameWritesUptoRow.holds Try.pinned (OpenSpec.upto frameWritesSpec)

/-- 'hostlerlaw02.FrameKinds', WHERE WHAT IT READS IS OF BULK AT MOST 1048576: true; the input reads as it did. -/
def frameKindsUptoRow : OpenClaim := { program := "ytdilbadjbjepaaa", sum := "3d0035c24057257f51823fffa7c7d6d85b98563f519c0fd0988ebb5b27e39d56", func := "hostler/hostlerlaw02.FrameKinds", spec := "frameKinds", apart := false, narrowed := true }
def FrameKindsUptoSaid : Prop := frameKindsUptoRow.holds Try.pinned (OpenSpec.upto frameKindsSpec)

/-- 'hostlerlaw02.FrameReads', WHERE WHAT IT READS IS OF BULK AT MOST 1048576: true; the input reads as it did. -/
def frameReadsUptoRow : OpenClaim := { program := "ytdilbadjbjepaaa", sum := "3d0035c24057257f51823fffa7c7d6d85b98563f519c0fd0988ebb5b27e39d56", func := "hostler/hostlerlaw02.FrameReads", spec := "frameReads", apart := false, narrowed := true }
def FrameReadsUptoSaid : Prop := frameReadsUptoRow.holds Try.pinned (OpenSpec.upto frameReadsSpec)

/-- 'hostlerlaw02.FrameRows', WHERE WHAT IT READS IS OF BULK AT MOST 1048576: true; the input reads as it did. -/
def frameRowsUptoRow : OpenClaim := { program := "ytdilbadjbjepaaa", sum := "3d0035c24057257f51823fffa7c7d6d85b98563f519c0fd0988ebb5b27e39d56", func := "hostler/hostlerlaw02.FrameRows", spec := "frameRows", apart := false, narrowed := true }
def FrameRowsUptoSaid : Prop := frameRowsUptoRow.holds Try.pinned (OpenSpec.upto frameRowsSpec)

end Rows
end Go.Proofs.Ytdilbadjbjepaaa
