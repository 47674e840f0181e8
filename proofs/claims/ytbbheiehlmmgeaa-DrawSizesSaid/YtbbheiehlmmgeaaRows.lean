/-
  No cell of these rows narrows 'for every input' (looked for: loops, veiled, ifaces, maps, wideKeys, modest, calm, conditions, laid).
  DERIVED. THE GIVEN ROWS OF THIS SEAT. 5 by the template 'for every input the law returns true; each argument reads behind the call as it read before'; 0 by the template 'total and deterministic' (their statements: YtbbheiehlmmgeaaTotals.lean).
  GIVEN WITH THE SEED: the statements are not yours to turn. If you find one false, say at which input.
  Laid BY PROGRAM, IN A SANDBOX (cutbox-rows.mjs): the forced cells as the released guide's own fill.sh prints them over the translation 87ed20e07b158613… (all of the seat's roots in one cut). By AI agents, Wed Nov 11 2026. No macro, syntax, notation, axiom, sorry.
-/
import Derived.Test.YtbbheiehlmmgeaaChecked
import GoSem.Claim
import GoSem.ClaimJoined
import GoSem.ClaimMapViews
import Derived.JoinedTies
import Derived.KernelRfl
namespace Go.Proofs.Ytbbheiehlmmgeaa
/- THE CELL 'sum', in the pinned program and in every row, IS THE sha256 OF THE DUMP (.gsa) THAT YtbbheiehlmmgeaaProg.lean LOADS. Nothing in Lean hashes anything: it is a label: what it is worth is what the hold of that sum in a sandbox is worth. -/
noncomputable def Try.pinned : Pinned := { name := "ytbbheiehlmmgeaa", sum := "87ed20e07b15861386e0bac3f16509ee187df4ff66755f1cff23dac025bdac45", checked := Try.checked }
namespace Rows
def none {H : Type} : Left H := { results := [], args := [] }

/-- 'hostlerlaw05.DrawBelow': WHATEVER THE INPUT: true; the input reads as it did. -/
def drawBelowSpec : ChangeSpec := { name := "drawBelow", fn := fun _ => fun
  | [d1, d2] => { results := [.lit (.bool true)], args := [d1, d2] }
  | _ => none }
def drawBelowRow : OpenClaim := { program := "ytbbheiehlmmgeaa", sum := "87ed20e07b15861386e0bac3f16509ee187df4ff66755f1cff23dac025bdac45", func := "hostler/hostlerlaw05.DrawBelow", spec := "drawBelow", apart := false }
def DrawBelowSaid : Prop := drawBelowRow.holds Try.pinned (OpenSpec.ofChange drawBelowSpec)

/-- ITS FALSE NEIGHBOUR: 'it returns false'. Refute it at one input. -/
def drawBelowWrong : ChangeSpec := { name := "drawBelow", fn := fun _ => fun
  | [d1, d2] => { results := [.lit (.bool false)], args := [d1, d2] }
  | _ => none }
def DrawBelowWrongFalsely : Prop := drawBelowRow.holds Try.pinned (OpenSpec.ofChange drawBelowWrong)

/-- 'hostlerlaw05.DrawAll': WHATEVER THE INPUT: true; the input reads as it did. -/
def drawAllSpec : ChangeSpec := { name := "drawAll", fn := fun _ => fun
  | [d1, d2] => { results := [.lit (.bool true)], args := [d1, d2] }
  | _ => none }
def drawAllRow : OpenClaim := { program := "ytbbheiehlmmgeaa", sum := "87ed20e07b15861386e0bac3f16509ee187df4ff66755f1cff23dac025bdac45", func := "hostler/hostlerlaw05.DrawAll", spec := "drawAll", apart := false }
def DrawAllSaid : Prop := drawAllRow.holds Try.pinned (OpenSpec.ofChange drawAllSpec)

/-- ITS FALSE NEIGHBOUR: 'it returns false'. Refute it at one input. -/
def drawAllWrong : ChangeSpec := { name := "drawAll", fn := fun _ => fun
  | [d1, d2] => { results := [.lit (.bool false)], args := [d1, d2] }
  | _ => none }
def DrawAllWrongFalsely : Prop := drawAllRow.holds Try.pinned (OpenSpec.ofChange drawAllWrong)

/-- 'hostlerlaw05.DrawNumbers': WHATEVER THE INPUT: true; the input reads as it did. -/
def drawNumbersSpec : ChangeSpec := { name := "drawNumbers", fn := fun _ => fun
  | [d1, d2] => { results := [.lit (.bool true)], args := [d1, d2] }
  | _ => none }
def drawNumbersRow : OpenClaim := { program := "ytbbheiehlmmgeaa", sum := "87ed20e07b15861386e0bac3f16509ee187df4ff66755f1cff23dac025bdac45", func := "hostler/hostlerlaw05.DrawNumbers", spec := "drawNumbers", apart := false }
def DrawNumbersSaid : Prop := drawNumbersRow.holds Try.pinned (OpenSpec.ofChange drawNumbersSpec)

/-- ITS FALSE NEIGHBOUR: 'it returns false'. Refute it at one input. -/
def drawNumbersWrong : ChangeSpec := { name := "drawNumbers", fn := fun _ => fun
  | [d1, d2] => { results := [.lit (.bool false)], args := [d1, d2] }
  | _ => none }
def DrawNumbersWrongFalsely : Prop := drawNumbersRow.holds Try.pinned (OpenSpec.ofChange drawNumbersWrong)

/-- 'hostlerlaw05.DrawBounds': WHATEVER THE INPUT: true; the input reads as it did. -/
def drawBoundsSpec : ChangeSpec := { name := "drawBounds", fn := fun _ => fun
  | [d1, d2] => { results := [.lit (.bool true)], args := [d1, d2] }
  | _ => none }
def drawBoundsRow : OpenClaim := { program := "ytbbheiehlmmgeaa", sum := "87ed20e07b15861386e0bac3f16509ee187df4ff66755f1cff23dac025bdac45", func := "hostler/hostlerlaw05.DrawBounds", spec := "drawBounds", apart := false }
def DrawBoundsSaid : Prop := drawBoundsRow.holds Try.pinned (OpenSpec.ofChange drawBoundsSpec)

/-- ITS FALSE NEIGHBOUR: 'it returns false'. Refute it at one input. -/
def drawBoundsWrong : ChangeSpec := { name := "drawBounds", fn := fun _ => fun
  | [d1, d2] => { results := [.lit (.bool false)], args := [d1, d2] }
  | _ => none }
def DrawBoundsWrongFalsely : Prop := drawBoundsRow.holds Try.pinned (OpenSpec.ofChange drawBoundsWrong)

/-- 'hostlerlaw05.DrawSizes': WHATEVER THE INPUT: true; the input reads as it did. -/
def drawSizesSpec : ChangeSpec := { name := "drawSizes", fn := fun _ => fun
  | [d1, d2] => { results := [.lit (.bool true)], args := [d1, d2] }
  | _ => none }
def drawSizesRow : OpenClaim := { program := "ytbbheiehlmmgeaa", sum := "87ed20e07b15861386e0bac3f16509ee187df4ff66755f1cff23dac025bdac45", func := "hostler/hostlerlaw05.DrawSizes", spec := "drawSizes", apart := false }
def DrawSizesSaid : Prop := drawSizesRow.holds Try.pinned (OpenSpec.ofChange drawSizesSpec)

/-- ITS FALSE NEIGHBOUR: 'it returns false'. Refute it at one input. -/
def drawSizesWrong : ChangeSpec := { name := "drawSizes", fn := fun _ => fun
  | [d1, d2] => { results := [.lit (.bool false)], args := [d1, d2] }
  | _ => none }
def DrawSizesWrongFalsely : Prop := drawSizesRow.holds Try.pinned (OpenSpec.ofChange drawSizesWrong)

/- THE SECOND FORM. 'bulk': how many values and letters a reading holds, each counted each time it is reached (what is shared counts as often as it is met; a slice's spare places count too). A statement '..UptoSaid' is the law's where the arguments, and the package variables that the reading takes, are together of bulk at most 1048576: NARROWER than '..Said'. Prove '..Said' where nothing that the law and all that it calls make is longer than what came in: it says more and counts as full. Else prove '..UptoSaid'. A law counts once. -/
mutual
def uptoBulk {H : Type} : DataW H → Nat
  | .lit (.string bytes) => bytes.length + 1
  | .lit _ => 1
  | .nil => 1
  | .ptr d => uptoBulk d + 1
  | .slice elems spare => uptoBulkAll elems + uptoBulkAll spare + 1
  | .agg parts => uptoBulkAll parts + 1
  | .iface _ d => uptoBulk d + 1
  | .map entries => uptoBulkEntries entries + 1
  | .held _ => 1
def uptoBulkAll {H : Type} : List (DataW H) → Nat
  | [] => 0
  | d :: r => uptoBulk d + uptoBulkAll r
def uptoBulkEntries {H : Type} : List (Lit × DataW H) → Nat
  | [] => 0
  | x :: r => uptoBulkEntry x + uptoBulkEntries r
def uptoBulkEntry {H : Type} : Lit × DataW H → Nat
  | (.string bytes, d) => bytes.length + uptoBulk d + 1
  | (_, d) => uptoBulk d + 1
 end
def uptoSmall : (H : Type) → List (DataW H) → Bool := fun _ ds => decide (uptoBulkAll ds ≤ 1048576)
def OpenSpec.upto (s : _root_.Go.ChangeSpec) : _root_.Go.OpenSpec := { _root_.Go.OpenSpec.ofChange s with cond := some uptoSmall }

/-- 'hostlerlaw05.DrawBelow', WHERE WHAT IT READS IS OF BULK AT MOST 1048576: true; the input reads as it did. -/
def drawBelowUptoRow : OpenClaim := { program := "ytbbheiehlmmgeaa", sum := "87ed20e07b15861386e0bac3f16509ee187df4ff66755f1cff23dac025bdac45", func := "hostler/hostlerlaw05.DrawBelow", spec := "drawBelow", apart := false, narrowed := true }
def DrawBelowUptoSaid : Prop := drawBelowUptoRow.holds Try.pinned (OpenSpec.upto drawBelowSpec)

/-- 'hostlerlaw05.DrawAll', WHERE WHAT IT READS IS OF BULK AT MOST 1048576: true; the input reads as it did. -/
def drawAllUptoRow : OpenClaim := { program := "ytbbheiehlmmgeaa", sum := "87ed20e07b15861386e0bac3f16509ee187df4ff66755f1cff23dac025bdac45", func := "hostler/hostlerlaw05.DrawAll", spec := "drawAll", apart := false, narrowed := true }
def DrawAllUptoSaid : Prop := drawAllUptoRow.holds Try.pinned (OpenSpec.upto drawAllSpec)

/-- 'hostlerlaw05.DrawNumbers', WHERE WHAT IT READS IS OF BULK AT MOST 1048576: true; the input reads as it did. -/
def drawNumbersUptoRow : OpenClaim := { program := "ytbbheiehlmmgeaa", sum := "87ed20e07b15861386e0bac3f16509ee187df4ff66755f1cff23dac025bdac45", func := "hostler/hostlerlaw05.DrawNumbers", spec := "drawNumbers", apart := false, narrowed := true }
def DrawNumbersUptoSaid : Prop := drawNumbersUptoRow.holds Try.pinned (OpenSpec.upto drawNumbersSpec)

/-- 'hostlerlaw05.DrawBounds', WHERE WHAT IT READS IS OF BULK AT MOST 1048576: true; the input reads as it did. -/
def drawBoundsUptoRow : OpenClaim := { program := "ytbbheiehlmmgeaa", sum := "87ed20e07b15861386e0bac3f16509ee187df4ff66755f1cff23dac025bdac45", func := "hostler/hostlerlaw05.DrawBounds", spec := "drawBounds", apart := false, narrowed := true }
def DrawBoundsUptoSaid : Prop := drawBoundsUptoRow.holds Try.pinned (OpenSpec.upto drawBoundsSpec)

/-- 'hostlerlaw05.DrawSizes', WHERE WHAT IT READS IS OF BULK AT MOST 1048576: true; the input reads as it did. -/
def drawSizesUptoRow : OpenClaim := { program := "ytbbheiehlmmgeaa", sum := "87ed20e07b15861386e0bac3f16509ee187df4ff66755f1cff23dac025bdac45", func := "hostler/hostlerlaw05.DrawSizes", spec := "drawSizes", apart := false, narrowed := true }
def DrawSizesUptoSaid : Prop := drawSizesUptoRow.holds Try.pinned (OpenSpec.upto drawSizesSpec)

end Rows
end Go.Proofs.Ytbbheiehlmmgeaa
