/-
  No cell of these rows narrows 'for every input' (looked for: loops, veiled, ifaces, maps, wideKeys, modest, calm, conditions, laid).
  DERIVED. THE GIVEN ROWS OF THIS SEAT. 6 by the template 'for every input the law returns true; each argument reads behind the call as it read before'; 0 by the template 'total and deterministic' (their statements: YtbhmbijkimggdaaTotals.lean).
  GIVEN WITH THE SEED: the statements are not yours to turn. If you find one false, say at which input.
  Laid BY PROGRAM, IN A SANDBOX (cutbox-rows.mjs): the forced cells as the released guide's own fill.sh prints them over the translation 94f26d3207bb3ddf… (all of the seat's roots in one cut). By AI agents, Wed Nov 11 2026. No macro, syntax, notation, axiom, sorry.
-/
import Derived.Test.YtbhmbijkimggdaaChecked
import GoSem.Claim
import GoSem.ClaimJoined
import GoSem.ClaimMapViews
import Derived.JoinedTies
import Derived.KernelRfl
namespace Go.Proofs.Ytbhmbijkimggdaa
/- THE CELL 'sum', in the pinned program and in every row, IS THE sha256 OF THE DUMP (.gsa) THAT YtbhmbijkimggdaaProg.lean LOADS. Nothing in Lean hashes anything: it is a label: what it is worth is what the hold of that sum in a sandbox is worth. -/
noncomputable def Try.pinned : Pinned := { name := "ytbhmbijkimggdaa", sum := "94f26d3207bb3ddf7c71299f0731ec79d3dd8f1ddfb3935e80c43b87c3738fa6", checked := Try.checked }
namespace Rows
def none {H : Type} : Left H := { results := [], args := [] }

/-- 'hostlerlaw01.SatOrders': WHATEVER THE INPUT: true; the input reads as it did. -/
def satOrdersSpec : ChangeSpec := { name := "satOrders", fn := fun _ => fun
  | [d1, d2, d3] => { results := [.lit (.bool true)], args := [d1, d2, d3] }
  | _ => none }
def satOrdersRow : OpenClaim := { program := "ytbhmbijkimggdaa", sum := "94f26d3207bb3ddf7c71299f0731ec79d3dd8f1ddfb3935e80c43b87c3738fa6", func := "hostler/hostlerlaw01.SatOrders", spec := "satOrders", apart := false }
def SatOrdersSaid : Prop := satOrdersRow.holds Try.pinned (OpenSpec.ofChange satOrdersSpec)

/-- ITS FALSE NEIGHBOUR: 'it returns false'. Refute it at one input. -/
def satOrdersWrong : ChangeSpec := { name := "satOrders", fn := fun _ => fun
  | [d1, d2, d3] => { results := [.lit (.bool false)], args := [d1, d2, d3] }
  | _ => none }
def SatOrdersWrongFalsely : Prop := satOrdersRow.holds Try.pinned (OpenSpec.ofChange satOrdersWrong)

/-- 'hostlerlaw01.SatSums': WHATEVER THE INPUT: true; the input reads as it did. -/
def satSumsSpec : ChangeSpec := { name := "satSums", fn := fun _ => fun
  | [d1, d2] => { results := [.lit (.bool true)], args := [d1, d2] }
  | _ => none }
def satSumsRow : OpenClaim := { program := "ytbhmbijkimggdaa", sum := "94f26d3207bb3ddf7c71299f0731ec79d3dd8f1ddfb3935e80c43b87c3738fa6", func := "hostler/hostlerlaw01.SatSums", spec := "satSums", apart := false }
def SatSumsSaid : Prop := satSumsRow.holds Try.pinned (OpenSpec.ofChange satSumsSpec)

/-- ITS FALSE NEIGHBOUR: 'it returns false'. Refute it at one input. -/
def satSumsWrong : ChangeSpec := { name := "satSums", fn := fun _ => fun
  | [d1, d2] => { results := [.lit (.bool false)], args := [d1, d2] }
  | _ => none }
def SatSumsWrongFalsely : Prop := satSumsRow.holds Try.pinned (OpenSpec.ofChange satSumsWrong)

/-- 'hostlerlaw01.SatDue': WHATEVER THE INPUT: true; the input reads as it did. -/
def satDueSpec : ChangeSpec := { name := "satDue", fn := fun _ => fun
  | [d1, d2, d3] => { results := [.lit (.bool true)], args := [d1, d2, d3] }
  | _ => none }
def satDueRow : OpenClaim := { program := "ytbhmbijkimggdaa", sum := "94f26d3207bb3ddf7c71299f0731ec79d3dd8f1ddfb3935e80c43b87c3738fa6", func := "hostler/hostlerlaw01.SatDue", spec := "satDue", apart := false }
def SatDueSaid : Prop := satDueRow.holds Try.pinned (OpenSpec.ofChange satDueSpec)

/-- ITS FALSE NEIGHBOUR: 'it returns false'. Refute it at one input. -/
def satDueWrong : ChangeSpec := { name := "satDue", fn := fun _ => fun
  | [d1, d2, d3] => { results := [.lit (.bool false)], args := [d1, d2, d3] }
  | _ => none }
def SatDueWrongFalsely : Prop := satDueRow.holds Try.pinned (OpenSpec.ofChange satDueWrong)

/-- 'hostlerlaw01.SatMany': WHATEVER THE INPUT: true; the input reads as it did. -/
def satManySpec : ChangeSpec := { name := "satMany", fn := fun _ => fun
  | [d] => { results := [.lit (.bool true)], args := [d] }
  | _ => none }
def satManyRow : OpenClaim := { program := "ytbhmbijkimggdaa", sum := "94f26d3207bb3ddf7c71299f0731ec79d3dd8f1ddfb3935e80c43b87c3738fa6", func := "hostler/hostlerlaw01.SatMany", spec := "satMany", apart := false }
def SatManySaid : Prop := satManyRow.holds Try.pinned (OpenSpec.ofChange satManySpec)

/-- ITS FALSE NEIGHBOUR: 'it returns false'. Refute it at one input. -/
def satManyWrong : ChangeSpec := { name := "satMany", fn := fun _ => fun
  | [d] => { results := [.lit (.bool false)], args := [d] }
  | _ => none }
def SatManyWrongFalsely : Prop := satManyRow.holds Try.pinned (OpenSpec.ofChange satManyWrong)

/-- 'hostlerlaw01.SatNil': WHATEVER THE INPUT: true; the input reads as it did. -/
def satNilSpec : ChangeSpec := { name := "satNil", fn := fun _ => fun
  | [d] => { results := [.lit (.bool true)], args := [d] }
  | _ => none }
def satNilRow : OpenClaim := { program := "ytbhmbijkimggdaa", sum := "94f26d3207bb3ddf7c71299f0731ec79d3dd8f1ddfb3935e80c43b87c3738fa6", func := "hostler/hostlerlaw01.SatNil", spec := "satNil", apart := false }
def SatNilSaid : Prop := satNilRow.holds Try.pinned (OpenSpec.ofChange satNilSpec)

/-- ITS FALSE NEIGHBOUR: 'it returns false'. Refute it at one input. -/
def satNilWrong : ChangeSpec := { name := "satNil", fn := fun _ => fun
  | [d] => { results := [.lit (.bool false)], args := [d] }
  | _ => none }
def SatNilWrongFalsely : Prop := satNilRow.holds Try.pinned (OpenSpec.ofChange satNilWrong)

/-- 'hostlerlaw01.SatClock': WHATEVER THE INPUT: true; the input reads as it did. -/
def satClockSpec : ChangeSpec := { name := "satClock", fn := fun _ => fun
  | [d1, d2] => { results := [.lit (.bool true)], args := [d1, d2] }
  | _ => none }
def satClockRow : OpenClaim := { program := "ytbhmbijkimggdaa", sum := "94f26d3207bb3ddf7c71299f0731ec79d3dd8f1ddfb3935e80c43b87c3738fa6", func := "hostler/hostlerlaw01.SatClock", spec := "satClock", apart := false }
def SatClockSaid : Prop := satClockRow.holds Try.pinned (OpenSpec.ofChange satClockSpec)

/-- ITS FALSE NEIGHBOUR: 'it returns false'. Refute it at one input. -/
def satClockWrong : ChangeSpec := { name := "satClock", fn := fun _ => fun
  | [d1, d2] => { results := [.lit (.bool false)], args := [d1, d2] }
  | _ => none }
def SatClockWrongFalsely : Prop := satClockRow.holds Try.pinned (OpenSpec.ofChange satClockWrong)

/- THE SECOND FORM. 'bulk': how many values and letters a reading holds, each counted each time it is reached (what is shared counts as often as it is met; a slice's spare places count too). A statement '..UptoSaid' is the law's where the arguments, and the package variables that the reading takes, are together of bulk at most 1048576: NARROWER than '..Said'. Prove '..Said' where nothing that the law and all that it calls make is longer than what came in: it says more and counts as full. Else prove '..UptoSaid'. A law counts once. -/
mutual
def uptoBulk {H : Type} : DataW H → Nat
  | .lit (.string bytes) => bytes.length + 1
  | .lit _ => 1
  | .nil => 1
  | .ptr d => uptoBulk d + 1
  | .slice elems spare => uptoBulkAll elems + uptoBulkAll spare + 1
  | .agg parts => uptoBulkAll parts + 1
  | .iface _ d => uptoBulk d + 1
  | .map entries => uptoBulkEntries entries + 1
  | .held _ => 1
def uptoBulkAll {H : Type} : List (DataW H) → Nat
  | [] => 0
  | d :: r => uptoBulk d + uptoBulkAll r
def uptoBulkEntries {H : Type} : List (Lit × DataW H) → Nat
  | [] => 0
  | x :: r => uptoBulkEntry x + uptoBulkEntries r
def uptoBulkEntry {H : Type} : Lit × DataW H → Nat
  | (.string bytes, d) => bytes.length + uptoBulk d + 1
  | (_, d) => uptoBulk d + 1
 end
def uptoSmall : (H : Type) → List (DataW H) → Bool := fun _ ds => decide (uptoBulkAll ds ≤ 1048576)
def OpenSpec.upto (s : _root_.Go.ChangeSpec) : _root_.Go.OpenSpec := { _root_.Go.OpenSpec.ofChange s with cond := some uptoSmall }

/-- 'hostlerlaw01.SatOrders', WHERE WHAT IT READS IS OF BULK AT MOST 1048576: true; the input reads as it did. -/
def satOrdersUptoRow : OpenClaim := { program := "ytbhmbijkimggdaa", sum := "94f26d3207bb3ddf7c71299f0731ec79d3dd8f1ddfb3935e80c43b87c3738fa6", func := "hostler/hostlerlaw01.SatOrders", spec := "satOrders", apart := false, narrowed := true }
def SatOrdersUptoSaid : Prop := satOrdersUptoRow.holds Try.pinned (OpenSpec.upto satOrdersSpec)

/-- 'hostlerlaw01.SatSums', WHERE WHAT IT READS IS OF BULK AT MOST 1048576: true; the input reads as it did. -/
def satSumsUptoRow : OpenClaim := { program := "ytbhmbijkimggdaa", sum := "94f26d3207bb3ddf7c71299f0731ec79d3dd8f1ddfb3935e80c43b87c3738fa6", func := "hostler/hostlerlaw01.SatSums", spec := "satSums", apart := false, narrowed := true }
def SatSumsUptoSaid : Prop := satSumsUptoRow.holds Try.pinned (OpenSpec.upto satSumsSpec)

/-- 'hostlerlaw01.SatDue', WHERE WHAT IT READS IS OF BULK AT MOST 1048576: true; the input reads as it did. -/
def satDueUptoRow : OpenClaim := { program := "ytbhmbijkimggdaa", sum := "94f26d3207bb3ddf7c71299f0731ec79d3dd8f1ddfb3935e80c43b87c3738fa6", func := "hostler/hostlerlaw01.SatDue", spec := "satDue", apart := false, narrowed := true }
def SatDueUptoSaid : Prop := satDueUptoRow.holds Try.pinned (OpenSpec.upto satDueSpec)

/-- 'hostlerlaw01.SatMany', WHERE WHAT IT READS IS OF BULK AT MOST 1048576: true; the input reads as it did. -/
def satManyUptoRow : OpenClaim := { program := "ytbhmbijkimggdaa", sum := "94f26d3207bb3ddf7c71299f0731ec79d3dd8f1ddfb3935e80c43b87c3738fa6", func := "hostler/hostlerlaw01.SatMany", spec := "satMany", apart := false, narrowed := true }
def SatManyUptoSaid : Prop := satManyUptoRow.holds Try.pinned (OpenSpec.upto satManySpec)

/-- 'hostlerlaw01.SatNil', WHERE WHAT IT READS IS OF BULK AT MOST 1048576: true; the input reads as it did. -/
def satNilUptoRow : OpenClaim := { program := "ytbhmbijkimggdaa", sum := "94f26d3207bb3ddf7c71299f0731ec79d3dd8f1ddfb3935e80c43b87c3738fa6", func := "hostler/hostlerlaw01.SatNil", spec := "satNil", apart := false, narrowed := true }
def SatNilUptoSaid : Prop := satNilUptoRow.holds Try.pinned (OpenSpec.upto satNilSpec)

/-- 'hostlerlaw01.SatClock', WHERE WHAT IT READS IS OF BULK AT MOST 1048576: true; the input reads as it did. -/
def satClockUptoRow : OpenClaim := { program := "ytbhmbijkimggdaa", sum := "94f26d3207bb3ddf7c71299f0731ec79d3dd8f1ddfb3935e80c43b87c3738fa6", func := "hostler/hostlerlaw01.SatClock", spec := "satClock", apart := false, narrowed := true }
def SatClockUptoSaid : Prop := satClockUptoRow.holds Try.pinned (OpenSpec.upto satClockSpec)

end Rows
end Go.Proofs.Ytbhmbijkimggdaa
