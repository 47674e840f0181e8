/-
  No cell of these rows narrows 'for every input' (looked for: loops, veiled, ifaces, maps, wideKeys, modest, calm, conditions, laid).
  DERIVED. THE GIVEN ROWS OF THIS SEAT. 5 by the template 'for every input the law returns true; each argument reads behind the call as it read before'; 0 by the template 'total and deterministic' (their statements: YthmbfmjchbcjlaaTotals.lean).
  GIVEN WITH THE SEED: the statements are not yours to turn. If you find one false, say at which input.
  Laid BY PROGRAM, IN A SANDBOX (cutbox-rows.mjs): the forced cells as the released guide's own fill.sh prints them over the translation 7ac28f69cd4da610… (all of the seat's roots in one cut). By AI agents, Wed Nov 11 2026. No macro, syntax, notation, axiom, sorry.
-/
import Derived.Test.YthmbfmjchbcjlaaChecked
import GoSem.Claim
import GoSem.ClaimJoined
import GoSem.ClaimMapViews
import Derived.JoinedTies
import Derived.KernelRfl
namespace Go.Proofs.Ythmbfmjchbcjlaa
/- THE CELL 'sum', in the pinned program and in every row, IS THE sha256 OF THE DUMP (.gsa) THAT YthmbfmjchbcjlaaProg.lean LOADS. Nothing in Lean hashes anything: it is a label: what it is worth is what the hold of that sum in a sandbox is worth. -/
noncomputable def Try.pinned : Pinned := { name := "ythmbfmjchbcjlaa", sum := "7ac28f69cd4da61085bc406c0251931a281b2a5f75646374f7db8ae9edb6dc19", checked := Try.checked }
namespace Rows
def none {H : Type} : Left H := { results := [], args := [] }

/-- 'hostlerlaw14.BackClient': WHATEVER THE INPUT: true; the input reads as it did. -/
def backClientSpec : ChangeSpec := { name := "backClient", fn := fun _ => fun
  | [d] => { results := [.lit (.bool true)], args := [d] }
  | _ => none }
def backClientRow : OpenClaim := { program := "ythmbfmjchbcjlaa", sum := "7ac28f69cd4da61085bc406c0251931a281b2a5f75646374f7db8ae9edb6dc19", func := "hostler/hostlerlaw14.BackClient", spec := "backClient", unfollowed := true, recurses := true, apart := false }
def BackClientSaid : Prop := backClientRow.holds Try.pinned (OpenSpec.ofChange backClientSpec)

/-- ITS FALSE NEIGHBOUR: 'it returns false'. Refute it at one input. -/
def backClientWrong : ChangeSpec := { name := "backClient", fn := fun _ => fun
  | [d] => { results := [.lit (.bool false)], args := [d] }
  | _ => none }
def BackClientWrongFalsely : Prop := backClientRow.holds Try.pinned (OpenSpec.ofChange backClientWrong)

/-- 'hostlerlaw14.BackRow': WHATEVER THE INPUT: true; the input reads as it did. -/
def backRowSpec : ChangeSpec := { name := "backRow", fn := fun _ => fun
  | [d] => { results := [.lit (.bool true)], args := [d] }
  | _ => none }
def backRowRow : OpenClaim := { program := "ythmbfmjchbcjlaa", sum := "7ac28f69cd4da61085bc406c0251931a281b2a5f75646374f7db8ae9edb6dc19", func := "hostler/hostlerlaw14.BackRow", spec := "backRow", unfollowed := true, recurses := true, apart := false }
def BackRowSaid : Prop := backRowRow.holds Try.pinned (OpenSpec.ofChange backRowSpec)

/-- ITS FALSE NEIGHBOUR: 'it returns false'. Refute it at one input. -/
def backRowWrong : ChangeSpec := { name := "backRow", fn := fun _ => fun
  | [d] => { results := [.lit (.bool false)], args := [d] }
  | _ => none }
def BackRowWrongFalsely : Prop := backRowRow.holds Try.pinned (OpenSpec.ofChange backRowWrong)

/-- 'hostlerlaw14.BackAges': WHATEVER THE INPUT: true; the input reads as it did. -/
def backAgesSpec : ChangeSpec := { name := "backAges", fn := fun _ => fun
  | [d1, d2, d3] => { results := [.lit (.bool true)], args := [d1, d2, d3] }
  | _ => none }
def backAgesRow : OpenClaim := { program := "ythmbfmjchbcjlaa", sum := "7ac28f69cd4da61085bc406c0251931a281b2a5f75646374f7db8ae9edb6dc19", func := "hostler/hostlerlaw14.BackAges", spec := "backAges", unfollowed := true, recurses := true, apart := false }
def BackAgesSaid : Prop := backAgesRow.holds Try.pinned (OpenSpec.ofChange backAgesSpec)

/-- ITS FALSE NEIGHBOUR: 'it returns false'. Refute it at one input. -/
def backAgesWrong : ChangeSpec := { name := "backAges", fn := fun _ => fun
  | [d1, d2, d3] => { results := [.lit (.bool false)], args := [d1, d2, d3] }
  | _ => none }
def BackAgesWrongFalsely : Prop := backAgesRow.holds Try.pinned (OpenSpec.ofChange backAgesWrong)

/-- 'hostlerlaw14.BackNil': WHATEVER THE INPUT: true; the input reads as it did. -/
def backNilSpec : ChangeSpec := { name := "backNil", fn := fun _ => fun
  | [d] => { results := [.lit (.bool true)], args := [d] }
  | _ => none }
def backNilRow : OpenClaim := { program := "ythmbfmjchbcjlaa", sum := "7ac28f69cd4da61085bc406c0251931a281b2a5f75646374f7db8ae9edb6dc19", func := "hostler/hostlerlaw14.BackNil", spec := "backNil", unfollowed := true, recurses := true, apart := false }
def BackNilSaid : Prop := backNilRow.holds Try.pinned (OpenSpec.ofChange backNilSpec)

/-- ITS FALSE NEIGHBOUR: 'it returns false'. Refute it at one input. -/
def backNilWrong : ChangeSpec := { name := "backNil", fn := fun _ => fun
  | [d] => { results := [.lit (.bool false)], args := [d] }
  | _ => none }
def BackNilWrongFalsely : Prop := backNilRow.holds Try.pinned (OpenSpec.ofChange backNilWrong)

/-- 'hostlerlaw14.BackPlays': WHATEVER THE INPUT: true; the input reads as it did. -/
def backPlaysSpec : ChangeSpec := { name := "backPlays", fn := fun _ => fun
  | [d1, d2, d3] => { results := [.lit (.bool true)], args := [d1, d2, d3] }
  | _ => none }
def backPlaysRow : OpenClaim := { program := "ythmbfmjchbcjlaa", sum := "7ac28f69cd4da61085bc406c0251931a281b2a5f75646374f7db8ae9edb6dc19", func := "hostler/hostlerlaw14.BackPlays", spec := "backPlays", unfollowed := true, recurses := true, apart := false }
def BackPlaysSaid : Prop := backPlaysRow.holds Try.pinned (OpenSpec.ofChange backPlaysSpec)

/-- ITS FALSE NEIGHBOUR: 'it returns false'. Refute it at one input. -/
def backPlaysWrong : ChangeSpec := { name := "backPlays", fn := fun _ => fun
  | [d1, d2, d3] => { results := [.lit (.bool false)], args := [d1, d2, d3] }
  | _ => none }
def BackPlaysWrongFalsely : Prop := backPlaysRow.holds Try.pinned (OpenSpec.ofChange backPlaysWrong)

/- THE SECOND FORM. 'bulk': how many values and letters a reading holds, each counted each time it is reached (what is shared counts as often as it is met; a slice's spare places count too). A statement '..UptoSaid' is the law's where the arguments, and the package variables that the reading takes, are together of bulk at most 1048576: NARROWER than '..Said'. Prove '..Said' where nothing that the law and all that it calls make is longer than what came in: it says more and counts as full. Else prove '..UptoSaid'. A law counts once. -/
mutual
def uptoBulk {H : Type} : DataW H → Nat
  | .lit (.string bytes) => bytes.length + 1
  | .lit _ => 1
  | .nil => 1
  | .ptr d => uptoBulk d + 1
  | .slice elems spare => uptoBulkAll elems + uptoBulkAll spare + 1
  | .agg parts => uptoBulkAll parts + 1
  | .iface _ d => uptoBulk d + 1
  | .map entries => uptoBulkEntries entries + 1
  | .held _ => 1
def uptoBulkAll {H : Type} : List (DataW H) → Nat
  | [] => 0
  | d :: r => uptoBulk d + uptoBulkAll r
def uptoBulkEntries {H : Type} : List (Lit × DataW H) → Nat
  | [] => 0
  | x :: r => uptoBulkEntry x + uptoBulkEntries r
def uptoBulkEntry {H : Type} : Lit × DataW H → Nat
  | (.string bytes, d) => bytes.length + uptoBulk d + 1
  | (_, d) => uptoBulk d + 1
 end
def uptoSmall : (H : Type) → List (DataW H) → Bool := fun _ ds => decide (uptoBulkAll ds ≤ 1048576)
def OpenSpec.upto (s : _root_.Go.ChangeSpec) : _root_.Go.OpenSpec := { _root_.Go.OpenSpec.ofChange s with cond := some uptoSmall }

/-- 'hostlerlaw14.BackClient', WHERE WHAT IT READS IS OF BULK AT MOST 1048576: true; the input reads as it did. -/
def backClientUptoRow : OpenClaim := { program := "ythmbfmjchbcjlaa", sum := "7ac28f69cd4da61085bc406c0251931a281b2a5f75646374f7db8ae9edb6dc19", func := "hostler/hostlerlaw14.BackClient", spec := "backClient", unfollowed := true, recurses := true, apart := false, narrowed := true }
def BackClientUptoSaid : Prop := backClientUptoRow.holds Try.pinned (OpenSpec.upto backClientSpec)

/-- 'hostlerlaw14.BackRow', WHERE WHAT IT READS IS OF BULK AT MOST 1048576: true; the input reads as it did. -/
def backRowUptoRow : OpenClaim := { program := "ythmbfmjchbcjlaa", sum := "7ac28f69cd4da61085bc406c0251931a281b2a5f75646374f7db8ae9edb6dc19", func := "hostler/hostlerlaw14.BackRow", spec := "backRow", unfollowed := true, recurses := true, apart := false, narrowed := true }
def BackRowUptoSaid : Prop := backRowUptoRow.holds Try.pinned (OpenSpec.upto backRowSpec)

/-- 'hostlerlaw14.BackAges', WHERE WHAT IT READS IS OF BULK AT MOST 1048576: true; the input reads as it did. -/
def backAgesUptoRow : OpenClaim := { program := "ythmbfmjchbcjlaa", sum := "7ac28f69cd4da61085bc406c0251931a281b2a5f75646374f7db8ae9edb6dc19", func := "hostler/hostlerlaw14.BackAges", spec := "backAges", unfollowed := true, recurses := true, apart := false, narrowed := true }
def BackAgesUptoSaid : Prop := backAgesUptoRow.holds Try.pinned (OpenSpec.upto backAgesSpec)

/-- 'hostlerlaw14.BackNil', WHERE WHAT IT READS IS OF BULK AT MOST 1048576: true; the input reads as it did. -/
def backNilUptoRow : OpenClaim := { program := "ythmbfmjchbcjlaa", sum := "7ac28f69cd4da61085bc406c0251931a281b2a5f75646374f7db8ae9edb6dc19", func := "hostler/hostlerlaw14.BackNil", spec := "backNil", unfollowed := true, recurses := true, apart := false, narrowed := true }
def BackNilUptoSaid : Prop := backNilUptoRow.holds Try.pinned (OpenSpec.upto backNilSpec)

/-- 'hostlerlaw14.BackPlays', WHERE WHAT IT READS IS OF BULK AT MOST 1048576: true; the input reads as it did. -/
def backPlaysUptoRow : OpenClaim := { program := "ythmbfmjchbcjlaa", sum := "7ac28f69cd4da61085bc406c0251931a281b2a5f75646374f7db8ae9edb6dc19", func := "hostler/hostlerlaw14.BackPlays", spec := "backPlays", unfollowed := true, recurses := true, apart := false, narrowed := true }
def BackPlaysUptoSaid : Prop := backPlaysUptoRow.holds Try.pinned (OpenSpec.upto backPlaysSpec)

end Rows
end Go.Proofs.Ythmbfmjchbcjlaa
