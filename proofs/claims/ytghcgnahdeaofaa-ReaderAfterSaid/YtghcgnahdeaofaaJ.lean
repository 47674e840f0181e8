/- Contracts of 'lives', 'few' and 'bytes' over this seat's translation. -/
import Derived.Test.YtghcgnahdeaofaaI
namespace Go.Proofs.Ytghcgnahdeaofaa
open Go.ChangeShapes Go.WideShapes Go.ChangeAt Go.RowKit
set_option linter.unusedVariables false
/-- At most 1100 bytes of the data. -/
def cutS (s : ByteArray) : ByteArray := s.extract 0 (min s.size 1100)
theorem cutS_size (s : ByteArray) : (cutS s).size ≤ 1100 ∧ (cutS s).size ≤ s.size := by unfold cutS; rw [ByteArray.size_extract]; omega
theorem cutS_small (s : ByteArray) (h : s.size ≤ 1100) : cutS s = s := by
  unfold cutS; rw [Nat.min_eq_left h]; exact ByteArray.extract_zero_size
theorem cutS_large (s : ByteArray) (h : 1100 < s.size) : cutS s = s.extract 0 1100 := by unfold cutS; rw [Nat.min_eq_right (by omega)]
end Go.Proofs.Ytghcgnahdeaofaa
