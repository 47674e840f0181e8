/- Contracts of the package sat's functions and of their references over this seat's translation: what each call returns. -/
import Derived.Test.YtgonoccacbbhjaaH
namespace Go.Proofs.Ytgonoccacbbhjaa
open Go.ChangeShapes Go.WideShapes Go.ChangeAt Go.RowKit

def cut (a : Int) : Int := min (max a 0) 1099511627776
def add (a b : Int) : Int := min (cut a + cut b) 1099511627776
def sub (a b : Int) : Int := max (cut a - cut b) 0
def past (n d : Int) : Bool := sub d n == 0
theorem cut_bd (a : Int) : 0 ≤ cut a ∧ cut a ≤ 1099511627776 := by unfold cut; omega
theorem add_bd (a b : Int) : 0 ≤ add a b ∧ add a b ≤ 1099511627776 := by unfold add cut; omega
theorem sub_bd (a b : Int) : 0 ≤ sub a b ∧ sub a b ≤ 1099511627776 := by unfold sub cut; omega

theorem cut_c (a : Int) (w : World) : Calls Try.prog 25 #[.int .i64 a] w fun e w' => e = .returned (.int .i64 (cut a)) ∧ w = w' := by
  go_enter Try.func25, Try.ntmps25
  go_wp2
  all_goals (go_ret; exact ⟨ret_int (by unfold cut; omega), rfl⟩)
theorem rcut_c (a : Int) (w : World) : Calls Try.prog 28 #[.int .i64 a] w fun e w' => e = .returned (.int .i64 (cut a)) ∧ w = w' := by
  go_enter Try.func28, Try.ntmps28
  go_wp2
  all_goals (go_ret; exact ⟨ret_int (by unfold cut; omega), rfl⟩)
theorem radd_c (a b : Int) (w : World) : Calls Try.prog 23 #[.int .i64 a, .int .i64 b] w fun e w' => e = .returned (.int .i64 (add a b)) ∧ w = w' := by
  have ha := cut_bd a
  have hb := cut_bd b
  go_enter Try.func23, Try.ntmps23
  go_wp2_with (go_at_call 28; refine (rcut_c _ _).mono ?_; rintro e w' ⟨rfl, rfl⟩)
  all_goals (go_ret; exact ⟨ret_int (by show cut _ = _; unfold add cut; omega), rfl⟩)
end Go.Proofs.Ytgonoccacbbhjaa
