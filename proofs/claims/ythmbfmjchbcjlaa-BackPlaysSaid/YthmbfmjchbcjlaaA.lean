/- Contracts of the package sat's functions and of their references over this seat's translation: what each call returns. -/
import Derived.Test.YthmbfmjchbcjlaaH
namespace Go.Proofs.Ythmbfmjchbcjlaa
open Go.ChangeShapes Go.WideShapes Go.ChangeAt Go.RowKit

def cut (a : Int) : Int := min (max a 0) 1099511627776
def add (a b : Int) : Int := min (cut a + cut b) 1099511627776
def sub (a b : Int) : Int := max (cut a - cut b) 0
def past (n d : Int) : Bool := sub d n == 0
theorem cut_bd (a : Int) : 0 ≤ cut a ∧ cut a ≤ 1099511627776 := by unfold cut; omega
theorem add_bd (a b : Int) : 0 ≤ add a b ∧ add a b ≤ 1099511627776 := by unfold add cut; omega
theorem sub_bd (a b : Int) : 0 ≤ sub a b ∧ sub a b ≤ 1099511627776 := by unfold sub cut; omega

theorem cut_c (a : Int) (w : World) : Calls Try.prog 53 #[.int .i64 a] w fun e w' => e = .returned (.int .i64 (cut a)) ∧ w = w' := by
  go_enter Try.func53, Try.ntmps53
  go_wp2
  all_goals (go_ret; exact ⟨ret_int (by unfold cut; omega), rfl⟩)
theorem rcut_c (a : Int) (w : World) : Calls Try.prog 61 #[.int .i64 a] w fun e w' => e = .returned (.int .i64 (cut a)) ∧ w = w' := by
  go_enter Try.func61, Try.ntmps61
  go_wp2
  all_goals (go_ret; exact ⟨ret_int (by unfold cut; omega), rfl⟩)
theorem add_c (a b : Int) (w : World) : Calls Try.prog 38 #[.int .i64 a, .int .i64 b] w fun e w' => e = .returned (.int .i64 (add a b)) ∧ w = w' := by
  have ha := cut_bd a
  have hb := cut_bd b
  go_enter Try.func38, Try.ntmps38
  go_wp2_with (go_at_call 53; refine (cut_c _ _).mono ?_; rintro e w' ⟨rfl, rfl⟩)
  all_goals (go_ret; exact ⟨ret_int (by unfold add; omega), rfl⟩)
theorem radd_c (a b : Int) (w : World) : Calls Try.prog 50 #[.int .i64 a, .int .i64 b] w fun e w' => e = .returned (.int .i64 (add a b)) ∧ w = w' := by
  have ha := cut_bd a
  have hb := cut_bd b
  go_enter Try.func50, Try.ntmps50
  go_wp2_with (go_at_call 61; refine (rcut_c _ _).mono ?_; rintro e w' ⟨rfl, rfl⟩)
  all_goals (go_ret; exact ⟨ret_int (by show cut _ = _; unfold add cut; omega), rfl⟩)
theorem sub_c (a b : Int) (w : World) : Calls Try.prog 60 #[.int .i64 a, .int .i64 b] w fun e w' => e = .returned (.int .i64 (sub a b)) ∧ w = w' := by
  have ha := cut_bd a
  have hb := cut_bd b
  go_enter Try.func60, Try.ntmps60
  go_wp2_with (go_at_call 53; refine (cut_c _ _).mono ?_; rintro e w' ⟨rfl, rfl⟩)
  all_goals (go_ret; exact ⟨ret_int (by unfold sub; omega), rfl⟩)
theorem past_c (a b : Int) (w : World) : Calls Try.prog 37 #[.int .i64 a, .int .i64 b] w fun e w' => e = .returned (.bool (past a b)) ∧ w = w' := by
  have ha := sub_bd b a
  go_enter Try.func37, Try.ntmps37
  go_wp2_with (go_at_call 60; refine (sub_c _ _ _).mono ?_; rintro e w' ⟨rfl, rfl⟩)
  all_goals (go_ret; exact ⟨rfl, rfl⟩)
theorem rpast_c (a b : Int) (w : World) : Calls Try.prog 49 #[.int .i64 a, .int .i64 b] w fun e w' => e = .returned (.bool (past a b)) ∧ w = w' := by
  have ha := cut_bd a
  have hb := cut_bd b
  go_enter Try.func49, Try.ntmps49
  go_wp2_with (go_at_call 61; refine (rcut_c _ _).mono ?_; rintro e w' ⟨rfl, rfl⟩)
  all_goals (go_ret; exact ⟨ret_bool (by show decide (cut b ≤ cut a) = _; unfold past sub; rw [Bool.eq_iff_iff]; simp; omega), rfl⟩)
end Go.Proofs.Ythmbfmjchbcjlaa
