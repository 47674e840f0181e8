/- Contracts of the package sat's functions and of their references over this seat's translation: what each call returns. -/
import Derived.Test.YtbhmbijkimggdaaH
namespace Go.Proofs.Ytbhmbijkimggdaa
open Go.ChangeShapes Go.WideShapes Go.ChangeAt Go.RowKit

def cut (a : Int) : Int := min (max a 0) 1099511627776
def add (a b : Int) : Int := min (cut a + cut b) 1099511627776
def sub (a b : Int) : Int := max (cut a - cut b) 0
def past (n d : Int) : Bool := sub d n == 0
theorem cut_bd (a : Int) : 0 ≤ cut a ∧ cut a ≤ 1099511627776 := by unfold cut; omega
theorem add_bd (a b : Int) : 0 ≤ add a b ∧ add a b ≤ 1099511627776 := by unfold add cut; omega
theorem sub_bd (a b : Int) : 0 ≤ sub a b ∧ sub a b ≤ 1099511627776 := by unfold sub cut; omega

theorem cut_c (a : Int) (w : World) : Calls Try.prog 10 #[.int .i64 a] w fun e w' => e = .returned (.int .i64 (cut a)) ∧ w = w' := by
  go_enter Try.func10, Try.ntmps10
  go_wp2
  all_goals (go_ret; exact ⟨ret_int (by unfold cut; omega), rfl⟩)
theorem rcut_c (a : Int) (w : World) : Calls Try.prog 14 #[.int .i64 a] w fun e w' => e = .returned (.int .i64 (cut a)) ∧ w = w' := by
  go_enter Try.func14, Try.ntmps14
  go_wp2
  all_goals (go_ret; exact ⟨ret_int (by unfold cut; omega), rfl⟩)
theorem add_c (a b : Int) (w : World) : Calls Try.prog 11 #[.int .i64 a, .int .i64 b] w fun e w' => e = .returned (.int .i64 (add a b)) ∧ w = w' := by
  have ha := cut_bd a
  have hb := cut_bd b
  go_enter Try.func11, Try.ntmps11
  go_wp2_with (go_at_call 10; refine (cut_c _ _).mono ?_; rintro e w' ⟨rfl, rfl⟩)
  all_goals (go_ret; exact ⟨ret_int (by unfold add; omega), rfl⟩)
theorem radd_c (a b : Int) (w : World) : Calls Try.prog 15 #[.int .i64 a, .int .i64 b] w fun e w' => e = .returned (.int .i64 (add a b)) ∧ w = w' := by
  have ha := cut_bd a
  have hb := cut_bd b
  go_enter Try.func15, Try.ntmps15
  go_wp2_with (go_at_call 14; refine (rcut_c _ _).mono ?_; rintro e w' ⟨rfl, rfl⟩)
  all_goals (go_ret; exact ⟨ret_int (by show cut _ = _; unfold add cut; omega), rfl⟩)
theorem sub_c (a b : Int) (w : World) : Calls Try.prog 12 #[.int .i64 a, .int .i64 b] w fun e w' => e = .returned (.int .i64 (sub a b)) ∧ w = w' := by
  have ha := cut_bd a
  have hb := cut_bd b
  go_enter Try.func12, Try.ntmps12
  go_wp2_with (go_at_call 10; refine (cut_c _ _).mono ?_; rintro e w' ⟨rfl, rfl⟩)
  all_goals (go_ret; exact ⟨ret_int (by unfold sub; omega), rfl⟩)
theorem rsub_c (a b : Int) (w : World) : Calls Try.prog 16 #[.int .i64 a, .int .i64 b] w fun e w' => e = .returned (.int .i64 (sub a b)) ∧ w = w' := by
  have ha := cut_bd a
  have hb := cut_bd b
  go_enter Try.func16, Try.ntmps16
  go_wp2_with (go_at_call 14; refine (rcut_c _ _).mono ?_; rintro e w' ⟨rfl, rfl⟩)
  all_goals (go_ret; exact ⟨ret_int (by show cut _ = _; unfold sub cut; omega), rfl⟩)
theorem past_c (a b : Int) (w : World) : Calls Try.prog 13 #[.int .i64 a, .int .i64 b] w fun e w' => e = .returned (.bool (past a b)) ∧ w = w' := by
  have ha := sub_bd b a
  go_enter Try.func13, Try.ntmps13
  go_wp2_with (go_at_call 12; refine (sub_c _ _ _).mono ?_; rintro e w' ⟨rfl, rfl⟩)
  all_goals (go_ret; exact ⟨rfl, rfl⟩)
theorem rpast_c (a b : Int) (w : World) : Calls Try.prog 17 #[.int .i64 a, .int .i64 b] w fun e w' => e = .returned (.bool (past a b)) ∧ w = w' := by
  have ha := cut_bd a
  have hb := cut_bd b
  go_enter Try.func17, Try.ntmps17
  go_wp2_with (go_at_call 14; refine (rcut_c _ _).mono ?_; rintro e w' ⟨rfl, rfl⟩)
  all_goals (go_ret; exact ⟨ret_bool (by show decide (cut b ≤ cut a) = _; unfold past sub; rw [Bool.eq_iff_iff]; simp; omega), rfl⟩)
theorem left_c (a b : Int) (w : World) : Calls Try.prog 18 #[.int .i64 a, .int .i64 b] w fun e w' => e = .returned (.int .i64 (sub b a)) ∧ w = w' := by
  go_enter Try.func18, Try.ntmps18
  go_wp2_with (go_at_call 12; refine (sub_c _ _ _).mono ?_; rintro e w' ⟨rfl, rfl⟩)
  all_goals (go_ret; exact ⟨rfl, rfl⟩)
theorem new_c (a : Int) (w : World) : Calls Try.prog 23 #[.int .i64 a] w fun e w' => e = .returned (.pointer (some ⟨w.heap.size, 0, none⟩)) ∧ w.alloc (.cells #[.int .i64 (cut a)] 37) = w' := by
  go_enter Try.func23, Try.ntmps23
  go_wp2_with (go_at_call 10; refine (cut_c _ _).mono ?_; rintro e w' ⟨rfl, rfl⟩)

  all_goals (go_ret; exact ⟨rfl, rfl⟩)
theorem now_c (a : Addr) (n : Int) (w : World) (h : w.cell? a = some (.int .i64 n)) : Calls Try.prog 22 #[.pointer (some a)] w fun e w' => e = .returned (.int .i64 n) ∧ w = w' := by
  go_enter Try.func22, Try.ntmps22
  go_wp2
  go_ret
  exact ⟨rfl, rfl⟩
theorem nowNil_c (w : World) : Calls Try.prog 22 #[.pointer none] w fun e w' => e = .returned (.int .i64 0) ∧ w = w' := by
  go_enter Try.func22, Try.ntmps22
  go_wp2
  go_ret
  exact ⟨rfl, rfl⟩
theorem goNil_c (n : Int) (w : World) : Calls Try.prog 21 #[.pointer none, .int .i64 n] w fun e w' => e = .returned (.int .i64 0) ∧ w = w' := by
  go_enter Try.func21, Try.ntmps21
  go_wp2
  go_ret
  exact ⟨rfl, rfl⟩
theorem go_c (a : Addr) (x n : Int) (w : World) (h : w.cell? a = some (.int .i64 x)) (hf : w.frozen? a = false) : Calls Try.prog 21 #[.pointer (some a), .int .i64 n] w fun e w' => e = .returned (.int .i64 (add x n)) ∧ w.setCell a (.int .i64 (add x n)) = w' := by
  go_enter Try.func21, Try.ntmps21
  go_wp2_with (go_at_call 11; refine (add_c _ _ _).mono ?_; rintro e w' ⟨rfl, rfl⟩)

  go_ret
  exact ⟨rfl, rfl⟩
theorem lives_c (w : World) : Calls Try.prog 9 #[] w fun e w' => e = .returned (.bool true) ∧ w.alloc (.cells #[.int .i64 7] 37) = w' := by
  have h1 : (add 1099511627776 1 == 1099511627776) = true := by decide
  have h2 : (sub 3 5 == 0) = true := by decide
  have h3 : (sub 5 3 == 2) = true := by decide
  have h4 : cut 7 = 7 := by decide
  go_enter Try.func9, Try.ntmps9
  go_wp2_with (first | (go_at_call 11; refine (add_c _ _ _).mono ?_; rintro e w' ⟨rfl, rfl⟩) | (go_at_call 12; refine (sub_c _ _ _).mono ?_; rintro e w' ⟨rfl, rfl⟩) | (go_at_call 23; refine (new_c _ _).mono ?_; rintro e w' ⟨rfl, rfl⟩) | (go_at_call 22; refine (now_c _ 7 _ (by simp)).mono ?_; rintro e w' ⟨rfl, rfl⟩))

  go_ret
  exact ⟨rfl, rfl⟩
end Go.Proofs.Ytbhmbijkimggdaa
