/- Contracts of the package draw's functions and of their references over this seat's translation: what each call returns, of any draw that an int can hold. -/
import Derived.Test.YtdmhgiodpifciaaA
import Derived.Test.YtdmhgiodpifciaaO
namespace Go.Proofs.Ytdmhgiodpifciaa
open Go.ChangeShapes Go.WideShapes Go.ChangeAt Go.RowKit
def size (d : Int) : Int := if d < 0 then -(d + 1) else d
def below (d n : Int) : Int := if n < 1 then 0 else size d % n
def spread (d b j : Int) : Int := cut (cut b - cut j + below d (2 * cut j + 1))
def between (d lo hi : Int) : Int := cut lo + below d (cut hi - cut lo + 1)
def life (d now l j : Int) : Int := add now (spread d l j)
def I64 (d : Int) : Prop := -9223372036854775808 ≤ d ∧ d ≤ 9223372036854775807
theorem not_i64 (d : Int) (h : I64 d) : bits .xor .i64 (-1) d = -(d + 1) := by
  unfold I64 at h
  have e : BitVec.ofInt 64 (-1) ^^^ BitVec.ofInt 64 d = ~~~ (BitVec.ofInt 64 d) := by
    rw [show BitVec.ofInt 64 (-1) = BitVec.allOnes 64 by decide, BitVec.allOnes_xor]
  have hw : ∀ n : Int, IntKind.i64.wrap n = (n + 9223372036854775808) % 18446744073709551616 - 9223372036854775808 := by
    intro n
    have e1 : IntKind.i64.signed = true := rfl
    have e2 : IntKind.i64.bits = 64 := rfl
    simp only [IntKind.wrap, e1, e2]
    simp
    omega
  show IntKind.i64.wrap ((BitVec.ofInt 64 (-1) ^^^ BitVec.ofInt 64 d).toNat : Int) = _
  rw [e, BitVec.toNat_not, BitVec.toNat_ofInt, hw]
  omega
theorem size_nonneg (d : Int) : 0 ≤ size d := by unfold size; split <;> omega
theorem below_bd (d n : Int) : 0 ≤ below d n ∧ (1 ≤ n → below d n < n) ∧ (n < 1 → below d n = 0) := by
  unfold below
  have := size_nonneg d
  split
  · exact ⟨by omega, fun h => by omega, fun _ => rfl⟩
  · exact ⟨Int.emod_nonneg _ (by omega), fun _ => Int.emod_lt_of_pos _ (by omega), fun h => by omega⟩
theorem below_le (d n : Int) : below d n ≤ max (n - 1) 0 := by
  have h := below_bd d n
  by_cases h1 : 1 ≤ n
  · have := h.2.1 h1; omega
  · have := h.2.2 (by omega); omega
theorem size_c (d : Int) (w : World) (hd : I64 d) : Calls Try.prog 27 #[.int .i64 d] w fun e w' => e = .returned (.int .i64 (size d)) ∧ w = w' := by
  have H := Lib.hid hd
  clear hd
  by_cases h : d < 0
  · go_enter Try.func27, Try.ntmps27
    go_wp2
    go_ret
    exact ⟨ret_int (by unfold size; rw [if_pos (by omega)]; exact not_i64 d H.out), rfl⟩
  · go_enter Try.func27, Try.ntmps27
    go_wp2
    go_ret
    exact ⟨ret_int (by unfold size; rw [if_neg (by omega)]), rfl⟩
theorem below_c (d n : Int) (w : World) (hd : I64 d) : Calls Try.prog 26 #[.int .i64 d, .int .i64 n] w fun e w' => e = .returned (.int .i64 (below d n)) ∧ w = w' := by
  have hs := size_nonneg d
  by_cases h : n < 1
  · go_enter Try.func26, Try.ntmps26
    go_wp2
    go_ret
    exact ⟨ret_int (by unfold below; rw [if_pos h]), rfl⟩
  · have h1 : 1 ≤ n := by omega
    go_enter Try.func26, Try.ntmps26
    go_wp2_with (go_at_call 27; refine (size_c _ _ hd).mono ?_; rintro e w' ⟨rfl, rfl⟩)
    go_ret
    exact ⟨ret_int (by unfold below; rw [if_neg (by omega)]), rfl⟩
theorem spread_c (d b j : Int) (w : World) (hd : I64 d) : Calls Try.prog 23 #[.int .i64 d, .int .i64 b, .int .i64 j] w fun e w' => e = .returned (.int .i64 (spread d b j)) ∧ w = w' := by
  have c1 := cut_bd b
  have c2 := cut_bd j
  have c3 := below_bd d (2 * cut j + 1)
  have c4 := c3.1
  have c5 := c3.2.1 (by omega)
  clear c3
  go_enter Try.func23, Try.ntmps23
  go_wp2_with (first | (go_at_call 25; refine (cut_c _ _).mono ?_; rintro e w' ⟨rfl, rfl⟩) | (go_at_call 26; refine (below_c _ _ _ hd).mono ?_; rintro e w' ⟨rfl, rfl⟩))
  go_ret
  exact ⟨ret_int rfl, rfl⟩
theorem life_c (d n l j : Int) (w : World) (hd : I64 d) : Calls Try.prog 20 #[.int .i64 d, .int .i64 n, .int .i64 l, .int .i64 j] w fun e w' => e = .returned (.int .i64 (life d n l j)) ∧ w = w' := by
  go_enter Try.func20, Try.ntmps20
  go_wp2_with (first | (go_at_call 22; refine (add_c _ _ _).mono ?_; rintro e w' ⟨rfl, rfl⟩) | (go_at_call 23; refine (spread_c _ _ _ _ hd).mono ?_; rintro e w' ⟨rfl, rfl⟩))
  go_ret
  exact ⟨ret_int rfl, rfl⟩
end Go.Proofs.Ytdmhgiodpifciaa
