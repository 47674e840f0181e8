/- Contracts of the package frame's small functions and of their references over this seat's translation. -/
import Derived.Test.YtghcgnahdeaofaaO
import Derived.Test.YtghcgnahdeaofaaQ
import Derived.Lib.AppendStr
import Derived.Laws.IdiomStrings
import Derived.Laws.BytesArg
import Derived.Deep.RegionHeld3
namespace Go.Proofs.Ytghcgnahdeaofaa
open Go.ChangeShapes Go.WideShapes Go.ChangeAt Go.RowKit
set_option linter.unusedVariables false
def capn (n : Int) : Int := min (max n 0) 1024
def kindB (k : Int) : Bool := decide (1 ≤ k ∧ k ≤ 8)
def rt (k : Int) (sz : Nat) (most : Int) : Int := if kindB k = true then (if capn most < (sz : Int) then 3 else 0) else 4
theorem capn_bd (n : Int) : 0 ≤ capn n ∧ capn n ≤ 1024 := by unfold capn; omega
theorem capped_c (n : Int) (w : World) : Calls Try.prog 26 #[.int .i64 n] w fun e w' => e = .returned (.int .i64 (capn n)) ∧ w = w' := by
  go_enter Try.func26, Try.ntmps26
  go_wp2
  all_goals (go_ret; exact ⟨ret_int (by unfold capn; omega), rfl⟩)
theorem rcapped_c (n : Int) (w : World) : Calls Try.prog 28 #[.int .i64 n] w fun e w' => e = .returned (.int .i64 (capn n)) ∧ w = w' := by
  go_enter Try.func28, Try.ntmps28
  go_wp2
  all_goals (go_ret; exact ⟨ret_int (by unfold capn; omega), rfl⟩)
theorem kind_c (k : Int) (w : World) : Calls Try.prog 25 #[.int .i64 k] w fun e w' => e = .returned (.bool (kindB k)) ∧ w = w' := by
  by_cases h : 1 ≤ k
  · by_cases h2 : k ≤ 8
    · go_enter Try.func25, Try.ntmps25
      go_wp2
      go_ret
      exact ⟨ret_bool (by unfold kindB; simp [h, h2]), rfl⟩
    · have h3 : decide (k ≤ 8) = false := by simpa using h2
      go_enter Try.func25, Try.ntmps25
      go_wp2
      go_ret
      exact ⟨ret_bool (by unfold kindB; simp; omega), rfl⟩
  · have h3 : decide (1 ≤ k) = false := by simpa using h
    go_enter Try.func25, Try.ntmps25
    go_wp2
    go_ret
    exact ⟨ret_bool (by unfold kindB; simp; omega), rfl⟩
def fr (k : Int) (s : ByteArray) : Array Value := #[.int .i64 k, .string s]
theorem rright_c (k : Int) (s : ByteArray) (most : Int) (w : World) (hs : s.size ≤ maxLen) : Calls Try.prog 27 #[.agg #[.int .i64 k, .string s], .int .i64 most] w fun e w' => e = .returned (.int .i64 (rt k s.size most)) ∧ Below w.heap.size w w' := by
  unfold maxLen at hs
  have HB := Lib.hid (show Below w.heap.size w (w.alloc (.cells #[.int .i64 k, .string s] 33)) from (Below.refl _ _).alloc (Nat.le_refl _) _)
  have hc := capn_bd most
  by_cases k1 : k < 1
  · go_enter Try.func27, Try.ntmps27
    go_wp2
    go_ret
    exact ⟨ret_int (by unfold rt kindB; rw [if_neg (by simp; omega)]), HB.out⟩
  have k1' : decide (k < 1) = false := by simpa using k1
  by_cases k8 : 8 < k
  · go_enter Try.func27, Try.ntmps27
    go_wp2
    go_ret
    exact ⟨ret_int (by unfold rt kindB; rw [if_neg (by simp; omega)]), HB.out⟩
  have k8' : decide (8 < k) = false := by simpa using k8
  have h : kindB k = true := by unfold kindB; simp; omega
  by_cases h2 : capn most < (s.size : Int)
  · go_enter Try.func27, Try.ntmps27
    go_wp2
    go_quiet ((go_at_call 28; exact quiet' (rcapped_c _ _)))
    go_wp2
    go_ret
    exact ⟨ret_int (by unfold rt; rw [h, if_pos rfl, if_pos h2]), bel_drewN HB.out _⟩
  · have h3 : (s.size : Int) ≤ capn most := by omega
    go_enter Try.func27, Try.ntmps27
    go_wp2
    go_quiet ((go_at_call 28; exact quiet' (rcapped_c _ _)))
    go_wp2
    go_ret
    exact ⟨ret_int (by unfold rt; rw [h, if_pos rfl, if_neg (by omega)]), bel_drewN HB.out _⟩
def clientB (k : Int) : Bool := decide ((1 ≤ k ∧ k ≤ 5) ∨ k = 8)
def hostB (k : Int) : Bool := decide (k = 1 ∨ (6 ≤ k ∧ k ≤ 8))
def nameS (k : Int) : ByteArray :=
  if k = 1 then ⟨#[104, 101, 108, 108, 111]⟩ else if k = 2 then ⟨#[98, 101, 103, 105, 110]⟩ else if k = 3 then ⟨#[113, 117, 101, 114, 121]⟩ else if k = 4 then ⟨#[99, 111, 109, 109, 105, 116]⟩
  else if k = 5 then ⟨#[114, 111, 108, 108, 98, 97, 99, 107]⟩ else if k = 6 then ⟨#[114, 101, 112, 108, 121]⟩ else if k = 7 then ⟨#[101, 114, 114, 111, 114]⟩ else if k = 8 then ⟨#[99, 108, 111, 115, 101]⟩ else ByteArray.empty
theorem kinds (k : Int) : k < 1 ∨ k = 1 ∨ k = 2 ∨ k = 3 ∨ k = 4 ∨ k = 5 ∨ k = 6 ∨ k = 7 ∨ k = 8 ∨ 8 < k := by omega
end Go.Proofs.Ytghcgnahdeaofaa
