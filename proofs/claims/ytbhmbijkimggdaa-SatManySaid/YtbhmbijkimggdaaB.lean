/- Contracts of the sums of the package sat and of its reference over this seat's translation: what each returns of a slice that reads as a list of numbers. -/
import Derived.Test.YtbhmbijkimggdaaA
namespace Go.Proofs.Ytbhmbijkimggdaa
open Go.ChangeShapes Go.WideShapes Go.ChangeAt Go.RowKit
def sumL (l : List Int) : Int := l.foldl add 0
theorem sumL_snoc (l : List Int) (x : Int) : sumL (l ++ [x]) = add (sumL l) x := by unfold sumL; simp
theorem take_snoc (l : List Int) (k : Nat) (h : k < l.length) : l.take (k + 1) = l.take k ++ [l[k]?.getD 0] := by
  rw [List.take_succ_eq_append_getElem h]; simp [h]
/-- The slice value reads as the list: nil and empty, or its first cells hold the numbers. -/
def Reads (w : World) (a : Option Addr) (l : List Int) : Prop := (a = none ∧ l = []) ∨ ∃ x, a = some x ∧ ∀ i, i < l.length → w.cell? (x.add i) = some (.int .i64 (l[i]?.getD 0))
theorem sum_c (a : Option Addr) (cap : Nat) (l : List Int) (w : World) (hm : l.length ≤ maxLen) (hc : Reads w a l) :
    Calls Try.prog 19 #[.slice a l.length cap] w fun e w' => e = .returned (.int .i64 (sumL l)) ∧ w = w' := by
  unfold maxLen at hm
  rcases hc with ⟨rfl, rfl⟩ | ⟨x, rfl, hc⟩
  · go_enter Try.func19, Try.ntmps19
    go_wp2
    refine wp_loop_rounds 1 ?_
    rw [rounds_succ]
    go_wp2
    go_ret
    exact ⟨rfl, rfl⟩
  have HC := Lib.hid hc
  clear hc
  obtain ⟨len, hlen⟩ : ∃ n, n = l.length := ⟨_, rfl⟩
  rw [← hlen] at hm ⊢
  have HL := Lib.hid hlen
  clear hlen
  go_enter Try.func19, Try.ntmps19
  go_wp2
  go_loop [3, 5, 8] (fun s v i => ∃ k : Nat, k ≤ len ∧ i = .int .i64 k ∧ s = .int .i64 (sumL (l.take k))) (fun _ _ i => len - (intOf i).toNat)
  case atStart => exact ⟨0, Nat.zero_le _, rfl, rfl⟩
  case round =>
    obtain ⟨k, hk, rfl, rfl⟩ := hrel
    by_cases hlt : k < len
    · have hcell := HC.out k (by rw [← HL.out]; exact hlt)
      have HS := Lib.hid (take_snoc l k (by rw [← HL.out]; exact hlt))
      go_wp2_with (first | (go_at_call 11; refine (add_c _ _ _).mono ?_; rintro e w' ⟨rfl, rfl⟩))
      go_round
      case rel => exact ⟨k + 1, by omega, by go_num, by rw [HS.out, sumL_snoc]⟩
      case measure => simp [intOf]; omega
    · go_wp2
      go_ret
      exact ⟨ret_int (by rw [show k = l.length by have := HL.out; omega, List.take_length]), rfl⟩
theorem rsum_c (a : Option Addr) (cap : Nat) (l : List Int) (w : World) (hm : l.length ≤ maxLen) (hc : Reads w a l) :
    Calls Try.prog 20 #[.slice a l.length cap] w fun e w' => e = .returned (.int .i64 (sumL l)) ∧ w = w' := by
  unfold maxLen at hm
  rcases hc with ⟨rfl, rfl⟩ | ⟨x, rfl, hc⟩
  · go_enter Try.func20, Try.ntmps20
    go_wp2
    refine wp_loop_rounds 1 ?_
    rw [rounds_succ]
    go_wp2
    go_ret
    exact ⟨rfl, rfl⟩
  have HC := Lib.hid hc
  clear hc
  obtain ⟨len, hlen⟩ : ∃ n, n = l.length := ⟨_, rfl⟩
  rw [← hlen] at hm ⊢
  have HL := Lib.hid hlen
  clear hlen
  go_enter Try.func20, Try.ntmps20
  go_wp2
  go_loop [3, 4] (fun s i => ∃ k : Nat, k ≤ len ∧ i = .int .i64 k ∧ s = .int .i64 (sumL (l.take k))) (fun _ i => len - (intOf i).toNat)
  case atStart => exact ⟨0, Nat.zero_le _, rfl, rfl⟩
  case round =>
    obtain ⟨k, hk, rfl, rfl⟩ := hrel
    by_cases hlt : k < len
    · have hcell := HC.out k (by rw [← HL.out]; exact hlt)
      have HS := Lib.hid (take_snoc l k (by rw [← HL.out]; exact hlt))
      go_wp2_with (first | (go_at_call 15; refine (radd_c _ _ _).mono ?_; rintro e w' ⟨rfl, rfl⟩))
      go_round
      case rel => exact ⟨k + 1, by omega, by go_num, by rw [HS.out, sumL_snoc]⟩
      case measure => simp [intOf]; omega
    · go_wp2
      go_ret
      exact ⟨ret_int (by rw [show k = l.length by have := HL.out; omega, List.take_length]), rfl⟩
theorem info3 : (Try.prog.info? 3).map (fun i => (i.zero, i.size, i.bytes)) = some (some (.int .i64 0), 1, 8) := by kernel_rfl
def cutSum : List Int → Int
  | [] => 0
  | x :: l => cut x + cutSum l
theorem cutSum_nonneg (l : List Int) : 0 ≤ cutSum l := by
  induction l with
  | nil => simp [cutSum]
  | cons x l ih => have := cut_bd x; simp only [cutSum]; omega
theorem cutSum_append (l m : List Int) : cutSum (l ++ m) = cutSum l + cutSum m := by
  induction l with
  | nil => simp [cutSum]
  | cons x l ih => simp only [List.cons_append, cutSum, ih]; omega
theorem cutSum_rev (l : List Int) : cutSum l.reverse = cutSum l := by
  induction l with
  | nil => rfl
  | cons x l ih => simp only [List.reverse_cons, cutSum_append, cutSum, ih]; omega
theorem fold_eq (l : List Int) : ∀ acc : Int, 0 ≤ acc → acc ≤ 1099511627776 → l.foldl add acc = min (acc + cutSum l) 1099511627776 := by
  induction l with
  | nil => intro acc h0 h1; simp only [List.foldl_nil, cutSum]; omega
  | cons x l ih =>
    intro acc h0 h1
    have c := cut_bd x
    have b := add_bd acc x
    have n := cutSum_nonneg l
    have e : add acc x = min (acc + cut x) 1099511627776 := by unfold add; rw [show cut acc = acc by unfold cut; omega]
    simp only [List.foldl_cons, cutSum]
    rw [ih _ b.1 b.2, e]; omega
theorem sumL_eq (l : List Int) : sumL l = min (cutSum l) 1099511627776 := by
  unfold sumL; rw [fold_eq l 0 (by omega) (by omega)]; simp
theorem sumL_rev (l : List Int) : sumL l.reverse = sumL l := by rw [sumL_eq, sumL_eq, cutSum_rev]
end Go.Proofs.Ytbhmbijkimggdaa
