/- Contracts of the package backoff's functions and of their references over this seat's translation. -/
import Derived.Test.YtdmhgiodpifciaaD
import Derived.Test.YtdmhgiodpifciaaQ
namespace Go.Proofs.Ytdmhgiodpifciaa
open Go.ChangeShapes Go.WideShapes Go.ChangeAt Go.RowKit
def based (n : Int) : Int := min (max n 1) 1048576
theorem based_bd (n : Int) : 1 ≤ based n ∧ based n ≤ 1048576 := by unfold based; omega
theorem based_based (n : Int) : based (based n) = based n := by unfold based; omega
/-- n, doubled k times. -/
def dbl (n : Int) : Nat → Int
  | 0 => n
  | k + 1 => 2 * dbl n k
theorem dbl_mono (n : Int) (h : 0 ≤ n) (j : Nat) : ∀ k, dbl n k ≤ dbl n (k + j) ∧ 0 ≤ dbl n k := by
  intro k
  have p : ∀ k, 0 ≤ dbl n k := by
    intro k
    induction k with
    | zero => exact h
    | succ k ih => simp only [dbl]; omega
  refine ⟨?_, p k⟩
  induction j with
  | zero => exact Int.le_refl _
  | succ j ih => rw [← Nat.add_assoc]; simp only [dbl]; have := p (k + j); omega
def wait (b f : Int) : Int := if f < 1 then 0 else min (dbl (based b) (f - 1).toNat) 1048576
theorem wait_bd (b f : Int) : 0 ≤ wait b f ∧ wait b f ≤ 1048576 := by
  unfold wait
  have h := based_bd b
  have d := (dbl_mono (based b) (by omega) 0 (f - 1).toNat).2
  split <;> omega
theorem wait_pos (b f : Int) (hf : 1 ≤ f) : 1 ≤ wait b f := by
  unfold wait
  have h := based_bd b
  have d := (dbl_mono (based b) (by omega) (f - 1).toNat 0).1
  simp only [Nat.zero_add, dbl] at d
  rw [if_neg (by omega)]; omega
theorem wait_based (b f : Int) : wait (based b) f = wait b f := by unfold wait; rw [based_based]
theorem wait_next (b f : Int) : wait b f ≤ wait b (f + 1) ∧ (1 ≤ f → wait b (f + 1) ≤ 2 * wait b f) := by
  have h := based_bd b
  by_cases hf : f < 1
  · refine ⟨?_, fun h => by omega⟩
    have := wait_bd b (f + 1)
    unfold wait at *; rw [if_pos hf]; omega
  · have e : (f + 1 - 1).toNat = (f - 1).toNat + 1 := by omega
    have d := (dbl_mono (based b) (by omega) 0 (f - 1).toNat).2
    unfold wait; rw [if_neg hf, if_neg (by omega), e]; simp only [dbl]; omega
theorem wait_far (b f : Int) (hf : 21 ≤ f) : wait b f = 1048576 := by
  have h := based_bd b
  have e : (f - 1).toNat = 20 + ((f - 1).toNat - 20) := by omega
  have d := (dbl_mono (based b) (by omega) ((f - 1).toNat - 20) 20).1
  rw [← e] at d
  simp only [dbl] at d
  unfold wait; rw [if_neg (by omega)]; omega
theorem based_c (n : Int) (w : World) : Calls Try.prog 18 #[.int .i64 n] w fun e w' => e = .returned (.int .i64 (based n)) ∧ w = w' := by
  go_enter Try.func18, Try.ntmps18
  go_wp2
  all_goals (go_ret; exact ⟨ret_int (by unfold based; omega), rfl⟩)
theorem bnew_c (n : Int) (w : World) : Calls Try.prog 10 #[.int .i64 n] w fun e w' => e = .returned (.pointer (some ⟨w.heap.size, 0, none⟩)) ∧ w.alloc (.cells #[.int .i64 (based n), .int .i64 0, .int .i64 0] 42) = w' := by
  go_enter Try.func10, Try.ntmps10
  go_wp2_with (go_at_call 18; refine (based_c _ _).mono ?_; rintro e w' ⟨rfl, rfl⟩)
  go_ret
  exact ⟨rfl, rfl⟩
theorem wait_stop (b : Int) (k n : Nat) (hk : k ≤ n) (h : k = n ∨ 1048576 ≤ dbl (based b) k) : wait b ((n : Int) + 1) = min (dbl (based b) k) 1048576 := by
  have hb := based_bd b
  have d := (dbl_mono (based b) (by omega) (n - k) k).1
  rw [show k + (n - k) = n by omega] at d
  unfold wait; rw [if_neg (by omega), show ((n : Int) + 1 - 1).toNat = n by omega]
  rcases h with rfl | h <;> omega
theorem wait_c (b f : Int) (w : World) (hf : f ≤ 9223372036854775807) : Calls Try.prog 8 #[.int .i64 b, .int .i64 f] w fun e w' => e = .returned (.int .i64 (wait b f)) ∧ w = w' := by
  by_cases h : f < 1
  · clear hf
    go_enter Try.func8, Try.ntmps8
    go_wp2
    go_ret
    exact ⟨ret_int (by unfold wait; rw [if_pos h]), rfl⟩
  · have hb := based_bd b
    have h1 : 1 ≤ f := by omega
    clear h
    obtain ⟨n, rfl⟩ : ∃ n : Nat, f = n + 1 := ⟨(f - 1).toNat, by omega⟩
    have hn : n ≤ 9223372036854775806 := by omega
    clear hf h1
    go_enter Try.func8, Try.ntmps8
    go_wp2_with (go_at_call 18; refine (based_c _ _).mono ?_; rintro e w' ⟨rfl, rfl⟩)
    go_loop [1, 5] (fun c v => ∃ k : Nat, k ≤ n ∧ c = .int .i64 ((n : Int) - k + 1) ∧ v = .int .i64 (dbl (based b) k) ∧ dbl (based b) k ≤ 2097152) (fun c _ => (intOf c).toNat)
    case atStart => exact ⟨0, Nat.zero_le _, by congr 1 <;> omega, by congr 1, by simp only [dbl]; omega⟩
    case round =>
      obtain ⟨k, hk, rfl, rfl, hv⟩ := hrel
      have hd := (dbl_mono (based b) (by omega) 0 k).2
      have ed : dbl (based b) (k + 1) = 2 * dbl (based b) k := rfl
      have HE := Lib.hid ed
      clear ed
      by_cases hlt : k < n
      · by_cases hm : dbl (based b) k < 1048576
        · go_wp2
          go_round
          case rel => exact ⟨k + 1, by omega, by congr 1; omega, by rw [HE.out]; congr 1; omega, by rw [HE.out]; omega⟩
          case measure => simp [intOf]; omega
        · have HS := Lib.hid (wait_stop b k n hk (.inr (by omega)))
          go_wp2
          all_goals (go_ret; exact ⟨ret_int (by rw [HS.out]; omega), rfl⟩)
      · obtain rfl : k = n := by omega
        have HS := Lib.hid (wait_stop b k k hk (.inl rfl))
        go_wp2
        all_goals (go_ret; exact ⟨ret_int (by rw [HS.out]; omega), rfl⟩)
theorem rnew_c (n : Int) (w : World) : Calls Try.prog 19 #[.int .i64 n] w fun e w' => e = .returned (.agg #[.int .i64 (based n), .int .i64 0, .int .i64 0]) ∧ Below w.heap.size w w' := by
  by_cases h1 : n < 1
  · go_enter Try.func19, Try.ntmps19
    go_wp2
    refine bodyPost_ret (v := .agg #[.int .i64 1, .int .i64 0, .int .i64 0]) (by simp [results, Try.results19, go_sem]) rfl ⟨?_, (Below.refl _ _).alloc (Nat.le_refl _) _⟩
    rw [show based n = 1 by unfold based; omega]
  · have h0 : 1 ≤ n := by omega
    by_cases h2 : 1048576 < n
    · go_enter Try.func19, Try.ntmps19
      go_wp2
      refine bodyPost_ret (v := .agg #[.int .i64 1048576, .int .i64 0, .int .i64 0]) (by simp [results, Try.results19, go_sem]) rfl ⟨?_, (Below.refl _ _).alloc (Nat.le_refl _) _⟩
      rw [show based n = 1048576 by unfold based; omega]
    · have h3 : n ≤ 1048576 := by omega
      go_enter Try.func19, Try.ntmps19
      go_wp2
      refine bodyPost_ret (v := .agg #[.int .i64 n, .int .i64 0, .int .i64 0]) (by simp [results, Try.results19, go_sem]) rfl ⟨?_, (Below.refl _ _).alloc (Nat.le_refl _) _⟩
      rw [show based n = n by unfold based; omega]
theorem rwait_c (b f : Int) (w : World) (hf : f ≤ 9223372036854775807) : Calls Try.prog 9 #[.int .i64 b, .int .i64 f] w fun e w' => e = .returned (.int .i64 (wait b f)) ∧ Below w.heap.size w w' := by
  by_cases h : f < 1
  · clear hf
    go_enter Try.func9, Try.ntmps9
    go_wp2
    go_ret
    exact ⟨ret_int (by unfold wait; rw [if_pos h]), Below.refl _ _⟩
  · have hb := based_bd b
    have h1 : 1 ≤ f := by omega
    clear h
    obtain ⟨n, rfl⟩ : ∃ n : Nat, f = n + 1 := ⟨(f - 1).toNat, by omega⟩
    have hn : n ≤ 9223372036854775806 := by omega
    clear hf h1
    have hfd : ∀ (w : World) (x y z : Int), (Instr.field 39 (.agg #[.int .i64 x, .int .i64 y, .int .i64 z]) 0).run Try.prog w = .ok (.int .i64 x) w := fun _ _ _ _ => by kernel_rfl
    go_enter Try.func9, Try.ntmps9
    go_wp2_with (go_at_call 19; refine (rnew_c _ _).mono ?_; rintro e w1 ⟨rfl, hb1⟩)
    have HB := Lib.hid hb1
    clear hb1
    go_loop [5, 6] (fun v c => ∃ k : Nat, ∃ x : Int, k ≤ n ∧ c = .int .i64 ((k : Int) + 1) ∧ v = .int .i64 x ∧ x = min (dbl (based b) k) 1048576) (fun _ c => n + 1 - (intOf c).toNat)
    case atStart => exact ⟨0, based b, Nat.zero_le _, by congr 1, by congr 1, by simp only [dbl]; omega⟩
    case round =>
      obtain ⟨k, x, hk, rfl, rfl, hx⟩ := hrel
      have hd := (dbl_mono (based b) (by omega) 0 k).2
      have ed : dbl (based b) (k + 1) = 2 * dbl (based b) k := rfl
      have HE := Lib.hid ed
      have HX := Lib.hid hx
      have hx0 : 0 ≤ x := by omega
      have hx1 : x ≤ 1048576 := by omega
      clear ed hx
      by_cases hlt : k < n
      · by_cases hm : x < 1048576
        · go_wp2
          all_goals
            go_round
            case rel => exact ⟨k + 1, _, by omega, by congr 1, rfl, by have h1 := HE.out; have h2 := HX.out; omega⟩
            case measure => simp [intOf]; omega
        · have HS := Lib.hid (wait_stop b k n hk (.inr (by have := HX.out; omega)))
          go_wp2
          all_goals (go_ret; exact ⟨ret_int (by rw [HS.out, HX.out]), HB.out⟩)
      · obtain rfl : k = n := by omega
        have HS := Lib.hid (wait_stop b k k hk (.inl rfl))
        go_wp2
        all_goals (go_ret; exact ⟨ret_int (by rw [HS.out, HX.out]), HB.out⟩)
def cells (b f u : Int) : Array Value := #[.int .i64 b, .int .i64 f, .int .i64 u]
def failed (b f d now : Int) : Int := life d now (wait b (f + 1)) (wait b (f + 1) / 4)
theorem fail_c (g : Nat) (b f u d now : Int) (w : World) (hb : Blk w g 42 (cells b f u)) (h0 : 0 ≤ f) (h1 : f ≤ 1000) (hd : I64 d) :
    Calls Try.prog 11 #[.pointer (some ⟨g, 0, none⟩), .int .i64 now, .int .i64 d] w fun e w' => e = .returned (.int .i64 (failed b f d now)) ∧ Blk w' g 42 (cells b (f + 1) (failed b f d now)) ∧ Near g w w' := by
  have c0 : w.cell? ⟨g, 0, none⟩ = some (.int .i64 b) := hb.cell 0
  have c1 : w.cell? ⟨g, 1, none⟩ = some (.int .i64 f) := hb.cell 1
  have c2 : w.cell? ⟨g, 2, none⟩ = some (.int .i64 u) := hb.cell 2
  have f1 := hb.free 1
  have f2 := hb.free 2
  have HB := Lib.hid hb
  have HD := Lib.hid hd
  have hw := wait_bd b (f + 1)
  clear hb hd
  go_enter Try.func11, Try.ntmps11
  go_wp2
  go_quiet ((go_at_call 8; exact quiet' (wait_c _ _ _ (by omega))))
  go_wp2_with (go_at_call 20; refine (life_c _ _ _ _ _ HD.out).mono ?_; rintro e w' ⟨rfl, rfl⟩)
  go_ret
  refine ⟨rfl, ?_, ((((Near.refl _ _).set 1 _).drewN _).set 2 _)⟩
  exact ((HB.out.set 1 _).drewN _).set 2 _
theorem failNil_c (d now : Int) (w : World) : Calls Try.prog 11 #[.pointer none, .int .i64 now, .int .i64 d] w fun e w' => e = .returned (.int .i64 0) ∧ w = w' := by
  go_enter Try.func11, Try.ntmps11
  go_wp2
  go_ret
  exact ⟨rfl, rfl⟩
theorem until_c (g : Nat) (b f u : Int) (w : World) (hb : Blk w g 42 (cells b f u)) : Calls Try.prog 12 #[.pointer (some ⟨g, 0, none⟩)] w fun e w' => e = .returned (.int .i64 u) ∧ w = w' := by
  have c2 : w.cell? ⟨g, 2, none⟩ = some (.int .i64 u) := hb.cell 2
  clear hb
  go_enter Try.func12, Try.ntmps12
  go_wp2
  go_ret
  exact ⟨rfl, rfl⟩
theorem untilNil_c (w : World) : Calls Try.prog 12 #[.pointer none] w fun e w' => e = .returned (.int .i64 0) ∧ w = w' := by
  go_enter Try.func12, Try.ntmps12
  go_wp2
  go_ret
  exact ⟨rfl, rfl⟩
theorem fails_c (g : Nat) (b f u : Int) (w : World) (hb : Blk w g 42 (cells b f u)) : Calls Try.prog 13 #[.pointer (some ⟨g, 0, none⟩)] w fun e w' => e = .returned (.int .i64 f) ∧ w = w' := by
  have c1 : w.cell? ⟨g, 1, none⟩ = some (.int .i64 f) := hb.cell 1
  clear hb
  go_enter Try.func13, Try.ntmps13
  go_wp2
  go_ret
  exact ⟨rfl, rfl⟩
theorem failsNil_c (w : World) : Calls Try.prog 13 #[.pointer none] w fun e w' => e = .returned (.int .i64 0) ∧ w = w' := by
  go_enter Try.func13, Try.ntmps13
  go_wp2
  go_ret
  exact ⟨rfl, rfl⟩
theorem may_c (g : Nat) (b f u now : Int) (w : World) (hb : Blk w g 42 (cells b f u)) : Calls Try.prog 14 #[.pointer (some ⟨g, 0, none⟩), .int .i64 now] w fun e w' => e = .returned (.bool (past now u)) ∧ w = w' := by
  have c2 : w.cell? ⟨g, 2, none⟩ = some (.int .i64 u) := hb.cell 2
  clear hb
  go_enter Try.func14, Try.ntmps14
  go_wp2_with (first | (go_at_call 21; refine (past_c _ _ _).mono ?_; rintro e w' ⟨rfl, rfl⟩))
  all_goals go_ret
  all_goals exact ⟨rfl, rfl⟩
theorem mayNil_c (now : Int) (w : World) : Calls Try.prog 14 #[.pointer none, .int .i64 now] w fun e w' => e = .returned (.bool false) ∧ w = w' := by
  go_enter Try.func14, Try.ntmps14
  go_wp2
  go_ret
  exact ⟨rfl, rfl⟩
theorem ok_c (g : Nat) (b f u : Int) (w : World) (hb : Blk w g 42 (cells b f u)) : Calls Try.prog 15 #[.pointer (some ⟨g, 0, none⟩)] w fun e w' => e = .returned (.tuple #[]) ∧ Blk w' g 42 (cells b 0 0) ∧ Near g w w' := by
  have c1 : w.cell? ⟨g, 1, none⟩ = some (.int .i64 f) := hb.cell 1
  have c2 : w.cell? ⟨g, 2, none⟩ = some (.int .i64 u) := hb.cell 2
  have f1 := hb.free 1
  have f2 := hb.free 2
  have HB := Lib.hid hb
  clear hb
  go_enter Try.func15, Try.ntmps15
  go_wp2
  go_end0
  exact ⟨rfl, (HB.out.set 1 _).set 2 _, ((Near.refl _ _).set 1 _).set 2 _⟩
theorem okNil_c (w : World) : Calls Try.prog 15 #[.pointer none] w fun e w' => e = .returned (.tuple #[]) ∧ w = w' := by
  go_enter Try.func15, Try.ntmps15
  go_wp2
  go_end0
  exact ⟨rfl, rfl⟩
theorem klives_c (w : World) : Calls Try.prog 7 #[] w fun e w' => e = .returned (.bool true) ∧ Below w.heap.size w w' := by
  have h1 : (wait 8 1 == 8) = true := by decide
  have h2 : (wait 8 3 == 32) = true := by decide
  have h3 : (failed 8 0 0 100 == 106) = true := by decide
  have h4 : past 105 (failed 8 0 0 100) = false := by decide
  have h5 : past 106 (failed 8 0 0 100) = true := by decide
  have h6 : based 8 = 8 := by decide
  have HN := Lib.hid (Blk.new w 42 (cells 8 0 0))
  have HB := Lib.hid (show Below w.heap.size w (w.alloc (.cells (cells 8 0 0) 42)) from (Below.refl _ _).alloc (Nat.le_refl _) _)
  go_enter Try.func7, Try.ntmps7
  go_wp2_with (go_at_call 10; refine (bnew_c _ _).mono ?_; rintro e w' ⟨rfl, rfl⟩)
  refine (fail_c w.heap.size 8 0 0 0 100 _ HN.out (by omega) (by omega) (by unfold I64; omega)).mono ?_
  rintro e w1 ⟨rfl, hb, hn⟩
  have HB1 := Lib.hid hb
  have HN1 := Lib.hid hn
  clear hb hn
  go_wp2_with (first | (go_at_call 8; refine (wait_c _ _ _ (by omega)).mono ?_; rintro e w' ⟨rfl, rfl⟩) | (go_at_call 13; refine (fails_c _ _ _ _ _ HB1.out).mono ?_; rintro e w' ⟨rfl, rfl⟩) | (go_at_call 14; refine (may_c _ _ _ _ _ _ HB1.out).mono ?_; rintro e w' ⟨rfl, rfl⟩))
  go_ret
  exact ⟨rfl, HN1.out.later HB.out (by simp) (Nat.le_refl _)⟩
end Go.Proofs.Ytdmhgiodpifciaa
