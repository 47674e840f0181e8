/- Contracts of Rate and of its reference over this seat's translation. -/
import Derived.Test.YtgonoccacbbhjaaXf
namespace Go.Proofs.Ytgonoccacbbhjaa
open Go.ChangeShapes Go.WideShapes Go.ChangeAt Go.RowKit
set_option linter.unusedVariables false
/-- How many are of late. -/
def rate (l : List Int) (sp now : Int) : Nat := l.countP fun x => decide (cut now < cut x + long sp)
theorem rate_snoc (l : List Int) (sp now : Int) (k : Nat) (h : k < l.length) : rate (l.take (k + 1)) sp now = rate (l.take k) sp now + (if cut now < cut l[k] + long sp then 1 else 0) := by
  unfold rate
  rw [List.take_succ_eq_append_getElem h, List.countP_append, List.countP_singleton]
  by_cases hh : cut now < cut l[k] + long sp <;> simp [hh]
theorem rate_le (l : List Int) (sp now : Int) : rate l sp now ≤ l.length := List.countP_le_length
set_option maxRecDepth 100000 in
set_option maxHeartbeats 8000000 in
theorem rate_c (A : Option Addr) (c B : Nat) (l : List Int) (sp now : Int) (w : World) (hi : IR w B A l) (hl : l.length ≤ 100000) :
    Calls Try.prog 21 #[.slice A l.length c, .int .i64 sp, .int .i64 now] w fun e w' => e = .returned (.int .i64 (rate l sp now : Nat)) ∧ w = w' := by
  have HI := Lib.hid hi
  obtain ⟨m, hm⟩ : ∃ m, m = l.length := ⟨_, rfl⟩
  have HM := Lib.hid hm
  rw [← hm] at hl ⊢
  clear hi hm
  have hls := long_bd sp
  have hcn := cut_in now
  go_enter Try.func21, Try.ntmps21
  go_wp2_with fail
  go_loop [7, 12] (fun v i => ∃ k : Nat, i = .int .i64 k ∧ k ≤ m ∧ v = .int .i64 (rate (l.take k) sp now : Nat)) (fun _ i => m - (intOf i).toNat)
  case atStart => exact ⟨0, rfl, Nat.zero_le _, rfl⟩
  case round =>
    obtain ⟨k, rfl, hk, rfl⟩ := hrel
    by_cases hlt : k < m
    · have hlt2 : k < l.length := by rw [← HM.out]; exact hlt
      obtain ⟨x, rfl, _, cx⟩ := HI.out k hlt2
      have HSN := Lib.hid (rate_snoc l sp now k hlt2)
      have hrl := rate_le (l.take k) sp now
      rw [List.length_take] at hrl
      have hr2 : rate (l.take k) sp now ≤ 100000 := by omega
      clear hrl
      generalize l[k] = y at cx HSN
      have hcy := cut_in y
      by_cases hy : cut now < cut y + long sp
      · have HS := Lib.hid (show rate (l.take (k + 1)) sp now = rate (l.take k) sp now + 1 by rw [HSN.out, if_pos hy])
        have hd : decide (cut now < cut y + long sp) = true := by simpa using hy
        go_wp2_with (first | (go_at_call 25; refine (cut_c _ _).mono ?_; rintro e w' ⟨rfl, rfl⟩) | (go_at_call 24; refine (long_c _ _).mono ?_; rintro e w' ⟨rfl, rfl⟩))
        go_round
        case rel => exact ⟨k + 1, by go_num, by omega, by rw [HS.out]; go_num⟩
        case measure => simp [intOf]; omega
      · have HS := Lib.hid (show rate (l.take (k + 1)) sp now = rate (l.take k) sp now by rw [HSN.out, if_neg hy]; rfl)
        have hd : decide (cut now < cut y + long sp) = false := by simpa using hy
        go_wp2_with (first | (go_at_call 25; refine (cut_c _ _).mono ?_; rintro e w' ⟨rfl, rfl⟩) | (go_at_call 24; refine (long_c _ _).mono ?_; rintro e w' ⟨rfl, rfl⟩))
        go_round
        case rel => exact ⟨k + 1, by go_num, by omega, by rw [HS.out]⟩
        case measure => simp [intOf]; omega
    · obtain rfl : k = m := by omega
      have HT := Lib.hid (show l.take k = l from by rw [HM.out, List.take_length])
      go_wp2_with fail
      go_ret
      exact ⟨ret_int (by rw [HT.out]), rfl⟩
set_option maxRecDepth 100000 in
set_option maxHeartbeats 8000000 in
theorem rrate_c (A : Option Addr) (c B : Nat) (l : List Int) (sp now : Int) (w : World) (hi : IR w B A l) (hl : l.length ≤ 100000) :
    Calls Try.prog 22 #[.slice A l.length c, .int .i64 sp, .int .i64 now] w fun e w' => e = .returned (.int .i64 (rate l sp now : Nat)) ∧ w = w' := by
  have HI := Lib.hid hi
  obtain ⟨m, hm⟩ : ∃ m, m = l.length := ⟨_, rfl⟩
  have HM := Lib.hid hm
  rw [← hm] at hl ⊢
  clear hi hm
  have hls := long_bd sp
  have hcn := cut_in now
  go_enter Try.func22, Try.ntmps22
  go_wp2_with fail
  go_loop [7, 8] (fun v i => ∃ k : Nat, i = .int .i64 k ∧ k ≤ m ∧ v = .int .i64 (rate (l.take k) sp now : Nat)) (fun _ i => m - (intOf i).toNat)
  case atStart => exact ⟨0, rfl, Nat.zero_le _, rfl⟩
  case round =>
    obtain ⟨k, rfl, hk, rfl⟩ := hrel
    by_cases hlt : k < m
    · have hlt2 : k < l.length := by rw [← HM.out]; exact hlt
      obtain ⟨x, rfl, _, cx⟩ := HI.out k hlt2
      have HSN := Lib.hid (rate_snoc l sp now k hlt2)
      have hrl := rate_le (l.take k) sp now
      rw [List.length_take] at hrl
      have hr2 : rate (l.take k) sp now ≤ 100000 := by omega
      clear hrl
      generalize l[k] = y at cx HSN
      have hcy := cut_in y
      by_cases hy : cut now < cut y + long sp
      · have HS := Lib.hid (show rate (l.take (k + 1)) sp now = rate (l.take k) sp now + 1 by rw [HSN.out, if_pos hy])
        have hd : decide (cut now < cut y + long sp) = true := by simpa using hy
        go_wp2_with (first | (go_at_call 28; refine (rcut_c _ _).mono ?_; rintro e w' ⟨rfl, rfl⟩) | (go_at_call 27; refine (rspan_c _ _).mono ?_; rintro e w' ⟨rfl, rfl⟩) | (go_at_call 29; refine (late_c _ _ _ _ hcy.1 hcy.2 (by omega) hls.2).mono ?_; rintro e w' ⟨rfl, rfl⟩))
        go_round
        case rel => exact ⟨k + 1, by go_num, by omega, by rw [HS.out]; go_num⟩
        case measure => simp [intOf]; omega
      · have HS := Lib.hid (show rate (l.take (k + 1)) sp now = rate (l.take k) sp now by rw [HSN.out, if_neg hy]; rfl)
        have hd : decide (cut now < cut y + long sp) = false := by simpa using hy
        go_wp2_with (first | (go_at_call 28; refine (rcut_c _ _).mono ?_; rintro e w' ⟨rfl, rfl⟩) | (go_at_call 27; refine (rspan_c _ _).mono ?_; rintro e w' ⟨rfl, rfl⟩) | (go_at_call 29; refine (late_c _ _ _ _ hcy.1 hcy.2 (by omega) hls.2).mono ?_; rintro e w' ⟨rfl, rfl⟩))
        go_round
        case rel => exact ⟨k + 1, by go_num, by omega, by rw [HS.out]⟩
        case measure => simp [intOf]; omega
    · obtain rfl : k = m := by omega
      have HT := Lib.hid (show l.take k = l from by rw [HM.out, List.take_length])
      go_wp2_with fail
      go_ret
      exact ⟨ret_int (by rw [HT.out]), rfl⟩
end Go.Proofs.Ytgonoccacbbhjaa
