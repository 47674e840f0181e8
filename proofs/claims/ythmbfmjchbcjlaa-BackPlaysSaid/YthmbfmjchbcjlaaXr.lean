/- Contracts of the references of the package back over this seat's translation. -/
import Derived.Test.YthmbfmjchbcjlaaU
namespace Go.Proofs.Ythmbfmjchbcjlaa
open Go.ChangeShapes Go.WideShapes Go.ChangeAt Go.RowKit
set_option linter.unusedVariables false
abbrev rbv (b : BK) : Array Value := #[.int .i64 b.state, .string b.host, .int .i64 b.born, .int .i64 b.deadline, .int .i64 b.since, .int .i64 b.client, .int .i64 b.owes]
def RP (r : BK × Bool) (w : World) (e : Ending) (w' : World) : Prop := e = .returned (.tuple #[.agg (rbv r.1), .bool r.2]) ∧ Below w.heap.size w w'
theorem rp_mk {r : BK × Bool} {w w' : World} {b : BK} {t : Bool} (h : r = (b, t)) (hb : Below w.heap.size w w') : RP r w (.returned (.tuple #[.agg (rbv b), .bool t])) w' := by subst h; exact ⟨rfl, hb⟩

set_option maxHeartbeats 4000000 in
theorem r0_c (b : BK) (a c : Int) (k : Nat) (hf : Fine b k) (hk : k ≤ 1000) (w : World) : Calls Try.prog 42 #[.agg (rbv b), .int .i64 a, .int .i64 c] w (RP (stp b 0 a c) w) := by
  obtain ⟨host, state, born, deadline, since, client, owes⟩ := b
  obtain ⟨o0, o1, cl0, s0, s4, idle, busy⟩ := hf
  dsimp only at o0 o1 cl0 s0 s4 idle busy
  by_cases h : state = 0
  · clear idle busy
    have HS := Lib.hid (show stp ⟨host, state, born, deadline, since, client, owes⟩ 0 a c = (⟨host, 1, cut a, cut c, since, client, owes⟩, true) by unfold stp; simp [*] <;> first | rfl | omega)
    subst h
    go_enter Try.func42, Try.ntmps42
    go_wp2_with (go_at_call 61; refine (rcut_c _ _).mono ?_; rintro e w' ⟨rfl, rfl⟩)
    refine bodyPost_ret (v := .tuple #[.agg (rbv ⟨host, 1, cut a, cut c, since, client, owes⟩), .bool true]) (by simp [results, Try.results42, go_sem]) rfl ?_
    exact rp_mk HS.out (((Below.refl _ _).alloc (Nat.le_refl _) _).alloc (by simp) _)
  · clear idle busy
    have HS := Lib.hid (show stp ⟨host, state, born, deadline, since, client, owes⟩ 0 a c = (⟨host, state, born, deadline, since, client, owes⟩, false) by unfold stp; simp [*] <;> first | rfl | omega)
    have h1 : (state != 0) = true := by simpa using h
    go_enter Try.func42, Try.ntmps42
    go_wp2_with (go_at_call 61; refine (rcut_c _ _).mono ?_; rintro e w' ⟨rfl, rfl⟩)
    refine bodyPost_ret (v := .tuple #[.agg (rbv ⟨host, state, born, deadline, since, client, owes⟩), .bool false]) (by simp [results, Try.results42, go_sem]) rfl ?_
    exact rp_mk HS.out (((Below.refl _ _).alloc (Nat.le_refl _) _).alloc (by simp) _)

set_option maxHeartbeats 4000000 in
theorem r1_c (b : BK) (a c : Int) (k : Nat) (hf : Fine b k) (hk : k ≤ 1000) (w : World) : Calls Try.prog 43 #[.agg (rbv b), .int .i64 a] w (RP (stp b 1 a c) w) := by
  obtain ⟨host, state, born, deadline, since, client, owes⟩ := b
  obtain ⟨o0, o1, cl0, s0, s4, idle, busy⟩ := hf
  dsimp only at o0 o1 cl0 s0 s4 idle busy
  by_cases h : state = 1
  · obtain ⟨hc0, ho0⟩ := idle (by omega)
    clear idle busy
    have HS := Lib.hid (show stp ⟨host, state, born, deadline, since, client, owes⟩ 1 a c = (⟨host, 2, born, deadline, cut a, 0, owes⟩, true) by unfold stp; simp [*] <;> first | rfl | omega)
    subst h hc0; clear ho0
    go_enter Try.func43, Try.ntmps43
    go_wp2_with (go_at_call 61; refine (rcut_c _ _).mono ?_; rintro e w' ⟨rfl, rfl⟩)
    refine bodyPost_ret (v := .tuple #[.agg (rbv ⟨host, 2, born, deadline, cut a, 0, owes⟩), .bool true]) (by simp [results, Try.results43, go_sem]) rfl ?_
    exact rp_mk HS.out (((Below.refl _ _).alloc (Nat.le_refl _) _).alloc (by simp) _)
  · clear idle busy
    have HS := Lib.hid (show stp ⟨host, state, born, deadline, since, client, owes⟩ 1 a c = (⟨host, state, born, deadline, since, client, owes⟩, false) by unfold stp; simp [*] <;> first | rfl | omega)
    have h1 : (state != 1) = true := by simpa using h
    go_enter Try.func43, Try.ntmps43
    go_wp2_with (go_at_call 61; refine (rcut_c _ _).mono ?_; rintro e w' ⟨rfl, rfl⟩)
    refine bodyPost_ret (v := .tuple #[.agg (rbv ⟨host, state, born, deadline, since, client, owes⟩), .bool false]) (by simp [results, Try.results43, go_sem]) rfl ?_
    exact rp_mk HS.out (((Below.refl _ _).alloc (Nat.le_refl _) _).alloc (by simp) _)

set_option maxHeartbeats 4000000 in
theorem r2_c (b : BK) (a c : Int) (k : Nat) (hf : Fine b k) (hk : k ≤ 1000) (w : World) : Calls Try.prog 44 #[.agg (rbv b), .int .i64 a] w (RP (stp b 2 a c) w) := by
  obtain ⟨host, state, born, deadline, since, client, owes⟩ := b
  obtain ⟨o0, o1, cl0, s0, s4, idle, busy⟩ := hf
  dsimp only at o0 o1 cl0 s0 s4 idle busy
  by_cases h : state = 2
  · clear idle busy
    by_cases h2 : a < 1
    · have h3 : ¬ 0 < a := by omega
      have HS := Lib.hid (show stp ⟨host, state, born, deadline, since, client, owes⟩ 2 a c = (⟨host, state, born, deadline, since, client, owes⟩, false) by unfold stp; simp [*] <;> first | rfl | omega)
      subst h
      go_enter Try.func44, Try.ntmps44
      go_wp2_with (go_at_call 61; refine (rcut_c _ _).mono ?_; rintro e w' ⟨rfl, rfl⟩)
      refine bodyPost_ret (v := .tuple #[.agg (rbv ⟨host, 2, born, deadline, since, client, owes⟩), .bool false]) (by simp [results, Try.results44, go_sem]) rfl ?_
      exact rp_mk HS.out (((Below.refl _ _).alloc (Nat.le_refl _) _).alloc (by simp) _)
    · have h3 : 0 < a := by omega
      have h4 : decide (a < 1) = false := by simpa using h2
      have HS := Lib.hid (show stp ⟨host, state, born, deadline, since, client, owes⟩ 2 a c = (⟨host, 3, born, deadline, 0, a, 0⟩, true) by unfold stp; simp [*] <;> first | rfl | omega)
      subst h
      go_enter Try.func44, Try.ntmps44
      go_wp2_with (go_at_call 61; refine (rcut_c _ _).mono ?_; rintro e w' ⟨rfl, rfl⟩)
      refine bodyPost_ret (v := .tuple #[.agg (rbv ⟨host, 3, born, deadline, 0, a, 0⟩), .bool true]) (by simp [results, Try.results44, go_sem]) rfl ?_
      exact rp_mk HS.out (((Below.refl _ _).alloc (Nat.le_refl _) _).alloc (by simp) _)
  · clear idle busy
    have HS := Lib.hid (show stp ⟨host, state, born, deadline, since, client, owes⟩ 2 a c = (⟨host, state, born, deadline, since, client, owes⟩, false) by unfold stp; simp [*] <;> first | rfl | omega)
    have h1 : (state != 2) = true := by simpa using h
    go_enter Try.func44, Try.ntmps44
    go_wp2_with (go_at_call 61; refine (rcut_c _ _).mono ?_; rintro e w' ⟨rfl, rfl⟩)
    refine bodyPost_ret (v := .tuple #[.agg (rbv ⟨host, state, born, deadline, since, client, owes⟩), .bool false]) (by simp [results, Try.results44, go_sem]) rfl ?_
    exact rp_mk HS.out (((Below.refl _ _).alloc (Nat.le_refl _) _).alloc (by simp) _)

set_option maxHeartbeats 4000000 in
theorem r3_c (b : BK) (a c : Int) (k : Nat) (hf : Fine b k) (hk : k ≤ 1000) (w : World) : Calls Try.prog 45 #[.agg (rbv b)] w (RP (stp b 3 a c) w) := by
  obtain ⟨host, state, born, deadline, since, client, owes⟩ := b
  obtain ⟨o0, o1, cl0, s0, s4, idle, busy⟩ := hf
  dsimp only at o0 o1 cl0 s0 s4 idle busy
  by_cases h : state = 3
  · clear idle busy
    have HS := Lib.hid (show stp ⟨host, state, born, deadline, since, client, owes⟩ 3 a c = (⟨host, state, born, deadline, since, client, owes + 1⟩, true) by unfold stp; simp [*] <;> first | rfl | omega)
    subst h
    go_enter Try.func45, Try.ntmps45
    go_wp2_with (go_at_call 61; refine (rcut_c _ _).mono ?_; rintro e w' ⟨rfl, rfl⟩)
    refine bodyPost_ret (v := .tuple #[.agg (rbv ⟨host, 3, born, deadline, since, client, owes + 1⟩), .bool true]) (by simp [results, Try.results45, go_sem]) rfl ?_
    exact rp_mk HS.out (((Below.refl _ _).alloc (Nat.le_refl _) _).alloc (by simp) _)
  · clear idle busy
    have HS := Lib.hid (show stp ⟨host, state, born, deadline, since, client, owes⟩ 3 a c = (⟨host, state, born, deadline, since, client, owes⟩, false) by unfold stp; simp [*] <;> first | rfl | omega)
    have h1 : (state != 3) = true := by simpa using h
    go_enter Try.func45, Try.ntmps45
    go_wp2_with (go_at_call 61; refine (rcut_c _ _).mono ?_; rintro e w' ⟨rfl, rfl⟩)
    refine bodyPost_ret (v := .tuple #[.agg (rbv ⟨host, state, born, deadline, since, client, owes⟩), .bool false]) (by simp [results, Try.results45, go_sem]) rfl ?_
    exact rp_mk HS.out (((Below.refl _ _).alloc (Nat.le_refl _) _).alloc (by simp) _)

set_option maxHeartbeats 4000000 in
theorem r4_c (b : BK) (a c : Int) (k : Nat) (hf : Fine b k) (hk : k ≤ 1000) (w : World) : Calls Try.prog 46 #[.agg (rbv b)] w (RP (stp b 4 a c) w) := by
  obtain ⟨host, state, born, deadline, since, client, owes⟩ := b
  obtain ⟨o0, o1, cl0, s0, s4, idle, busy⟩ := hf
  dsimp only at o0 o1 cl0 s0 s4 idle busy
  by_cases h : state = 3
  · clear idle busy
    by_cases h2 : owes = 0
    · have h3 : ¬ 0 < owes := by omega
      have HS := Lib.hid (show stp ⟨host, state, born, deadline, since, client, owes⟩ 4 a c = (⟨host, state, born, deadline, since, client, owes⟩, false) by unfold stp; simp [*] <;> first | rfl | omega)
      subst h h2
      go_enter Try.func46, Try.ntmps46
      go_wp2_with (go_at_call 61; refine (rcut_c _ _).mono ?_; rintro e w' ⟨rfl, rfl⟩)
      refine bodyPost_ret (v := .tuple #[.agg (rbv ⟨host, 3, born, deadline, since, client, 0⟩), .bool false]) (by simp [results, Try.results46, go_sem]) rfl ?_
      exact rp_mk HS.out (((Below.refl _ _).alloc (Nat.le_refl _) _).alloc (by simp) _)
    · have h3 : 0 < owes := by omega
      have h4 : (owes == 0) = false := by simpa using h2
      have HS := Lib.hid (show stp ⟨host, state, born, deadline, since, client, owes⟩ 4 a c = (⟨host, state, born, deadline, since, client, owes - 1⟩, true) by unfold stp; simp [*] <;> first | rfl | omega)
      subst h
      go_enter Try.func46, Try.ntmps46
      go_wp2_with (go_at_call 61; refine (rcut_c _ _).mono ?_; rintro e w' ⟨rfl, rfl⟩)
      refine bodyPost_ret (v := .tuple #[.agg (rbv ⟨host, 3, born, deadline, since, client, owes - 1⟩), .bool true]) (by simp [results, Try.results46, go_sem]) rfl ?_
      exact rp_mk HS.out (((Below.refl _ _).alloc (Nat.le_refl _) _).alloc (by simp) _)
  · clear idle busy
    have HS := Lib.hid (show stp ⟨host, state, born, deadline, since, client, owes⟩ 4 a c = (⟨host, state, born, deadline, since, client, owes⟩, false) by unfold stp; simp [*] <;> first | rfl | omega)
    have h1 : (state != 3) = true := by simpa using h
    go_enter Try.func46, Try.ntmps46
    go_wp2_with (go_at_call 61; refine (rcut_c _ _).mono ?_; rintro e w' ⟨rfl, rfl⟩)
    refine bodyPost_ret (v := .tuple #[.agg (rbv ⟨host, state, born, deadline, since, client, owes⟩), .bool false]) (by simp [results, Try.results46, go_sem]) rfl ?_
    exact rp_mk HS.out (((Below.refl _ _).alloc (Nat.le_refl _) _).alloc (by simp) _)

set_option maxHeartbeats 4000000 in
theorem r5_c (b : BK) (a c : Int) (k : Nat) (hf : Fine b k) (hk : k ≤ 1000) (w : World) : Calls Try.prog 47 #[.agg (rbv b), .int .i64 a] w (RP (stp b 5 a c) w) := by
  obtain ⟨host, state, born, deadline, since, client, owes⟩ := b
  obtain ⟨o0, o1, cl0, s0, s4, idle, busy⟩ := hf
  dsimp only at o0 o1 cl0 s0 s4 idle busy
  by_cases h : state = 3
  · clear idle busy
    by_cases h2 : owes = 0
    · skip
      have HS := Lib.hid (show stp ⟨host, state, born, deadline, since, client, owes⟩ 5 a c = (⟨host, 2, born, deadline, cut a, 0, owes⟩, true) by unfold stp; simp [*] <;> first | rfl | omega)
      subst h h2
      go_enter Try.func47, Try.ntmps47
      go_wp2_with (go_at_call 61; refine (rcut_c _ _).mono ?_; rintro e w' ⟨rfl, rfl⟩)
      refine bodyPost_ret (v := .tuple #[.agg (rbv ⟨host, 2, born, deadline, cut a, 0, 0⟩), .bool true]) (by simp [results, Try.results47, go_sem]) rfl ?_
      exact rp_mk HS.out (((Below.refl _ _).alloc (Nat.le_refl _) _).alloc (by simp) _)
    · have h3 : 0 < owes := by omega
      have HS := Lib.hid (show stp ⟨host, state, born, deadline, since, client, owes⟩ 5 a c = (⟨host, state, born, deadline, since, client, owes⟩, false) by unfold stp; simp [*] <;> first | rfl | omega)
      subst h
      go_enter Try.func47, Try.ntmps47
      go_wp2_with (go_at_call 61; refine (rcut_c _ _).mono ?_; rintro e w' ⟨rfl, rfl⟩)
      refine bodyPost_ret (v := .tuple #[.agg (rbv ⟨host, 3, born, deadline, since, client, owes⟩), .bool false]) (by simp [results, Try.results47, go_sem]) rfl ?_
      exact rp_mk HS.out (((Below.refl _ _).alloc (Nat.le_refl _) _).alloc (by simp) _)
  · clear idle busy
    have HS := Lib.hid (show stp ⟨host, state, born, deadline, since, client, owes⟩ 5 a c = (⟨host, state, born, deadline, since, client, owes⟩, false) by unfold stp; simp [*] <;> first | rfl | omega)
    have h1 : (state != 3) = true := by simpa using h
    go_enter Try.func47, Try.ntmps47
    go_wp2_with (go_at_call 61; refine (rcut_c _ _).mono ?_; rintro e w' ⟨rfl, rfl⟩)
    refine bodyPost_ret (v := .tuple #[.agg (rbv ⟨host, state, born, deadline, since, client, owes⟩), .bool false]) (by simp [results, Try.results47, go_sem]) rfl ?_
    exact rp_mk HS.out (((Below.refl _ _).alloc (Nat.le_refl _) _).alloc (by simp) _)

set_option maxHeartbeats 4000000 in
theorem r6_c (b : BK) (a c : Int) (k : Nat) (hf : Fine b k) (hk : k ≤ 1000) (w : World) : Calls Try.prog 48 #[.agg (rbv b)] w (RP (stp b 6 a c) w) := by
  obtain ⟨host, state, born, deadline, since, client, owes⟩ := b
  obtain ⟨o0, o1, cl0, s0, s4, idle, busy⟩ := hf
  dsimp only at o0 o1 cl0 s0 s4 idle busy
  by_cases h : state = 4
  · clear idle busy
    have HS := Lib.hid (show stp ⟨host, state, born, deadline, since, client, owes⟩ 6 a c = (⟨host, state, born, deadline, since, client, owes⟩, false) by unfold stp; simp [*] <;> first | rfl | omega)
    subst h
    go_enter Try.func48, Try.ntmps48
    go_wp2_with (go_at_call 61; refine (rcut_c _ _).mono ?_; rintro e w' ⟨rfl, rfl⟩)
    refine bodyPost_ret (v := .tuple #[.agg (rbv ⟨host, 4, born, deadline, since, client, owes⟩), .bool false]) (by simp [results, Try.results48, go_sem]) rfl ?_
    exact rp_mk HS.out (((Below.refl _ _).alloc (Nat.le_refl _) _).alloc (by simp) _)
  · clear idle busy
    have HS := Lib.hid (show stp ⟨host, state, born, deadline, since, client, owes⟩ 6 a c = (⟨host, 4, born, deadline, 0, 0, 0⟩, true) by unfold stp; simp [*] <;> first | rfl | omega)
    have h1 : (state == 4) = false := by simpa using h
    go_enter Try.func48, Try.ntmps48
    go_wp2_with (go_at_call 61; refine (rcut_c _ _).mono ?_; rintro e w' ⟨rfl, rfl⟩)
    refine bodyPost_ret (v := .tuple #[.agg (rbv ⟨host, 4, born, deadline, 0, 0, 0⟩), .bool true]) (by simp [results, Try.results48, go_sem]) rfl ?_
    exact rp_mk HS.out (((Below.refl _ _).alloc (Nat.le_refl _) _).alloc (by simp) _)

end Go.Proofs.Ythmbfmjchbcjlaa
