/- Contracts of the references of Write, Client, Host and Name over this seat's translation. -/
import Derived.Test.YtdilbadjbjepaaaJ
namespace Go.Proofs.Ytdilbadjbjepaaa
open Go.ChangeShapes Go.WideShapes Go.ChangeAt Go.RowKit
set_option linter.unusedVariables false
set_option maxHeartbeats 2000000 in
theorem rwrite_no (k : Int) (s : ByteArray) (most : Int) (w : World) (hs : s.size ≤ maxLen) (hr : rt k s.size most ≠ 0) : Calls Try.prog 15 #[.agg #[.int .i64 k, .string s], .int .i64 most] w (Wrote w k s (rt k s.size most)) := by
  have hr' : (rt k s.size most != 0) = true := by simpa using hr
  have HR := Lib.hid hr
  clear hr
  go_enter Try.func15, Try.ntmps15
  go_wp2_with fail
  refine (rright_c k s most _ hs).mono ?_
  rintro e w1 ⟨rfl, hb1⟩
  have HB := Lib.hid (((Below.refl w.heap.size w).alloc (Nat.le_refl _) (.cells #[.int .i64 k, .string s] 23)).trans (hb1.mono (by simp)))
  clear hb1
  go_wp2_with fail
  go_ret2
  exact ⟨_, rfl, HB.out, fun _ => rfl, fun h => absurd h HR.out⟩
set_option maxHeartbeats 2000000 in
theorem rwrite_yes (k : Int) (s : ByteArray) (most : Int) (w : World) (hs : s.size ≤ maxLen) (hr : rt k s.size most = 0) : Calls Try.prog 15 #[.agg #[.int .i64 k, .string s], .int .i64 most] w (Wrote w k s 0) := by
  obtain ⟨i0, hi, hz0, hz1, hz2⟩ := info_parts info5
  have hr' : (rt k s.size most != 0) = false := by simpa using hr
  obtain ⟨k1, k8, hsz⟩ := rt_zero hr
  have HR := Lib.hid hr
  clear hr
  go_enter Try.func15, Try.ntmps15
  go_wp2_with fail
  refine (rright_c k s most _ hs).mono ?_
  rintro e w1 ⟨rfl, hb1⟩
  have hbx := (Blk.new w 23 #[.int .i64 k, .string s]).below hb1 (by simp)
  have c0 : w1.cell? ⟨w.heap.size, 0, none⟩ = some (.int .i64 k) := hbx.cell 0
  have c1 : w1.cell? ⟨w.heap.size, 1, none⟩ = some (.string s) := hbx.cell 1
  have hlt := hbx.lt
  have HB := Lib.hid (((Below.refl w.heap.size w).alloc (Nat.le_refl _) (.cells #[.int .i64 k, .string s] 23)).trans (hb1.mono (by simp)))
  clear hb1 hbx
  have hown : (w1.alloc (.cells #[.int .u8 k, .int .u8 (((s.size : Nat) : Int) / 256), .int .u8 (((s.size : Nat) : Int) % 256)] 5)).ownsRow w.heap.size 5 1 (.slice (some ⟨w1.heap.size, 0, none⟩) 3 3) 3 [.int .u8 k, .int .u8 (((s.size : Nat) : Int) / 256), .int .u8 (((s.size : Nat) : Int) % 256)] :=
    ⟨rfl, .inr ⟨w1.heap.size, 3, _, rfl, by omega, Blk.new _ _ _, by omega, by unfold maxLen; omega, rfl, rfl⟩⟩
  have HO := Lib.hid hown
  have HE := Lib.hid (head_eq k s k1 k8 hsz)
  clear hown
  go_wp2_with (at_builtin; refine Lib.wpList_append_own_string _ rfl _ _ 24 9 rfl w.heap.size 5 i0 Try.underlying24 Try.underlying9 hi hz0 hz1 hz2 _ _ _ rfl HO.out s rfl ?c3 ?c4 ?c5 ?_)
  case c3 => unfold maxLen; omega
  case c4 => omega
  case c5 => simp; omega
  intro v' w2 hown' hgrow _
  rw [HE.out, Nat.add_comm 3] at hown'
  have HO2 := Lib.hid hown'
  have HBL := Lib.hid ((HB.out.alloc HB.out.size _).grown hgrow (by simp; omega) (fun j hj => by simp [Value.ownBlock] at hj; omega))
  clear hown' hgrow
  go_wp2_with fail
  go_ret2
  exact ⟨_, rfl, HBL.out, fun h => absurd rfl h, fun _ => HO2.out⟩
theorem rwrite_c (k : Int) (s : ByteArray) (most : Int) (w : World) (hs : s.size ≤ maxLen) : Calls Try.prog 15 #[.agg #[.int .i64 k, .string s], .int .i64 most] w (Wrote w k s (rt k s.size most)) := by
  by_cases h : rt k s.size most = 0
  · rw [h]; exact rwrite_yes k s most w hs h
  · exact rwrite_no k s most w hs h
theorem rclient_c (k : Int) (w : World) : Calls Try.prog 18 #[.int .i64 k] w fun e w' => e = .returned (.bool (clientB k)) ∧ w = w' := by
  rcases kinds k with h | h | h | h | h | h | h | h | h | h
  · have h1 : decide (1 ≤ k) = false := by simp; omega
    have h2 : (k == 8) = false := by simp; omega
    go_enter Try.func18, Try.ntmps18
    go_wp2
    go_ret
    exact ⟨ret_bool (by unfold clientB; simp; omega), rfl⟩
  iterate 8
    · subst h
      go_enter Try.func18, Try.ntmps18
      go_wp2
      go_ret
      exact ⟨rfl, rfl⟩
  · have h0 : 1 ≤ k := by omega
    have h1 : decide (k ≤ 5) = false := by simp; omega
    have h2 : (k == 8) = false := by simp; omega
    go_enter Try.func18, Try.ntmps18
    go_wp2
    go_ret
    exact ⟨ret_bool (by unfold clientB; simp; omega), rfl⟩
theorem rhost_c (k : Int) (w : World) : Calls Try.prog 20 #[.int .i64 k] w fun e w' => e = .returned (.bool (hostB k)) ∧ w = w' := by
  rcases kinds k with h | h | h | h | h | h | h | h | h | h
  · have h1 : (k == 1) = false := by simp; omega
    have h6 : (k == 6) = false := by simp; omega
    have h7 : (k == 7) = false := by simp; omega
    have h8 : (k == 8) = false := by simp; omega
    go_enter Try.func20, Try.ntmps20
    go_wp2
    go_ret
    exact ⟨ret_bool (by unfold hostB; simp; omega), rfl⟩
  iterate 8
    · subst h
      go_enter Try.func20, Try.ntmps20
      go_wp2
      go_ret
      exact ⟨rfl, rfl⟩
  · have h0 : (k == 1) = false := by simp; omega
    have h6 : (k == 6) = false := by simp; omega
    have h7 : (k == 7) = false := by simp; omega
    have h8 : (k == 8) = false := by simp; omega
    go_enter Try.func20, Try.ntmps20
    go_wp2
    go_ret
    exact ⟨ret_bool (by unfold hostB; simp; omega), rfl⟩
set_option maxHeartbeats 4000000 in
theorem rname_c (k : Int) (w : World) : Calls Try.prog 22 #[.int .i64 k] w fun e w' => e = .returned (.string (nameS k)) ∧ Below w.heap.size w w' := by
  have HB := Lib.hid (fun o => show Below w.heap.size w (w.alloc o) from (Below.refl _ _).alloc (Nat.le_refl _) _)
  have emp : k < 1 ∨ 8 < k → nameS k = ByteArray.empty := by
    intro h
    unfold nameS
    rw [if_neg (by omega), if_neg (by omega), if_neg (by omega), if_neg (by omega), if_neg (by omega), if_neg (by omega), if_neg (by omega), if_neg (by omega)]
  have HE := Lib.hid emp
  clear emp
  rcases kinds k with h | h | h | h | h | h | h | h | h | h
  · have h1 : decide (k < 1) = true := by simpa using h
    go_enter Try.func22, Try.ntmps22
    go_wp2
    go_ret
    exact ⟨by rw [HE.out (.inl h)]; rfl, Below.refl _ _⟩
  iterate 8
    · subst h
      go_enter Try.func22, Try.ntmps22
      go_wp2
      go_ret
      exact ⟨rfl, HB.out _⟩
  · have h1 : decide (k < 1) = false := by simp; omega
    have h2 : decide (8 < k) = true := by simpa using h
    go_enter Try.func22, Try.ntmps22
    go_wp2
    go_ret
    exact ⟨by rw [HE.out (.inr h)]; rfl, Below.refl _ _⟩
end Go.Proofs.Ytdilbadjbjepaaa
