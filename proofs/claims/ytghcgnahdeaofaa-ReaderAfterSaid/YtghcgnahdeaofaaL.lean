/- Contracts of the references of Write, Client, Host and Name over this seat's translation. -/
import Derived.Test.YtghcgnahdeaofaaJ
namespace Go.Proofs.Ytghcgnahdeaofaa
open Go.ChangeShapes Go.WideShapes Go.ChangeAt Go.RowKit
set_option linter.unusedVariables false
set_option maxHeartbeats 2000000 in
theorem rwrite_no (k : Int) (s : ByteArray) (most : Int) (w : World) (hs : s.size ≤ maxLen) (hr : rt k s.size most ≠ 0) : Calls Try.prog 23 #[.agg #[.int .i64 k, .string s], .int .i64 most] w (Wrote w k s (rt k s.size most)) := by
  have hr' : (rt k s.size most != 0) = true := by simpa using hr
  have HR := Lib.hid hr
  clear hr
  go_enter Try.func23, Try.ntmps23
  go_wp2_with fail
  refine (rright_c k s most _ hs).mono ?_
  rintro e w1 ⟨rfl, hb1⟩
  have HB := Lib.hid (((Below.refl w.heap.size w).alloc (Nat.le_refl _) (.cells #[.int .i64 k, .string s] 33)).trans (hb1.mono (by simp)))
  clear hb1
  go_wp2_with fail
  go_ret2
  exact ⟨_, rfl, HB.out, fun _ => rfl, fun h => absurd h HR.out⟩
set_option maxHeartbeats 2000000 in
theorem rwrite_yes (k : Int) (s : ByteArray) (most : Int) (w : World) (hs : s.size ≤ maxLen) (hr : rt k s.size most = 0) : Calls Try.prog 23 #[.agg #[.int .i64 k, .string s], .int .i64 most] w (Wrote w k s 0) := by
  obtain ⟨i0, hi, hz0, hz1, hz2⟩ := info_parts info5
  have hr' : (rt k s.size most != 0) = false := by simpa using hr
  obtain ⟨k1, k8, hsz⟩ := rt_zero hr
  have HR := Lib.hid hr
  clear hr
  go_enter Try.func23, Try.ntmps23
  go_wp2_with fail
  refine (rright_c k s most _ hs).mono ?_
  rintro e w1 ⟨rfl, hb1⟩
  have hbx := (Blk.new w 33 #[.int .i64 k, .string s]).below hb1 (by simp)
  have c0 : w1.cell? ⟨w.heap.size, 0, none⟩ = some (.int .i64 k) := hbx.cell 0
  have c1 : w1.cell? ⟨w.heap.size, 1, none⟩ = some (.string s) := hbx.cell 1
  have hlt := hbx.lt
  have HB := Lib.hid (((Below.refl w.heap.size w).alloc (Nat.le_refl _) (.cells #[.int .i64 k, .string s] 33)).trans (hb1.mono (by simp)))
  clear hb1 hbx
  have hown : (w1.alloc (.cells #[.int .u8 k, .int .u8 (((s.size : Nat) : Int) / 256), .int .u8 (((s.size : Nat) : Int) % 256)] 5)).ownsRow w.heap.size 5 1 (.slice (some ⟨w1.heap.size, 0, none⟩) 3 3) 3 [.int .u8 k, .int .u8 (((s.size : Nat) : Int) / 256), .int .u8 (((s.size : Nat) : Int) % 256)] :=
    ⟨rfl, .inr ⟨w1.heap.size, 3, _, rfl, by omega, Blk.new _ _ _, by omega, by unfold maxLen; omega, rfl, rfl⟩⟩
  have HO := Lib.hid hown
  have HE := Lib.hid (head_eq k s k1 k8 hsz)
  clear hown
  go_wp2_with (at_builtin; refine Lib.wpList_append_own_string _ rfl _ _ 36 9 rfl w.heap.size 5 i0 Try.underlying36 Try.underlying9 hi hz0 hz1 hz2 _ _ _ rfl HO.out s rfl ?c3 ?c4 ?c5 ?_)
  case c3 => unfold maxLen; omega
  case c4 => omega
  case c5 => simp; omega
  intro v' w2 hown' hgrow _
  rw [HE.out, Nat.add_comm 3] at hown'
  have HO2 := Lib.hid hown'
  have HBL := Lib.hid ((HB.out.alloc HB.out.size _).grown hgrow (by simp; omega) (fun j hj => by simp [Value.ownBlock] at hj; omega))
  clear hown' hgrow
  go_wp2_with fail
  go_ret2
  exact ⟨_, rfl, HBL.out, fun h => absurd rfl h, fun _ => HO2.out⟩
theorem rwrite_c (k : Int) (s : ByteArray) (most : Int) (w : World) (hs : s.size ≤ maxLen) : Calls Try.prog 23 #[.agg #[.int .i64 k, .string s], .int .i64 most] w (Wrote w k s (rt k s.size most)) := by
  by_cases h : rt k s.size most = 0
  · rw [h]; exact rwrite_yes k s most w hs h
  · exact rwrite_no k s most w hs h
end Go.Proofs.Ytghcgnahdeaofaa
