/- Contract of the law's example over this seat's translation. -/
import Derived.Test.YtgonoccacbbhjaaXc
namespace Go.Proofs.Ytgonoccacbbhjaa
open Go.ChangeShapes Go.WideShapes Go.ChangeAt Go.RowKit
set_option linter.unusedVariables false
theorem OW.c {w : World} {B g : Nat} {n : WN} (h : OW w B g n) : OWc w B g n := by obtain ⟨h1, A, h2⟩ := h; exact ⟨h1, A, _, Nat.le_refl _, h2⟩
theorem CP.cast {n : WN} {r r' : Nat} {B g : Nat} {w w' : World} {e : Ending} (h : CP n r B g w e w') (hr : r = r') : CP n r' B g w e w' := by subst hr; exact h
set_option maxRecDepth 100000 in
set_option maxHeartbeats 8000000 in
theorem wlives_c (w : World) : Calls Try.prog 8 #[] w fun e w' => e = .returned (.bool true) ∧ Below w.heap.size w w' := by
  obtain ⟨n0, h0⟩ : ∃ n : WN, n = ⟨10, 0, []⟩ := ⟨_, rfl⟩
  have f0 : WF n0 := by rw [h0]; exact wf_new 10
  have v1 : addN n0 0 = 1 := by rw [h0]; decide
  have v2 : addN (addw n0 0) 5 = 2 := by rw [h0]; decide
  have v3 : addN (addw (addw n0 0) 5) 9 = 3 := by rw [h0]; decide
  have v4 : cntN (addw (addw (addw n0 0) 5) 9) 10 = 2 := by rw [h0]; decide
  have v5 : (cnt (addw (addw (addw n0 0) 5) 9) 10).l.length = 2 := by rw [h0]; decide
  have v6 : cntN (cnt (addw (addw (addw n0 0) 5) 9) 10) 19 = 0 := by rw [h0]; decide
  have v7 : (cnt (cnt (addw (addw (addw n0 0) 5) 9) 10) 19).l.length = 0 := by rw [h0]; decide
  have l0 : n0.l.length ≤ 0 := by rw [h0]; exact Nat.le_refl _
  have f1 := wf_add f0 0
  have l1 := add_len n0 0
  generalize h1 : addw n0 0 = n1 at *
  have f2 := wf_add f1 5
  have l2 := add_len n1 5
  generalize h2 : addw n1 5 = n2 at *
  have f3 := wf_add f2 9
  have l3 := add_len n2 9
  generalize h3 : addw n2 9 = n3 at *
  have f4 := wf_cnt f3 10
  have l4 := cnt_len n3 10
  generalize h4 : cnt n3 10 = n4 at *
  have e10 : long 10 = 10 := by decide
  have HN := Lib.hid (show OW (w.alloc (.cells #[.int .i64 10, .int .i64 0, .slice none 0 0] 49)) (w.heap.size + 1) w.heap.size n0 from by
    have := new_ow 10 w (w.heap.size + 1) (Nat.lt_succ_self _)
    rw [e10, ← h0] at this; exact this)
  have HNW := Lib.hid (show ∀ W, Calls Try.prog 9 #[.int .i64 10] W fun e w' => e = .returned (.pointer (some ⟨W.heap.size, 0, none⟩)) ∧ W.alloc (.cells #[.int .i64 10, .int .i64 0, .slice none 0 0] 49) = w' from fun W => by have := new_c 10 W; rwa [e10] at this)
  have HL := Lib.hid (show Below w.heap.size w (w.alloc (.cells #[.int .i64 10, .int .i64 0, .slice none 0 0] 49)) from (Below.refl _ _).alloc (Nat.le_refl _) _)
  have HS := Lib.hid (show w.heap.size + 1 ≤ (w.alloc (.cells #[.int .i64 10, .int .i64 0, .slice none 0 0] 49)).heap.size by simp)
  have k1 := (fun W h hB => (addw_c (w.heap.size + 1) w.heap.size n0 0 W h f0 (by omega) hB).mono fun _ _ h => h.cast v1)
  simp only [h1] at k1
  have K1 := Lib.hid k1
  have k2 := (fun W h hB => (addw_c (w.heap.size + 1) w.heap.size n1 5 W h f1 (by omega) hB).mono fun _ _ h => h.cast v2)
  simp only [h2] at k2
  have K2 := Lib.hid k2
  have k3 := (fun W h hB => (addw_c (w.heap.size + 1) w.heap.size n2 9 W h f2 (by omega) hB).mono fun _ _ h => h.cast v3)
  simp only [h3] at k3
  have K3 := Lib.hid k3
  have k4 := (fun W (h : OW W (w.heap.size + 1) w.heap.size n3) => (count_c (w.heap.size + 1) w.heap.size n3 10 W h.c f3 (by omega)).mono fun _ _ h => h.cast v4)
  simp only [h4] at k4
  have K4 := Lib.hid k4
  have K5 := Lib.hid (fun W (h : OW W (w.heap.size + 1) w.heap.size n4) => (count_c (w.heap.size + 1) w.heap.size n4 19 W h.c f4 (by omega)).mono fun _ _ h => h.cast v6)
  have V5 := Lib.hid v5
  have V7 := Lib.hid v7
  clear k1 k2 k3 k4 h1 h2 h3 h4
  clear v1 v2 v3 v4 v5 v6 v7 h0 e10 f0 f1 f2 f3 f4 l0 l1 l2 l3 l4
  go_enter Try.func8, Try.ntmps8
  go_wp2_with fail
  refine (HNW.out _).mono ?_
  rintro e w' ⟨rfl, rfl⟩
  go_wp2_with fail
  refine (K1.out _ HN.out HS.out).mono ?_
  rintro e w1 ⟨rfl, ho1, hn1⟩
  have HO1 := Lib.hid ho1
  have HL1 := Lib.hid (hn1.later HL.out HL.out.size (Nat.le_refl _))
  have HS1 := Lib.hid (Nat.le_trans HS.out hn1.size)
  clear ho1 hn1
  go_wp2_with fail
  refine (K2.out _ HO1.out HS1.out).mono ?_
  rintro e w2 ⟨rfl, ho2, hn2⟩
  have HO2 := Lib.hid ho2
  have HL2 := Lib.hid (hn2.later HL1.out HL1.out.size (Nat.le_refl _))
  have HS2 := Lib.hid (Nat.le_trans HS1.out hn2.size)
  clear ho2 hn2
  go_wp2_with fail
  refine (K3.out _ HO2.out HS2.out).mono ?_
  rintro e w3 ⟨rfl, ho3, hn3⟩
  have HO3 := Lib.hid ho3
  have HL3 := Lib.hid (hn3.later HL2.out HL2.out.size (Nat.le_refl _))
  clear ho3 hn3
  go_wp2_with fail
  refine (K4.out _ HO3.out).mono ?_
  rintro e w4 ⟨rfl, ho4, hn4⟩
  have HO4 := Lib.hid ho4
  have HL4 := Lib.hid (hn4.later HL3.out HL3.out.size (Nat.le_refl _))
  clear ho4 hn4
  go_wp2_with fail
  refine (wlen_c _ _ _ _ HO4.out).mono ?_
  rintro e w' ⟨rfl, rfl⟩
  rw [V5.out]
  go_wp2_with fail
  refine (K5.out _ HO4.out).mono ?_
  rintro e w5 ⟨rfl, ho5, hn5⟩
  have HO5 := Lib.hid ho5
  have HL5 := Lib.hid (hn5.later HL4.out HL4.out.size (Nat.le_refl _))
  clear ho5 hn5
  go_wp2_with fail
  refine (wlen_c _ _ _ _ HO5.out).mono ?_
  rintro e w' ⟨rfl, rfl⟩
  rw [V7.out]
  go_wp2_with fail
  go_ret
  exact ⟨rfl, HL5.out⟩
end Go.Proofs.Ytgonoccacbbhjaa
