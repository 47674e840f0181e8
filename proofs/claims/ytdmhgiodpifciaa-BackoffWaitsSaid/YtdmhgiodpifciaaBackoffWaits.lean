/-
  Proved: of every two numbers 'hostlerlaw07.BackoffWaits' returns true: no condition.
  The frame is written by this session's frame.py, after the kit's proof-skeleton.mjs.
-/
import Derived.Test.YtdmhgiodpifciaaK
namespace Go.Proofs.Ytdmhgiodpifciaa.backoffWaits
open Go.ChangeShapes Go.WideShapes Go.ChangeAt Go.RowKit
set_option linter.unusedVariables false
theorem own : ownKnob Try.prog.godebug = none := by kernel_rfl
theorem laidOut : laidOutB Try.prog = true := by kernel_rfl

theorem plain (b f : Int) : wait b (min f 1099511627776) = wait b f ∧ wait b f ≤ wait b (min f 1099511627776 + 1) ∧ (1 ≤ f → wait b (min f 1099511627776 + 1) ≤ 2 * wait b f ∧ 1 ≤ wait b f) := by
  by_cases h : f ≤ 1099511627776
  · rw [show min f 1099511627776 = f by omega]
    have := wait_next b f
    exact ⟨rfl, this.1, fun h => ⟨this.2 h, wait_pos b f h⟩⟩
  · rw [show min f 1099511627776 = 1099511627776 by omega, wait_far b f (by omega), wait_far b 1099511627776 (by omega), wait_far b (1099511627776 + 1) (by omega)]
    omega

/-! ### STEP 1 -/
set_option maxHeartbeats 4000000 in
theorem walk (a0 : Int) (a1 : Int) (w : World) (w0 : (Lit.int .i64 a0).wf = true) (w1 : (Lit.int .i64 a1).wf = true) :
    Calls Try.prog 3 #[.int .i64 a0, .int .i64 a1] w fun e w' => e = .returned (.bool true) ∧ Below w.heap.size w w' := by
  obtain ⟨f1, f2, f3⟩ := plain a0 a1
  have hb := wait_bd a0 a1
  have h9 : a1 ≤ 9223372036854775807 := (wf_i64 w1).2
  have h8 : -9223372036854775808 ≤ a1 := (wf_i64 w1).1
  have H9 := Lib.hid h9
  clear w0 w1 h9
  by_cases hf : a1 < 1
  · rw [show min a1 1099511627776 = a1 by omega] at f2
    clear f1 f3
    go_enter Try.func3, Try.ntmps3
    go_wp2_with (first | (go_at_call 7; refine (klives_c _).mono ?_; rintro e w1 ⟨rfl, hl1⟩))
    have HL := Lib.hid hl1
    clear hl1
    go_wp2_with (first | (go_at_call 8; refine (wait_c _ _ _ (by have := H9.out; omega)).mono ?_; rintro e w' ⟨rfl, rfl⟩) | (go_at_call 9; refine (rwait_c _ _ _ (by have := H9.out; omega)).mono ?_; rintro e w2 ⟨rfl, hl2⟩))
    go_ret
    exact ⟨rfl, HL.out.trans (hl2.mono HL.out.size)⟩
  · have f4 := f3 (by omega)
    have h1 : 1 ≤ a1 := by omega
    clear f3 hf h8
    by_cases h2 : a1 ≤ 1099511627776
    · rw [show min a1 1099511627776 = a1 by omega] at f2 f4
      clear f1
      go_enter Try.func3, Try.ntmps3
      go_wp2_with (first | (go_at_call 7; refine (klives_c _).mono ?_; rintro e w1 ⟨rfl, hl1⟩))
      have HL := Lib.hid hl1
      clear hl1
      go_wp2_with (first | (go_at_call 8; refine (wait_c _ _ _ (by have := H9.out; omega)).mono ?_; rintro e w' ⟨rfl, rfl⟩) | (go_at_call 9; refine (rwait_c _ _ _ (by have := H9.out; omega)).mono ?_; rintro e w2 ⟨rfl, hl2⟩))
      go_ret
      exact ⟨rfl, HL.out.trans (hl2.mono HL.out.size)⟩
    · rw [show min a1 1099511627776 = 1099511627776 by omega] at f1 f2 f4
      have h3 : 1099511627776 < a1 := by omega
      have e1 : (1099511627776 : Int) + 1 = 1099511627777 := rfl
      rw [e1] at f2 f4
      have f5 : (wait a0 a1 == wait a0 1099511627776) = true := by rw [f1]; simp
      clear f1 e1 h2
      go_enter Try.func3, Try.ntmps3
      go_wp2_with (first | (go_at_call 7; refine (klives_c _).mono ?_; rintro e w1 ⟨rfl, hl1⟩))
      have HL := Lib.hid hl1
      clear hl1
      go_wp2_with (first | (go_at_call 8; refine (wait_c _ _ _ (by have := H9.out; omega)).mono ?_; rintro e w' ⟨rfl, rfl⟩) | (go_at_call 9; refine (rwait_c _ _ _ (by have := H9.out; omega)).mono ?_; rintro e w2 ⟨rfl, hl2⟩))
      go_ret
      exact ⟨rfl, HL.out.trans (hl2.mono HL.out.size)⟩

/-! ### THE ROW -/
set_option maxRecDepth 100000 in
theorem lifted (os : Os) (started : os.Started) (H : Type) (enc : TypeId × Value → H) :
    ReturnsInHanded {} Try.checked os 3 .any (Rows.backoffWaitsSpec.pre6 enc Try.prog Try.f3 Rows.backoffWaitsRow.domain false) (Rows.backoffWaitsSpec.post enc Try.prog Try.f3 false true false false) := by
  refine returnsInHanded_of_change (C := Try.checked) own started (by kernel_rfl) Try.func3
    (ChangeSpec.witness6 (enc := enc) (C := Try.checked) false ⟨#[], #[.int .i64 0, .int .i64 0], []⟩ 8 (by kernel_rfl) (by kernel_rfl) (by kernel_rfl) (by kernel_rfl)) ?_
  intro W base args ds gs before hval0 hW hcnd _
  have hval : ∀ (j : Nat) t v, Try.f3.params[j]? = some t → args[j]? = some v → Value.okWide Try.prog W .any base t v := hval0
  have hW' := hW
  obtain ⟨p, q, hA0, hV, rfl, hfz, hnd⟩ := hW
  have hA : DataW.TrodAll enc Try.prog W 0 (fun _ => true) true Try.f3.params.toList args.toList ds p := hA0
  rw [Try.params3] at hA hval
  obtain ⟨v0, vs0, d0, ds0, p0, q0, hargs, rfl, rfl, h0, r0⟩ := trodAll_cons hA
  obtain ⟨v1, vs1, d1, ds1, p1, q1, rfl, rfl, rfl, h1, r1⟩ := trodAll_cons r0
  obtain ⟨rfl, rfl, rfl⟩ := trodAll_nil r1
  obtain rfl : args = #[v0, v1] := by cases args; simp_all
  obtain ⟨rfl, rfl⟩ := trodVars_none hV
  obtain ⟨a0, rfl, rfl, rfl, w0⟩ := open_int Try.underlying3 (hval 0 3 v0 rfl rfl) h0
  obtain ⟨a1, rfl, rfl, rfl, w1⟩ := open_int Try.underlying3 (hval 1 3 v1 rfl rfl) h1
  clear hA0 hval0
  refine (walk a0 a1 W w0 w1).mono fun e W' ⟨he, bel⟩ => ?_
  subst he
  exact ⟨_, rfl, _, _, _, [], _, [], hW', trodAll_mk1 (shut_bool Try.underlying4 _), (trodAll_cons_mk (shut_int Try.underlying3 w0) (trodAll_cons_mk (shut_int Try.underlying3 w1) trodAll_mk0)), rfl, bel.frame _, fun h => by cases h⟩

theorem over : Rows.backoffWaitsRow.holds Try.pinned (OpenSpec.ofChange Rows.backoffWaitsSpec) :=
  OpenClaim.holds_of_wide 3 Try.f3 rfl rfl rfl rfl rfl rfl rfl ⟨rfl, rfl, rfl, rfl, rfl⟩ rfl rfl rfl rfl rfl (by kernel_rfl) Try.func3 (by kernel_rfl)
    (of_decide_eq_true (by kernel_rfl)) (by unfold Func.isWrapper; first | (rw [if_pos (by decide +kernel)]; kernel_rfl) | (rw [if_neg (by decide +kernel)]; exact ⟨rfl, rfl⟩))
    (fun os started H enc _ => lifted os started H enc)

theorem proved : Rows.BackoffWaitsSaid := over
#print axioms proved
end Go.Proofs.Ytdmhgiodpifciaa.backoffWaits
