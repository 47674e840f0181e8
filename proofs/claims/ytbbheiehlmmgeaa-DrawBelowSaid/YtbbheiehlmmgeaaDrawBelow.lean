/-
  Proved: of every two numbers 'hostlerlaw05.DrawBelow' returns true: no condition.
  The frame is written by this session's frame.py, after the kit's proof-skeleton.mjs.
-/
import Derived.Test.YtbbheiehlmmgeaaD
namespace Go.Proofs.Ytbbheiehlmmgeaa.drawBelow
open Go.ChangeShapes Go.WideShapes Go.ChangeAt Go.RowKit
set_option linter.unusedVariables false
theorem own : ownKnob Try.prog.godebug = none := by kernel_rfl
theorem laidOut : laidOutB Try.prog = true := by kernel_rfl

theorem u64_nonneg (a : Int) : 0 ≤ IntKind.u64.wrap a := by rw [IntKind.wrap_u64]; omega
theorem umod (a n : Int) (hn : 0 < n) : ∃ m, (IntKind.u64.wrap a).tmod n = m ∧ 0 ≤ m ∧ m < n :=
  ⟨_, rfl, Int.tmod_nonneg _ (u64_nonneg a), Int.tmod_lt_of_pos _ hn⟩
theorem below_at (d n : Int) (hd : 0 ≤ d) (hn : 1 ≤ n) : below d n = d % n := by
  unfold below size; rw [if_neg (by omega), if_neg (by omega)]
theorem plain (d n : Int) (hd : 0 ≤ d) (hn : 1 ≤ n) : below (d + n) n = below d n ∧ below (n - 1) n = n - 1 ∧ below d 1 = 0 ∧ below d 0 = 0 ∧
    (below (d + 1) n = below d n + 1 ∨ ((0 == below d n + 1) = false ∧ below (d + 1) n = 0 ∧ below d n = n - 1)) := by
  have h1 := Int.emod_lt_of_pos d (show 0 < n by omega)
  have h0 := Int.emod_nonneg d (show n ≠ 0 by omega)
  refine ⟨?_, ?_, ?_, rfl, ?_⟩
  · rw [below_at _ _ (by omega) hn, below_at _ _ hd hn, Int.add_emod_right]
  · rw [below_at _ _ (by omega) hn]; exact Int.emod_eq_of_lt (by omega) (by omega)
  · rw [below_at _ _ hd (by omega)]; omega
  · rw [below_at _ _ hd hn, below_at _ _ (by omega) hn]
    have e : (d + 1) % n = (d % n + 1) % n := by rw [Int.emod_add_emod]
    rw [e]
    by_cases h : d % n + 1 < n
    · exact .inl (Int.emod_eq_of_lt (by omega) h)
    · have e2 : d % n + 1 = n := by omega
      refine .inr ⟨by simp; omega, by rw [e2, Int.emod_self], by omega⟩

/-! ### STEP 1 -/
set_option maxHeartbeats 4000000 in
theorem walk (a0 : Int) (a1 : Int) (w : World) (w0 : (Lit.int .i64 a0).wf = true) (w1 : (Lit.int .i64 a1).wf = true) :
    Calls Try.prog 3 #[.int .i64 a0, .int .i64 a1] w fun e w' => e = .returned (.bool true) ∧ Below w.heap.size w w' := by
  obtain ⟨d, hd, d0, d1⟩ := umod a0 1000000 (by omega)
  obtain ⟨m, hm, m0, m1⟩ := umod a1 50 (by omega)
  obtain ⟨f1, f2, f3, f4, f5⟩ := plain d (1 + m) d0 (by omega)
  have b := below_bd d (1 + m)
  have b0 := b.1
  have b1 := b.2.1 (by omega)
  clear w0 w1 b
  rcases f5 with f5 | ⟨f5, f6, f7⟩
  all_goals
    go_enter Try.func3, Try.ntmps3
    go_wp2_with (first | (go_at_call 8; refine (dlives_c _).mono ?_; rintro e w' ⟨rfl, rfl⟩) | (go_at_call 9; refine (below_c _ _ _ (by unfold I64; omega)).mono ?_; rintro e w' ⟨rfl, rfl⟩))
    go_ret
    exact ⟨rfl, Below.refl _ _⟩

/-! ### THE ROW -/
set_option maxRecDepth 100000 in
theorem lifted (os : Os) (started : os.Started) (H : Type) (enc : TypeId × Value → H) :
    ReturnsInHanded {} Try.checked os 3 .any (Rows.drawBelowSpec.pre6 enc Try.prog Try.f3 Rows.drawBelowRow.domain false) (Rows.drawBelowSpec.post enc Try.prog Try.f3 false true false false) := by
  refine returnsInHanded_of_change (C := Try.checked) own started (by kernel_rfl) Try.func3
    (ChangeSpec.witness6 (enc := enc) (C := Try.checked) false ⟨#[], #[.int .i64 0, .int .i64 0], []⟩ 8 (by kernel_rfl) (by kernel_rfl) (by kernel_rfl) (by kernel_rfl)) ?_
  intro W base args ds gs before hval0 hW hcnd _
  have hval : ∀ (j : Nat) t v, Try.f3.params[j]? = some t → args[j]? = some v → Value.okWide Try.prog W .any base t v := hval0
  have hW' := hW
  obtain ⟨p, q, hA0, hV, rfl, hfz, hnd⟩ := hW
  have hA : DataW.TrodAll enc Try.prog W 0 (fun _ => true) true Try.f3.params.toList args.toList ds p := hA0
  rw [Try.params3] at hA hval
  obtain ⟨v0, vs0, d0, ds0, p0, q0, hargs, rfl, rfl, h0, r0⟩ := trodAll_cons hA
  obtain ⟨v1, vs1, d1, ds1, p1, q1, rfl, rfl, rfl, h1, r1⟩ := trodAll_cons r0
  obtain ⟨rfl, rfl, rfl⟩ := trodAll_nil r1
  obtain rfl : args = #[v0, v1] := by cases args; simp_all
  obtain ⟨rfl, rfl⟩ := trodVars_none hV
  obtain ⟨a0, rfl, rfl, rfl, w0⟩ := open_int Try.underlying3 (hval 0 3 v0 rfl rfl) h0
  obtain ⟨a1, rfl, rfl, rfl, w1⟩ := open_int Try.underlying3 (hval 1 3 v1 rfl rfl) h1
  clear hA0 hval0
  refine (walk a0 a1 W w0 w1).mono fun e W' ⟨he, bel⟩ => ?_
  subst he
  exact ⟨_, rfl, _, _, _, [], _, [], hW', trodAll_mk1 (shut_bool Try.underlying4 _), (trodAll_cons_mk (shut_int Try.underlying3 w0) (trodAll_cons_mk (shut_int Try.underlying3 w1) trodAll_mk0)), rfl, bel.frame _, fun h => by cases h⟩

theorem over : Rows.drawBelowRow.holds Try.pinned (OpenSpec.ofChange Rows.drawBelowSpec) :=
  OpenClaim.holds_of_wide 3 Try.f3 rfl rfl rfl rfl rfl rfl rfl ⟨rfl, rfl, rfl, rfl, rfl⟩ rfl rfl rfl rfl rfl (by kernel_rfl) Try.func3 (by kernel_rfl)
    (of_decide_eq_true (by kernel_rfl)) (by unfold Func.isWrapper; first | (rw [if_pos (by decide +kernel)]; kernel_rfl) | (rw [if_neg (by decide +kernel)]; exact ⟨rfl, rfl⟩))
    (fun os started H enc _ => lifted os started H enc)

theorem proved : Rows.DrawBelowSaid := over
#print axioms proved
end Go.Proofs.Ytbbheiehlmmgeaa.drawBelow
