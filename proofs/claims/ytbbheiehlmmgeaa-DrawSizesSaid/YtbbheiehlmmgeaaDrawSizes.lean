/-
  Proved: of every number and every three numbers 'hostlerlaw05.DrawSizes' returns true: no condition.
  The frame is written by this session's frame.py, after the kit's proof-skeleton.mjs.
-/
import Derived.Test.YtbbheiehlmmgeaaD
namespace Go.Proofs.Ytbbheiehlmmgeaa.drawSizes
open Go.ChangeShapes Go.WideShapes Go.ChangeAt Go.RowKit
set_option linter.unusedVariables false
theorem own : ownKnob Try.prog.godebug = none := by kernel_rfl
theorem laidOut : laidOutB Try.prog = true := by kernel_rfl

theorem quiet2 {P : Program} {f : FuncId} {args : Array Value} {w : World} {a n : Nat} {v : Value}
    (h : Calls P f args (w.drewN (a + n)) fun e w' => e = .returned v ∧ w.drewN (a + n) = w') : Calls P f args (w.drewN (a + n)) fun e w'' => e = .returned v ∧ ∃ m, w'' = w.drewN (a + m) :=
  h.mono fun _ _ ⟨he, hm⟩ => ⟨he, n, hm.symm⟩
theorem w64 (n : Int) : wrap64 n = (n + 9223372036854775808) % 18446744073709551616 - 9223372036854775808 := by unfold wrap64; omega
theorem other_eq (d : Int) (h : I64 d) : wrap64 (-wrap64 (d + 1)) = -(d + 1) ∧ I64 (-(d + 1)) := by
  unfold I64 at h ⊢
  rw [w64, w64]
  omega
theorem size_e (d : Int) : size (-(d + 1)) = size d := by unfold size; split <;> split <;> omega
theorem below_e (d n : Int) : below (-(d + 1)) n = below d n := by unfold below; rw [size_e]
theorem spread_e (d b j : Int) : spread (-(d + 1)) b j = spread d b j := by unfold spread; rw [below_e]
theorem between_e (d b j : Int) : between (-(d + 1)) b j = between d b j := by unfold between; rw [below_e]
theorem below_one (d : Int) : below d 1 = 0 := by have b := below_bd d 1; have := b.1; have := b.2.1 (by omega); omega
theorem spread_z (d b : Int) : spread d b 0 = cut b := by
  unfold spread; rw [show 2 * cut 0 + 1 = 1 by decide, below_one, show cut 0 = 0 by decide]
  unfold cut; omega
theorem between_z (d b : Int) : between d b b = cut b := by
  unfold between; rw [show cut b - cut b + 1 = 1 by omega, below_one]; omega
theorem life_z (d b : Int) : life d 0 b 0 = cut b := by
  unfold life; rw [spread_z]; unfold add cut; omega

/-! ### STEP 1 -/
set_option maxHeartbeats 8000000 in
theorem walk (a0 : Int) (a1x0 a1x1 a1x2 : Int) (w : World) (w0 : (Lit.int .i64 a0).wf = true) (w1x0 : (Lit.int .i64 a1x0).wf = true) (w1x1 : (Lit.int .i64 a1x1).wf = true) (w1x2 : (Lit.int .i64 a1x2).wf = true) :
    Calls Try.prog 7 #[.int .i64 a0, .agg #[.int .i64 a1x0, .int .i64 a1x1, .int .i64 a1x2]] w fun e w' => e = .returned (.bool true) ∧ Below w.heap.size w w' := by
  obtain ⟨he, h2⟩ := other_eq a0 (wf_i64 w0)
  obtain ⟨e, hee⟩ : ∃ e, e = -(a0 + 1) := ⟨_, rfl⟩
  have HD := Lib.hid (show I64 a0 from wf_i64 w0)
  have g1 := size_e a0
  have g2 := below_e a0 a1x0
  have g3 := spread_e a0 a1x0 a1x1
  have g4 := between_e a0 a1x0 a1x1
  have z1 := spread_z a0 a1x0
  have z2 := between_z a0 a1x0
  have z3 := life_z a0 a1x0
  have n1 := size_nonneg a0
  rw [← hee] at he h2 g1 g2 g3 g4
  have HE := Lib.hid h2
  have hb : Below w.heap.size w (w.alloc (.cells #[.int .i64 a1x0, .int .i64 a1x1, .int .i64 a1x2] 27)) := (Below.refl _ _).alloc (Nat.le_refl _) _
  have HB := Lib.hid hb
  clear w0 w1x0 w1x1 w1x2 hee h2 hb
  go_enter Try.func7, Try.ntmps7
  go_wp2_with (first | (go_at_call 8; refine (dlives_c _).mono ?_; rintro e w' ⟨rfl, rfl⟩))
  go_quiet ((first | ((with_reducible (first | (go_at_call 12; exact quiet' (size_c _ _ HD.out)) | (go_at_call 9; exact quiet' (below_c _ _ _ HD.out)) | (go_at_call 10; exact quiet' (spread_c _ _ _ _ HD.out)) | (go_at_call 11; exact quiet' (between_c _ _ _ _ HD.out))))) | (first | (go_at_call 12; exact quiet' (size_c _ _ HE.out)) | (go_at_call 9; exact quiet' (below_c _ _ _ HE.out)) | (go_at_call 10; exact quiet' (spread_c _ _ _ _ HE.out)) | (go_at_call 11; exact quiet' (between_c _ _ _ _ HE.out)))))
  go_wp2
  go_quiet ((first | (go_at_call 10; exact quiet2 (spread_c _ _ _ _ HD.out)) | (go_at_call 11; exact quiet2 (between_c _ _ _ _ HD.out)) | (go_at_call 17; exact quiet2 (life_c _ _ _ _ _ HD.out)) | (go_at_call 19; exact quiet2 (rcut_c _ _))))
  go_wp2
  go_ret
  exact ⟨rfl, bel_drewN (bel_drewN HB.out _) _⟩

/-! ### THE ROW -/
set_option maxRecDepth 100000 in
theorem lifted (os : Os) (started : os.Started) (H : Type) (enc : TypeId × Value → H) :
    ReturnsInHanded {} Try.checked os 7 .any (Rows.drawSizesSpec.pre6 enc Try.prog Try.f7 Rows.drawSizesRow.domain false) (Rows.drawSizesSpec.post enc Try.prog Try.f7 false true false false) := by
  refine returnsInHanded_of_change (C := Try.checked) own started (by kernel_rfl) Try.func7
    (ChangeSpec.witness6 (enc := enc) (C := Try.checked) false ⟨#[], #[.int .i64 0, .agg #[.int .i64 0, .int .i64 0, .int .i64 0]], []⟩ 8 (by kernel_rfl) (by kernel_rfl) (by kernel_rfl) (by kernel_rfl)) ?_
  intro W base args ds gs before hval0 hW hcnd _
  have hval : ∀ (j : Nat) t v, Try.f7.params[j]? = some t → args[j]? = some v → Value.okWide Try.prog W .any base t v := hval0
  have hW' := hW
  obtain ⟨p, q, hA0, hV, rfl, hfz, hnd⟩ := hW
  have hA : DataW.TrodAll enc Try.prog W 0 (fun _ => true) true Try.f7.params.toList args.toList ds p := hA0
  rw [Try.params7] at hA hval
  obtain ⟨v0, vs0, d0, ds0, p0, q0, hargs, rfl, rfl, h0, r0⟩ := trodAll_cons hA
  obtain ⟨v1, vs1, d1, ds1, p1, q1, rfl, rfl, rfl, h1, r1⟩ := trodAll_cons r0
  obtain ⟨rfl, rfl, rfl⟩ := trodAll_nil r1
  obtain rfl : args = #[v0, v1] := by cases args; simp_all
  obtain ⟨rfl, rfl⟩ := trodVars_none hV
  obtain ⟨a0, rfl, rfl, rfl, w0⟩ := open_int Try.underlying3 (hval 0 3 v0 rfl rfl) h0
  have k1 := h1
  have lt1 : ∀ x ∈ p1, x.block < W.heap.size := by obtain ⟨m, hm⟩ := k1; exact DataW.trod_lt m _ _ _ hm
  obtain ⟨a1x0, a1x1, a1x2, rfl, w1x0, w1x1, w1x2⟩ := open_arr3 Try.underlying27 Try.underlying3 (by kernel_rfl) (by kernel_rfl) (hval 1 27 v1 rfl rfl) h1
  clear hA0 hval0
  refine (walk a0 a1x0 a1x1 a1x2 W w0 w1x0 w1x1 w1x2).mono fun e W' ⟨he, bel⟩ => ?_
  subst he
  exact ⟨_, rfl, _, _, _, [], _, [], hW', trodAll_mk1 (shut_bool Try.underlying4 _), (trodAll_cons_mk (shut_int Try.underlying3 w0) (trodAll_cons_mk (Below.trod laidOut (by kernel_rfl) (of_decide_eq_true (by kernel_rfl)) k1 bel lt1) trodAll_mk0)), rfl, bel.frame _, fun h => by cases h⟩

theorem over : Rows.drawSizesRow.holds Try.pinned (OpenSpec.ofChange Rows.drawSizesSpec) :=
  OpenClaim.holds_of_wide 7 Try.f7 rfl rfl rfl rfl rfl rfl rfl ⟨rfl, rfl, rfl, rfl, rfl⟩ rfl rfl rfl rfl rfl (by kernel_rfl) Try.func7 (by kernel_rfl)
    (of_decide_eq_true (by kernel_rfl)) (by unfold Func.isWrapper; first | (rw [if_pos (by decide +kernel)]; kernel_rfl) | (rw [if_neg (by decide +kernel)]; exact ⟨rfl, rfl⟩))
    (fun os started H enc _ => lifted os started H enc)

theorem proved : Rows.DrawSizesSaid := over
#print axioms proved
end Go.Proofs.Ytbbheiehlmmgeaa.drawSizes
