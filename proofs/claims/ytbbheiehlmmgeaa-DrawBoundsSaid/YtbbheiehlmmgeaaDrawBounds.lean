/-
  Proved: of every number and every three numbers 'hostlerlaw05.DrawBounds' returns true: no condition.
  The frame is written by this session's frame.py, after the kit's proof-skeleton.mjs.
-/
import Derived.Test.YtbbheiehlmmgeaaD
namespace Go.Proofs.Ytbbheiehlmmgeaa.drawBounds
open Go.ChangeShapes Go.WideShapes Go.ChangeAt Go.RowKit
set_option linter.unusedVariables false
theorem own : ownKnob Try.prog.godebug = none := by kernel_rfl
theorem laidOut : laidOutB Try.prog = true := by kernel_rfl

theorem plain (d x y z : Int) : cut (cut x - cut y) ≤ spread d x y ∧ spread d x y ≤ cut (cut x + cut y) ∧ cut x ≤ between d x y ∧ between d x y ≤ max (cut x) (cut y) ∧ 0 ≤ size d ∧
    cut z ≤ life d z x y ∧ life d z x y ≤ cut (cut z + cut x + cut y) ∧ 0 ≤ below d z := by
  have c1 := cut_bd x
  have c2 := cut_bd y
  have c3 := cut_bd z
  have b := below_bd d (2 * cut y + 1)
  have b1 := b.1
  have b2 := b.2.1 (by omega)
  have e := below_le d (cut y - cut x + 1)
  have e1 := (below_bd d (cut y - cut x + 1)).1
  refine ⟨?_, ?_, ?_, ?_, size_nonneg d, ?_, ?_, (below_bd d z).1⟩
  · unfold spread; unfold cut at *; omega
  · unfold spread; unfold cut at *; omega
  · unfold between; omega
  · unfold between; omega
  · unfold life add; have := cut_bd (spread d x y); omega
  · unfold life add spread; unfold cut at *; omega

/-! ### STEP 1 -/
set_option maxHeartbeats 4000000 in
theorem walk (a0 : Int) (a1x0 a1x1 a1x2 : Int) (w : World) (w0 : (Lit.int .i64 a0).wf = true) (w1x0 : (Lit.int .i64 a1x0).wf = true) (w1x1 : (Lit.int .i64 a1x1).wf = true) (w1x2 : (Lit.int .i64 a1x2).wf = true) :
    Calls Try.prog 6 #[.int .i64 a0, .agg #[.int .i64 a1x0, .int .i64 a1x1, .int .i64 a1x2]] w fun e w' => e = .returned (.bool true) ∧ Below w.heap.size w w' := by
  obtain ⟨f1, f2, f3, f4, f5, f6, f7, f8⟩ := plain a0 a1x0 a1x1 a1x2
  have HD := Lib.hid (show I64 a0 from wf_i64 w0)
  have b := below_bd a0 a1x2
  have c1 := cut_bd a1x0
  have c2 := cut_bd a1x1
  have c3 := cut_bd a1x2
  have hb : Below w.heap.size w (w.alloc (.cells #[.int .i64 a1x0, .int .i64 a1x1, .int .i64 a1x2] 27)) := (Below.refl _ _).alloc (Nat.le_refl _) _
  have HB := Lib.hid hb
  clear w0 w1x0 w1x1 w1x2 hb
  by_cases h : a1x2 < 1
  · have h1 := b.2.2 h
    clear b
    go_enter Try.func6, Try.ntmps6
    go_wp2_with (first | (go_at_call 8; refine (dlives_c _).mono ?_; rintro e w' ⟨rfl, rfl⟩))
    go_quiet ((first | (go_at_call 19; exact quiet' (rcut_c _ _))))
    go_wp2_with (first | (go_at_call 12; refine (size_c _ _ HD.out).mono ?_; rintro e w' ⟨rfl, rfl⟩) | (go_at_call 9; refine (below_c _ _ _ HD.out).mono ?_; rintro e w' ⟨rfl, rfl⟩) | (go_at_call 10; refine (spread_c _ _ _ _ HD.out).mono ?_; rintro e w' ⟨rfl, rfl⟩) | (go_at_call 11; refine (between_c _ _ _ _ HD.out).mono ?_; rintro e w' ⟨rfl, rfl⟩) | (go_at_call 17; refine (life_c _ _ _ _ _ HD.out).mono ?_; rintro e w' ⟨rfl, rfl⟩) | (go_at_call 19; refine (rcut_c _ _).mono ?_; rintro e w' ⟨rfl, rfl⟩))
    all_goals go_ret
    all_goals exact ⟨rfl, bel_drewN HB.out _⟩
  · have h0 : 1 ≤ a1x2 := by omega
    have h1 := b.2.1 h0
    clear b
    go_enter Try.func6, Try.ntmps6
    go_wp2_with (first | (go_at_call 8; refine (dlives_c _).mono ?_; rintro e w' ⟨rfl, rfl⟩))
    go_quiet ((first | (go_at_call 19; exact quiet' (rcut_c _ _))))
    go_wp2_with (first | (go_at_call 12; refine (size_c _ _ HD.out).mono ?_; rintro e w' ⟨rfl, rfl⟩) | (go_at_call 9; refine (below_c _ _ _ HD.out).mono ?_; rintro e w' ⟨rfl, rfl⟩) | (go_at_call 10; refine (spread_c _ _ _ _ HD.out).mono ?_; rintro e w' ⟨rfl, rfl⟩) | (go_at_call 11; refine (between_c _ _ _ _ HD.out).mono ?_; rintro e w' ⟨rfl, rfl⟩) | (go_at_call 17; refine (life_c _ _ _ _ _ HD.out).mono ?_; rintro e w' ⟨rfl, rfl⟩) | (go_at_call 19; refine (rcut_c _ _).mono ?_; rintro e w' ⟨rfl, rfl⟩))
    all_goals go_ret
    all_goals exact ⟨rfl, bel_drewN HB.out _⟩

/-! ### THE ROW -/
set_option maxRecDepth 100000 in
theorem lifted (os : Os) (started : os.Started) (H : Type) (enc : TypeId × Value → H) :
    ReturnsInHanded {} Try.checked os 6 .any (Rows.drawBoundsSpec.pre6 enc Try.prog Try.f6 Rows.drawBoundsRow.domain false) (Rows.drawBoundsSpec.post enc Try.prog Try.f6 false true false false) := by
  refine returnsInHanded_of_change (C := Try.checked) own started (by kernel_rfl) Try.func6
    (ChangeSpec.witness6 (enc := enc) (C := Try.checked) false ⟨#[], #[.int .i64 0, .agg #[.int .i64 0, .int .i64 0, .int .i64 0]], []⟩ 8 (by kernel_rfl) (by kernel_rfl) (by kernel_rfl) (by kernel_rfl)) ?_
  intro W base args ds gs before hval0 hW hcnd _
  have hval : ∀ (j : Nat) t v, Try.f6.params[j]? = some t → args[j]? = some v → Value.okWide Try.prog W .any base t v := hval0
  have hW' := hW
  obtain ⟨p, q, hA0, hV, rfl, hfz, hnd⟩ := hW
  have hA : DataW.TrodAll enc Try.prog W 0 (fun _ => true) true Try.f6.params.toList args.toList ds p := hA0
  rw [Try.params6] at hA hval
  obtain ⟨v0, vs0, d0, ds0, p0, q0, hargs, rfl, rfl, h0, r0⟩ := trodAll_cons hA
  obtain ⟨v1, vs1, d1, ds1, p1, q1, rfl, rfl, rfl, h1, r1⟩ := trodAll_cons r0
  obtain ⟨rfl, rfl, rfl⟩ := trodAll_nil r1
  obtain rfl : args = #[v0, v1] := by cases args; simp_all
  obtain ⟨rfl, rfl⟩ := trodVars_none hV
  obtain ⟨a0, rfl, rfl, rfl, w0⟩ := open_int Try.underlying3 (hval 0 3 v0 rfl rfl) h0
  have k1 := h1
  have lt1 : ∀ x ∈ p1, x.block < W.heap.size := by obtain ⟨m, hm⟩ := k1; exact DataW.trod_lt m _ _ _ hm
  obtain ⟨a1x0, a1x1, a1x2, rfl, w1x0, w1x1, w1x2⟩ := open_arr3 Try.underlying27 Try.underlying3 (by kernel_rfl) (by kernel_rfl) (hval 1 27 v1 rfl rfl) h1
  clear hA0 hval0
  refine (walk a0 a1x0 a1x1 a1x2 W w0 w1x0 w1x1 w1x2).mono fun e W' ⟨he, bel⟩ => ?_
  subst he
  exact ⟨_, rfl, _, _, _, [], _, [], hW', trodAll_mk1 (shut_bool Try.underlying4 _), (trodAll_cons_mk (shut_int Try.underlying3 w0) (trodAll_cons_mk (Below.trod laidOut (by kernel_rfl) (of_decide_eq_true (by kernel_rfl)) k1 bel lt1) trodAll_mk0)), rfl, bel.frame _, fun h => by cases h⟩

theorem over : Rows.drawBoundsRow.holds Try.pinned (OpenSpec.ofChange Rows.drawBoundsSpec) :=
  OpenClaim.holds_of_wide 6 Try.f6 rfl rfl rfl rfl rfl rfl rfl ⟨rfl, rfl, rfl, rfl, rfl⟩ rfl rfl rfl rfl rfl (by kernel_rfl) Try.func6 (by kernel_rfl)
    (of_decide_eq_true (by kernel_rfl)) (by unfold Func.isWrapper; first | (rw [if_pos (by decide +kernel)]; kernel_rfl) | (rw [if_neg (by decide +kernel)]; exact ⟨rfl, rfl⟩))
    (fun os started H enc _ => lifted os started H enc)

theorem proved : Rows.DrawBoundsSaid := over
#print axioms proved
end Go.Proofs.Ytbbheiehlmmgeaa.drawBounds
