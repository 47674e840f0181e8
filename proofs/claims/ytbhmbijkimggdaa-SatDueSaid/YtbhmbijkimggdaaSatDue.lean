/-
  Proved: of every three numbers 'hostlerlaw01.SatDue' returns true: no condition.
  The frame is written by the kit's proof-skeleton.mjs; the walk is this session's.
-/
import Derived.Test.YtbhmbijkimggdaaA
import Derived.WalkKit
import Derived.ProofKit
import Derived.OpenShut
import Derived.ShutString
namespace Go.Proofs.Ytbhmbijkimggdaa.satDue
open Go.ChangeShapes Go.WideShapes Go.ChangeAt Go.RowKit
open Go.ChangeMaps (open_string shut_string)
set_option linter.unusedVariables false      -- a walk need not use every 'w<i>' (that an integer argument fits its kind)

theorem own : ownKnob Try.prog.godebug = none := by kernel_rfl

theorem due (now span more : Int) : (past 1099511627776 (add now span) = true ∧ past (add now span) (add now span) = true) ∧
    ((past now (add now span) = true ∧ (sub (add now span) now == 0) = true ∧ past (add now more) (add now span) = true ∧ cut span ≤ 1099511627776 - cut now ∧ (sub (add now span) now == cut span) = true)
    ∨ (past now (add now span) = true ∧ (sub (add now span) now == 0) = true ∧ past (add now more) (add now span) = true ∧ 1099511627776 - cut now < cut span ∧ (sub (add now span) now == 1099511627776 - cut now) = true)
    ∨ (past now (add now span) = false ∧ (sub (add now span) now == 0) = false ∧ cut span ≤ 1099511627776 - cut now ∧ (sub (add now span) now == cut span) = true)
    ∨ (past now (add now span) = false ∧ (sub (add now span) now == 0) = false ∧ 1099511627776 - cut now < cut span ∧ (sub (add now span) now == 1099511627776 - cut now) = true)) := by
  refine ⟨⟨by unfold past sub add cut; simp; omega, by unfold past sub; simp⟩, ?_⟩
  have hs : sub (add now span) now = min (cut span) (1099511627776 - cut now) := by unfold sub add cut; omega
  have c1 := cut_bd now
  have c2 := cut_bd span
  have hp : past now (add now span) = (sub (add now span) now == 0) := rfl
  by_cases h : cut span ≤ 1099511627776 - cut now
  · have e : sub (add now span) now = cut span := by omega
    by_cases z : cut span = 0
    · left
      rw [hp, e]
      refine ⟨by simp [z], by simp [z], ?_, h, by simp [z]⟩
      unfold past; simp; unfold sub add cut at *; omega
    · right; right; left
      rw [hp, e]
      exact ⟨by simp [z], by simp [z], h, by simp⟩
  · have e : sub (add now span) now = 1099511627776 - cut now := by omega
    by_cases z : 1099511627776 - cut now = 0
    · right; left
      rw [hp, e]
      refine ⟨by simp [z], by simp [z], ?_, by omega, by simp [z]⟩
      unfold past; simp; unfold sub add cut at *; omega
    · right; right; right
      rw [hp, e]
      exact ⟨by simp [z], by simp [z], by omega, by simp⟩

/-! ### STEP 1: THE WALK: the Go text returns true. 'Grown w w'': the world has at most new blocks (Derived/RowKit3.lean). Part the cases AHEAD of 'go_enter' where a test parts the walk; take each callee by a contract of your own. -/
theorem walk (a0 : Int) (a1 : Int) (a2 : Int) (w0 : (Lit.int .i64 a0).wf = true) (w1 : (Lit.int .i64 a1).wf = true) (w2 : (Lit.int .i64 a2).wf = true) (w : World) :
    Calls Try.prog 5 #[.int .i64 a0, .int .i64 a1, .int .i64 a2] w fun e w' => e = .returned (.bool true) ∧ Grown w w' := by
  obtain ⟨⟨f1, f2⟩, f3⟩ := due a0 a1 a2
  have c1 := cut_bd a0
  have c2 := cut_bd a1
  rcases f3 with ⟨g1, g2, g3, g4, g5⟩ | ⟨g1, g2, g3, g4, g5⟩ | ⟨g1, g2, g3, g4⟩ | ⟨g1, g2, g3, g4⟩
  all_goals
    go_enter Try.func5, Try.ntmps5
    go_wp2_with (first | (go_at_call 9; refine (lives_c _).mono ?_; rintro e w' ⟨rfl, rfl⟩) | (go_at_call 10; refine (cut_c _ _).mono ?_; rintro e w' ⟨rfl, rfl⟩) | (go_at_call 11; refine (add_c _ _ _).mono ?_; rintro e w' ⟨rfl, rfl⟩) | (go_at_call 13; refine (past_c _ _ _).mono ?_; rintro e w' ⟨rfl, rfl⟩) | (go_at_call 18; refine (left_c _ _ _).mono ?_; rintro e w' ⟨rfl, rfl⟩))
    all_goals go_ret
    all_goals exact ⟨rfl, by repeat (first | exact Grown.refl _ | apply Grown.drew | apply Grown.alloc)⟩

/-! ### THE ROW's STEP: WRITTEN OUT: LEAVE IT -/
set_option maxRecDepth 100000 in
theorem lifted (os : Os) (started : os.Started) (H : Type) (enc : TypeId × Value → H) :
    ReturnsInHanded {} Try.checked os 5 .any (Rows.satDueSpec.pre6 enc Try.prog Try.f5 Rows.satDueRow.domain false) (Rows.satDueSpec.post enc Try.prog Try.f5 false true false false) := by
  refine returnsInHanded_of_change (C := Try.checked) own started (by kernel_rfl) Try.func5
    (ChangeSpec.witness6 (enc := enc) (C := Try.checked) false ⟨#[], #[.int .i64 0, .int .i64 0, .int .i64 0], []⟩ 8 (by kernel_rfl) (by kernel_rfl) (by kernel_rfl) (by kernel_rfl)) ?_
  intro W base args ds gs before hval0 hW hcnd _
  have hval : ∀ (j : Nat) t v, Try.f5.params[j]? = some t → args[j]? = some v → Value.okWide Try.prog W .any base t v := hval0
  have hW' := hW
  obtain ⟨p, q, hA0, hV, rfl, hfz, hnd⟩ := hW
  have hA : DataW.TrodAll enc Try.prog W 0 (fun _ => true) true Try.f5.params.toList args.toList ds p := hA0
  rw [Try.params5] at hA hval
  obtain ⟨v0, vs0, d0, ds0, p0, q0, hargs, rfl, rfl, h0, r0⟩ := trodAll_cons hA
  obtain ⟨v1, vs1, d1, ds1, p1, q1, rfl, rfl, rfl, h1, r1⟩ := trodAll_cons r0
  obtain ⟨v2, vs2, d2, ds2, p2, q2, rfl, rfl, rfl, h2, r2⟩ := trodAll_cons r1
  obtain ⟨rfl, rfl, rfl⟩ := trodAll_nil r2
  obtain rfl : args = #[v0, v1, v2] := by cases args; simp_all
  obtain ⟨rfl, rfl⟩ := trodVars_none hV
  obtain ⟨a0, rfl, rfl, rfl, w0⟩ := open_int Try.underlying3 (hval 0 3 v0 rfl rfl) h0
  obtain ⟨a1, rfl, rfl, rfl, w1⟩ := open_int Try.underlying3 (hval 1 3 v1 rfl rfl) h1
  obtain ⟨a2, rfl, rfl, rfl, w2⟩ := open_int Try.underlying3 (hval 2 3 v2 rfl rfl) h2
  clear hA0 hval0
  simp only [List.append_nil] at hW'
  refine (walk a0 a1 a2 w0 w1 w2 W).mono fun e W' ⟨he, hg⟩ => ?_
  subst he
  exact ⟨_, rfl, post_of_same (pa := []) (pv := []) hW' (fun _ _ _ => (trodAll_cons_mk (shut_bool Try.underlying4 _) trodAll_mk0)) (fun sp _ => (trodAll_cons_mk (shut_int Try.underlying3 w0) (trodAll_cons_mk (shut_int Try.underlying3 w1) (trodAll_cons_mk (shut_int Try.underlying3 w2) trodAll_mk0)))) (fun _ _ => rfl) rfl
    (hg.frame _) hg.2.1 (ok_one (by kernel_rfl) rfl (okWide_bool_mk Try.underlying4 _))⟩

theorem over : Rows.satDueRow.holds Try.pinned (OpenSpec.ofChange Rows.satDueSpec) :=
  OpenClaim.holds_of_wide 5 Try.f5 rfl rfl rfl rfl rfl rfl rfl ⟨rfl, rfl, rfl, rfl, rfl⟩ rfl rfl rfl rfl rfl (by kernel_rfl) Try.func5 (by kernel_rfl)
    (of_decide_eq_true (by kernel_rfl)) (by unfold Func.isWrapper; first | (rw [if_pos (by decide +kernel)]; kernel_rfl) | (rw [if_neg (by decide +kernel)]; exact ⟨rfl, rfl⟩))
    (fun os started H enc _ => lifted os started H enc)

/-- ████ THE STATEMENT ████ -/
theorem proved : Rows.SatDueSaid :=
  over
#print axioms proved
end Go.Proofs.Ytbhmbijkimggdaa.satDue
