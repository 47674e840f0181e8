/-
  Proved: of every step 'hostlerlaw14.BackNil' returns true: no condition.
  The frame is written by this session's frame.py, after the kit's proof-skeleton.mjs.
-/
import Derived.Test.YthmbfmjchbcjlaaT
namespace Go.Proofs.Ythmbfmjchbcjlaa.backNil
open Go.ChangeShapes Go.WideShapes Go.ChangeAt Go.RowKit
set_option linter.unusedVariables false
theorem own : ownKnob Try.prog.godebug = none := by kernel_rfl
theorem laidOut : laidOutB Try.prog = true := by kernel_rfl


/-! ### STEP 1 -/
set_option maxRecDepth 100000 in
set_option maxHeartbeats 8000000 in
theorem walk (a0kind : Int) (a0a : Int) (a0b : Int) (w : World) (w0a0kind : (Lit.int .i64 a0kind).wf = true) (w0a0a : (Lit.int .i64 a0a).wf = true) (w0a0b : (Lit.int .i64 a0b).wf = true) :
    Calls Try.prog 6 #[.agg #[.int .i64 a0kind, .int .i64 a0a, .int .i64 a0b]] w fun e w' => e = .returned (.bool true) ∧ Below w.heap.size w w' := by
  have HB := Lib.hid (Blk.new w 28 (sc a0kind a0a a0b))
  have HW := Lib.hid (show Below w.heap.size w (w.alloc (.cells (sc a0kind a0a a0b) 28)) from (Below.refl _ _).alloc (Nat.le_refl _) _)
  clear w0a0kind w0a0a w0a0b
  go_enter Try.func6, Try.ntmps6
  go_wp2_with fail
  refine (blives_c _).mono ?_
  rintro e w1 ⟨rfl, hl1⟩
  have hB1 := HB.out.below hl1 (by simp)
  have k0 : w1.cell? ⟨w.heap.size, 0, none⟩ = some (.int .i64 a0kind) := hB1.cell 0
  have k1 : w1.cell? ⟨w.heap.size, 1, none⟩ = some (.int .i64 a0a) := hB1.cell 1
  have k2 : w1.cell? ⟨w.heap.size, 2, none⟩ = some (.int .i64 a0b) := hB1.cell 2
  have HL := Lib.hid (HW.out.trans (hl1.mono (by simp)))
  have HB1 := Lib.hid hB1
  clear hl1 hB1
  go_wp2_with fail
  refine (stepNil_c a0kind a0a a0b _).mono ?_
  rintro e w2 ⟨rfl, hl2⟩
  have hB2 := HB1.out.below hl2 HB1.out.lt
  have k0 : w2.cell? ⟨w.heap.size, 0, none⟩ = some (.int .i64 a0kind) := hB2.cell 0
  have k1 : w2.cell? ⟨w.heap.size, 1, none⟩ = some (.int .i64 a0a) := hB2.cell 1
  have k2 : w2.cell? ⟨w.heap.size, 2, none⟩ = some (.int .i64 a0b) := hB2.cell 2
  have hB7 := (((((hB2.alloc (.cells #[.pointer none] 24)).alloc (.cells #[.pointer none] 24)).alloc (.cells #[.pointer none] 24)).alloc (.cells #[.pointer none] 24)).alloc (.cells #[.pointer none] 24))
  have q1 : (((((w2.alloc (.cells #[.pointer none] 24)).alloc (.cells #[.pointer none] 24)).alloc (.cells #[.pointer none] 24)).alloc (.cells #[.pointer none] 24)).alloc (.cells #[.pointer none] 24)).cell? ⟨w.heap.size, 1, none⟩ = some (.int .i64 a0a) := hB7.cell 1
  have q2 : (((((w2.alloc (.cells #[.pointer none] 24)).alloc (.cells #[.pointer none] 24)).alloc (.cells #[.pointer none] 24)).alloc (.cells #[.pointer none] 24)).alloc (.cells #[.pointer none] 24)).cell? ⟨w.heap.size, 2, none⟩ = some (.int .i64 a0b) := hB7.cell 2
  have HL2 := Lib.hid (HL.out.trans (hl2.mono HL.out.size))
  clear hl2 hB2 hB7
  go_wp2_with (first | (go_at_call 11; refine (state_nil _).mono ?_; rintro e w' ⟨rfl, rfl⟩) | (go_at_call 18; refine (host_nil _).mono ?_; rintro e w' ⟨rfl, rfl⟩) | (go_at_call 14; refine (client_nil _).mono ?_; rintro e w' ⟨rfl, rfl⟩) | (go_at_call 15; refine (owes_nil _).mono ?_; rintro e w' ⟨rfl, rfl⟩) | (go_at_call 19; refine (born_nil _).mono ?_; rintro e w' ⟨rfl, rfl⟩) | (go_at_call 20; refine (deadline_nil _).mono ?_; rintro e w' ⟨rfl, rfl⟩) | (go_at_call 21; refine (since_nil _).mono ?_; rintro e w' ⟨rfl, rfl⟩) | (go_at_call 16; refine (old_nil _ _).mono ?_; rintro e w' ⟨rfl, rfl⟩) | (go_at_call 17; refine (stale_nil _ _ _).mono ?_; rintro e w' ⟨rfl, rfl⟩))
  go_ret
  exact ⟨rfl, ((((HL2.out.alloc (by have := HL2.out.size; simp; omega) _).alloc (by have := HL2.out.size; simp; omega) _).alloc (by have := HL2.out.size; simp; omega) _).alloc (by have := HL2.out.size; simp; omega) _).alloc (by have := HL2.out.size; simp; omega) _⟩

/-! ### THE ROW -/
set_option maxRecDepth 100000 in
theorem lifted (os : Os) (started : os.Started) (H : Type) (enc : TypeId × Value → H) :
    ReturnsInHanded {} Try.checked os 6 .any (Rows.backNilSpec.pre6 enc Try.prog Try.f6 Rows.backNilRow.domain false) (Rows.backNilSpec.post enc Try.prog Try.f6 false true false false) := by
  refine returnsInHanded_of_change (C := Try.checked) own started (by kernel_rfl) Try.func6
    (ChangeSpec.witness6 (enc := enc) (C := Try.checked) false ⟨#[], #[.agg #[.int .i64 0, .int .i64 0, .int .i64 0]], []⟩ 8 (by kernel_rfl) (by kernel_rfl) (by kernel_rfl) (by kernel_rfl)) ?_
  intro W base args ds gs before hval0 hW hcnd _
  have hval : ∀ (j : Nat) t v, Try.f6.params[j]? = some t → args[j]? = some v → Value.okWide Try.prog W .any base t v := hval0
  have hW' := hW
  obtain ⟨p, q, hA0, hV, rfl, hfz, hnd⟩ := hW
  have hA : DataW.TrodAll enc Try.prog W 0 (fun _ => true) true Try.f6.params.toList args.toList ds p := hA0
  rw [Try.params6] at hA hval
  obtain ⟨v0, vs0, d0, ds0, p0, q0, hargs, rfl, rfl, h0, r0⟩ := trodAll_cons hA
  obtain ⟨rfl, rfl, rfl⟩ := trodAll_nil r0
  obtain rfl : args = #[v0] := by cases args; simp_all
  obtain ⟨rfl, rfl⟩ := trodVars_none hV
  have k0 := h0
  have lt0 : ∀ x ∈ p0, x.block < W.heap.size := by obtain ⟨m, hm⟩ := k0; exact DataW.trod_lt m _ _ _ hm
  obtain ⟨a0kind, a0a, a0b, rfl, w0a0kind, w0a0a, w0a0b⟩ := open_val_iii Try.underlying28 (by kernel_rfl) (by kernel_rfl) Try.underlying3 Try.underlying3 Try.underlying3 (hval 0 28 v0 rfl rfl) h0
  clear hA0 hval0
  refine (walk a0kind a0a a0b W w0a0kind w0a0a w0a0b).mono fun e W' ⟨he, bel⟩ => ?_
  subst he
  exact ⟨_, rfl, _, _, _, [], _, [], hW', trodAll_mk1 (shut_bool Try.underlying4 _), (trodAll_cons_mk (Below.trod laidOut (by kernel_rfl) (of_decide_eq_true (by kernel_rfl)) k0 bel lt0) trodAll_mk0), rfl, bel.frame _, fun h => by cases h⟩

theorem over : Rows.backNilRow.holds Try.pinned (OpenSpec.ofChange Rows.backNilSpec) :=
  OpenClaim.holds_of_wide 6 Try.f6 rfl rfl rfl rfl rfl rfl rfl ⟨rfl, rfl, rfl, rfl, rfl⟩ rfl rfl rfl rfl rfl (by kernel_rfl) Try.func6 (by kernel_rfl)
    (of_decide_eq_true (by kernel_rfl)) (by unfold Func.isWrapper; first | (rw [if_pos (by decide +kernel)]; kernel_rfl) | (rw [if_neg (by decide +kernel)]; exact ⟨rfl, rfl⟩))
    (fun os started H enc _ => lifted os started H enc)

theorem proved : Rows.BackNilSaid := over
#print axioms proved
end Go.Proofs.Ythmbfmjchbcjlaa.backNil
