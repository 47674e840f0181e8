/-
  Proved: of every two numbers 'hostlerlaw05.DrawAll' returns true: no condition.
  The frame is written by this session's frame.py, after the kit's proof-skeleton.mjs.
-/
import Derived.Test.YtbbheiehlmmgeaaD
namespace Go.Proofs.Ytbbheiehlmmgeaa.drawAll
open Go.ChangeShapes Go.WideShapes Go.ChangeAt Go.RowKit
set_option linter.unusedVariables false
theorem own : ownKnob Try.prog.godebug = none := by kernel_rfl
theorem laidOut : laidOutB Try.prog = true := by kernel_rfl

theorem u64_nonneg (a : Int) : 0 ≤ IntKind.u64.wrap a := by rw [IntKind.wrap_u64]; omega
theorem umod (a n : Int) (hn : 0 < n) : ∃ m, (IntKind.u64.wrap a).tmod n = m ∧ 0 ≤ m ∧ m < n :=
  ⟨_, rfl, Int.tmod_nonneg _ (u64_nonneg a), Int.tmod_lt_of_pos _ hn⟩
theorem below_at (d n : Int) (hd : 0 ≤ d) (hn : 1 ≤ n) : below d n = d % n := by
  unfold below size; rw [if_neg (by omega), if_neg (by omega)]
theorem plain (i b j : Int) (hi : 0 ≤ i) (hb0 : 40 ≤ b) (hb1 : b < 140) (hj0 : 0 ≤ j) (hj1 : j < 40) :
    spread i b j = b - j + i % (2 * j + 1) ∧ spread (-i - 1) b j = spread i b j ∧ between i b (b + (2 * j + 1) - 1) = b + i % (2 * j + 1) := by
  have cb : cut b = b := by unfold cut; omega
  have cj : cut j = j := by unfold cut; omega
  have ch : cut (b + (2 * j + 1) - 1) = b + 2 * j := by unfold cut; omega
  have h1 := Int.emod_lt_of_pos i (show 0 < 2 * j + 1 by omega)
  have h0 := Int.emod_nonneg i (show 2 * j + 1 ≠ 0 by omega)
  have e : below (-i - 1) (2 * j + 1) = below i (2 * j + 1) := by
    have : size (-i - 1) = size i := by unfold size; rw [if_pos (by omega), if_neg (by omega)]; omega
    unfold below; rw [this]
  refine ⟨?_, ?_, ?_⟩
  · unfold spread; rw [cb, cj, below_at _ _ hi (by omega)]; unfold cut; omega
  · unfold spread; rw [cj, e]
  · unfold between; rw [cb, ch, show b + 2 * j - b + 1 = 2 * j + 1 by omega, below_at _ _ hi (by omega)]
theorem last (i b : Int) (hb0 : 40 ≤ b) (hb1 : b < 140) : spread i b 0 = b := by
  have cb : cut b = b := by unfold cut; omega
  have c0 : cut 0 = 0 := by decide
  unfold spread; rw [cb, c0]
  have b := below_bd i (2 * 0 + 1)
  have := b.1
  have := b.2.1 (by omega)
  unfold cut; omega

/-! ### STEP 1 -/
set_option maxHeartbeats 4000000 in
theorem walk (a0 : Int) (a1 : Int) (w : World) (w0 : (Lit.int .i64 a0).wf = true) (w1 : (Lit.int .i64 a1).wf = true) :
    Calls Try.prog 4 #[.int .i64 a0, .int .i64 a1] w fun e w' => e = .returned (.bool true) ∧ Below w.heap.size w w' := by
  obtain ⟨b, hb, b0, b1⟩ := umod a0 100 (by omega)
  obtain ⟨m, hm, m0, m1⟩ := umod a1 40 (by omega)
  have HL := Lib.hid (last (2 * m + 1) (40 + b) (by omega) (by omega))
  clear w0 w1
  go_enter Try.func4, Try.ntmps4
  go_wp2_with (first | (go_at_call 8; refine (dlives_c _).mono ?_; rintro e w' ⟨rfl, rfl⟩))
  clear hb hm
  go_loopw [6] (fun i wr => ∃ k : Nat, (k : Int) ≤ 2 * (2 * m + 1) ∧ i = .int .i64 k ∧ Below w.heap.size w wr) (fun i _ => (2 * (2 * m + 1) - intOf i).toNat)
  case atStart => exact ⟨0, by omega, rfl, Below.refl _ _⟩
  case round =>
    obtain ⟨k, hk, rfl, hbel⟩ := hrel
    have HB := Lib.hid hbel
    clear hbel
    by_cases hlt : (k : Int) < 2 * (2 * m + 1)
    · obtain ⟨f1, f2, f3⟩ := plain k (40 + b) m (by omega) (by omega) (by omega) m0 m1
      have h1 := Int.emod_lt_of_pos (k : Int) (show 0 < 2 * m + 1 by omega)
      have h0 := Int.emod_nonneg (k : Int) (show 2 * m + 1 ≠ 0 by omega)
      go_wp2
      go_quiet ((first | (go_at_call 10; exact quiet' (spread_c _ _ _ _ (by unfold I64; omega))) | (go_at_call 11; exact quiet' (between_c _ _ _ _ (by unfold I64; omega)))))
      go_wp2
      go_roundw
      case rel => exact ⟨k + 1, by omega, by go_num, bel_drewN HB.out _⟩
      case measure => simp [intOf]; omega
    · have hl := HL.out
      go_wp2_with (first | (go_at_call 10; refine (spread_c _ _ _ _ (by unfold I64; omega)).mono ?_; rintro e w' ⟨rfl, rfl⟩))
      go_ret
      exact ⟨rfl, HB.out⟩

/-! ### THE ROW -/
set_option maxRecDepth 100000 in
theorem lifted (os : Os) (started : os.Started) (H : Type) (enc : TypeId × Value → H) :
    ReturnsInHanded {} Try.checked os 4 .any (Rows.drawAllSpec.pre6 enc Try.prog Try.f4 Rows.drawAllRow.domain false) (Rows.drawAllSpec.post enc Try.prog Try.f4 false true false false) := by
  refine returnsInHanded_of_change (C := Try.checked) own started (by kernel_rfl) Try.func4
    (ChangeSpec.witness6 (enc := enc) (C := Try.checked) false ⟨#[], #[.int .i64 0, .int .i64 0], []⟩ 8 (by kernel_rfl) (by kernel_rfl) (by kernel_rfl) (by kernel_rfl)) ?_
  intro W base args ds gs before hval0 hW hcnd _
  have hval : ∀ (j : Nat) t v, Try.f4.params[j]? = some t → args[j]? = some v → Value.okWide Try.prog W .any base t v := hval0
  have hW' := hW
  obtain ⟨p, q, hA0, hV, rfl, hfz, hnd⟩ := hW
  have hA : DataW.TrodAll enc Try.prog W 0 (fun _ => true) true Try.f4.params.toList args.toList ds p := hA0
  rw [Try.params4] at hA hval
  obtain ⟨v0, vs0, d0, ds0, p0, q0, hargs, rfl, rfl, h0, r0⟩ := trodAll_cons hA
  obtain ⟨v1, vs1, d1, ds1, p1, q1, rfl, rfl, rfl, h1, r1⟩ := trodAll_cons r0
  obtain ⟨rfl, rfl, rfl⟩ := trodAll_nil r1
  obtain rfl : args = #[v0, v1] := by cases args; simp_all
  obtain ⟨rfl, rfl⟩ := trodVars_none hV
  obtain ⟨a0, rfl, rfl, rfl, w0⟩ := open_int Try.underlying3 (hval 0 3 v0 rfl rfl) h0
  obtain ⟨a1, rfl, rfl, rfl, w1⟩ := open_int Try.underlying3 (hval 1 3 v1 rfl rfl) h1
  clear hA0 hval0
  refine (walk a0 a1 W w0 w1).mono fun e W' ⟨he, bel⟩ => ?_
  subst he
  exact ⟨_, rfl, _, _, _, [], _, [], hW', trodAll_mk1 (shut_bool Try.underlying4 _), (trodAll_cons_mk (shut_int Try.underlying3 w0) (trodAll_cons_mk (shut_int Try.underlying3 w1) trodAll_mk0)), rfl, bel.frame _, fun h => by cases h⟩

theorem over : Rows.drawAllRow.holds Try.pinned (OpenSpec.ofChange Rows.drawAllSpec) :=
  OpenClaim.holds_of_wide 4 Try.f4 rfl rfl rfl rfl rfl rfl rfl ⟨rfl, rfl, rfl, rfl, rfl⟩ rfl rfl rfl rfl rfl (by kernel_rfl) Try.func4 (by kernel_rfl)
    (of_decide_eq_true (by kernel_rfl)) (by unfold Func.isWrapper; first | (rw [if_pos (by decide +kernel)]; kernel_rfl) | (rw [if_neg (by decide +kernel)]; exact ⟨rfl, rfl⟩))
    (fun os started H enc _ => lifted os started H enc)

theorem proved : Rows.DrawAllSaid := over
#print axioms proved
end Go.Proofs.Ytbbheiehlmmgeaa.drawAll
