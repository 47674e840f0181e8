/-
  Proved: of every two numbers 'hostlerlaw02.FrameKinds' returns true: no condition.
  The frame is written by this session's frame.py, after the kit's proof-skeleton.mjs.
-/
import Derived.Test.YtdilbadjbjepaaaJ
namespace Go.Proofs.Ytdilbadjbjepaaa.frameKinds
open Go.ChangeShapes Go.WideShapes Go.ChangeAt Go.RowKit
set_option linter.unusedVariables false
theorem own : ownKnob Try.prog.godebug = none := by kernel_rfl
theorem laidOut : laidOutB Try.prog = true := by kernel_rfl

theorem name_empty (k : Int) (h : k < 1 ∨ 8 < k) : nameS k = { data := #[] } := by
  unfold nameS
  rw [if_neg (by omega), if_neg (by omega), if_neg (by omega), if_neg (by omega), if_neg (by omega), if_neg (by omega), if_neg (by omega), if_neg (by omega)]; rfl
theorem plain (k : Int) : (nameS k = { data := #[] } ↔ ¬ (1 ≤ k ∧ k ≤ 8)) ∧ ((1 ≤ k ∧ k ≤ 8) ↔ (clientB k = true ∨ hostB k = true)) ∧ ((clientB k = true ∧ hostB k = true) ↔ (k = 1 ∨ k = 8)) := by
  have hc : clientB k = true ↔ ((1 ≤ k ∧ k ≤ 5) ∨ k = 8) := by unfold clientB; simp
  have hh : hostB k = true ↔ (k = 1 ∨ (6 ≤ k ∧ k ≤ 8)) := by unfold hostB; simp
  refine ⟨?_, by rw [hc, hh]; omega, by rw [hc, hh]; omega⟩
  rcases kinds k with h | h | h | h | h | h | h | h | h | h
  · exact ⟨fun _ => by omega, fun _ => name_empty k (.inl h)⟩
  iterate 8
    · subst h; decide
  · exact ⟨fun _ => by omega, fun _ => name_empty k (.inr h)⟩
theorem names_eq (a b : Int) (ha : 1 ≤ a ∧ a ≤ 8) : (nameS a = nameS b) ↔ a = b := by
  refine ⟨fun h => ?_, fun h => by rw [h]⟩
  by_cases hb : 1 ≤ b ∧ b ≤ 8
  · have all : ∀ x : Fin 8, ∀ y : Fin 8, nameS ((x.val : Int) + 1) = nameS ((y.val : Int) + 1) → x = y := by decide
    have := all ⟨(a - 1).toNat, by omega⟩ ⟨(b - 1).toNat, by omega⟩ (by
      rw [show (((a - 1).toNat : Nat) : Int) + 1 = a by omega, show (((b - 1).toNat : Nat) : Int) + 1 = b by omega]; exact h)
    have h2 := congrArg Fin.val this
    dsimp only at h2; omega
  · exfalso
    rw [name_empty b (by omega)] at h
    exact ((plain a).1.1 h) ha
theorem list_ne (k : Int) (h : 1 ≤ k ∧ k ≤ 8) : ¬ (nameS k).toList = [] ∧ (nameS k).toList.isEmpty = false := by
  have all : ∀ x : Fin 8, ¬ (nameS ((x.val : Int) + 1)).data.toList = [] ∧ (nameS ((x.val : Int) + 1)).data.toList.isEmpty = false := by decide
  have := all ⟨(k - 1).toNat, by omega⟩
  rw [show (((k - 1).toNat : Nat) : Int) + 1 = k by omega] at this
  rw [ByteArray.toList_eq]; exact this
theorem list_eq (a b : Int) (ha : 1 ≤ a ∧ a ≤ 8) : ((nameS a).toList == (nameS b).toList) = (a == b) := by
  rw [Bool.eq_iff_iff, beq_iff_eq, beq_iff_eq, ← names_eq a b ha]
  refine ⟨fun h => ?_, fun h => by rw [h]⟩
  apply ByteArray.ext
  apply Array.toList_inj.1
  rwa [ByteArray.toList_eq, ByteArray.toList_eq] at h

/-! ### STEP 1 -/
set_option maxRecDepth 100000 in
set_option maxHeartbeats 8000000 in
theorem walk (a0 : Int) (a1 : Int) (w : World) (w0 : (Lit.int .i64 a0).wf = true) (w1 : (Lit.int .i64 a1).wf = true) :
    Calls Try.prog 6 #[.int .i64 a0, .int .i64 a1] w fun e w' => e = .returned (.bool true) ∧ Below w.heap.size w w' := by
  clear w0 w1
  rcases (by omega : a0 < 1 ∨ 8 < a0 ∨ a0 = 1 ∨ a0 = 8 ∨ (2 ≤ a0 ∧ a0 ≤ 5) ∨ (6 ≤ a0 ∧ a0 ≤ 7)) with h | h | h | h | h | h
  · have e := name_empty a0 (.inl h)
    have c : clientB a0 = false := by unfold clientB; simp; omega
    have d : hostB a0 = false := by unfold hostB; simp; omega
    have k3 : (a0 == 1) = false := by simp; omega
    have k4 : (a0 == 8) = false := by simp; omega
    go_enter Try.func6, Try.ntmps6
    go_wp2_with fail
    refine (flives_c _).mono ?_
    rintro e w1 ⟨rfl, hl1⟩
    have HL := Lib.hid hl1
    clear hl1
    go_wp2_with fail
    refine (name_c _ _).mono ?_
    rintro e w2 ⟨rfl, hl2⟩
    have HL2 := Lib.hid (HL.out.trans (hl2.mono HL.out.size))
    clear hl2
    go_wp2_with fail
    refine (name_c _ _).mono ?_
    rintro e w3 ⟨rfl, hl3⟩
    have HL3 := Lib.hid (HL2.out.trans (hl3.mono HL2.out.size))
    clear hl3
    go_wp2_with (first | (go_at_call 17; refine (client_c _ _).mono ?_; rintro e w' ⟨rfl, rfl⟩) | (go_at_call 19; refine (host_c _ _).mono ?_; rintro e w' ⟨rfl, rfl⟩))
    go_ret
    exact ⟨rfl, HL3.out⟩
  · have e := name_empty a0 (.inr h)
    have c : clientB a0 = false := by unfold clientB; simp; omega
    have d : hostB a0 = false := by unfold hostB; simp; omega
    have k1 : 1 ≤ a0 := by omega
    have k2 : decide (a0 ≤ 8) = false := by simp; omega
    have k3 : (a0 == 1) = false := by simp; omega
    have k4 : (a0 == 8) = false := by simp; omega
    go_enter Try.func6, Try.ntmps6
    go_wp2_with fail
    refine (flives_c _).mono ?_
    rintro e w1 ⟨rfl, hl1⟩
    have HL := Lib.hid hl1
    clear hl1
    go_wp2_with fail
    refine (name_c _ _).mono ?_
    rintro e w2 ⟨rfl, hl2⟩
    have HL2 := Lib.hid (HL.out.trans (hl2.mono HL.out.size))
    clear hl2
    go_wp2_with fail
    refine (name_c _ _).mono ?_
    rintro e w3 ⟨rfl, hl3⟩
    have HL3 := Lib.hid (HL2.out.trans (hl3.mono HL2.out.size))
    clear hl3
    go_wp2_with (first | (go_at_call 17; refine (client_c _ _).mono ?_; rintro e w' ⟨rfl, rfl⟩) | (go_at_call 19; refine (host_c _ _).mono ?_; rintro e w' ⟨rfl, rfl⟩))
    go_ret
    exact ⟨rfl, HL3.out⟩
  · subst h
    obtain ⟨n1, n2⟩ := list_ne 1 (by omega)
    have ne := list_eq 1 a1 (by omega)
    have c : clientB 1 = true := by decide
    have d : hostB 1 = true := by decide
    go_enter Try.func6, Try.ntmps6
    go_wp2_with fail
    refine (flives_c _).mono ?_
    rintro e w1 ⟨rfl, hl1⟩
    have HL := Lib.hid hl1
    clear hl1
    go_wp2_with fail
    refine (name_c _ _).mono ?_
    rintro e w2 ⟨rfl, hl2⟩
    have HL2 := Lib.hid (HL.out.trans (hl2.mono HL.out.size))
    clear hl2
    go_wp2_with fail
    refine (name_c _ _).mono ?_
    rintro e w3 ⟨rfl, hl3⟩
    have HL3 := Lib.hid (HL2.out.trans (hl3.mono HL2.out.size))
    clear hl3
    go_wp2_with (first | (go_at_call 17; refine (client_c _ _).mono ?_; rintro e w' ⟨rfl, rfl⟩) | (go_at_call 19; refine (host_c _ _).mono ?_; rintro e w' ⟨rfl, rfl⟩))
    go_ret
    exact ⟨rfl, HL3.out⟩
  · subst h
    obtain ⟨n1, n2⟩ := list_ne 8 (by omega)
    have ne := list_eq 8 a1 (by omega)
    have c : clientB 8 = true := by decide
    have d : hostB 8 = true := by decide
    go_enter Try.func6, Try.ntmps6
    go_wp2_with fail
    refine (flives_c _).mono ?_
    rintro e w1 ⟨rfl, hl1⟩
    have HL := Lib.hid hl1
    clear hl1
    go_wp2_with fail
    refine (name_c _ _).mono ?_
    rintro e w2 ⟨rfl, hl2⟩
    have HL2 := Lib.hid (HL.out.trans (hl2.mono HL.out.size))
    clear hl2
    go_wp2_with fail
    refine (name_c _ _).mono ?_
    rintro e w3 ⟨rfl, hl3⟩
    have HL3 := Lib.hid (HL2.out.trans (hl3.mono HL2.out.size))
    clear hl3
    go_wp2_with (first | (go_at_call 17; refine (client_c _ _).mono ?_; rintro e w' ⟨rfl, rfl⟩) | (go_at_call 19; refine (host_c _ _).mono ?_; rintro e w' ⟨rfl, rfl⟩))
    go_ret
    exact ⟨rfl, HL3.out⟩
  · obtain ⟨h1, h2⟩ := h
    obtain ⟨n1, n2⟩ := list_ne a0 (by omega)
    have ne := list_eq a0 a1 (by omega)
    have c : clientB a0 = true := by unfold clientB; simp; omega
    have d : hostB a0 = false := by unfold hostB; simp; omega
    have k1 : 1 ≤ a0 := by omega
    have k2 : a0 ≤ 8 := by omega
    have k3 : (a0 == 1) = false := by simp; omega
    have k4 : (a0 == 8) = false := by simp; omega
    go_enter Try.func6, Try.ntmps6
    go_wp2_with fail
    refine (flives_c _).mono ?_
    rintro e w1 ⟨rfl, hl1⟩
    have HL := Lib.hid hl1
    clear hl1
    go_wp2_with fail
    refine (name_c _ _).mono ?_
    rintro e w2 ⟨rfl, hl2⟩
    have HL2 := Lib.hid (HL.out.trans (hl2.mono HL.out.size))
    clear hl2
    go_wp2_with fail
    refine (name_c _ _).mono ?_
    rintro e w3 ⟨rfl, hl3⟩
    have HL3 := Lib.hid (HL2.out.trans (hl3.mono HL2.out.size))
    clear hl3
    go_wp2_with (first | (go_at_call 17; refine (client_c _ _).mono ?_; rintro e w' ⟨rfl, rfl⟩) | (go_at_call 19; refine (host_c _ _).mono ?_; rintro e w' ⟨rfl, rfl⟩))
    go_ret
    exact ⟨rfl, HL3.out⟩
  · obtain ⟨h1, h2⟩ := h
    obtain ⟨n1, n2⟩ := list_ne a0 (by omega)
    have ne := list_eq a0 a1 (by omega)
    have c : clientB a0 = false := by unfold clientB; simp; omega
    have d : hostB a0 = true := by unfold hostB; simp; omega
    have k1 : 1 ≤ a0 := by omega
    have k2 : a0 ≤ 8 := by omega
    have k3 : (a0 == 1) = false := by simp; omega
    have k4 : (a0 == 8) = false := by simp; omega
    go_enter Try.func6, Try.ntmps6
    go_wp2_with fail
    refine (flives_c _).mono ?_
    rintro e w1 ⟨rfl, hl1⟩
    have HL := Lib.hid hl1
    clear hl1
    go_wp2_with fail
    refine (name_c _ _).mono ?_
    rintro e w2 ⟨rfl, hl2⟩
    have HL2 := Lib.hid (HL.out.trans (hl2.mono HL.out.size))
    clear hl2
    go_wp2_with fail
    refine (name_c _ _).mono ?_
    rintro e w3 ⟨rfl, hl3⟩
    have HL3 := Lib.hid (HL2.out.trans (hl3.mono HL2.out.size))
    clear hl3
    go_wp2_with (first | (go_at_call 17; refine (client_c _ _).mono ?_; rintro e w' ⟨rfl, rfl⟩) | (go_at_call 19; refine (host_c _ _).mono ?_; rintro e w' ⟨rfl, rfl⟩))
    go_ret
    exact ⟨rfl, HL3.out⟩

/-! ### THE ROW -/
set_option maxRecDepth 100000 in
theorem lifted (os : Os) (started : os.Started) (H : Type) (enc : TypeId × Value → H) :
    ReturnsInHanded {} Try.checked os 6 .any (Rows.frameKindsSpec.pre6 enc Try.prog Try.f6 Rows.frameKindsRow.domain false) (Rows.frameKindsSpec.post enc Try.prog Try.f6 false true false false) := by
  refine returnsInHanded_of_change (C := Try.checked) own started (by kernel_rfl) Try.func6
    (ChangeSpec.witness6 (enc := enc) (C := Try.checked) false ⟨#[], #[.int .i64 0, .int .i64 0], []⟩ 8 (by kernel_rfl) (by kernel_rfl) (by kernel_rfl) (by kernel_rfl)) ?_
  intro W base args ds gs before hval0 hW hcnd _
  have hval : ∀ (j : Nat) t v, Try.f6.params[j]? = some t → args[j]? = some v → Value.okWide Try.prog W .any base t v := hval0
  have hW' := hW
  obtain ⟨p, q, hA0, hV, rfl, hfz, hnd⟩ := hW
  have hA : DataW.TrodAll enc Try.prog W 0 (fun _ => true) true Try.f6.params.toList args.toList ds p := hA0
  rw [Try.params6] at hA hval
  obtain ⟨v0, vs0, d0, ds0, p0, q0, hargs, rfl, rfl, h0, r0⟩ := trodAll_cons hA
  obtain ⟨v1, vs1, d1, ds1, p1, q1, rfl, rfl, rfl, h1, r1⟩ := trodAll_cons r0
  obtain ⟨rfl, rfl, rfl⟩ := trodAll_nil r1
  obtain rfl : args = #[v0, v1] := by cases args; simp_all
  obtain ⟨rfl, rfl⟩ := trodVars_none hV
  obtain ⟨a0, rfl, rfl, rfl, w0⟩ := open_int Try.underlying3 (hval 0 3 v0 rfl rfl) h0
  obtain ⟨a1, rfl, rfl, rfl, w1⟩ := open_int Try.underlying3 (hval 1 3 v1 rfl rfl) h1
  clear hA0 hval0
  refine (walk a0 a1 W w0 w1).mono fun e W' ⟨he, bel⟩ => ?_
  subst he
  exact ⟨_, rfl, _, _, _, [], _, [], hW', trodAll_mk1 (shut_bool Try.underlying4 _), (trodAll_cons_mk (shut_int Try.underlying3 w0) (trodAll_cons_mk (shut_int Try.underlying3 w1) trodAll_mk0)), rfl, bel.frame _, fun h => by cases h⟩

theorem over : Rows.frameKindsRow.holds Try.pinned (OpenSpec.ofChange Rows.frameKindsSpec) :=
  OpenClaim.holds_of_wide 6 Try.f6 rfl rfl rfl rfl rfl rfl rfl ⟨rfl, rfl, rfl, rfl, rfl⟩ rfl rfl rfl rfl rfl (by kernel_rfl) Try.func6 (by kernel_rfl)
    (of_decide_eq_true (by kernel_rfl)) (by unfold Func.isWrapper; first | (rw [if_pos (by decide +kernel)]; kernel_rfl) | (rw [if_neg (by decide +kernel)]; exact ⟨rfl, rfl⟩))
    (fun os started H enc _ => lifted os started H enc)

theorem proved : Rows.FrameKindsSaid := over
#print axioms proved
end Go.Proofs.Ytdilbadjbjepaaa.frameKinds
