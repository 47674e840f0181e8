/-
  Proved: of every frame and every two numbers 'hostlerlaw02.FrameCaps' returns true: no condition.
  The frame is written by this session's frame.py, after the kit's proof-skeleton.mjs.
-/
import Derived.Test.YtdilbadjbjepaaaJ
import Derived.WalkLawsBesides
namespace Go.Proofs.Ytdilbadjbjepaaa.frameCaps
open Go.ChangeShapes Go.WideShapes Go.ChangeAt Go.RowKit
set_option linter.unusedVariables false
theorem own : ownKnob Try.prog.godebug = none := by kernel_rfl
theorem laidOut : laidOutB Try.prog = true := by kernel_rfl

theorem caps (k : Int) (n : Nat) (lo hi : Int) (h : lo ≤ hi) : (k < 1 ∧ rt k n lo = 4 ∧ rt k n hi = 4) ∨ (8 < k ∧ rt k n lo = 4 ∧ rt k n hi = 4) ∨
    (1 ≤ k ∧ k ≤ 8 ∧ ((rt k n lo = 0 ∧ rt k n hi = 0 ∧ (n : Int) ≤ min (max hi 0) 1024) ∨ (rt k n lo = 3 ∧ rt k n hi = 0 ∧ (n : Int) ≤ min (max hi 0) 1024) ∨ (rt k n lo = 3 ∧ rt k n hi = 3 ∧ min (max hi 0) 1024 < (n : Int)))) := by
  have hl : capn lo ≤ capn hi := by unfold capn; omega
  have hh : capn hi = min (max hi 0) 1024 := rfl
  by_cases k1 : k < 1
  · left; have hk : kindB k = false := by unfold kindB; simp; omega
    unfold rt; rw [hk]; simp [k1]
  by_cases k8 : 8 < k
  · right; left; have hk : kindB k = false := by unfold kindB; simp; omega
    unfold rt; rw [hk]; simp [k8]
  right; right
  have hk : kindB k = true := by unfold kindB; simp; omega
  refine ⟨by omega, by omega, ?_⟩
  unfold rt; rw [hk, if_pos rfl, if_pos rfl, ← hh]
  by_cases c1 : capn lo < (n : Int)
  · rw [if_pos c1]
    by_cases c2 : capn hi < (n : Int)
    · rw [if_pos c2]; right; right; exact ⟨rfl, rfl, c2⟩
    · rw [if_neg c2]; right; left; exact ⟨rfl, rfl, by omega⟩
  · rw [if_neg c1, if_neg (by omega)]; left; exact ⟨rfl, rfl, by omega⟩
theorem emp (s : ByteArray) (h : s.size = 0) : s = ByteArray.empty := by
  apply ByteArray.ext
  exact Array.eq_empty_of_size_eq_zero h
theorem nemp (s : ByteArray) (h : 0 < s.size) : ¬ s = ByteArray.empty := by
  intro he; rw [he] at h; exact absurd h (by decide)
theorem bel_of_drew {w w' : World} (h : Below w.drew.heap.size w.drew w') : Below w.heap.size w w' := ⟨h.os, h.tape, h.output, h.size, h.block⟩

/-! ### STEP 1 -/
set_option maxRecDepth 100000 in
set_option maxHeartbeats 8000000 in
theorem walk (a0kind : Int) (a0data : ByteArray) (a1 : Int) (a2 : Int) (w : World) (w0a0kind : (Lit.int .i64 a0kind).wf = true) (w0a0data : a0data.size ≤ maxLen) (w1 : (Lit.int .i64 a1).wf = true) (w2 : (Lit.int .i64 a2).wf = true) :
    Calls Try.prog 4 #[.agg #[.int .i64 a0kind, .string a0data], .int .i64 a1, .int .i64 a2] w fun e w' => e = .returned (.bool true) ∧ Below w.heap.size w w' := by
  have hz := cutS_size a0data
  have hs : (cutS a0data).size ≤ maxLen := by unfold maxLen; omega
  have HF := Lib.hid (fun W => few_c a0kind a0data W w0a0data)
  have HR := Lib.hid (fun most W => right_c a0kind (cutS a0data) most W hs)
  have HB := Lib.hid (Blk.new w 23 #[.int .i64 a0kind, .string a0data])
  have HW := Lib.hid (show Below w.heap.size w (w.alloc (.cells #[.int .i64 a0kind, .string a0data] 23)) from (Below.refl _ _).alloc (Nat.le_refl _) _)
  generalize cutS a0data = s at *
  clear w0a0kind w0a0data w1 w2
  go_enter Try.func4, Try.ntmps4
  go_wp2_with fail
  refine (flives_c _).mono ?_
  rintro e w1 ⟨rfl, hl1⟩
  have hB1 := HB.out.below hl1 (by simp)
  have k0 : w1.cell? ⟨w.heap.size, 0, none⟩ = some (.int .i64 a0kind) := hB1.cell 0
  have k1 : w1.cell? ⟨w.heap.size, 1, none⟩ = some (.string a0data) := hB1.cell 1
  have HL := Lib.hid (HW.out.trans (hl1.mono (by simp)))
  have HB1 := Lib.hid hB1
  clear hl1 hB1
  go_wp2_with fail
  refine (HF.out _).mono ?_
  rintro e w2 ⟨rfl, hl2⟩
  have hB2 := HB1.out.below hl2 HB1.out.lt
  have k0 : w2.cell? ⟨w.heap.size, 0, none⟩ = some (.int .i64 a0kind) := hB2.cell 0
  have k1 : w2.cell? ⟨w.heap.size, 1, none⟩ = some (.string a0data) := hB2.cell 1
  have q0 := hB2.free 0
  have q1 := hB2.free 1
  have HL2 := Lib.hid (((HL.out.trans (hl2.mono HL.out.size)).setCell (p := ⟨w.heap.size, 0, none⟩) (Nat.le_refl _) (.int .i64 a0kind)).setCell (p := ⟨w.heap.size, 1, none⟩) (Nat.le_refl _) (.string s))
  have HB2 := Lib.hid (show Blk ((w2.setCell ⟨w.heap.size, 0, none⟩ (.int .i64 a0kind)).setCell ⟨w.heap.size, 1, none⟩ (.string s)) w.heap.size 23 #[.int .i64 a0kind, .string s] from (hB2.set 0 (.int .i64 a0kind)).set 1 (.string s))
  clear hl2 hB2
  go_wp2_with fail
  generalize ((w2.setCell ⟨w.heap.size, 0, none⟩ (.int .i64 a0kind)).setCell ⟨w.heap.size, 1, none⟩ (.string s)) = W at *
  have k0 : W.cell? ⟨w.heap.size, 0, none⟩ = some (.int .i64 a0kind) := HB2.out.cell 0
  have k1 : W.cell? ⟨w.heap.size, 1, none⟩ = some (.string s) := HB2.out.cell 1
  rcases Int.lt_trichotomy a1 a2 with hc | hc | hc
  · skip
    rcases caps a0kind s.size a1 a2 (by omega) with ⟨g1, g2, g3⟩ | ⟨g1, g2, g3⟩ | ⟨g1, g1', ⟨g2, g3, g4⟩ | ⟨g2, g3, g4⟩ | ⟨g2, g3, g4⟩⟩
    all_goals try (exfalso; omega)
    all_goals
      go_region_held3 (fun w' => w'.cell? ⟨w.heap.size, 0, none⟩ = some (.int .i64 a0kind) ∧ w'.cell? ⟨w.heap.size, 1, none⟩ = some (.string s))
        (first | go_keep | exact ⟨t0, t1⟩ | exact ⟨s0, s1⟩)
        (first | (go_at_call 14; (with_reducible refine (HR.out (if a2 < a1 then a2 else a1) _).mono ?_); rintro e w3 ⟨rfl, hb3d⟩; have hb3 := bel_of_drew hb3d; clear hb3d; have b3 := HB2.out.below hb3 HB2.out.lt; have s0 : w3.cell? ⟨w.heap.size, 0, none⟩ = some (.int .i64 a0kind) := b3.cell 0; have s1 : w3.cell? ⟨w.heap.size, 1, none⟩ = some (.string s) := b3.cell 1) | (go_at_call 14; (with_reducible refine (HR.out _ _).mono ?_); rintro e w4 ⟨rfl, hb4⟩; have b4 := b3.below hb4 b3.lt; have t0 : w4.cell? ⟨w.heap.size, 0, none⟩ = some (.int .i64 a0kind) := b4.cell 0; have t1 : w4.cell? ⟨w.heap.size, 1, none⟩ = some (.string s) := b4.cell 1))
      all_goals
        have HL4 := Lib.hid ((HL2.out.trans (hb3.mono HL2.out.size)).trans (hb4.mono (Nat.le_trans HL2.out.size hb3.size)))
        clear hb3 hb4
        go_wp2_with fail
        all_goals go_ret
        all_goals exact ⟨by first | rfl | exact ret_bool (by simp; omega) | exact ret_bool (by simp; exact emp _ (by omega)) | exact ret_bool (by simp; exact nemp _ (by omega)), HL4.out⟩
  · have hc1 : a1 ≤ a2 := by omega
    have hc2 : a2 ≤ a1 := by omega
    clear hc
    rcases caps a0kind s.size a1 a1 (by omega) with ⟨g1, g2, g3⟩ | ⟨g1, g2, g3⟩ | ⟨g1, g1', ⟨g2, g3, g4⟩ | ⟨g2, g3, g4⟩ | ⟨g2, g3, g4⟩⟩
    all_goals try (exfalso; omega)
    all_goals
      go_region_held3 (fun w' => w'.cell? ⟨w.heap.size, 0, none⟩ = some (.int .i64 a0kind) ∧ w'.cell? ⟨w.heap.size, 1, none⟩ = some (.string s))
        (first | go_keep | exact ⟨t0, t1⟩ | exact ⟨s0, s1⟩)
        (first | (go_at_call 14; (with_reducible refine (HR.out (if a2 < a1 then a2 else a1) _).mono ?_); rintro e w3 ⟨rfl, hb3d⟩; have hb3 := bel_of_drew hb3d; clear hb3d; have b3 := HB2.out.below hb3 HB2.out.lt; have s0 : w3.cell? ⟨w.heap.size, 0, none⟩ = some (.int .i64 a0kind) := b3.cell 0; have s1 : w3.cell? ⟨w.heap.size, 1, none⟩ = some (.string s) := b3.cell 1) | (go_at_call 14; (with_reducible refine (HR.out _ _).mono ?_); rintro e w4 ⟨rfl, hb4⟩; have b4 := b3.below hb4 b3.lt; have t0 : w4.cell? ⟨w.heap.size, 0, none⟩ = some (.int .i64 a0kind) := b4.cell 0; have t1 : w4.cell? ⟨w.heap.size, 1, none⟩ = some (.string s) := b4.cell 1))
      all_goals
        have HL4 := Lib.hid ((HL2.out.trans (hb3.mono HL2.out.size)).trans (hb4.mono (Nat.le_trans HL2.out.size hb3.size)))
        clear hb3 hb4
        go_wp2_with fail
        all_goals go_ret
        all_goals exact ⟨by first | rfl | exact ret_bool (by simp; omega) | exact ret_bool (by simp; exact emp _ (by omega)) | exact ret_bool (by simp; exact nemp _ (by omega)), HL4.out⟩
  · skip
    rcases caps a0kind s.size a2 a1 (by omega) with ⟨g1, g2, g3⟩ | ⟨g1, g2, g3⟩ | ⟨g1, g1', ⟨g2, g3, g4⟩ | ⟨g2, g3, g4⟩ | ⟨g2, g3, g4⟩⟩
    all_goals try (exfalso; omega)
    all_goals
      go_region_held3 (fun w' => w'.cell? ⟨w.heap.size, 0, none⟩ = some (.int .i64 a0kind) ∧ w'.cell? ⟨w.heap.size, 1, none⟩ = some (.string s))
        (first | go_keep | exact ⟨t0, t1⟩ | exact ⟨s0, s1⟩)
        (first | (go_at_call 14; (with_reducible refine (HR.out a2 _).mono ?_); rintro e w3 ⟨rfl, hb3d⟩; have hb3 := bel_of_drew hb3d; clear hb3d; have b3 := HB2.out.below hb3 HB2.out.lt; have s0 : w3.cell? ⟨w.heap.size, 0, none⟩ = some (.int .i64 a0kind) := b3.cell 0; have s1 : w3.cell? ⟨w.heap.size, 1, none⟩ = some (.string s) := b3.cell 1) | (go_at_call 14; (with_reducible refine (HR.out _ _).mono ?_); rintro e w4 ⟨rfl, hb4⟩; have b4 := b3.below hb4 b3.lt; have t0 : w4.cell? ⟨w.heap.size, 0, none⟩ = some (.int .i64 a0kind) := b4.cell 0; have t1 : w4.cell? ⟨w.heap.size, 1, none⟩ = some (.string s) := b4.cell 1))
      all_goals
        have HL4 := Lib.hid ((HL2.out.trans (hb3.mono HL2.out.size)).trans (hb4.mono (Nat.le_trans HL2.out.size hb3.size)))
        clear hb3 hb4
        go_wp2_with fail
        all_goals go_ret
        all_goals exact ⟨by first | rfl | exact ret_bool (by simp; omega) | exact ret_bool (by simp; exact emp _ (by omega)) | exact ret_bool (by simp; exact nemp _ (by omega)), HL4.out⟩

/-! ### THE ROW -/
set_option maxRecDepth 100000 in
theorem lifted (os : Os) (started : os.Started) (H : Type) (enc : TypeId × Value → H) :
    ReturnsInHanded {} Try.checked os 4 .any (Rows.frameCapsSpec.pre6 enc Try.prog Try.f4 Rows.frameCapsRow.domain false) (Rows.frameCapsSpec.post enc Try.prog Try.f4 false true false false) := by
  refine returnsInHanded_of_change (C := Try.checked) own started (by kernel_rfl) Try.func4
    (ChangeSpec.witness6 (enc := enc) (C := Try.checked) false ⟨#[], #[.agg #[.int .i64 0, .string ByteArray.empty], .int .i64 0, .int .i64 0], []⟩ 8 (by kernel_rfl) (by kernel_rfl) (by kernel_rfl) (by kernel_rfl)) ?_
  intro W base args ds gs before hval0 hW hcnd _
  have hval : ∀ (j : Nat) t v, Try.f4.params[j]? = some t → args[j]? = some v → Value.okWide Try.prog W .any base t v := hval0
  have hW' := hW
  obtain ⟨p, q, hA0, hV, rfl, hfz, hnd⟩ := hW
  have hA : DataW.TrodAll enc Try.prog W 0 (fun _ => true) true Try.f4.params.toList args.toList ds p := hA0
  rw [Try.params4] at hA hval
  obtain ⟨v0, vs0, d0, ds0, p0, q0, hargs, rfl, rfl, h0, r0⟩ := trodAll_cons hA
  obtain ⟨v1, vs1, d1, ds1, p1, q1, rfl, rfl, rfl, h1, r1⟩ := trodAll_cons r0
  obtain ⟨v2, vs2, d2, ds2, p2, q2, rfl, rfl, rfl, h2, r2⟩ := trodAll_cons r1
  obtain ⟨rfl, rfl, rfl⟩ := trodAll_nil r2
  obtain rfl : args = #[v0, v1, v2] := by cases args; simp_all
  obtain ⟨rfl, rfl⟩ := trodVars_none hV
  have k0 := h0
  have lt0 : ∀ x ∈ p0, x.block < W.heap.size := by obtain ⟨m, hm⟩ := k0; exact DataW.trod_lt m _ _ _ hm
  obtain ⟨a0kind, a0data, rfl, w0a0kind, w0a0data⟩ := open_val_is Try.underlying23 (by kernel_rfl) (by kernel_rfl) Try.underlying3 Try.underlying9 (hval 0 23 v0 rfl rfl) h0
  obtain ⟨a1, rfl, rfl, rfl, w1⟩ := open_int Try.underlying3 (hval 1 3 v1 rfl rfl) h1
  obtain ⟨a2, rfl, rfl, rfl, w2⟩ := open_int Try.underlying3 (hval 2 3 v2 rfl rfl) h2
  clear hA0 hval0
  refine (walk a0kind a0data a1 a2 W w0a0kind w0a0data w1 w2).mono fun e W' ⟨he, bel⟩ => ?_
  subst he
  exact ⟨_, rfl, _, _, _, [], _, [], hW', trodAll_mk1 (shut_bool Try.underlying4 _), (trodAll_cons_mk (Below.trod laidOut (by kernel_rfl) (of_decide_eq_true (by kernel_rfl)) k0 bel lt0) (trodAll_cons_mk (shut_int Try.underlying3 w1) (trodAll_cons_mk (shut_int Try.underlying3 w2) trodAll_mk0))), rfl, bel.frame _, fun h => by cases h⟩

theorem over : Rows.frameCapsRow.holds Try.pinned (OpenSpec.ofChange Rows.frameCapsSpec) :=
  OpenClaim.holds_of_wide 4 Try.f4 rfl rfl rfl rfl rfl rfl rfl ⟨rfl, rfl, rfl, rfl, rfl⟩ rfl rfl rfl rfl rfl (by kernel_rfl) Try.func4 (by kernel_rfl)
    (of_decide_eq_true (by kernel_rfl)) (by unfold Func.isWrapper; first | (rw [if_pos (by decide +kernel)]; kernel_rfl) | (rw [if_neg (by decide +kernel)]; exact ⟨rfl, rfl⟩))
    (fun os started H enc _ => lifted os started H enc)

theorem proved : Rows.FrameCapsSaid := over
#print axioms proved
end Go.Proofs.Ytdilbadjbjepaaa.frameCaps
