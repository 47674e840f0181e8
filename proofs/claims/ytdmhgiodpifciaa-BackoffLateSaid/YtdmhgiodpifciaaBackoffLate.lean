/-
  Proved: of every number, every slice of numbers and every draw 'hostlerlaw07.BackoffLate' returns true: no condition.
  The frame is written by this session's frame.py, after the kit's proof-skeleton.mjs.
-/
import Derived.Test.YtdmhgiodpifciaaK
namespace Go.Proofs.Ytdmhgiodpifciaa.backoffLate
open Go.ChangeShapes Go.WideShapes Go.ChangeAt Go.RowKit
set_option linter.unusedVariables false
theorem own : ownKnob Try.prog.godebug = none := by kernel_rfl
theorem laidOut : laidOutB Try.prog = true := by kernel_rfl

theorem u64_nonneg (a : Int) : 0 ≤ IntKind.u64.wrap a := by rw [IntKind.wrap_u64]; omega
theorem umod (a n : Int) (hn : 0 < n) : ∃ m, (IntKind.u64.wrap a).tmod n = m ∧ 0 ≤ m ∧ m < n :=
  ⟨_, rfl, Int.tmod_nonneg _ (u64_nonneg a), Int.tmod_lt_of_pos _ hn⟩
/-- Of the tick and the wait: when it may be tried again. -/
theorem plain (b f d now : Int) (h0 : 0 ≤ now) (h1 : now < 1000000) (hf : 0 ≤ f) : now + wait b (f + 1) - wait b (f + 1) / 4 ≤ failed b f d now ∧ failed b f d now ≤ now + wait b (f + 1) + wait b (f + 1) / 4 ∧
    past (failed b f d now - 1) (failed b f d now) = false ∧ past (failed b f d now) (failed b f d now) = true ∧ past (failed b f d now + 1) (failed b f d now) = true := by
  have hw := wait_bd b (f + 1)
  have hp := wait_pos b (f + 1) (by omega)
  obtain ⟨w, hw'⟩ : ∃ w, w = wait b (f + 1) := ⟨_, rfl⟩
  unfold failed life
  rw [← hw'] at hw hp ⊢
  have cw : cut w = w := by unfold cut; omega
  have cw4 : cut (w / 4) = w / 4 := by unfold cut; omega
  have hb := below_bd d (2 * (w / 4) + 1)
  have hb1 := hb.1
  have hb2 := hb.2.1 (by omega)
  have es : spread d w (w / 4) = w - w / 4 + below d (2 * (w / 4) + 1) := by unfold spread; rw [cw, cw4]; (try unfold cut); omega
  have ea : add now (spread d w (w / 4)) = now + spread d w (w / 4) := by unfold add cut; omega
  rw [ea, es]
  generalize below d (2 * (w / 4) + 1) = x at *
  refine ⟨by omega, by omega, ?_, ?_, ?_⟩ <;> (unfold past sub cut; simp; try omega)
structure Rel (W w : World) (g : Nat) (i : Value) (b : Int) (n k : Nat) : Prop where
  hi : i = .int .i64 k
  hk : k ≤ n
  blk : ∃ u : Int, Blk w g 42 (cells (based b) k u)
  below : Below W.heap.size W w

/-! ### STEP 1 -/
set_option maxRecDepth 100000 in
set_option maxHeartbeats 8000000 in
theorem walk (a0 : Int) (a1 : Option Addr) (len1 cap1 : Nat) (z1 : List Int) (a2 : Int) (w : World) (w0 : (Lit.int .i64 a0).wf = true) (w1 : IsRow .i64 w a1 len1 cap1 z1) (w2 : (Lit.int .i64 a2).wf = true) :
    Calls Try.prog 4 #[.int .i64 a0, .slice a1 len1 cap1, .int .i64 a2] w fun e w' => e = .returned (.bool true) ∧ Below w.heap.size w w' := by
  have HD := Lib.hid (show I64 a2 from wf_i64 w2)
  have hm : len1 ≤ 9223372036854775807 := by
    rcases w1 with ⟨_, h, _, _⟩ | ⟨_, _, h, h2, _⟩
    · omega
    · unfold maxLen at h2; omega
  have hc : ∀ i, i < len1 → ∃ x, a1 = some x ∧ w.cell? (x.add i) = some (.int .i64 (z1[i]?.getD 0)) := by
    intro i hi
    rcases w1 with ⟨_, h, _, _⟩ | ⟨x, rfl, h, h2, hz, hcell, _⟩
    · omega
    · exact ⟨x, rfl, by have := hcell i (by omega); simpa [List.getD] using this⟩
  have HC := Lib.hid hc
  obtain ⟨n, hn⟩ : ∃ n, n = min len1 30 := ⟨_, rfl⟩
  have HN := Lib.hid hn
  clear w0 w1 w2 hc hn
  go_enter Try.func4, Try.ntmps4
  go_wp2_with (first | (go_at_call 7; refine (klives_c _).mono ?_; rintro e w1 ⟨rfl, hl1⟩))
  have HL := Lib.hid hl1
  have hgs := hl1.size
  clear hl1
  obtain ⟨g, hg⟩ : ∃ g, w1.heap.size = g := ⟨_, rfl⟩
  have HB0 := Lib.hid (Blk.new w1 42 (cells (based a0) 0 0))
  go_wp2_with (go_at_call 10; refine (bnew_c _ _).mono ?_; rintro e w' ⟨rfl, rfl⟩)
  have HR0 := Lib.hid (show Rel w (w1.alloc (.cells (cells (based a0) 0 0) 42)) g (.int .i64 0) a0 n 0 from ⟨rfl, Nat.zero_le _, ⟨0, by rw [← hg]; exact HB0.out⟩, HL.out.alloc hgs _⟩)
  have hge : w.heap.size ≤ g := by omega
  clear hgs
  have HG := Lib.hid hg
  go_loopw [8, 9, 10, 11] (fun i _ _ _ wr => ∃ k, Rel w wr g i a0 n k) (fun i _ _ _ _ => n - (intOf i).toNat)
  case atStart => exact ⟨0, HR0.out⟩
  case round =>
    obtain ⟨k, hrel⟩ := hrel
    obtain rfl := hrel.hi
    have hk := hrel.hk
    obtain ⟨u, hblk⟩ := hrel.blk
    have HB := Lib.hid hrel.below
    have HBK := Lib.hid hblk
    clear hrel hblk hg
    by_cases hlt : k < n
    · have h1 : k < len1 := by have := HN.out; omega
      have h2 : k < 30 := by have := HN.out; omega
      obtain ⟨x, rfl, hcell⟩ := HC.out k h1
      replace hcell : wr.cell? (x.add k) = some (.int .i64 (z1[k]?.getD 0)) := by rw [HB.out.cell (cell_lt hcell)]; exact hcell
      obtain ⟨m, hm, m0, m1⟩ := umod (z1[k]?.getD 0) 1000000 (by omega)
      obtain ⟨f1, f2, f3, f4, f5⟩ := plain (based a0) k a2 m m0 m1 (by omega)
      rw [wait_based] at f1 f2
      have fb := add_bd m (spread a2 (wait (based a0) ((k : Int) + 1)) (wait (based a0) ((k : Int) + 1) / 4))
      change 0 ≤ failed (based a0) k a2 m ∧ failed (based a0) k a2 m ≤ 1099511627776 at fb
      have fw := wait_bd a0 ((k : Int) + 1)
      go_wp2_with (go_at_call 11; refine (fail_c g (based a0) k u a2 m _ HBK.out (by omega) (by omega) HD.out).mono ?_; rintro e w2 ⟨rfl, hb2, hn2⟩)
      have HB2 := Lib.hid hb2
      have HN2 := Lib.hid hn2
      clear hb2 hn2
      go_wp2_with (first | (go_at_call 8; refine (wait_c _ _ _ (by omega)).mono ?_; rintro e w' ⟨rfl, rfl⟩) | (go_at_call 12; refine (until_c _ _ _ _ _ HB2.out).mono ?_; rintro e w' ⟨rfl, rfl⟩) | (go_at_call 13; refine (fails_c _ _ _ _ _ HB2.out).mono ?_; rintro e w' ⟨rfl, rfl⟩) | (go_at_call 14; refine (may_c _ _ _ _ _ _ HB2.out).mono ?_; rintro e w' ⟨rfl, rfl⟩))
      go_roundw
      case rel => exact ⟨k + 1, by go_num, by omega, ⟨_, HB2.out⟩, HN2.out.later HB.out HB.out.size hge⟩
      case measure => simp [intOf]; omega
    · have hkn : k = n := by omega
      have hend : ¬ (k < len1 ∧ k < 30) := by have := HN.out; omega
      have p0 : past 0 0 = true := by decide
      clear hkn
      by_cases h1 : k < len1
      · have h2 : 30 ≤ k := by omega
        clear hend
        go_wp2_with (go_at_call 15; refine (ok_c g (based a0) k u _ HBK.out).mono ?_; rintro e w2 ⟨rfl, hb2, hn2⟩)
        have HB2 := Lib.hid hb2
        have HN2 := Lib.hid hn2
        clear hb2 hn2
        go_wp2_with (first | (go_at_call 12; refine (until_c _ _ _ _ _ HB2.out).mono ?_; rintro e w' ⟨rfl, rfl⟩) | (go_at_call 13; refine (fails_c _ _ _ _ _ HB2.out).mono ?_; rintro e w' ⟨rfl, rfl⟩) | (go_at_call 14; refine (may_c _ _ _ _ _ _ HB2.out).mono ?_; rintro e w' ⟨rfl, rfl⟩))
        go_ret
        exact ⟨rfl, HN2.out.later HB.out HB.out.size hge⟩
      · have h2 : len1 ≤ k := by omega
        clear hend h1
        go_wp2_with (go_at_call 15; refine (ok_c g (based a0) k u _ HBK.out).mono ?_; rintro e w2 ⟨rfl, hb2, hn2⟩)
        have HB2 := Lib.hid hb2
        have HN2 := Lib.hid hn2
        clear hb2 hn2
        go_wp2_with (first | (go_at_call 12; refine (until_c _ _ _ _ _ HB2.out).mono ?_; rintro e w' ⟨rfl, rfl⟩) | (go_at_call 13; refine (fails_c _ _ _ _ _ HB2.out).mono ?_; rintro e w' ⟨rfl, rfl⟩) | (go_at_call 14; refine (may_c _ _ _ _ _ _ HB2.out).mono ?_; rintro e w' ⟨rfl, rfl⟩))
        go_ret
        exact ⟨rfl, HN2.out.later HB.out HB.out.size hge⟩

/-! ### THE ROW -/
set_option maxRecDepth 100000 in
theorem lifted (os : Os) (started : os.Started) (H : Type) (enc : TypeId × Value → H) :
    ReturnsInHanded {} Try.checked os 4 .any (Rows.backoffLateSpec.pre6 enc Try.prog Try.f4 Rows.backoffLateRow.domain false) (Rows.backoffLateSpec.post enc Try.prog Try.f4 false true false false) := by
  refine returnsInHanded_of_change (C := Try.checked) own started (by kernel_rfl) Try.func4
    (ChangeSpec.witness6 (enc := enc) (C := Try.checked) false ⟨#[], #[.int .i64 0, .slice none 0 0, .int .i64 0], []⟩ 8 (by kernel_rfl) (by kernel_rfl) (by kernel_rfl) (by kernel_rfl)) ?_
  intro W base args ds gs before hval0 hW hcnd _
  have hval : ∀ (j : Nat) t v, Try.f4.params[j]? = some t → args[j]? = some v → Value.okWide Try.prog W .any base t v := hval0
  have hW' := hW
  obtain ⟨p, q, hA0, hV, rfl, hfz, hnd⟩ := hW
  have hA : DataW.TrodAll enc Try.prog W 0 (fun _ => true) true Try.f4.params.toList args.toList ds p := hA0
  rw [Try.params4] at hA hval
  obtain ⟨v0, vs0, d0, ds0, p0, q0, hargs, rfl, rfl, h0, r0⟩ := trodAll_cons hA
  obtain ⟨v1, vs1, d1, ds1, p1, q1, rfl, rfl, rfl, h1, r1⟩ := trodAll_cons r0
  obtain ⟨v2, vs2, d2, ds2, p2, q2, rfl, rfl, rfl, h2, r2⟩ := trodAll_cons r1
  obtain ⟨rfl, rfl, rfl⟩ := trodAll_nil r2
  obtain rfl : args = #[v0, v1, v2] := by cases args; simp_all
  obtain ⟨rfl, rfl⟩ := trodVars_none hV
  obtain ⟨a0, rfl, rfl, rfl, w0⟩ := open_int Try.underlying3 (hval 0 3 v0 rfl rfl) h0
  obtain ⟨a1, len1, cap1, rfl⟩ := okWide_slice Try.underlying25 (hval 1 25 v1 rfl rfl)
  have k1 := h1
  have lt1 : ∀ x ∈ p1, x.block < W.heap.size := by obtain ⟨m, hm⟩ := k1; exact DataW.trod_lt m _ _ _ hm
  obtain ⟨z1, w1⟩ : ∃ zs, IsRow .i64 W a1 len1 cap1 zs := open_row Try.underlying25 Try.underlying3 (by kernel_rfl) h1
  obtain ⟨a2, rfl, rfl, rfl, w2⟩ := open_int Try.underlying3 (hval 2 3 v2 rfl rfl) h2
  clear hA0 hval0
  refine (walk a0 a1 len1 cap1 z1 a2 W w0 w1 w2).mono fun e W' ⟨he, bel⟩ => ?_
  subst he
  exact ⟨_, rfl, _, _, _, [], _, [], hW', trodAll_mk1 (shut_bool Try.underlying4 _), (trodAll_cons_mk (shut_int Try.underlying3 w0) (trodAll_cons_mk (Below.trod laidOut (by kernel_rfl) (of_decide_eq_true (by kernel_rfl)) k1 bel lt1) (trodAll_cons_mk (shut_int Try.underlying3 w2) trodAll_mk0))), rfl, bel.frame _, fun h => by cases h⟩

theorem over : Rows.backoffLateRow.holds Try.pinned (OpenSpec.ofChange Rows.backoffLateSpec) :=
  OpenClaim.holds_of_wide 4 Try.f4 rfl rfl rfl rfl rfl rfl rfl ⟨rfl, rfl, rfl, rfl, rfl⟩ rfl rfl rfl rfl rfl (by kernel_rfl) Try.func4 (by kernel_rfl)
    (of_decide_eq_true (by kernel_rfl)) (by unfold Func.isWrapper; first | (rw [if_pos (by decide +kernel)]; kernel_rfl) | (rw [if_neg (by decide +kernel)]; exact ⟨rfl, rfl⟩))
    (fun os started H enc _ => lifted os started H enc)

theorem proved : Rows.BackoffLateSaid := over
#print axioms proved
end Go.Proofs.Ytdmhgiodpifciaa.backoffLate
