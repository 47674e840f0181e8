/-
  Proved: of every script of steps, every two numbers and every number 'hostlerlaw14.BackAges' returns true: no condition.
  The frame is written by this session's frame.py, after the kit's proof-skeleton.mjs.
-/
import Derived.Test.YthmbfmjchbcjlaaU
namespace Go.Proofs.Ythmbfmjchbcjlaa.backAges
open Go.ChangeShapes Go.WideShapes Go.ChangeAt Go.RowKit
set_option linter.unusedVariables false
theorem own : ownKnob Try.prog.godebug = none := by kernel_rfl
theorem laidOut : laidOutB Try.prog = true := by kernel_rfl

theorem ages (b : BK) (lo hi idle : Int) (h : lo ≤ hi) :
    (((b.state != 2) = false ∧ (b.state == 0) = false ∧ (b.state == 4) = false) ∧ ((old b lo = false) ∨ (old b lo = true ∧ old b hi = true)) ∧ ((stale b lo idle = false) ∨ (stale b lo idle = true ∧ stale b hi idle = true))) ∨
    ((b.state != 2) = true ∧ (b.state == 0) = true ∧ old b lo = false ∧ old b hi = false ∧ stale b lo idle = false ∧ stale b hi idle = false) ∨
    ((b.state != 2) = true ∧ ((b.state == 0) = false ∧ (b.state == 4) = true) ∧ old b lo = false ∧ old b hi = false ∧ stale b lo idle = false ∧ stale b hi idle = false) ∨
    (((b.state != 2) = true ∧ (b.state == 0) = false ∧ (b.state == 4) = false) ∧ ((old b lo = false) ∨ (old b lo = true ∧ old b hi = true)) ∧ stale b lo idle = false ∧ stale b hi idle = false) := by
  have pm : ∀ d, past lo d = true → past hi d = true := by intro d; unfold past sub cut; simp; omega
  have ho : (old b lo = false) ∨ (old b lo = true ∧ old b hi = true) := by
    cases e : old b lo
    · exact .inl rfl
    · right; unfold old at e ⊢; simp at e ⊢; exact ⟨e.1, e.2.1, pm _ e.2.2⟩
  have hs : (stale b lo idle = false) ∨ (stale b lo idle = true ∧ stale b hi idle = true) := by
    cases e : stale b lo idle
    · exact .inl rfl
    · right; unfold stale at e ⊢; simp at e ⊢; exact ⟨e.1, pm _ e.2⟩
  by_cases e2 : b.state = 2
  · left; exact ⟨by simp [e2], ho, hs⟩
  · have s1 : stale b lo idle = false := by unfold stale; simp [e2]
    have s2 : stale b hi idle = false := by unfold stale; simp [e2]
    by_cases e0 : b.state = 0
    · right; left; exact ⟨by simp [e2], by simp [e0], by unfold old; simp [e0], by unfold old; simp [e0], s1, s2⟩
    · by_cases e4 : b.state = 4
      · right; right; left; exact ⟨by simp [e2], by simp [e4], by unfold old; simp [e4], by unfold old; simp [e4], s1, s2⟩
      · right; right; right; exact ⟨by simp [e2, e0, e4], ho, s1, s2⟩
structure Rel (W w : World) (g : Nat) (i : Value) (n k : Nat) : Prop where
  hi : i = .int .i64 k
  hk : k ≤ n
  obj : ∃ b : BK, Ob w g b ∧ Fine b k
  below : Below W.heap.size W w

/-! ### STEP 1 -/
set_option maxRecDepth 100000 in
set_option maxHeartbeats 8000000 in
theorem walk (a0 : Option Addr) (len0 cap0 : Nat) (z0 : List (Int × Int × Int)) (a1x0 a1x1 : Int) (a2 : Int) (w : World) (w0 : IsRecs_iii w a0 len0 cap0 z0) (w1x0 : (Lit.int .i64 a1x0).wf = true) (w1x1 : (Lit.int .i64 a1x1).wf = true) (w2 : (Lit.int .i64 a2).wf = true) :
    Calls Try.prog 5 #[.slice a0 len0 cap0, .agg #[.int .i64 a1x0, .int .i64 a1x1], .int .i64 a2] w fun e w' => e = .returned (.bool true) ∧ Below w.heap.size w w' := by
  obtain ⟨hs, hc, hm⟩ := script_of w0
  obtain ⟨n, hn⟩ : ∃ n, n = min len0 100 := ⟨_, rfl⟩
  have HS := Lib.hid hs
  have HE := Lib.hid (fun W => early_c a0 len0 cap0 n W hn hc hm)
  have hn1 : n ≤ 100 := by omega
  have hn2 : n ≤ len0 := by omega
  clear w0 hs hn hc hm
  have HBX := Lib.hid (Blk.new w 32 #[.int .i64 a1x0, .int .i64 a1x1])
  have HWX := Lib.hid (show Below w.heap.size w (w.alloc (.cells #[.int .i64 a1x0, .int .i64 a1x1] 32)) from (Below.refl _ _).alloc (Nat.le_refl _) _)
  clear w1x0 w1x1
  rcases Int.lt_trichotomy a1x1 a1x0 with hcmp | hcmp | hcmp
  · skip
    have hle : a1x1 ≤ a1x0 := by omega
    go_enter Try.func5, Try.ntmps5
    go_wp2_with fail
    refine (blives_c _).mono ?_
    rintro e w1 ⟨rfl, hl1⟩
    have hbx := HBX.out.below hl1 (by simp)
    have HL := Lib.hid (HWX.out.trans (hl1.mono (by simp)))
    have hgs := HL.out.size
    obtain ⟨g, hg⟩ : ∃ g, w1.heap.size = g := ⟨_, rfl⟩
    have HB0 := Lib.hid (Blk.new w1 47 (bkc ⟨{ data := #[104] }, 0, 0, 0, 0, 0, 0⟩))
    have hby := hbx.alloc (.cells (bkc ⟨{ data := #[104] }, 0, 0, 0, 0, 0, 0⟩) 47)
    have y0 : (w1.alloc (.cells (bkc ⟨{ data := #[104] }, 0, 0, 0, 0, 0, 0⟩) 47)).cell? ⟨w.heap.size, 0, none⟩ = some (.int .i64 a1x0) := hby.cell 0
    have y1 : (w1.alloc (.cells (bkc ⟨{ data := #[104] }, 0, 0, 0, 0, 0, 0⟩) 47)).cell? ⟨w.heap.size, 1, none⟩ = some (.int .i64 a1x1) := hby.cell 1
    clear hl1 hbx hby
    go_wp2_with (first | (go_at_call 9; refine (new_c _ _).mono ?_; rintro e w' ⟨rfl, rfl⟩) | (go_at_call 10; (with_reducible refine (HE.out _).mono ?_); rintro e w' ⟨rfl, rfl⟩))
    have HR0 := Lib.hid (show ∀ m, Rel w ((w1.alloc (.cells (bkc ⟨{ data := #[104] }, 0, 0, 0, 0, 0, 0⟩) 47)).drewN m) g (.int .i64 0) n 0 from fun m => ⟨rfl, Nat.zero_le _, ⟨_, by rw [← hg]; exact HB0.out, fine_new hh⟩, bel_drewN (HL.out.alloc hgs _) _⟩)
    have hge : w.heap.size ≤ g := by omega
    go_quiet (fail)
    go_wp2_with fail
    clear hgs hg HB0 HL y0 y1 HBX HWX
    go_loopw [10, 11] (fun i _ wr => ∃ k, Rel w wr g i n k) (fun i _ _ => n - (intOf i).toNat)
    case atStart => exact ⟨0, HR0.out _⟩
    case round =>
      obtain ⟨k, hrel⟩ := hrel
      obtain rfl := hrel.hi
      have hk := hrel.hk
      obtain ⟨b, hob, hf⟩ := hrel.obj
      have HB := Lib.hid hrel.below
      have HO := Lib.hid hob
      have HF := Lib.hid hf
      clear hrel hob hf
      by_cases hlt : k < n
      · obtain ⟨x, rfl, hxb, k0, k1, k2⟩ := HS.out k (by omega)
        generalize (z0.getD k (0, 0, 0)).1 = ki at k0
        generalize (z0.getD k (0, 0, 0)).2.1 = ka at k1
        generalize (z0.getD k (0, 0, 0)).2.2 = kb at k2
        replace k0 : wr.cell? (x.add (k * 3)) = some (.int .i64 ki) := by rw [HB.out.cell (cell_lt k0)]; exact k0
        replace k1 : wr.cell? ⟨(x.add (k * 3)).block, (x.add (k * 3)).off + 1, none⟩ = some (.int .i64 ka) := by rw [HB.out.cell (cell_lt k1)]; exact k1
        replace k2 : wr.cell? ⟨(x.add (k * 3)).block, (x.add (k * 3)).off + 2, none⟩ = some (.int .i64 kb) := by rw [HB.out.cell (cell_lt k2)]; exact k2
        have HST := Lib.hid (step_c g b ki ka kb wr HO.out HF.out.o0 (early_steps k (by omega) HF.out))
        go_wp2_with fail
        refine HST.out.mono ?_
        rintro e w2 ⟨rfl, hob2, hn2'⟩
        have HF2 := Lib.hid (fine_step HF.out (kd ki) ka kb)
        generalize stp b (kd ki) ka kb = r at *
        obtain ⟨b', did⟩ := r
        have HO2 := Lib.hid hob2
        have HBL := Lib.hid (hn2'.later HB.out HB.out.size hge)
        clear hob2 hn2'
        rcases ages b' a1x1 a1x0 a2 hle with ⟨⟨g1, g2, g3⟩, g4 | ⟨g4, g4'⟩, g5 | ⟨g5, g5'⟩⟩ | ⟨g1, g2, g3, g4, g5, g6⟩ | ⟨g1, ⟨g2, g2'⟩, g3, g4, g5, g6⟩ | ⟨⟨g1, g2, g3⟩, g4 | ⟨g4, g4'⟩, g5, g6⟩
        all_goals
          go_wp2_with (first | (go_at_call 11; refine (state_c _ _ _ HO2.out).mono ?_; rintro e w' ⟨rfl, rfl⟩) | (go_at_call 16; refine (old_c _ _ _ _ HO2.out).mono ?_; rintro e w' ⟨rfl, rfl⟩) | (go_at_call 17; refine (stale_c _ _ _ _ _ HO2.out).mono ?_; rintro e w' ⟨rfl, rfl⟩))
        all_goals
          go_roundw
          case rel => exact ⟨k + 1, by go_num, by omega, ⟨b', HO2.out, HF2.out⟩, HBL.out⟩
          case measure => simp [intOf]; omega
      · go_wp2
        go_ret
        exact ⟨rfl, HB.out⟩
  · subst hcmp
    have hle : a1x1 ≤ a1x1 := by omega
    go_enter Try.func5, Try.ntmps5
    go_wp2_with fail
    refine (blives_c _).mono ?_
    rintro e w1 ⟨rfl, hl1⟩
    have hbx := HBX.out.below hl1 (by simp)
    have HL := Lib.hid (HWX.out.trans (hl1.mono (by simp)))
    have hgs := HL.out.size
    obtain ⟨g, hg⟩ : ∃ g, w1.heap.size = g := ⟨_, rfl⟩
    have HB0 := Lib.hid (Blk.new w1 47 (bkc ⟨{ data := #[104] }, 0, 0, 0, 0, 0, 0⟩))
    have hby := hbx.alloc (.cells (bkc ⟨{ data := #[104] }, 0, 0, 0, 0, 0, 0⟩) 47)
    have y0 : (w1.alloc (.cells (bkc ⟨{ data := #[104] }, 0, 0, 0, 0, 0, 0⟩) 47)).cell? ⟨w.heap.size, 0, none⟩ = some (.int .i64 a1x1) := hby.cell 0
    have y1 : (w1.alloc (.cells (bkc ⟨{ data := #[104] }, 0, 0, 0, 0, 0, 0⟩) 47)).cell? ⟨w.heap.size, 1, none⟩ = some (.int .i64 a1x1) := hby.cell 1
    clear hl1 hbx hby
    go_wp2_with (first | (go_at_call 9; refine (new_c _ _).mono ?_; rintro e w' ⟨rfl, rfl⟩) | (go_at_call 10; (with_reducible refine (HE.out _).mono ?_); rintro e w' ⟨rfl, rfl⟩))
    have HR0 := Lib.hid (show ∀ m, Rel w ((w1.alloc (.cells (bkc ⟨{ data := #[104] }, 0, 0, 0, 0, 0, 0⟩) 47)).drewN m) g (.int .i64 0) n 0 from fun m => ⟨rfl, Nat.zero_le _, ⟨_, by rw [← hg]; exact HB0.out, fine_new hh⟩, bel_drewN (HL.out.alloc hgs _) _⟩)
    have hge : w.heap.size ≤ g := by omega
    go_quiet (fail)
    go_wp2_with fail
    clear hgs hg HB0 HL y0 y1 HBX HWX
    go_loopw [10, 11] (fun i _ wr => ∃ k, Rel w wr g i n k) (fun i _ _ => n - (intOf i).toNat)
    case atStart => exact ⟨0, HR0.out _⟩
    case round =>
      obtain ⟨k, hrel⟩ := hrel
      obtain rfl := hrel.hi
      have hk := hrel.hk
      obtain ⟨b, hob, hf⟩ := hrel.obj
      have HB := Lib.hid hrel.below
      have HO := Lib.hid hob
      have HF := Lib.hid hf
      clear hrel hob hf
      by_cases hlt : k < n
      · obtain ⟨x, rfl, hxb, k0, k1, k2⟩ := HS.out k (by omega)
        generalize (z0.getD k (0, 0, 0)).1 = ki at k0
        generalize (z0.getD k (0, 0, 0)).2.1 = ka at k1
        generalize (z0.getD k (0, 0, 0)).2.2 = kb at k2
        replace k0 : wr.cell? (x.add (k * 3)) = some (.int .i64 ki) := by rw [HB.out.cell (cell_lt k0)]; exact k0
        replace k1 : wr.cell? ⟨(x.add (k * 3)).block, (x.add (k * 3)).off + 1, none⟩ = some (.int .i64 ka) := by rw [HB.out.cell (cell_lt k1)]; exact k1
        replace k2 : wr.cell? ⟨(x.add (k * 3)).block, (x.add (k * 3)).off + 2, none⟩ = some (.int .i64 kb) := by rw [HB.out.cell (cell_lt k2)]; exact k2
        have HST := Lib.hid (step_c g b ki ka kb wr HO.out HF.out.o0 (early_steps k (by omega) HF.out))
        go_wp2_with fail
        refine HST.out.mono ?_
        rintro e w2 ⟨rfl, hob2, hn2'⟩
        have HF2 := Lib.hid (fine_step HF.out (kd ki) ka kb)
        generalize stp b (kd ki) ka kb = r at *
        obtain ⟨b', did⟩ := r
        have HO2 := Lib.hid hob2
        have HBL := Lib.hid (hn2'.later HB.out HB.out.size hge)
        clear hob2 hn2'
        rcases ages b' a1x1 a1x1 a2 hle with ⟨⟨g1, g2, g3⟩, g4 | ⟨g4, g4'⟩, g5 | ⟨g5, g5'⟩⟩ | ⟨g1, g2, g3, g4, g5, g6⟩ | ⟨g1, ⟨g2, g2'⟩, g3, g4, g5, g6⟩ | ⟨⟨g1, g2, g3⟩, g4 | ⟨g4, g4'⟩, g5, g6⟩
        all_goals
          go_wp2_with (first | (go_at_call 11; refine (state_c _ _ _ HO2.out).mono ?_; rintro e w' ⟨rfl, rfl⟩) | (go_at_call 16; refine (old_c _ _ _ _ HO2.out).mono ?_; rintro e w' ⟨rfl, rfl⟩) | (go_at_call 17; refine (stale_c _ _ _ _ _ HO2.out).mono ?_; rintro e w' ⟨rfl, rfl⟩))
        all_goals
          go_roundw
          case rel => exact ⟨k + 1, by go_num, by omega, ⟨b', HO2.out, HF2.out⟩, HBL.out⟩
          case measure => simp [intOf]; omega
      · go_wp2
        go_ret
        exact ⟨rfl, HB.out⟩
  · skip
    have hle : a1x0 ≤ a1x1 := by omega
    go_enter Try.func5, Try.ntmps5
    go_wp2_with fail
    refine (blives_c _).mono ?_
    rintro e w1 ⟨rfl, hl1⟩
    have hbx := HBX.out.below hl1 (by simp)
    have HL := Lib.hid (HWX.out.trans (hl1.mono (by simp)))
    have hgs := HL.out.size
    obtain ⟨g, hg⟩ : ∃ g, w1.heap.size = g := ⟨_, rfl⟩
    have HB0 := Lib.hid (Blk.new w1 47 (bkc ⟨{ data := #[104] }, 0, 0, 0, 0, 0, 0⟩))
    have hby := hbx.alloc (.cells (bkc ⟨{ data := #[104] }, 0, 0, 0, 0, 0, 0⟩) 47)
    have y0 : (w1.alloc (.cells (bkc ⟨{ data := #[104] }, 0, 0, 0, 0, 0, 0⟩) 47)).cell? ⟨w.heap.size, 0, none⟩ = some (.int .i64 a1x0) := hby.cell 0
    have y1 : (w1.alloc (.cells (bkc ⟨{ data := #[104] }, 0, 0, 0, 0, 0, 0⟩) 47)).cell? ⟨w.heap.size, 1, none⟩ = some (.int .i64 a1x1) := hby.cell 1
    clear hl1 hbx hby
    go_wp2_with (first | (go_at_call 9; refine (new_c _ _).mono ?_; rintro e w' ⟨rfl, rfl⟩) | (go_at_call 10; (with_reducible refine (HE.out _).mono ?_); rintro e w' ⟨rfl, rfl⟩))
    have HR0 := Lib.hid (show ∀ m, Rel w ((w1.alloc (.cells (bkc ⟨{ data := #[104] }, 0, 0, 0, 0, 0, 0⟩) 47)).drewN m) g (.int .i64 0) n 0 from fun m => ⟨rfl, Nat.zero_le _, ⟨_, by rw [← hg]; exact HB0.out, fine_new hh⟩, bel_drewN (HL.out.alloc hgs _) _⟩)
    have hge : w.heap.size ≤ g := by omega
    go_quiet (fail)
    go_wp2_with fail
    clear hgs hg HB0 HL y0 y1 HBX HWX
    go_loopw [10, 11] (fun i _ wr => ∃ k, Rel w wr g i n k) (fun i _ _ => n - (intOf i).toNat)
    case atStart => exact ⟨0, HR0.out _⟩
    case round =>
      obtain ⟨k, hrel⟩ := hrel
      obtain rfl := hrel.hi
      have hk := hrel.hk
      obtain ⟨b, hob, hf⟩ := hrel.obj
      have HB := Lib.hid hrel.below
      have HO := Lib.hid hob
      have HF := Lib.hid hf
      clear hrel hob hf
      by_cases hlt : k < n
      · obtain ⟨x, rfl, hxb, k0, k1, k2⟩ := HS.out k (by omega)
        generalize (z0.getD k (0, 0, 0)).1 = ki at k0
        generalize (z0.getD k (0, 0, 0)).2.1 = ka at k1
        generalize (z0.getD k (0, 0, 0)).2.2 = kb at k2
        replace k0 : wr.cell? (x.add (k * 3)) = some (.int .i64 ki) := by rw [HB.out.cell (cell_lt k0)]; exact k0
        replace k1 : wr.cell? ⟨(x.add (k * 3)).block, (x.add (k * 3)).off + 1, none⟩ = some (.int .i64 ka) := by rw [HB.out.cell (cell_lt k1)]; exact k1
        replace k2 : wr.cell? ⟨(x.add (k * 3)).block, (x.add (k * 3)).off + 2, none⟩ = some (.int .i64 kb) := by rw [HB.out.cell (cell_lt k2)]; exact k2
        have HST := Lib.hid (step_c g b ki ka kb wr HO.out HF.out.o0 (early_steps k (by omega) HF.out))
        go_wp2_with fail
        refine HST.out.mono ?_
        rintro e w2 ⟨rfl, hob2, hn2'⟩
        have HF2 := Lib.hid (fine_step HF.out (kd ki) ka kb)
        generalize stp b (kd ki) ka kb = r at *
        obtain ⟨b', did⟩ := r
        have HO2 := Lib.hid hob2
        have HBL := Lib.hid (hn2'.later HB.out HB.out.size hge)
        clear hob2 hn2'
        rcases ages b' a1x0 a1x1 a2 hle with ⟨⟨g1, g2, g3⟩, g4 | ⟨g4, g4'⟩, g5 | ⟨g5, g5'⟩⟩ | ⟨g1, g2, g3, g4, g5, g6⟩ | ⟨g1, ⟨g2, g2'⟩, g3, g4, g5, g6⟩ | ⟨⟨g1, g2, g3⟩, g4 | ⟨g4, g4'⟩, g5, g6⟩
        all_goals
          go_wp2_with (first | (go_at_call 11; refine (state_c _ _ _ HO2.out).mono ?_; rintro e w' ⟨rfl, rfl⟩) | (go_at_call 16; refine (old_c _ _ _ _ HO2.out).mono ?_; rintro e w' ⟨rfl, rfl⟩) | (go_at_call 17; refine (stale_c _ _ _ _ _ HO2.out).mono ?_; rintro e w' ⟨rfl, rfl⟩))
        all_goals
          go_roundw
          case rel => exact ⟨k + 1, by go_num, by omega, ⟨b', HO2.out, HF2.out⟩, HBL.out⟩
          case measure => simp [intOf]; omega
      · go_wp2
        go_ret
        exact ⟨rfl, HB.out⟩

/-! ### THE ROW -/
set_option maxRecDepth 100000 in
theorem lifted (os : Os) (started : os.Started) (H : Type) (enc : TypeId × Value → H) :
    ReturnsInHanded {} Try.checked os 5 .any (Rows.backAgesSpec.pre6 enc Try.prog Try.f5 Rows.backAgesRow.domain false) (Rows.backAgesSpec.post enc Try.prog Try.f5 false true false false) := by
  refine returnsInHanded_of_change (C := Try.checked) own started (by kernel_rfl) Try.func5
    (ChangeSpec.witness6 (enc := enc) (C := Try.checked) false ⟨#[], #[.slice none 0 0, .agg #[.int .i64 0, .int .i64 0], .int .i64 0], []⟩ 8 (by kernel_rfl) (by kernel_rfl) (by kernel_rfl) (by kernel_rfl)) ?_
  intro W base args ds gs before hval0 hW hcnd _
  have hval : ∀ (j : Nat) t v, Try.f5.params[j]? = some t → args[j]? = some v → Value.okWide Try.prog W .any base t v := hval0
  have hW' := hW
  obtain ⟨p, q, hA0, hV, rfl, hfz, hnd⟩ := hW
  have hA : DataW.TrodAll enc Try.prog W 0 (fun _ => true) true Try.f5.params.toList args.toList ds p := hA0
  rw [Try.params5] at hA hval
  obtain ⟨v0, vs0, d0, ds0, p0, q0, hargs, rfl, rfl, h0, r0⟩ := trodAll_cons hA
  obtain ⟨v1, vs1, d1, ds1, p1, q1, rfl, rfl, rfl, h1, r1⟩ := trodAll_cons r0
  obtain ⟨v2, vs2, d2, ds2, p2, q2, rfl, rfl, rfl, h2, r2⟩ := trodAll_cons r1
  obtain ⟨rfl, rfl, rfl⟩ := trodAll_nil r2
  obtain rfl : args = #[v0, v1, v2] := by cases args; simp_all
  obtain ⟨rfl, rfl⟩ := trodVars_none hV
  obtain ⟨a0, len0, cap0, rfl⟩ := okWide_slice Try.underlying22 (hval 0 22 v0 rfl rfl)
  have k0 := h0
  have lt0 : ∀ x ∈ p0, x.block < W.heap.size := by obtain ⟨m, hm⟩ := k0; exact DataW.trod_lt m _ _ _ hm
  obtain ⟨z0, w0⟩ : ∃ zs, IsRecs_iii W a0 len0 cap0 zs := open_recs_iii Try.underlying22 Try.underlying28 (by kernel_rfl) (by kernel_rfl) Try.underlying3 Try.underlying3 Try.underlying3 h0
  have k1 := h1
  have lt1 : ∀ x ∈ p1, x.block < W.heap.size := by obtain ⟨m, hm⟩ := k1; exact DataW.trod_lt m _ _ _ hm
  obtain ⟨a1x0, a1x1, rfl, w1x0, w1x1⟩ := open_arr2 Try.underlying32 Try.underlying3 (by kernel_rfl) (by kernel_rfl) (hval 1 32 v1 rfl rfl) h1
  obtain ⟨a2, rfl, rfl, rfl, w2⟩ := open_int Try.underlying3 (hval 2 3 v2 rfl rfl) h2
  clear hA0 hval0
  refine (walk a0 len0 cap0 z0 a1x0 a1x1 a2 W w0 w1x0 w1x1 w2).mono fun e W' ⟨he, bel⟩ => ?_
  subst he
  exact ⟨_, rfl, _, _, _, [], _, [], hW', trodAll_mk1 (shut_bool Try.underlying4 _), (trodAll_cons_mk (Below.trod laidOut (by kernel_rfl) (of_decide_eq_true (by kernel_rfl)) k0 bel lt0) (trodAll_cons_mk (Below.trod laidOut (by kernel_rfl) (of_decide_eq_true (by kernel_rfl)) k1 bel lt1) (trodAll_cons_mk (shut_int Try.underlying3 w2) trodAll_mk0))), rfl, bel.frame _, fun h => by cases h⟩

theorem over : Rows.backAgesRow.holds Try.pinned (OpenSpec.ofChange Rows.backAgesSpec) :=
  OpenClaim.holds_of_wide 5 Try.f5 rfl rfl rfl rfl rfl rfl rfl ⟨rfl, rfl, rfl, rfl, rfl⟩ rfl rfl rfl rfl rfl (by kernel_rfl) Try.func5 (by kernel_rfl)
    (of_decide_eq_true (by kernel_rfl)) (by unfold Func.isWrapper; first | (rw [if_pos (by decide +kernel)]; kernel_rfl) | (rw [if_neg (by decide +kernel)]; exact ⟨rfl, rfl⟩))
    (fun os started H enc _ => lifted os started H enc)

theorem proved : Rows.BackAgesSaid := over
#print axioms proved
end Go.Proofs.Ythmbfmjchbcjlaa.backAges
