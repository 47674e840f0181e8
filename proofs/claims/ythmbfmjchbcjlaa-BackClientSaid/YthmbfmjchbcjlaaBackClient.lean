/-
  Proved: of every script of steps 'hostlerlaw14.BackClient' returns true: no condition.
  The frame is written by this session's frame.py, after the kit's proof-skeleton.mjs.
-/
import Derived.Test.YthmbfmjchbcjlaaU
namespace Go.Proofs.Ythmbfmjchbcjlaa.backClient
open Go.ChangeShapes Go.WideShapes Go.ChangeAt Go.RowKit
set_option linter.unusedVariables false
theorem own : ownKnob Try.prog.godebug = none := by kernel_rfl
theorem laidOut : laidOutB Try.prog = true := by kernel_rfl

theorem crow (b : BK) (k : Nat) (hf : Fine b k) (i a c : Int) (h0 : 0 ≤ i) (h7 : i < 7) :
    (i = 0 ∧ (stp b i a c).1.client = b.client ∧ (stp b i a c).1.owes = b.owes) ∨ (i = 1 ∧ (stp b i a c).1.client = b.client ∧ (stp b i a c).1.owes = b.owes) ∨
    (i = 2 ∧ (stp b i a c).1.client = a ∧ (stp b i a c).1.owes = 0 ∧ (stp b i a c).2 = true) ∨ (i = 2 ∧ (stp b i a c).1.client = b.client ∧ (stp b i a c).1.owes = b.owes ∧ (stp b i a c).2 = false) ∨
    (i = 3 ∧ (stp b i a c).1.client = b.client ∧ (stp b i a c).1.owes = b.owes + 1 ∧ (stp b i a c).2 = true) ∨ (i = 3 ∧ (stp b i a c).1.client = b.client ∧ (stp b i a c).1.owes = b.owes ∧ (stp b i a c).2 = false) ∨
    (i = 4 ∧ (stp b i a c).1.client = b.client ∧ (stp b i a c).1.owes = b.owes - 1 ∧ (stp b i a c).2 = true) ∨ (i = 4 ∧ (stp b i a c).1.client = b.client ∧ (stp b i a c).1.owes = b.owes ∧ (stp b i a c).2 = false) ∨
    (i = 5 ∧ (stp b i a c).1.client = 0 ∧ (stp b i a c).1.owes = 0 ∧ (stp b i a c).2 = true ∧ b.owes = 0) ∨ (i = 5 ∧ (stp b i a c).1.client = b.client ∧ (stp b i a c).1.owes = b.owes ∧ (stp b i a c).2 = false) ∨
    (i = 6 ∧ (stp b i a c).1.client = 0 ∧ (stp b i a c).1.owes = 0 ∧ (stp b i a c).2 = true ∧ (b.state != 4) = true) ∨ (i = 6 ∧ (stp b i a c).1.client = 0 ∧ (stp b i a c).1.owes = 0 ∧ (stp b i a c).2 = false ∧ (b.state != 4) = false) := by
  have hi := hf.idle
  unfold stp
  rcases (by omega : i = 0 ∨ i = 1 ∨ i = 2 ∨ i = 3 ∨ i = 4 ∨ i = 5 ∨ i = 6) with h | h | h | h | h | h | h <;> subst h <;> simp only [if_true, if_false, Int.reduceEq]
  · by_cases h : b.state = 0 <;> simp [h, through]
  · by_cases h : b.state = 1 <;> simp [h, rest]
    have := (hi (by omega)).1; omega
  · by_cases h : b.state = 2 ∧ 0 < a <;> simp [h, bind]
  · by_cases h : b.state = 3 <;> simp [h, sent]
  · by_cases h : b.state = 3 ∧ 0 < b.owes <;> simp [h, got]
  · by_cases h : b.state = 3 ∧ b.owes = 0 <;> simp [h, rest]
  · by_cases h : b.state = 4 <;> simp [h, kill]
    exact hi (by omega)
theorem busy {b : BK} {k : Nat} (h : Fine b k) : ((b.state == 3) = true ∧ 0 < b.client) ∨ ((b.state == 3) = false ∧ b.client ≤ 0) := by
  by_cases e : b.state = 3
  · exact .inl ⟨by simpa using e, h.busy e⟩
  · exact .inr ⟨by simpa using e, by have := (h.idle e).1; omega⟩
structure Rel (W w : World) (g : Nat) (o c i : Value) (n k : Nat) : Prop where
  hi : i = .int .i64 k
  hk : k ≤ n
  obj : ∃ b : BK, Ob w g b ∧ Fine b k ∧ o = .int .i64 b.owes ∧ c = .int .i64 b.client
  below : Below W.heap.size W w

/-! ### STEP 1 -/
set_option maxRecDepth 100000 in
set_option maxHeartbeats 8000000 in
theorem walk (a0 : Option Addr) (len0 cap0 : Nat) (z0 : List (Int × Int × Int)) (w : World) (w0 : IsRecs_iii w a0 len0 cap0 z0) :
    Calls Try.prog 3 #[.slice a0 len0 cap0] w fun e w' => e = .returned (.bool true) ∧ Below w.heap.size w w' := by
  obtain ⟨hs, hc, hm⟩ := script_of w0
  obtain ⟨n, hn⟩ : ∃ n, n = min len0 100 := ⟨_, rfl⟩
  have HS := Lib.hid hs
  have HE := Lib.hid (fun W => early_c a0 len0 cap0 n W hn hc hm)
  have hn1 : n ≤ 100 := by omega
  have hn2 : n ≤ len0 := by omega
  clear w0 hs hn hc hm
  go_enter Try.func3, Try.ntmps3
  go_wp2_with (first | (go_at_call 8; refine (blives_c _).mono ?_; rintro e w1 ⟨rfl, hl1⟩))
  have HL := Lib.hid hl1
  have hgs := hl1.size
  clear hl1
  obtain ⟨g, hg⟩ : ∃ g, w1.heap.size = g := ⟨_, rfl⟩
  have HB0 := Lib.hid (Blk.new w1 47 (bkc ⟨hh, 0, 0, 0, 0, 0, 0⟩))
  go_wp2_with (first | (go_at_call 9; refine (new_c _ _).mono ?_; rintro e w' ⟨rfl, rfl⟩) | (go_at_call 10; (with_reducible refine (HE.out _).mono ?_); rintro e w' ⟨rfl, rfl⟩))
  have HR0 := Lib.hid (show Rel w (w1.alloc (.cells (bkc ⟨hh, 0, 0, 0, 0, 0, 0⟩) 47)) g (.int .i64 0) (.int .i64 0) (.int .i64 0) n 0 from ⟨rfl, Nat.zero_le _, ⟨_, by rw [← hg]; exact HB0.out, fine_new hh, rfl, rfl⟩, HL.out.alloc hgs _⟩)
  have hge : w.heap.size ≤ g := by omega
  clear hgs hg HB0 HL
  go_loopw [4, 5, 6, 7, 8, 9] (fun o c i _ _ _ wr => ∃ k, Rel w wr g o c i n k) (fun _ _ i _ _ _ _ => n - (intOf i).toNat)
  case atStart => exact ⟨0, HR0.out⟩
  case round =>
    obtain ⟨k, hrel⟩ := hrel
    obtain rfl := hrel.hi
    have hk := hrel.hk
    obtain ⟨b, hob, hf, rfl, rfl⟩ := hrel.obj
    have HB := Lib.hid hrel.below
    have HO := Lib.hid hob
    have HF := Lib.hid hf
    clear hrel hob hf
    by_cases hlt : k < n
    · obtain ⟨x, rfl, hxb, k0, k1, k2⟩ := HS.out k (by omega)
      generalize (z0.getD k (0, 0, 0)).1 = ki at k0
      generalize (z0.getD k (0, 0, 0)).2.1 = ka at k1
      generalize (z0.getD k (0, 0, 0)).2.2 = kb at k2
      replace k0 : wr.cell? (x.add (k * 3)) = some (.int .i64 ki) := by rw [HB.out.cell (cell_lt k0)]; exact k0
      replace k1 : wr.cell? ⟨(x.add (k * 3)).block, (x.add (k * 3)).off + 1, none⟩ = some (.int .i64 ka) := by rw [HB.out.cell (cell_lt k1)]; exact k1
      replace k2 : wr.cell? ⟨(x.add (k * 3)).block, (x.add (k * 3)).off + 2, none⟩ = some (.int .i64 kb) := by rw [HB.out.cell (cell_lt k2)]; exact k2
      have HB1 := Lib.hid (Blk.new wr 28 (sc ki ka kb))
      have HOW := Lib.hid (HO.out.alloc (.cells (sc ki ka kb) 28))
      have HBW := Lib.hid (HB.out.alloc HB.out.size (.cells (sc ki ka kb) 28))
      have hgl := HO.out.lt
      go_wp2_with (go_at_call 11; refine (state_c _ _ _ HOW.out).mono ?_; rintro e w' ⟨rfl, rfl⟩)
      have HST := Lib.hid (step_c g b ki ka kb (wr.alloc (.cells (sc ki ka kb) 28)) HOW.out HF.out.o0 (early_steps k (by omega) HF.out))
      have h7 := kd_bd ki
      refine HST.out.mono ?_
      rintro e w2 ⟨rfl, hob2, hn2'⟩
      have HF2 := Lib.hid (fine_step HF.out (kd ki) ka kb)
      have hrow := crow b k HF.out (kd ki) ka kb h7.1 h7.2
      generalize stp b (kd ki) ka kb = r at *
      obtain ⟨b', did⟩ := r
      have HO2 := Lib.hid hob2
      have HBL := Lib.hid (hn2'.later HBW.out HBW.out.size hge)
      have hb2 := HB1.out.near hn2' (show wr.heap.size ≠ g by omega)
      have m0 : w2.cell? ⟨wr.heap.size, 0, none⟩ = some (.int .i64 ki) := hb2.cell 0
      have m1 : w2.cell? ⟨wr.heap.size, 1, none⟩ = some (.int .i64 ka) := hb2.cell 1
      have m2 : w2.cell? ⟨wr.heap.size, 2, none⟩ = some (.int .i64 kb) := hb2.cell 2
      have p1 : (w2.alloc (.cells (sc ki ka kb) 28)).cell? ⟨wr.heap.size, 1, none⟩ = some (.int .i64 ka) := (hb2.alloc _).cell 1
      clear hob2 h7 hn2' hb2
      dsimp only at hrow
      have ho0 : 0 ≤ b'.owes := HF2.out.o0
      have hbo := HF.out.o1
      have hbb := HF.out.o0
      have hbz := busy HF2.out
      dsimp only at hbz
      rcases hrow with ⟨i0, r1, r2⟩ | ⟨i0, r1, r2⟩ | ⟨i0, r1, r2, r3⟩ | ⟨i0, r1, r2, r3⟩ | ⟨i0, r1, r2, r3⟩ | ⟨i0, r1, r2, r3⟩ | ⟨i0, r1, r2, r3⟩ | ⟨i0, r1, r2, r3⟩ | ⟨i0, r1, r2, r3, r4⟩ | ⟨i0, r1, r2, r3⟩ | ⟨i0, r1, r2, r3, r4⟩ | ⟨i0, r1, r2, r3, r4⟩
      all_goals rcases hbz with ⟨z1, z2⟩ | ⟨z1, z2⟩
      all_goals rw [r1] at z2
      all_goals rw [r2] at ho0
      all_goals try (exfalso; omega)
      all_goals
        have R1 := Lib.hid r1
        have R2 := Lib.hid r2
        go_wp2_with (first | (go_at_call 13; refine (kind_c _ _ _ _).mono ?_; rintro e w' ⟨rfl, rfl⟩) | (go_at_call 14; refine (client_c g b' _ (by exact HO2.out.alloc _)).mono ?_; rintro e w' ⟨rfl, rfl⟩) | (go_at_call 11; refine (state_c g b' _ (by exact (HO2.out.alloc _).alloc _)).mono ?_; rintro e w' ⟨rfl, rfl⟩) | (go_at_call 15; refine (owes_c g b' _ (by exact (HO2.out.alloc _).alloc _)).mono ?_; rintro e w' ⟨rfl, rfl⟩))
      all_goals
        go_roundw
        case rel => exact ⟨k + 1, by go_num, by omega, ⟨b', by first | exact (HO2.out.alloc _).alloc _ | exact ((HO2.out.alloc _).alloc _).alloc _, HF2.out, by rw [R2.out], by rw [R1.out]⟩, by first | exact (HBL.out.alloc HBL.out.size _).alloc (by have := HBL.out.size; simp; omega) _ | exact ((HBL.out.alloc HBL.out.size _).alloc (by have := HBL.out.size; simp; omega) _).alloc (by have := HBL.out.size; simp; omega) _⟩
        case measure => simp [intOf]; omega
    · go_wp2
      go_ret
      exact ⟨rfl, HB.out⟩

/-! ### THE ROW -/
set_option maxRecDepth 100000 in
theorem lifted (os : Os) (started : os.Started) (H : Type) (enc : TypeId × Value → H) :
    ReturnsInHanded {} Try.checked os 3 .any (Rows.backClientSpec.pre6 enc Try.prog Try.f3 Rows.backClientRow.domain false) (Rows.backClientSpec.post enc Try.prog Try.f3 false true false false) := by
  refine returnsInHanded_of_change (C := Try.checked) own started (by kernel_rfl) Try.func3
    (ChangeSpec.witness6 (enc := enc) (C := Try.checked) false ⟨#[], #[.slice none 0 0], []⟩ 8 (by kernel_rfl) (by kernel_rfl) (by kernel_rfl) (by kernel_rfl)) ?_
  intro W base args ds gs before hval0 hW hcnd _
  have hval : ∀ (j : Nat) t v, Try.f3.params[j]? = some t → args[j]? = some v → Value.okWide Try.prog W .any base t v := hval0
  have hW' := hW
  obtain ⟨p, q, hA0, hV, rfl, hfz, hnd⟩ := hW
  have hA : DataW.TrodAll enc Try.prog W 0 (fun _ => true) true Try.f3.params.toList args.toList ds p := hA0
  rw [Try.params3] at hA hval
  obtain ⟨v0, vs0, d0, ds0, p0, q0, hargs, rfl, rfl, h0, r0⟩ := trodAll_cons hA
  obtain ⟨rfl, rfl, rfl⟩ := trodAll_nil r0
  obtain rfl : args = #[v0] := by cases args; simp_all
  obtain ⟨rfl, rfl⟩ := trodVars_none hV
  obtain ⟨a0, len0, cap0, rfl⟩ := okWide_slice Try.underlying22 (hval 0 22 v0 rfl rfl)
  have k0 := h0
  have lt0 : ∀ x ∈ p0, x.block < W.heap.size := by obtain ⟨m, hm⟩ := k0; exact DataW.trod_lt m _ _ _ hm
  obtain ⟨z0, w0⟩ : ∃ zs, IsRecs_iii W a0 len0 cap0 zs := open_recs_iii Try.underlying22 Try.underlying28 (by kernel_rfl) (by kernel_rfl) Try.underlying3 Try.underlying3 Try.underlying3 h0
  clear hA0 hval0
  refine (walk a0 len0 cap0 z0 W w0).mono fun e W' ⟨he, bel⟩ => ?_
  subst he
  exact ⟨_, rfl, _, _, _, [], _, [], hW', trodAll_mk1 (shut_bool Try.underlying4 _), (trodAll_cons_mk (Below.trod laidOut (by kernel_rfl) (of_decide_eq_true (by kernel_rfl)) k0 bel lt0) trodAll_mk0), rfl, bel.frame _, fun h => by cases h⟩

theorem over : Rows.backClientRow.holds Try.pinned (OpenSpec.ofChange Rows.backClientSpec) :=
  OpenClaim.holds_of_wide 3 Try.f3 rfl rfl rfl rfl rfl rfl rfl ⟨rfl, rfl, rfl, rfl, rfl⟩ rfl rfl rfl rfl rfl (by kernel_rfl) Try.func3 (by kernel_rfl)
    (of_decide_eq_true (by kernel_rfl)) (by unfold Func.isWrapper; first | (rw [if_pos (by decide +kernel)]; kernel_rfl) | (rw [if_neg (by decide +kernel)]; exact ⟨rfl, rfl⟩))
    (fun os started H enc _ => lifted os started H enc)

theorem proved : Rows.BackClientSaid := over
#print axioms proved
end Go.Proofs.Ythmbfmjchbcjlaa.backClient
