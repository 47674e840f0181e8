/-
  Proved: of every number and every two slices of steps 'hostlerlaw07.BackoffAnew' returns true: no condition.
  The frame is written by this session's frame.py, after the kit's proof-skeleton.mjs.
-/
import Derived.Test.YtdmhgiodpifciaaK
import Derived.Deep.RegionHeld3
namespace Go.Proofs.Ytdmhgiodpifciaa.backoffAnew
open Go.ChangeShapes Go.WideShapes Go.ChangeAt Go.RowKit
set_option linter.unusedVariables false
theorem own : ownKnob Try.prog.godebug = none := by kernel_rfl
theorem laidOut : laidOutB Try.prog = true := by kernel_rfl

theorem early_c (a : Option Addr) (len cap n : Nat) (w : World) (hn : n = min len 100) (hcap : len ≤ cap) (hm : len ≤ 9223372036854775807) :
    Calls Try.prog 17 #[.slice a len cap] w fun e w' => e = .returned (.slice a n cap) ∧ w = w' := by
  by_cases h : len ≤ 100
  · obtain rfl : n = len := by omega
    clear hn
    go_enter Try.func17, Try.ntmps17
    go_wp2
    all_goals go_ret
    all_goals exact ⟨by first | rfl | (simp; omega), rfl⟩
  · obtain rfl : n = 100 := by omega
    have h1 : 100 < len := by omega
    clear hn h
    go_enter Try.func17, Try.ntmps17
    go_wp2
    all_goals go_ret
    all_goals exact ⟨by first | rfl | (simp; omega), rfl⟩
/-- What is read of a slice of steps: the second and the third number of each. -/
def Steps (w : World) (a : Option Addr) (n : Nat) (z : List (Int × Int × Int)) : Prop :=
  ∀ i, i < n → ∃ x, a = some x ∧ (x.add (i * 3)).block < w.heap.size ∧ w.cell? ⟨(x.add (i * 3)).block, (x.add (i * 3)).off + 1, none⟩ = some (.int .i64 (z.getD i (0, 0, 0)).2.1) ∧ w.cell? ⟨(x.add (i * 3)).block, (x.add (i * 3)).off + 2, none⟩ = some (.int .i64 (z.getD i (0, 0, 0)).2.2) ∧ I64 (z.getD i (0, 0, 0)).2.2
theorem steps_of {w : World} {a : Option Addr} {len cap : Nat} {z : List (Int × Int × Int)} (h : IsRecs_iii w a len cap z) : Steps w a len z ∧ len ≤ cap ∧ len ≤ 9223372036854775807 := by
  rcases h with ⟨rfl, rfl, rfl, rfl⟩ | ⟨x, rfl, hl, hm, hz, hc, hw⟩
  · exact ⟨fun i hi => by omega, by omega, by omega⟩
  · refine ⟨fun i hi => ?_, hl, by unfold maxLen at hm; omega⟩
    obtain ⟨c0, c1, c2⟩ := hc i (by omega)
    obtain ⟨_, _, g2⟩ := hw i (by omega)
    rw [add_fld _ _ _ (by omega)] at c1 c2
    exact ⟨x, rfl, cell_lt c0, c1, c2, wf_i64 g2⟩
structure Rel1 (W w : World) (g1 g2 : Nat) (i : Value) (b : Int) (n k : Nat) : Prop where
  hi : i = .int .i64 k
  hk : k ≤ n
  blk1 : ∃ u : Int, Blk w g1 42 (cells (based b) k u)
  blk2 : Blk w g2 42 (cells (based b) 0 0)
  below : Below W.heap.size W w
structure Rel2 (W w : World) (g1 g2 : Nat) (i : Value) (b : Int) (n k : Nat) : Prop where
  hi : i = .int .i64 k
  hk : k ≤ n
  blk : ∃ u : Int, Blk w g1 42 (cells (based b) k u) ∧ Blk w g2 42 (cells (based b) k u)
  below : Below W.heap.size W w

/-! ### STEP 1 -/
set_option maxRecDepth 100000 in
set_option maxHeartbeats 8000000 in
theorem walk (a0 : Int) (a1 : Option Addr) (len1 cap1 : Nat) (z1 : List (Int × Int × Int)) (a2 : Option Addr) (len2 cap2 : Nat) (z2 : List (Int × Int × Int)) (w : World) (w0 : (Lit.int .i64 a0).wf = true) (w1 : IsRecs_iii w a1 len1 cap1 z1) (w2 : IsRecs_iii w a2 len2 cap2 z2) :
    Calls Try.prog 6 #[.int .i64 a0, .slice a1 len1 cap1, .slice a2 len2 cap2] w fun e w' => e = .returned (.bool true) ∧ Below w.heap.size w w' := by
  obtain ⟨hs1, hc1, hm1⟩ := steps_of w1
  obtain ⟨hs2, hc2, hm2⟩ := steps_of w2
  obtain ⟨n, hn⟩ : ∃ n, n = min len1 100 := ⟨_, rfl⟩
  obtain ⟨m, hm⟩ : ∃ n, n = min len2 100 := ⟨_, rfl⟩
  have HS1 := Lib.hid hs1
  have HS2 := Lib.hid hs2
  have HN := Lib.hid hn
  have HM := Lib.hid hm
  clear w0 w1 w2 hs1 hs2
  have HE1 := Lib.hid (fun W => early_c a1 len1 cap1 n W hn hc1 hm1)
  have HE2 := Lib.hid (fun W => early_c a2 len2 cap2 m W hm hc2 hm2)
  have hn1 : n ≤ 100 := by omega
  have hn2 : m ≤ 100 := by omega
  clear hn hm hc1 hm1 hc2 hm2
  go_enter Try.func6, Try.ntmps6
  go_wp2_with (first | (go_at_call 7; refine (klives_c _).mono ?_; rintro e w1 ⟨rfl, hl1⟩))
  have HL := Lib.hid hl1
  have hgs := hl1.size
  clear hl1
  obtain ⟨g, hg⟩ : ∃ g, w1.heap.size = g := ⟨_, rfl⟩
  have HB0 := Lib.hid (Blk.new w1 42 (cells (based a0) 0 0))
  have HB1 := Lib.hid (Blk.new (w1.alloc (.cells (cells (based a0) 0 0) 42)) 42 (cells (based a0) 0 0))
  go_wp2_with (first | (go_at_call 10; refine (bnew_c _ _).mono ?_; rintro e w' ⟨rfl, rfl⟩) | (go_at_call 17; (with_reducible refine (HE1.out _).mono ?_); rintro e w' ⟨rfl, rfl⟩) | (go_at_call 17; (with_reducible refine (HE2.out _).mono ?_); rintro e w' ⟨rfl, rfl⟩))
  have HR0 := Lib.hid (show Rel1 w ((w1.alloc (.cells (cells (based a0) 0 0) 42)).alloc (.cells (cells (based a0) 0 0) 42)) g (g + 1) (.int .i64 0) a0 n 0 from
    ⟨rfl, Nat.zero_le _, ⟨0, by rw [← hg]; exact HB0.out.alloc _⟩, by rw [← hg]; simpa using HB1.out, (HL.out.alloc hgs _).alloc (by simp; omega) _⟩)
  have hge : w.heap.size ≤ g := by omega
  clear hgs hg
  go_loopw [9] (fun i wr => ∃ k, Rel1 w wr g (g + 1) i a0 n k) (fun i _ => n - (intOf i).toNat)
  case atStart => exact ⟨0, HR0.out⟩
  case round =>
    obtain ⟨k, hrel⟩ := hrel
    obtain rfl := hrel.hi
    have hk := hrel.hk
    obtain ⟨u, hblk⟩ := hrel.blk1
    have HB := Lib.hid hrel.below
    have HBK := Lib.hid hblk
    have HBK2 := Lib.hid hrel.blk2
    clear hrel hblk
    by_cases hlt : k < n
    · have h1 : k < len1 := by have := HN.out; omega
      obtain ⟨x, rfl, hxb, hc1, hc2, hd⟩ := HS1.out k h1
      generalize (z1.getD k (0, 0, 0)).2.1 = t at hc1
      generalize (z1.getD k (0, 0, 0)).2.2 = d at hc2 hd
      have HD := Lib.hid hd
      have hx1 : (⟨(x.add (k * 3)).block, (x.add (k * 3)).off + 1, none⟩ : Addr).block ≠ g := by show (x.add (k * 3)).block ≠ g; omega
      have hx2 : (⟨(x.add (k * 3)).block, (x.add (k * 3)).off + 2, none⟩ : Addr).block ≠ g := by show (x.add (k * 3)).block ≠ g; omega
      replace hc1 : wr.cell? ⟨(x.add (k * 3)).block, (x.add (k * 3)).off + 1, none⟩ = some (.int .i64 t) := by rw [HB.out.cell (cell_lt hc1)]; exact hc1
      replace hc2 : wr.cell? ⟨(x.add (k * 3)).block, (x.add (k * 3)).off + 2, none⟩ = some (.int .i64 d) := by rw [HB.out.cell (cell_lt hc2)]; exact hc2
      clear hd
      go_wp2_with fail
      go_region_held3 (fun w' => w'.cell? ⟨(x.add (k * 3)).block, (x.add (k * 3)).off + 1, none⟩ = some (.int .i64 t) ∧ w'.cell? ⟨(x.add (k * 3)).block, (x.add (k * 3)).off + 2, none⟩ = some (.int .i64 d))
        (first | go_keep | exact ⟨q1, q2⟩)
        (first | (go_at_call 11; refine (fail_c g (based a0) k u d t _ (by exact HBK.out) (by omega) (by omega) HD.out).mono ?_; rintro e w2 ⟨rfl, hb2, hnear⟩; have q1 := near_cell (p := ⟨(x.add (k * 3)).block, (x.add (k * 3)).off + 1, none⟩) hnear hx1 hc1; have q2 := near_cell (p := ⟨(x.add (k * 3)).block, (x.add (k * 3)).off + 2, none⟩) hnear hx2 hc2))
      have HB2 := Lib.hid hb2
      have HN2 := Lib.hid hnear.of_drew
      clear hb2 hnear q1 q2 hc1 hc2
      go_wp2
      go_roundw
      case rel => exact ⟨k + 1, by go_num, by omega, ⟨_, HB2.out⟩, HBK2.out.near HN2.out (show g + 1 ≠ g by omega), HN2.out.later HB.out HB.out.size hge⟩
      case measure => simp [intOf]; omega
    · have hkn : n ≤ k := by omega
      go_wp2_with (go_at_call 15; refine (ok_c g (based a0) k u _ HBK.out).mono ?_; rintro e w2 ⟨rfl, hb2, hnear⟩)
      have HR2 := Lib.hid (show Rel2 w w2 g (g + 1) (.int .i64 0) a0 m 0 from ⟨rfl, Nat.zero_le _, ⟨0, hb2, HBK2.out.near hnear (show g + 1 ≠ g by omega)⟩, hnear.later HB.out HB.out.size hge⟩)
      clear hb2 hnear HBK HBK2 HB HR0 HB0 HB1 hlt hk hkn
      go_wp2
      go_loopw [10, 11, 12] (fun i _ _ wr => ∃ k, Rel2 w wr g (g + 1) i a0 m k) (fun i _ _ _ => m - (intOf i).toNat)
      case atStart => exact ⟨0, HR2.out⟩
      case round =>
        obtain ⟨k, hrel⟩ := hrel
        obtain rfl := hrel.hi
        have hk := hrel.hk
        obtain ⟨u, hblk, hblk2⟩ := hrel.blk
        have HB := Lib.hid hrel.below
        have HBK := Lib.hid hblk
        have HBK2 := Lib.hid hblk2
        clear hrel hblk hblk2
        by_cases hlt : k < m
        · have h1 : k < len2 := by have := HM.out; omega
          obtain ⟨x, rfl, hxb, hc1, hc2, hd⟩ := HS2.out k h1
          generalize (z2.getD k (0, 0, 0)).2.1 = t at hc1
          generalize (z2.getD k (0, 0, 0)).2.2 = d at hc2 hd
          have HD := Lib.hid hd
          have hx1 : (⟨(x.add (k * 3)).block, (x.add (k * 3)).off + 1, none⟩ : Addr).block ≠ g := by show (x.add (k * 3)).block ≠ g; omega
          have hx2 : (⟨(x.add (k * 3)).block, (x.add (k * 3)).off + 2, none⟩ : Addr).block ≠ g := by show (x.add (k * 3)).block ≠ g; omega
          have hy1 : (⟨(x.add (k * 3)).block, (x.add (k * 3)).off + 1, none⟩ : Addr).block ≠ g + 1 := by show (x.add (k * 3)).block ≠ g + 1; omega
          have hy2 : (⟨(x.add (k * 3)).block, (x.add (k * 3)).off + 2, none⟩ : Addr).block ≠ g + 1 := by show (x.add (k * 3)).block ≠ g + 1; omega
          replace hc1 : wr.cell? ⟨(x.add (k * 3)).block, (x.add (k * 3)).off + 1, none⟩ = some (.int .i64 t) := by rw [HB.out.cell (cell_lt hc1)]; exact hc1
          replace hc2 : wr.cell? ⟨(x.add (k * 3)).block, (x.add (k * 3)).off + 2, none⟩ = some (.int .i64 d) := by rw [HB.out.cell (cell_lt hc2)]; exact hc2
          clear hd
          have HF1 := Lib.hid (fun W h => fail_c g (based a0) k u d t W h (by omega) (by omega) HD.out)
          have HF2 := Lib.hid (fun W h => fail_c (g + 1) (based a0) k u d t W h (by omega) (by omega) HD.out)
          go_wp2_with fail
          go_region_held3 (fun w' => w'.cell? ⟨(x.add (k * 3)).block, (x.add (k * 3)).off + 1, none⟩ = some (.int .i64 t) ∧ w'.cell? ⟨(x.add (k * 3)).block, (x.add (k * 3)).off + 2, none⟩ = some (.int .i64 d))
            (first | go_keep | exact ⟨r1, r2⟩ | exact ⟨q1, q2⟩)
            (first | (go_at_call 11; (with_reducible refine (HF1.out _ ?_).mono ?_); exact HBK.out; rintro e w2 ⟨rfl, hb2, hnear0⟩; have hnear := hnear0.of_drew; clear hnear0; have q1 := near_cell (p := ⟨(x.add (k * 3)).block, (x.add (k * 3)).off + 1, none⟩) hnear hx1 hc1; have q2 := near_cell (p := ⟨(x.add (k * 3)).block, (x.add (k * 3)).off + 2, none⟩) hnear hx2 hc2; have b2 := HBK2.out.near hnear (show g + 1 ≠ g by omega)) | (go_at_call 11; (with_reducible refine (HF2.out _ ?_).mono ?_); exact b2; rintro e w3 ⟨rfl, hb3, hnear3⟩; have r1 := near_cell (p := ⟨(x.add (k * 3)).block, (x.add (k * 3)).off + 1, none⟩) hnear3 hy1 q1; have r2 := near_cell (p := ⟨(x.add (k * 3)).block, (x.add (k * 3)).off + 2, none⟩) hnear3 hy2 q2))
          have HB2 := Lib.hid (hb2.near hnear3 (show g ≠ g + 1 by omega))
          have HB3 := Lib.hid hb3
          have hbel := hnear3.later (hnear.later HB.out HB.out.size hge) (by have := HB.out.size; have := hnear.size; omega) (by omega)
          have HBL := Lib.hid hbel
          clear hb2 hb3 hnear hnear3 hbel q1 q2 hc1 hc2 b2
          have HA1 := Lib.hid (fun n => quiet' (fails_c g (based a0) ((k : Int) + 1) (failed (based a0) k d t) (w3.drewN n) HB2.out))
          have HA2 := Lib.hid (fun n => quiet' (fails_c (g + 1) (based a0) ((k : Int) + 1) (failed (based a0) k d t) (w3.drewN n) HB3.out))
          have HM1 := Lib.hid (fun n => quiet' (may_c g (based a0) ((k : Int) + 1) (failed (based a0) k d t) t (w3.drewN n) HB2.out))
          have HM2 := Lib.hid (fun n => quiet' (may_c (g + 1) (based a0) ((k : Int) + 1) (failed (based a0) k d t) t (w3.drewN n) HB3.out))
          go_wp2_with fail
          go_quiet ((first | (go_at_call 13; with_reducible exact HA1.out _) | (go_at_call 13; with_reducible exact HA2.out _) | (go_at_call 14; with_reducible exact HM1.out _) | (go_at_call 14; with_reducible exact HM2.out _)))
          go_wp2
          go_roundw
          case rel => exact ⟨k + 1, by go_num, by omega, ⟨_, HB2.out.drewN _, HB3.out.drewN _⟩, bel_drewN HBL.out _⟩
          case measure => simp [intOf]; omega
        · have hkn : m ≤ k := by omega
          have HU1 := Lib.hid (until_c g (based a0) k u wr HBK.out)
          have HU2 := Lib.hid (until_c (g + 1) (based a0) k u wr HBK2.out)
          go_wp2_with (first | (go_at_call 12; (with_reducible refine HU1.out.mono ?_); rintro e w' ⟨rfl, rfl⟩) | (go_at_call 12; (with_reducible refine HU2.out.mono ?_); rintro e w' ⟨rfl, rfl⟩))
          go_ret
          exact ⟨rfl, HB.out⟩

/-! ### THE ROW -/
set_option maxRecDepth 100000 in
theorem lifted (os : Os) (started : os.Started) (H : Type) (enc : TypeId × Value → H) :
    ReturnsInHanded {} Try.checked os 6 .any (Rows.backoffAnewSpec.pre6 enc Try.prog Try.f6 Rows.backoffAnewRow.domain false) (Rows.backoffAnewSpec.post enc Try.prog Try.f6 false true false false) := by
  refine returnsInHanded_of_change (C := Try.checked) own started (by kernel_rfl) Try.func6
    (ChangeSpec.witness6 (enc := enc) (C := Try.checked) false ⟨#[], #[.int .i64 0, .slice none 0 0, .slice none 0 0], []⟩ 8 (by kernel_rfl) (by kernel_rfl) (by kernel_rfl) (by kernel_rfl)) ?_
  intro W base args ds gs before hval0 hW hcnd _
  have hval : ∀ (j : Nat) t v, Try.f6.params[j]? = some t → args[j]? = some v → Value.okWide Try.prog W .any base t v := hval0
  have hW' := hW
  obtain ⟨p, q, hA0, hV, rfl, hfz, hnd⟩ := hW
  have hA : DataW.TrodAll enc Try.prog W 0 (fun _ => true) true Try.f6.params.toList args.toList ds p := hA0
  rw [Try.params6] at hA hval
  obtain ⟨v0, vs0, d0, ds0, p0, q0, hargs, rfl, rfl, h0, r0⟩ := trodAll_cons hA
  obtain ⟨v1, vs1, d1, ds1, p1, q1, rfl, rfl, rfl, h1, r1⟩ := trodAll_cons r0
  obtain ⟨v2, vs2, d2, ds2, p2, q2, rfl, rfl, rfl, h2, r2⟩ := trodAll_cons r1
  obtain ⟨rfl, rfl, rfl⟩ := trodAll_nil r2
  obtain rfl : args = #[v0, v1, v2] := by cases args; simp_all
  obtain ⟨rfl, rfl⟩ := trodVars_none hV
  obtain ⟨a0, rfl, rfl, rfl, w0⟩ := open_int Try.underlying3 (hval 0 3 v0 rfl rfl) h0
  obtain ⟨a1, len1, cap1, rfl⟩ := okWide_slice Try.underlying33 (hval 1 33 v1 rfl rfl)
  have k1 := h1
  have lt1 : ∀ x ∈ p1, x.block < W.heap.size := by obtain ⟨m, hm⟩ := k1; exact DataW.trod_lt m _ _ _ hm
  obtain ⟨z1, w1⟩ : ∃ zs, IsRecs_iii W a1 len1 cap1 zs := open_recs_iii Try.underlying33 Try.underlying36 (by kernel_rfl) (by kernel_rfl) Try.underlying3 Try.underlying3 Try.underlying3 h1
  obtain ⟨a2, len2, cap2, rfl⟩ := okWide_slice Try.underlying33 (hval 2 33 v2 rfl rfl)
  have k2 := h2
  have lt2 : ∀ x ∈ p2, x.block < W.heap.size := by obtain ⟨m, hm⟩ := k2; exact DataW.trod_lt m _ _ _ hm
  obtain ⟨z2, w2⟩ : ∃ zs, IsRecs_iii W a2 len2 cap2 zs := open_recs_iii Try.underlying33 Try.underlying36 (by kernel_rfl) (by kernel_rfl) Try.underlying3 Try.underlying3 Try.underlying3 h2
  clear hA0 hval0
  refine (walk a0 a1 len1 cap1 z1 a2 len2 cap2 z2 W w0 w1 w2).mono fun e W' ⟨he, bel⟩ => ?_
  subst he
  exact ⟨_, rfl, _, _, _, [], _, [], hW', trodAll_mk1 (shut_bool Try.underlying4 _), (trodAll_cons_mk (shut_int Try.underlying3 w0) (trodAll_cons_mk (Below.trod laidOut (by kernel_rfl) (of_decide_eq_true (by kernel_rfl)) k1 bel lt1) (trodAll_cons_mk (Below.trod laidOut (by kernel_rfl) (of_decide_eq_true (by kernel_rfl)) k2 bel lt2) trodAll_mk0))), rfl, bel.frame _, fun h => by cases h⟩

theorem over : Rows.backoffAnewRow.holds Try.pinned (OpenSpec.ofChange Rows.backoffAnewSpec) :=
  OpenClaim.holds_of_wide 6 Try.f6 rfl rfl rfl rfl rfl rfl rfl ⟨rfl, rfl, rfl, rfl, rfl⟩ rfl rfl rfl rfl rfl (by kernel_rfl) Try.func6 (by kernel_rfl)
    (of_decide_eq_true (by kernel_rfl)) (by unfold Func.isWrapper; first | (rw [if_pos (by decide +kernel)]; kernel_rfl) | (rw [if_neg (by decide +kernel)]; exact ⟨rfl, rfl⟩))
    (fun os started H enc _ => lifted os started H enc)

theorem proved : Rows.BackoffAnewSaid := over
#print axioms proved
end Go.Proofs.Ytdmhgiodpifciaa.backoffAnew
