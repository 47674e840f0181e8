/-
  Proved: of every number and every slice of numbers 'hostlerlaw01.SatClock' returns true: no condition.
  The frame is written by the kit's proof-skeleton.mjs; the walk is this session's.
-/
import Derived.Test.YtbhmbijkimggdaaB
import Derived.WalkKit
import Derived.ProofKit
import Derived.OpenShut
import Derived.ShutString
import Derived.ChangeOld
import Derived.Below
namespace Go.Proofs.Ytbhmbijkimggdaa.satClock
open Go.ChangeShapes Go.WideShapes Go.ChangeAt Go.RowKit
open Go.ChangeMaps (open_string shut_string)
set_option linter.unusedVariables false

theorem own : ownKnob Try.prog.godebug = none := by kernel_rfl
theorem laidOut : laidOutB Try.prog = true := by kernel_rfl

/-- WHAT THE WALK IS TOLD OF A SLICE OF INTEGERS THAT CAME IN: it is nil; or it leads to a row of 'cap' cells, the numbers 'zs' (the first 'len' are its elements, the rest its spare room), each fitting its kind. -/
def IsRow (k : IntKind) (w : World) (a : Option Addr) (len cap : Nat) (zs : List Int) : Prop :=
  (a = none ∧ len = 0 ∧ cap = 0 ∧ zs = []) ∨
  ∃ x, a = some x ∧ len ≤ cap ∧ cap ≤ maxLen ∧ zs.length = cap ∧ (∀ i, i < zs.length → w.cell? (x.add i) = some (.int k (zs.getD i 0))) ∧ ∀ n ∈ zs, (Lit.int k n).wf = true

def st (at0 : Int) (l : List Int) : Int := l.foldl add (cut at0)
theorem st_snoc (at0 : Int) (l : List Int) (x : Int) : st at0 (l ++ [x]) = add (st at0 l) x := by unfold st; simp
theorem st_bd (at0 : Int) (l : List Int) : 0 ≤ st at0 l ∧ st at0 l ≤ 1099511627776 := by
  have c := cut_bd at0
  have n := cutSum_nonneg l
  unfold st; rw [fold_eq l _ c.1 c.2]; omega
theorem st_eq (at0 : Int) (l : List Int) : st at0 l = add at0 (sumL l) := by
  have c := cut_bd at0
  have n := cutSum_nonneg l
  unfold st; rw [fold_eq l _ c.1 c.2, sumL_eq]; unfold add
  rw [show cut (min (cutSum l) 1099511627776) = min (cutSum l) 1099511627776 by unfold cut; omega]; omega
theorem add_mono (a b : Int) (h : 0 ≤ a ∧ a ≤ 1099511627776) : a ≤ add a b := by unfold add cut; omega
/-- What holds at the head of each round. -/
structure Rel (W w : World) (i : Value) (at0 : Int) (zs : List Int) (n : Nat) (k : Nat) : Prop where
  hi : i = .int .i64 k
  hk : k ≤ n
  cell : w.cell? ⟨W.heap.size + 1, 0, none⟩ = some (.int .i64 (st at0 (zs.take k)))
  free : w.frozen? ⟨W.heap.size + 1, 0, none⟩ = false
  below : Below W.heap.size W w
theorem Rel.step {W w : World} {at0 : Int} {zs : List Int} {n k : Nat} {i : Value} (h : Rel W w i at0 zs n k) (hk : k < n) (hz : k < zs.length) : Rel W (w.setCell ⟨W.heap.size + 1, 0, none⟩ (.int .i64 (add (st at0 (zs.take k)) (zs[k]?.getD 0)))) (.int .i64 ((k : Int) + 1)) at0 zs n (k + 1) := by
  refine ⟨by go_num, by omega, ?_, ?_, h.below.setCell (by show _ ≤ W.heap.size + 1; omega) _⟩
  · rw [World.cell?_setCell_same _ _ _ h.cell, take_snoc _ _ hz, st_snoc]
  · exact (World.frozen?_setCell _ _ _ _).trans h.free
theorem Rel.start (W : World) (at0 : Int) (zs : List Int) (n : Nat) : Rel W ((W.alloc (.cells #[.int .i64 7] 37)).alloc (.cells #[.int .i64 (cut at0)] 37)) (.int .i64 0) at0 zs n 0 := by
  refine ⟨rfl, Nat.zero_le _, ?_, World.frozen?_alloc_at _ _ _ _ (by simp), ((Below.refl _ _).alloc (Nat.le_refl _) _).alloc (by simp) _⟩
  rw [World.cell?_alloc_at _ _ _ _ (by simp)]; rfl
set_option maxHeartbeats 1000000 in
theorem nilAt (at0 : Int) (w : World) :
    Calls Try.prog 8 #[.int .i64 at0, .slice none 0 0] w fun e w' => e = .returned (.bool true) ∧ Below w.heap.size w w' := by
  have hcell : ((w.alloc (.cells #[.int .i64 7] 37)).alloc (.cells #[.int .i64 (cut at0)] 37)).cell? ⟨w.heap.size + 1, 0, none⟩ = some (.int .i64 (cut at0)) := by
    rw [World.cell?_alloc_at _ _ _ _ (by simp)]; rfl
  have hq : ∀ m, (((w.alloc (.cells #[.int .i64 7] 37)).alloc (.cells #[.int .i64 (cut at0)] 37)).drewN m).cell? ⟨w.heap.size + 1, 0, none⟩ = some (.int .i64 (cut at0)) := fun m => hcell
  have hs := sum_c none 0 [] 
  have he : (cut at0 == add at0 (sumL [])) = true := by
    have : cut at0 = add at0 (sumL []) := by unfold sumL add cut; simp; omega
    rw [← this]; simp
  have hb : Below w.heap.size w ((w.alloc (.cells #[.int .i64 7] 37)).alloc (.cells #[.int .i64 (cut at0)] 37)) := ((Below.refl _ _).alloc (Nat.le_refl _) _).alloc (by simp) _
  have HB := Lib.hid hb
  have HS := Lib.hid hs
  have HQ := Lib.hid hq
  clear hb hs hq hcell
  go_enter Try.func8, Try.ntmps8
  go_wp2_with (first | (go_at_call 9; refine (lives_c _).mono ?_; rintro e w' ⟨rfl, rfl⟩) | (go_at_call 23; refine (new_c _ _).mono ?_; rintro e w' ⟨rfl, rfl⟩))
  refine wp_loop_rounds 1 ?_
  rw [rounds_succ]
  go_wp2
  go_quiet ((first | (go_at_call 22; exact quiet' (now_c _ _ _ (HQ.out _))) | (go_at_call 19; exact quiet' (HS.out _ (by simp [maxLen]) (.inl ⟨rfl, rfl⟩))) | (go_at_call 11; exact quiet' (add_c _ _ _))))
  go_wp2
  go_ret
  exact ⟨rfl, bel_drewN HB.out _⟩
set_option maxHeartbeats 1000000 in
theorem someAt (at0 : Int) (x : Addr) (len cap n : Nat) (zs : List Int) (w : World) (hn : n = min len 40) (hlen : len ≤ zs.length) (hm : len ≤ maxLen) (hcap : len ≤ cap)
    (hc : ∀ i, i < zs.length → w.cell? (x.add i) = some (.int .i64 (zs.getD i 0))) :
    Calls Try.prog 8 #[.int .i64 at0, .slice (some x) len cap] w fun e w' => e = .returned (.bool true) ∧ Below w.heap.size w w' := by
  unfold maxLen at hm
  have HC := Lib.hid hc
  clear hc
  have HN := Lib.hid hn
  clear hn
  have HR := Lib.hid (Rel.start w at0 zs n)
  go_enter Try.func8, Try.ntmps8
  go_wp2_with (first | (go_at_call 9; refine (lives_c _).mono ?_; rintro e w' ⟨rfl, rfl⟩) | (go_at_call 23; refine (new_c _ _).mono ?_; rintro e w' ⟨rfl, rfl⟩))
  go_loopw [6, 7, 8] (fun i _ _ wr => ∃ k, Rel w wr i at0 zs n k) (fun i _ _ _ => n - (intOf i).toNat)
  case atStart => exact ⟨0, HR.out⟩
  case round =>
    obtain ⟨k, hrel⟩ := hrel
    obtain rfl := hrel.hi
    have hk := hrel.hk
    have hcell := hrel.cell
    have hfree := hrel.free
    have HB := Lib.hid hrel.below
    have HREL := Lib.hid hrel
    clear hrel
    by_cases hlt : k < n
    · have hn := HN.out
      have h1 : k < len := by omega
      have h2 : k < 40 := by omega
      clear hn
      have harg : wr.cell? (x.add k) = some (.int .i64 (zs.getD k 0)) := by
        have h := HC.out k (by omega)
        rw [HB.out.cell (cell_lt h)]; exact h
      have harg2 : (wr.setCell ⟨w.heap.size + 1, 0, none⟩ (.int .i64 (add (st at0 (zs.take k)) (zs[k]?.getD 0)))).cell? (x.add k) = some (.int .i64 (zs.getD k 0)) := by
        have h := HC.out k (by omega)
        rw [(HB.out.setCell (p := ⟨w.heap.size + 1, 0, none⟩) (by show _ ≤ w.heap.size + 1; omega) _).cell (cell_lt h)]; exact h
      have b1 := st_bd at0 (zs.take k)
      have b2 := add_bd (st at0 (zs.take k)) (zs[k]?.getD 0)
      have b3 := add_mono (st at0 (zs.take k)) (zs[k]?.getD 0) b1
      have d1 : decide (add (st at0 (zs.take k)) (zs[k]?.getD 0) < st at0 (zs.take k)) = false := by simp; omega
      have d2 : decide (1099511627776 < add (st at0 (zs.take k)) (zs[k]?.getD 0)) = false := by simp; omega
      have hcell2 := World.cell?_setCell_same wr ⟨w.heap.size + 1, 0, none⟩ (.int .i64 (add (st at0 (zs.take k)) (zs[k]?.getD 0))) hcell
      go_wp2_with (first | (go_at_call 22; (with_reducible refine (now_c _ _ _ hcell).mono ?_); rintro e w' ⟨rfl, rfl⟩) | (go_at_call 22; (with_reducible refine (now_c _ _ _ hcell2).mono ?_); rintro e w' ⟨rfl, rfl⟩) | (go_at_call 21; (with_reducible refine (go_c _ _ _ _ hcell hfree).mono ?_); rintro e w' ⟨rfl, rfl⟩) | (go_at_call 11; refine (add_c _ _ _).mono ?_; rintro e w' ⟨rfl, rfl⟩))
      go_roundw
      case rel => exact ⟨k + 1, HREL.out.step hlt (by omega)⟩
      case measure => simp [intOf]; omega
    · have hn := HN.out
      have hkn : k = n := by omega
      have hs := sum_c (some x) cap (zs.take n) 
      have hl : (zs.take n).length = n := by rw [List.length_take]; omega
      rw [hl] at hs
      have HS := Lib.hid hs
      have he : (st at0 (zs.take n) == add at0 (sumL (zs.take n))) = true := by rw [st_eq]; simp
      have hread : ∀ m, Reads (wr.drewN m) (some x) (zs.take n) := by
        intro m
        refine .inr ⟨x, rfl, fun i hi => ?_⟩
        have h := HC.out i (by rw [hl] at hi; omega)
        have h2 : (wr.drewN m).cell? (x.add i) = wr.cell? (x.add i) := rfl
        rw [h2, HB.out.cell (cell_lt h), h]
        rw [hl] at hi
        simp [hi]
      have HR2 := Lib.hid hread
      have hq : ∀ m, (wr.drewN m).cell? ⟨w.heap.size + 1, 0, none⟩ = some (.int .i64 (st at0 (zs.take n))) := fun m => by subst hkn; exact hcell
      have HQ := Lib.hid hq
      clear hs hread hl hcell hq
      by_cases h40 : len < 40
      · obtain rfl : n = len := by omega
        obtain rfl : k = n := by omega
        clear hkn hn
        go_wp2
        go_quiet ((first | (go_at_call 22; exact quiet' (now_c _ _ _ (HQ.out _))) | (go_at_call 19; exact quiet' (HS.out _ (by unfold maxLen; omega) (HR2.out _))) | (go_at_call 11; exact quiet' (add_c _ _ _))))
        go_wp2
        go_ret
        exact ⟨rfl, bel_drewN HB.out _⟩
      · obtain rfl : n = 40 := by omega
        obtain rfl : k = 40 := by omega
        clear hkn hn
        by_cases h41 : 40 < len
        · go_wp2
          go_quiet ((first | (go_at_call 22; exact quiet' (now_c _ _ _ (HQ.out _))) | (go_at_call 19; exact quiet' (HS.out _ (by unfold maxLen; omega) (HR2.out _))) | (go_at_call 11; exact quiet' (add_c _ _ _))))
          go_wp2
          go_ret
          exact ⟨rfl, bel_drewN HB.out _⟩
        · obtain rfl : len = 40 := by omega
          go_wp2
          go_quiet ((first | (go_at_call 22; exact quiet' (now_c _ _ _ (HQ.out _))) | (go_at_call 19; exact quiet' (HS.out _ (by unfold maxLen; omega) (HR2.out _))) | (go_at_call 11; exact quiet' (add_c _ _ _))))
          go_wp2
          go_ret
          exact ⟨rfl, bel_drewN HB.out _⟩

/-! ### STEP 1: THE WALK: the Go text returns true, AND WRITES NOTHING THAT WAS THERE: 'Below w.heap.size w w'' (Derived/Below.lean: '.refl', '.alloc', '.drew', '.setCell' at a new block, '.trans'). Open each 'IsRow' by 'rcases' AHEAD of 'go_enter'; part every test ahead of the walk. -/
theorem walk (a0 : Int) (a1 : Option Addr) (len1 cap1 : Nat) (z1 : List Int) (w : World) (w0 : (Lit.int .i64 a0).wf = true) (w1 : IsRow .i64 w a1 len1 cap1 z1) :
    Calls Try.prog 8 #[.int .i64 a0, .slice a1 len1 cap1] w fun e w' => e = .returned (.bool true) ∧ Below w.heap.size w w' := by
  rcases w1 with ⟨rfl, rfl, rfl, rfl⟩ | ⟨x, rfl, hl, hcm, hz, hc, _⟩
  · exact nilAt a0 w
  · exact someAt a0 x len1 cap1 (min len1 40) z1 w rfl (by omega) (by omega) hl hc

/-! ### THE ROW's STEP: WRITTEN OUT: LEAVE IT -/
set_option maxRecDepth 100000 in
theorem lifted (os : Os) (started : os.Started) (H : Type) (enc : TypeId × Value → H) :
    ReturnsInHanded {} Try.checked os 8 .any (Rows.satClockSpec.pre6 enc Try.prog Try.f8 Rows.satClockRow.domain false) (Rows.satClockSpec.post enc Try.prog Try.f8 false true false false) := by
  refine returnsInHanded_of_change (C := Try.checked) own started (by kernel_rfl) Try.func8
    (ChangeSpec.witness6 (enc := enc) (C := Try.checked) false ⟨#[], #[.int .i64 0, .slice none 0 0], []⟩ 8 (by kernel_rfl) (by kernel_rfl) (by kernel_rfl) (by kernel_rfl)) ?_
  intro W base args ds gs before hval0 hW hcnd _
  have hval : ∀ (j : Nat) t v, Try.f8.params[j]? = some t → args[j]? = some v → Value.okWide Try.prog W .any base t v := hval0
  have hW' := hW
  obtain ⟨p, q, hA0, hV, rfl, hfz, hnd⟩ := hW
  have hA : DataW.TrodAll enc Try.prog W 0 (fun _ => true) true Try.f8.params.toList args.toList ds p := hA0
  rw [Try.params8] at hA hval
  obtain ⟨v0, vs0, d0, ds0, p0, q0, hargs, rfl, rfl, h0, r0⟩ := trodAll_cons hA
  obtain ⟨v1, vs1, d1, ds1, p1, q1, rfl, rfl, rfl, h1, r1⟩ := trodAll_cons r0
  obtain ⟨rfl, rfl, rfl⟩ := trodAll_nil r1
  obtain rfl : args = #[v0, v1] := by cases args; simp_all
  obtain ⟨rfl, rfl⟩ := trodVars_none hV
  obtain ⟨a0, rfl, rfl, rfl, w0⟩ := open_int Try.underlying3 (hval 0 3 v0 rfl rfl) h0
  obtain ⟨a1, len1, cap1, rfl⟩ := okWide_slice Try.underlying27 (hval 1 27 v1 rfl rfl)
  have k1 := h1
  have lt1 : ∀ x ∈ p1, x.block < W.heap.size := by obtain ⟨m, hm⟩ := k1; exact DataW.trod_lt m _ _ _ hm
  obtain ⟨z1, w1⟩ : ∃ zs, IsRow .i64 W a1 len1 cap1 zs := by
    obtain ⟨fuel, hf⟩ := h1
    rcases open_ints Try.underlying27 Try.underlying3 (by kernel_rfl) hf with ⟨hcs, _⟩ | ⟨x, l, c, zs, hcs, _, hl, hm, hz, _, hcell, hwz⟩
    · simp [Value.cells] at hcs
      obtain ⟨rfl, rfl, rfl⟩ := hcs
      exact ⟨[], .inl ⟨rfl, rfl, rfl, rfl⟩⟩
    · simp [Value.cells] at hcs
      obtain ⟨rfl, rfl, rfl⟩ := hcs
      exact ⟨zs, .inr ⟨_, rfl, hl, hm, by simpa using hz, hcell, hwz⟩⟩
  clear hA0 hval0
  refine (walk a0 a1 len1 cap1 z1 W w0 w1).mono fun e W' ⟨he, bel⟩ => ?_
  subst he
  exact ⟨_, rfl, _, _, _, [], _, [], hW', trodAll_mk1 (shut_bool Try.underlying4 _), (trodAll_cons_mk (shut_int Try.underlying3 w0) (trodAll_cons_mk (Below.trod laidOut (by kernel_rfl) (of_decide_eq_true (by kernel_rfl)) k1 bel lt1) trodAll_mk0)), rfl, bel.frame _, fun h => by cases h⟩

theorem over : Rows.satClockRow.holds Try.pinned (OpenSpec.ofChange Rows.satClockSpec) :=
  OpenClaim.holds_of_wide 8 Try.f8 rfl rfl rfl rfl rfl rfl rfl ⟨rfl, rfl, rfl, rfl, rfl⟩ rfl rfl rfl rfl rfl (by kernel_rfl) Try.func8 (by kernel_rfl)
    (of_decide_eq_true (by kernel_rfl)) (by unfold Func.isWrapper; first | (rw [if_pos (by decide +kernel)]; kernel_rfl) | (rw [if_neg (by decide +kernel)]; exact ⟨rfl, rfl⟩))
    (fun os started H enc _ => lifted os started H enc)

/-- ████ THE STATEMENT ████ -/
theorem proved : Rows.SatClockSaid := over
#print axioms proved
end Go.Proofs.Ytbhmbijkimggdaa.satClock
