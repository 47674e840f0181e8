/-
  Proved: of every slice of numbers 'hostlerlaw01.SatMany' returns true: no condition.
  The frame is written by the kit's proof-skeleton.mjs; the walk is this session's.
-/
import Derived.Test.YtbhmbijkimggdaaB
import Derived.WalkKit
import Derived.ProofKit
import Derived.OpenShut
import Derived.ShutString
import Derived.ChangeOld
import Derived.Below
namespace Go.Proofs.Ytbhmbijkimggdaa.satMany
open Go.ChangeShapes Go.WideShapes Go.ChangeAt Go.RowKit
open Go.ChangeMaps (open_string shut_string)
set_option linter.unusedVariables false

theorem own : ownKnob Try.prog.godebug = none := by kernel_rfl
theorem laidOut : laidOutB Try.prog = true := by kernel_rfl

/-- WHAT THE WALK IS TOLD OF A SLICE OF INTEGERS THAT CAME IN: it is nil; or it leads to a row of 'cap' cells, the numbers 'zs' (the first 'len' are its elements, the rest its spare room), each fitting its kind. -/
def IsRow (k : IntKind) (w : World) (a : Option Addr) (len cap : Nat) (zs : List Int) : Prop :=
  (a = none ∧ len = 0 ∧ cap = 0 ∧ zs = []) ∨
  ∃ x, a = some x ∧ len ≤ cap ∧ cap ≤ maxLen ∧ zs.length = cap ∧ (∀ i, i < zs.length → w.cell? (x.add i) = some (.int k (zs.getD i 0))) ∧ ∀ n ∈ zs, (Lit.int k n).wf = true

theorem drop_cons (l : List Int) (i : Nat) (h : i < l.length) : l.drop i = l[i]?.getD 0 :: l.drop (i + 1) := by
  rw [List.drop_eq_getElem_cons h]; simp [h]
/-- What has been collected when the next place is i - 1: the numbers from i on, the last one first. -/
def back (l : List Int) (i : Nat) : List Int := (l.drop i).reverse
theorem back_len (l : List Int) (i : Nat) : (back l i).length = l.length - i := by unfold back; simp
theorem back_step (l : List Int) (i : Nat) (h : i < l.length) : back l i = back l (i + 1) ++ [l[i]?.getD 0] := by unfold back; rw [drop_cons l i h]; simp
structure Rel (W w : World) (v i : Value) (l : List Int) (k : Nat) : Prop where
  hi : i = .int .i64 ((k : Int) - 1)
  hk : k ≤ l.length
  own : w.ownsRow W.heap.size 3 1 v (back l k).length ((back l k).map (Value.int .i64))
  below : Below W.heap.size W w
theorem Rel.reads {W w : World} {v i : Value} {l : List Int} {k : Nat} (h : Rel W w v i l k) : ∃ a cap, v = .slice a (back l k).length cap ∧ Reads w a (back l k) := by
  rcases h.own.2 with ⟨rfl, hn⟩ | ⟨g, cap, cur, rfl, _, hb, _⟩
  · exact ⟨none, 0, by rw [hn], .inl ⟨rfl, List.eq_nil_of_length_eq_zero hn⟩⟩
  · refine ⟨_, cap, rfl, .inr ⟨_, rfl, fun j hj => ?_⟩⟩
    refine h.own.cells (g := g) rfl j _ ?_
    simp [hj]
theorem Rel.step {W w w1 : World} {v v' i : Value} {l : List Int} {k : Nat} {o : Obj} (h : Rel W w v i l (k + 1))
    (hown : w1.ownsRow W.heap.size 3 1 v' ((back l (k + 1)).length + 1) ((back l (k + 1)).map (Value.int .i64) ++ [.int .i64 (l[k]?.getD 0)])) (hg : (w.alloc o).grownBy w1 v.ownBlock) :
    Rel W w1 v' (.int .i64 ((k : Int) - 1)) l k := by
  have hk := h.hk
  have e := back_step l k (by omega)
  refine ⟨rfl, by omega, ?_, (h.below.alloc h.below.size o).grown hg (by simp; have := h.below.size; omega) (fun j hj => (h.own.lt j hj).1)⟩
  rw [e]; simpa using hown
set_option maxHeartbeats 1000000 in
theorem someA (x : Addr) (len cap : Nat) (l : List Int) (w : World) (h40 : l.length ≤ 40) (hm : l.length ≤ maxLen) (hcap : l.length ≤ cap)
    (hc : ∀ i, i < l.length → w.cell? (x.add i) = some (.int .i64 (l[i]?.getD 0))) (hlen : len = l.length) :
    Calls Try.prog 6 #[.slice (some x) len cap] w fun e w' => e = .returned (.bool true) ∧ Below w.heap.size w w' := by
  unfold maxLen at hm
  obtain ⟨i0, hi, hz0, hz1, hz2⟩ := info_parts info3
  have HC := Lib.hid hc
  have hs : ∀ w', Reads w' (some x) l → Calls Try.prog 19 #[.slice (some x) len cap] w' fun e w'' => e = .returned (.int .i64 (sumL l)) ∧ w' = w'' := by
    intro w' hr; have h := sum_c (some x) cap l w' (by unfold maxLen; omega) hr; rw [hlen]; exact h
  have hr : ∀ w', Reads w' (some x) l → Calls Try.prog 20 #[.slice (some x) len cap] w' fun e w'' => e = .returned (.int .i64 (sumL l)) ∧ w' = w'' := by
    intro w' hr; have h := rsum_c (some x) cap l w' (by unfold maxLen; omega) hr; rw [hlen]; exact h
  have HS := Lib.hid hs
  have HRS := Lib.hid hr
  have HN := Lib.hid (show l.length = len from hlen.symm)
  clear hc hs hr 
  have hle : len ≤ 40 := by have := HN.out; omega
  have hlc : len ≤ cap := by have := HN.out; omega
  have HR := Lib.hid (show Rel w (w.alloc (.cells #[.int .i64 7] 37)) (.slice none 0 0) (.int .i64 ((len : Nat) - 1 : Int)) l len from ⟨rfl, by rw [HN.out]; exact Nat.le_refl _, by
      have : back l len = [] := by unfold back; rw [← HN.out]; simp
      rw [this]; exact World.ownsRow_nil _ _ _ _, (Below.refl _ _).alloc (Nat.le_refl _) _⟩)
  clear hlen
  have hm9 : len ≤ 9223372036854775807 := by have := HN.out; omega
  go_enter Try.func6, Try.ntmps6
  go_wp2_with (first | (go_at_call 9; refine (lives_c _).mono ?_; rintro e w' ⟨rfl, rfl⟩))
  go_loopw [3, 4] (fun v i wr => ∃ k, Rel w wr v i l k) (fun _ i _ => (intOf i + 1).toNat)
  case atStart => exact ⟨_, HR.out⟩
  case round =>
    obtain ⟨k, hrel⟩ := hrel
    have hiv := hrel.hi
    have hk := hrel.hk
    have HREL := Lib.hid hrel
    cases k with
    | succ k =>
      rw [show (((k + 1 : Nat) : Int) - 1) = (k : Int) by omega] at hiv
      obtain rfl := hiv
      have hown := hrel.own
      have hcell : wr.cell? (x.add k) = some (.int .i64 (l[k]?.getD 0)) := by
        have h := HC.out k (by omega)
        rw [HREL.out.below.cell (cell_lt h)]; exact h
      have hkn : k < len := by have := HN.out; omega
      have hbl : (back l (k + 1)).length ≤ 40 := by rw [back_len]; have := HN.out; omega
      have hsz := HREL.out.below.size
      clear hrel
      go_wp2_with (at_builtin; refine wpList_append_own _ rfl _ _ 27 rfl w.heap.size 3 i0 (.int .i64 0) 1 8 Try.underlying27 hi hz0 hz1 hz2 rfl (by decide) _ _ _ rfl (hown.alloc _) ⟨wr.heap.size, 0, none⟩ 1 1 [.int .i64 (l[k]?.getD 0)] rfl rfl ?c1 ?c2 ?c3 ?c4 ?c5 ?_)
      case c1 => exact cell_one_new _ _ _
      case c2 => simp [Value.oneCell']
      case c3 => unfold maxLen; omega
      case c4 => omega
      case c5 => simp; omega
      intro v' w1 hown' hgrow _
      have hnew := Lib.hid (HREL.out.step hown' hgrow)
      clear hown hown' hgrow
      go_wp2
      go_roundw
      case rel => exact ⟨k, hnew.out⟩
      case measure => simp [intOf]
    | zero =>
      obtain ⟨a, c, rfl, hreads⟩ := hrel.reads
      rw [show (((0 : Nat) : Int) - 1) = -1 by rfl] at hiv
      obtain rfl := hiv
      have hread : Reads wr (some x) l := by
        refine .inr ⟨x, rfl, fun i hi => ?_⟩
        have h := HC.out i hi
        rw [HREL.out.below.cell (cell_lt h)]; exact h
      have e0 : back l 0 = l.reverse := by unfold back; rfl
      have hbl : (back l 0).length ≤ 40 := by rw [back_len]; have := HN.out; omega
      have hsum := sumL_rev l
      rw [e0] at hreads hbl
      have HRD := Lib.hid hread
      have HRB := Lib.hid hreads
      have hB := Lib.hid (sum_c a c l.reverse wr (by unfold maxLen; omega) hreads)
      have hs0 : Calls Try.prog 19 #[.slice none 0 0] wr fun e w'' => e = .returned (.int .i64 0) ∧ wr = w'' := sum_c none 0 [] wr (by simp [maxLen]) (.inl ⟨rfl, rfl⟩)
      have HS0 := Lib.hid hs0
      rw [hsum, List.length_reverse] at hB
      rw [e0, List.length_reverse]
      clear hrel hreads hread hsum e0 hs0
      go_wp2_with (first | (go_at_call 19; (with_reducible refine (HS.out _ HRD.out).mono ?_); rintro e w' ⟨rfl, rfl⟩) | (go_at_call 20; (with_reducible refine (HRS.out _ HRD.out).mono ?_); rintro e w' ⟨rfl, rfl⟩) | (go_at_call 19; (with_reducible refine hB.out.mono ?_); rintro e w' ⟨rfl, rfl⟩) | (go_at_call 19; (with_reducible refine HS0.out.mono ?_); rintro e w' ⟨rfl, rfl⟩))
      go_ret
      exact ⟨rfl, HREL.out.below⟩
set_option maxHeartbeats 1000000 in
theorem someB (x : Addr) (len cap : Nat) (l : List Int) (w : World) (hln : l.length = 40) (hlen : 40 < len) (hm : len ≤ maxLen) (hcap : len ≤ cap)
    (hc : ∀ i, i < l.length → w.cell? (x.add i) = some (.int .i64 (l[i]?.getD 0))) :
    Calls Try.prog 6 #[.slice (some x) len cap] w fun e w' => e = .returned (.bool true) ∧ Below w.heap.size w w' := by
  unfold maxLen at hm
  obtain ⟨i0, hi, hz0, hz1, hz2⟩ := info_parts info3
  have HC := Lib.hid hc
  have hs : ∀ w', Reads w' (some x) l → Calls Try.prog 19 #[.slice (some x) 40 cap] w' fun e w'' => e = .returned (.int .i64 (sumL l)) ∧ w' = w'' := by
    intro w' hr; have h := sum_c (some x) cap l w' (by unfold maxLen; omega) hr; rw [hln] at h; exact h
  have hr : ∀ w', Reads w' (some x) l → Calls Try.prog 20 #[.slice (some x) 40 cap] w' fun e w'' => e = .returned (.int .i64 (sumL l)) ∧ w' = w'' := by
    intro w' hr; have h := rsum_c (some x) cap l w' (by unfold maxLen; omega) hr; rw [hln] at h; exact h
  have HS := Lib.hid hs
  have HRS := Lib.hid hr
  have HN := Lib.hid (show l.length = 40 from hln)
  clear hc hs hr hln
  have hle : 40 ≤ 40 := by have := HN.out; omega
  have hlc : 40 ≤ cap := by omega
  have HR := Lib.hid (show Rel w (w.alloc (.cells #[.int .i64 7] 37)) (.slice none 0 0) (.int .i64 ((40 : Nat) - 1 : Int)) l 40 from ⟨rfl, by rw [HN.out]; exact Nat.le_refl _, by
      have : back l 40 = [] := by unfold back; rw [← HN.out]; simp
      rw [this]; exact World.ownsRow_nil _ _ _ _, (Below.refl _ _).alloc (Nat.le_refl _) _⟩)
  
  
  go_enter Try.func6, Try.ntmps6
  go_wp2_with (first | (go_at_call 9; refine (lives_c _).mono ?_; rintro e w' ⟨rfl, rfl⟩))
  go_loopw [3, 4] (fun v i wr => ∃ k, Rel w wr v i l k) (fun _ i _ => (intOf i + 1).toNat)
  case atStart => exact ⟨_, HR.out⟩
  case round =>
    obtain ⟨k, hrel⟩ := hrel
    have hiv := hrel.hi
    have hk := hrel.hk
    have HREL := Lib.hid hrel
    cases k with
    | succ k =>
      rw [show (((k + 1 : Nat) : Int) - 1) = (k : Int) by omega] at hiv
      obtain rfl := hiv
      have hown := hrel.own
      have hcell : wr.cell? (x.add k) = some (.int .i64 (l[k]?.getD 0)) := by
        have h := HC.out k (by omega)
        rw [HREL.out.below.cell (cell_lt h)]; exact h
      have hkn : k < 40 := by have := HN.out; omega
      have hbl : (back l (k + 1)).length ≤ 40 := by rw [back_len]; have := HN.out; omega
      have hsz := HREL.out.below.size
      clear hrel
      go_wp2_with (at_builtin; refine wpList_append_own _ rfl _ _ 27 rfl w.heap.size 3 i0 (.int .i64 0) 1 8 Try.underlying27 hi hz0 hz1 hz2 rfl (by decide) _ _ _ rfl (hown.alloc _) ⟨wr.heap.size, 0, none⟩ 1 1 [.int .i64 (l[k]?.getD 0)] rfl rfl ?c1 ?c2 ?c3 ?c4 ?c5 ?_)
      case c1 => exact cell_one_new _ _ _
      case c2 => simp [Value.oneCell']
      case c3 => unfold maxLen; omega
      case c4 => omega
      case c5 => simp; omega
      intro v' w1 hown' hgrow _
      have hnew := Lib.hid (HREL.out.step hown' hgrow)
      clear hown hown' hgrow
      go_wp2
      go_roundw
      case rel => exact ⟨k, hnew.out⟩
      case measure => simp [intOf]
    | zero =>
      obtain ⟨a, c, rfl, hreads⟩ := hrel.reads
      rw [show (((0 : Nat) : Int) - 1) = -1 by rfl] at hiv
      obtain rfl := hiv
      have hread : Reads wr (some x) l := by
        refine .inr ⟨x, rfl, fun i hi => ?_⟩
        have h := HC.out i hi
        rw [HREL.out.below.cell (cell_lt h)]; exact h
      have e0 : back l 0 = l.reverse := by unfold back; rfl
      have hbl : (back l 0).length ≤ 40 := by rw [back_len]; have := HN.out; omega
      have hsum := sumL_rev l
      rw [e0] at hreads hbl
      have HRD := Lib.hid hread
      have HRB := Lib.hid hreads
      have hB := Lib.hid (sum_c a c l.reverse wr (by unfold maxLen; omega) hreads)
      have hs0 : Calls Try.prog 19 #[.slice none 0 0] wr fun e w'' => e = .returned (.int .i64 0) ∧ wr = w'' := sum_c none 0 [] wr (by simp [maxLen]) (.inl ⟨rfl, rfl⟩)
      have HS0 := Lib.hid hs0
      rw [hsum, List.length_reverse] at hB
      rw [e0, List.length_reverse]
      clear hrel hreads hread hsum e0 hs0
      go_wp2_with (first | (go_at_call 19; (with_reducible refine (HS.out _ HRD.out).mono ?_); rintro e w' ⟨rfl, rfl⟩) | (go_at_call 20; (with_reducible refine (HRS.out _ HRD.out).mono ?_); rintro e w' ⟨rfl, rfl⟩) | (go_at_call 19; (with_reducible refine hB.out.mono ?_); rintro e w' ⟨rfl, rfl⟩) | (go_at_call 19; (with_reducible refine HS0.out.mono ?_); rintro e w' ⟨rfl, rfl⟩))
      go_ret
      exact ⟨rfl, HREL.out.below⟩
set_option maxHeartbeats 1000000 in
theorem nilAt (w : World) : Calls Try.prog 6 #[.slice none 0 0] w fun e w' => e = .returned (.bool true) ∧ Below w.heap.size w w' := by
  have hb : Below w.heap.size w (w.alloc (.cells #[.int .i64 7] 37)) := (Below.refl _ _).alloc (Nat.le_refl _) _
  have HB := Lib.hid hb
  have hs := Lib.hid (fun W => sum_c none 0 [] W (by simp [maxLen]) (.inl ⟨rfl, rfl⟩))
  have hr := Lib.hid (fun W => rsum_c none 0 [] W (by simp [maxLen]) (.inl ⟨rfl, rfl⟩))
  have h0 : sumL [] = 0 := rfl
  clear hb
  go_enter Try.func6, Try.ntmps6
  go_wp2_with (first | (go_at_call 9; refine (lives_c _).mono ?_; rintro e w' ⟨rfl, rfl⟩))
  refine wp_loop_rounds 1 ?_
  rw [rounds_succ]
  go_wp2_with (first | (go_at_call 19; refine (hs.out _).mono ?_; rintro e w' ⟨rfl, rfl⟩) | (go_at_call 20; refine (hr.out _).mono ?_; rintro e w' ⟨rfl, rfl⟩))
  go_ret
  exact ⟨rfl, HB.out⟩

/-! ### STEP 1: THE WALK: the Go text returns true, AND WRITES NOTHING THAT WAS THERE: 'Below w.heap.size w w'' (Derived/Below.lean: '.refl', '.alloc', '.drew', '.setCell' at a new block, '.trans'). Open each 'IsRow' by 'rcases' AHEAD of 'go_enter'; part every test ahead of the walk. -/
theorem walk (a0 : Option Addr) (len0 cap0 : Nat) (z0 : List Int) (w : World) (w0 : IsRow .i64 w a0 len0 cap0 z0) :
    Calls Try.prog 6 #[.slice a0 len0 cap0] w fun e w' => e = .returned (.bool true) ∧ Below w.heap.size w w' := by
  rcases w0 with ⟨rfl, rfl, rfl, rfl⟩ | ⟨x, rfl, hl, hcm, hz, hc, _⟩
  · exact nilAt w
  have hlen : len0 ≤ z0.length := by omega
  by_cases h40 : len0 ≤ 40
  · have e : (z0.take len0).length = len0 := by rw [List.length_take]; omega
    refine someA x len0 cap0 (z0.take len0) w (by omega) (by omega) (by omega) ?_ e.symm
    intro i hi
    rw [hc i (by omega)]; rw [e] at hi; simp [List.getD, hi]
  · have e : (z0.take 40).length = 40 := by rw [List.length_take]; omega
    refine someB x len0 cap0 (z0.take 40) w e (by omega) (by omega) hl ?_
    intro i hi
    rw [hc i (by omega)]; rw [e] at hi; simp [List.getD, hi]

/-! ### THE ROW's STEP: WRITTEN OUT: LEAVE IT -/
set_option maxRecDepth 100000 in
theorem lifted (os : Os) (started : os.Started) (H : Type) (enc : TypeId × Value → H) :
    ReturnsInHanded {} Try.checked os 6 .any (Rows.satManySpec.pre6 enc Try.prog Try.f6 Rows.satManyRow.domain false) (Rows.satManySpec.post enc Try.prog Try.f6 false true false false) := by
  refine returnsInHanded_of_change (C := Try.checked) own started (by kernel_rfl) Try.func6
    (ChangeSpec.witness6 (enc := enc) (C := Try.checked) false ⟨#[], #[.slice none 0 0], []⟩ 8 (by kernel_rfl) (by kernel_rfl) (by kernel_rfl) (by kernel_rfl)) ?_
  intro W base args ds gs before hval0 hW hcnd _
  have hval : ∀ (j : Nat) t v, Try.f6.params[j]? = some t → args[j]? = some v → Value.okWide Try.prog W .any base t v := hval0
  have hW' := hW
  obtain ⟨p, q, hA0, hV, rfl, hfz, hnd⟩ := hW
  have hA : DataW.TrodAll enc Try.prog W 0 (fun _ => true) true Try.f6.params.toList args.toList ds p := hA0
  rw [Try.params6] at hA hval
  obtain ⟨v0, vs0, d0, ds0, p0, q0, hargs, rfl, rfl, h0, r0⟩ := trodAll_cons hA
  obtain ⟨rfl, rfl, rfl⟩ := trodAll_nil r0
  obtain rfl : args = #[v0] := by cases args; simp_all
  obtain ⟨rfl, rfl⟩ := trodVars_none hV
  obtain ⟨a0, len0, cap0, rfl⟩ := okWide_slice Try.underlying27 (hval 0 27 v0 rfl rfl)
  have k0 := h0
  have lt0 : ∀ x ∈ p0, x.block < W.heap.size := by obtain ⟨m, hm⟩ := k0; exact DataW.trod_lt m _ _ _ hm
  obtain ⟨z0, w0⟩ : ∃ zs, IsRow .i64 W a0 len0 cap0 zs := by
    obtain ⟨fuel, hf⟩ := h0
    rcases open_ints Try.underlying27 Try.underlying3 (by kernel_rfl) hf with ⟨hcs, _⟩ | ⟨x, l, c, zs, hcs, _, hl, hm, hz, _, hcell, hwz⟩
    · simp [Value.cells] at hcs
      obtain ⟨rfl, rfl, rfl⟩ := hcs
      exact ⟨[], .inl ⟨rfl, rfl, rfl, rfl⟩⟩
    · simp [Value.cells] at hcs
      obtain ⟨rfl, rfl, rfl⟩ := hcs
      exact ⟨zs, .inr ⟨_, rfl, hl, hm, by simpa using hz, hcell, hwz⟩⟩
  clear hA0 hval0
  refine (walk a0 len0 cap0 z0 W w0).mono fun e W' ⟨he, bel⟩ => ?_
  subst he
  exact ⟨_, rfl, _, _, _, [], _, [], hW', trodAll_mk1 (shut_bool Try.underlying4 _), (trodAll_cons_mk (Below.trod laidOut (by kernel_rfl) (of_decide_eq_true (by kernel_rfl)) k0 bel lt0) trodAll_mk0), rfl, bel.frame _, fun h => by cases h⟩

theorem over : Rows.satManyRow.holds Try.pinned (OpenSpec.ofChange Rows.satManySpec) :=
  OpenClaim.holds_of_wide 6 Try.f6 rfl rfl rfl rfl rfl rfl rfl ⟨rfl, rfl, rfl, rfl, rfl⟩ rfl rfl rfl rfl rfl (by kernel_rfl) Try.func6 (by kernel_rfl)
    (of_decide_eq_true (by kernel_rfl)) (by unfold Func.isWrapper; first | (rw [if_pos (by decide +kernel)]; kernel_rfl) | (rw [if_neg (by decide +kernel)]; exact ⟨rfl, rfl⟩))
    (fun os started H enc _ => lifted os started H enc)

/-- ████ THE STATEMENT ████ -/
theorem proved : Rows.SatManySaid := over
#print axioms proved
end Go.Proofs.Ytbhmbijkimggdaa.satMany
