/-
  Proved: of every two numbers and every slice of numbers 'hostlerlaw06.WindowSpans' returns true: no condition.
  The frame is written by this session's frame.py, after the kit's proof-skeleton.mjs.
-/
import Derived.Test.YtgonoccacbbhjaaXd
namespace Go.Proofs.Ytgonoccacbbhjaa.windowSpans
open Go.ChangeShapes Go.WideShapes Go.ChangeAt Go.RowKit
set_option linter.unusedVariables false
theorem own : ownKnob Try.prog.godebug = none := by kernel_rfl
theorem laidOut : laidOutB Try.prog = true := by kernel_rfl

/-- A window's ticks as they are told: the numbers that don't fall; the greatest is told last. -/
structure Told (n : WN) (at' : Int) : Prop where
  f : WF n
  top : n.top = cut at'
  le : ∀ x ∈ n.l, x ≤ cut at'
  ge : ∀ x ∈ n.l, 0 ≤ x
theorem told_tick {n : WN} {a b : Int} (h : Told n a) (ha : 0 ≤ a) (hb : b ≤ 1099511627776) (hab : a ≤ b) : tick n b = b := by
  have hc : cut b = b := by unfold cut; omega
  have hca : cut a = a := by unfold cut; omega
  unfold tick
  by_cases h0 : n.l = []
  · rw [if_pos h0, hc]
  · rw [if_neg h0, hc]
    have hm : n.l.getLast?.getD 0 ≤ b := by
      obtain ⟨x, hx⟩ : ∃ x, n.l.getLast? = some x := by
        cases hh : n.l.getLast? with
        | none => exact absurd (List.getLast?_eq_none_iff.1 hh) h0
        | some x => exact ⟨x, rfl⟩
      rw [hx]
      have := h.le x (List.mem_of_getLast? hx)
      show x ≤ b
      omega
    omega
theorem told_add {n : WN} {a b : Int} (h : Told n a) (ha : 0 ≤ a) (hb : b ≤ 1099511627776) (hab : a ≤ b) :
    addw n b = ⟨n.span, b, lf n.span b (n.l ++ [b])⟩ ∧ addN n b = (lf n.span b (n.l ++ [b])).length ∧ 1 ≤ addN n b ∧ Told (addw n b) b := by
  have hc : cut b = b := by unfold cut; omega
  have hca : cut a = a := by unfold cut; omega
  have ht := told_tick h ha hb hab
  have hmx : max n.top b = b := by rw [h.top]; omega
  have e1 : addw n b = ⟨n.span, b, lf n.span b (n.l ++ [b])⟩ := by
    unfold addw cnt put; dsimp only; rw [ht, hc, hmx]
  have e2 : addN n b = (lf n.span b (n.l ++ [b])).length := by
    have e3 : addN n b = (lf n.span (cut (tick n b)) (addw n b).l).length := rfl
    rw [e3, e1, ht, hc]; dsimp only; rw [lf_lf _ _ _ (Int.le_refl _)]
  refine ⟨e1, e2, ?_, wf_add h.f b, by rw [e1, hc], ?_, ?_⟩
  · have := h.f.s1
    rw [e2, lf_app, List.length_append, lf_cons, if_pos (by omega)]; simp [lf]
  · rw [e1, hc]; intro x hx
    have hx := (lf_mem hx).1
    rcases List.mem_append.1 hx with hx | hx
    · have := h.le x hx; omega
    · simp at hx; omega
  · rw [e1]; intro x hx
    have hx := (lf_mem hx).1
    rcases List.mem_append.1 hx with hx | hx
    · exact h.ge x hx
    · simp at hx; omega
theorem told_new (n : Int) : Told ⟨long n, 0, []⟩ 0 := ⟨wf_new n, rfl, by simp, by simp⟩
/-- Two windows that are told the same: the longer one has what the lesser one has. -/
structure Pair (s l : WN) (at' : Int) : Prop where
  ts : Told s at'
  tl : Told l at'
  sp : s.span ≤ l.span
  eq : lf s.span at' l.l = s.l
theorem pair_new {a b : Int} (h : a ≤ b) : Pair ⟨long a, 0, []⟩ ⟨long b, 0, []⟩ 0 := ⟨told_new a, told_new b, by unfold long; dsimp only; omega, rfl⟩
theorem pair_add {s l : WN} {a b : Int} (h : Pair s l a) (ha : 0 ≤ a) (hb : b ≤ 1099511627776) (hab : a ≤ b) :
    Pair (addw s b) (addw l b) b ∧ 1 ≤ addN s b ∧ addN s b ≤ addN l b ∧ (addw s b).l.length ≤ (addw l b).l.length := by
  obtain ⟨s1, s2, s3, s4⟩ := told_add h.ts ha hb hab
  obtain ⟨l1, l2, l3, l4⟩ := told_add h.tl ha hb hab
  have hsp := h.sp
  have e : lf s.span b (lf l.span b (l.l ++ [b])) = lf s.span b (s.l ++ [b]) := by
    have e1 : lf s.span b (lf l.span b (l.l ++ [b])) = lf s.span b (l.l ++ [b]) := by
      unfold lf; rw [List.filter_filter]; congr 1; funext x
      by_cases hx : b < x + s.span
      · simp [hx]; omega
      · simp [hx]
    rw [e1, lf_app, lf_app, ← h.eq, lf_lf _ _ _ hab]
  have hle : (lf s.span b (s.l ++ [b])).length ≤ (lf l.span b (l.l ++ [b])).length := by rw [← e]; exact lf_le _ _ _
  refine ⟨⟨s4, l4, by rw [s1, l1]; exact hsp, by rw [s1, l1]; exact e⟩, s3, by rw [s2, l2]; exact hle, by rw [s1, l1]; exact hle⟩
theorem alone (n : WN) (at' : Int) (h : WF n) (hl : n.l = []) (ht : n.top ≤ cut at') : addN n at' = 1 ∧ cntN n at' = 0 ∧ (cnt n at').l = [] ∧ (cnt n at').top = cut at' := by
  have s1 := h.s1
  have c := cut_in at'
  have hcc : cut (cut at') = cut at' := by unfold cut; omega
  refine ⟨?_, by unfold cntN cnt; rw [hl]; rfl, by unfold cnt; dsimp only; rw [hl]; rfl, by unfold cnt; dsimp only; omega⟩
  have htk : tick n at' = cut at' := by unfold tick; rw [if_pos hl]
  have e3 : addN n at' = (lf n.span (cut (tick n at')) (lf n.span (max n.top (cut (tick n at'))) (n.l ++ [tick n at']))).length := rfl
  rw [e3, htk, hcc, Int.max_eq_right ht, hl, lf_lf _ _ _ (Int.le_refl _), List.nil_append, lf_cons, if_pos (by omega)]; rfl
theorem ow_lift {w : World} {B B' g : Nat} {n : WN} (h : OW w B g n) (hl : n.l = []) (hB : g < B') : OW w B' g n := by
  obtain ⟨h1, A, h2, h3, h4⟩ := h
  exact ⟨hB, A, h2, fun j hj => by rw [hl] at hj; exact absurd hj (Nat.not_lt_zero _), h4⟩
theorem CP.cast2 {n : WN} {r r' : Nat} {B g : Nat} {w w' : World} {e : Ending} (h : CP n r B g w e w') (hr : r = r') : CP n r' B g w e w' := by subst hr; exact h
/-- A number's rest by m. -/
def rst (m x : Int) : Int := (IntKind.u64.wrap x).tmod m
theorem rst_bd (m x : Int) (hm : 0 < m) : 0 ≤ rst m x ∧ rst m x < m := by
  have h0 : 0 ≤ IntKind.u64.wrap x := by rw [IntKind.wrap_u64]; omega
  exact ⟨Int.tmod_nonneg m h0, Int.tmod_lt_of_pos _ hm⟩
/-- A slice of numbers that came in. -/
structure Nums (w : World) (a : Option Addr) (len cap : Nat) (z : List Int) : Prop where
  lc : len ≤ cap
  lm : len ≤ 9223372036854775807
  at' : ∀ k, k < len → ∃ x, a = some x ∧ x.block < w.heap.size ∧ w.cell? (x.add k) = some (.int .i64 (z.getD k 0))
theorem nums_of {w : World} {a : Option Addr} {len cap : Nat} {z : List Int} (h : IsRow .i64 w a len cap z) : Nums w a len cap z := by
  rcases h with ⟨_, rfl, _, rfl⟩ | ⟨x, rfl, hl, hm, hz, hc, hw⟩
  · exact ⟨Nat.zero_le _, Nat.zero_le _, fun k hk => by omega⟩
  · refine ⟨hl, by unfold maxLen at hm; omega, fun k hk => ⟨x, rfl, ?_, hc k (by omega)⟩⟩
    have := cell_lt (hc k (by omega))
    rwa [block_add] at this
structure Rel (W w : World) (B g1 g2 : Nat) (i at' : Value) (n k : Nat) : Prop where
  hi : i = .int .i64 k
  hk : k ≤ n
  st : ∃ (a : Int) (s l : WN), at' = .int .i64 a ∧ 0 ≤ a ∧ a ≤ 29 * k ∧ OW w B g1 s ∧ OW w B g2 l ∧ Pair s l a ∧ s.l.length ≤ k ∧ l.l.length ≤ k
  below : Below W.heap.size W w
  hB : B ≤ w.heap.size
theorem start {W w : World} {g : Nat} (lo hi : Int) (h : lo ≤ hi) (n : Nat) (hb : Below W.heap.size W w) (hg : w.heap.size = g) :
    Rel W ((w.alloc (.cells #[.int .i64 (long lo), .int .i64 0, .slice none 0 0] 49)).alloc (.cells #[.int .i64 (long hi), .int .i64 0, .slice none 0 0] 49)) (g + 2) g (g + 1) (.int .i64 0) (.int .i64 0) n 0 := by
  subst hg
  refine ⟨rfl, Nat.zero_le _, ⟨0, ⟨long lo, 0, []⟩, ⟨long hi, 0, []⟩, rfl, Int.le_refl _, by omega, ?_, ?_, pair_new h, Nat.le_refl _, Nat.le_refl _⟩, (hb.alloc hb.size _).alloc (by have := hb.size; simp; omega) _, by simp⟩
  · exact (new_ow lo w (w.heap.size + 2) (by omega)).keep ((Below.refl _ _).alloc (Nat.le_refl _) _)
  · have := new_ow hi (w.alloc (.cells #[.int .i64 (long lo), .int .i64 0, .slice none 0 0] 49)) (w.heap.size + 2) (by simp)
    rwa [show (w.alloc (.cells #[.int .i64 (long lo), .int .i64 0, .slice none 0 0] 49)).heap.size = w.heap.size + 1 by simp] at this

/-! ### STEP 1 -/
set_option maxRecDepth 100000 in
set_option maxHeartbeats 8000000 in
theorem walk (a0 : Int) (a1 : Int) (a2 : Option Addr) (len2 cap2 : Nat) (z2 : List Int) (w : World) (w0 : (Lit.int .i64 a0).wf = true) (w1 : (Lit.int .i64 a1).wf = true) (w2 : IsRow .i64 w a2 len2 cap2 z2) :
    Calls Try.prog 6 #[.int .i64 a0, .int .i64 a1, .slice a2 len2 cap2] w fun e w' => e = .returned (.bool true) ∧ Below w.heap.size w w' := by
  have hnm := nums_of w2
  have HNM := Lib.hid hnm
  have hlm := hnm.lm
  clear w0 w1 w2 hnm
  obtain ⟨n, hn⟩ : ∃ n, n = min len2 40 := ⟨_, rfl⟩
  have hn1 : n ≤ len2 := by omega
  have hn8 : n ≤ 40 := by omega
  have HN := Lib.hid hn
  clear hn
  rcases Int.lt_trichotomy a0 a1 with hcmp | hcmp | hcmp
  · go_enter Try.func6, Try.ntmps6
    go_wp2_with fail
    refine (wlives_c _).mono ?_
    rintro e w1 ⟨rfl, hl1⟩
    have hgs := hl1.size
    obtain ⟨g, hg⟩ : ∃ g, w1.heap.size = g := ⟨_, rfl⟩
    have HR0 := Lib.hid (start a0 a1 (by omega) n hl1 hg)
    have hge : w.heap.size ≤ g := by omega
    clear hl1
    go_wp2_with (go_at_call 9; refine (new_c _ _).mono ?_; rintro e w' ⟨rfl, rfl⟩)
    have HH := Lib.hid (show max a0 a1 = a1 by omega)
    clear hg hgs
    go_loopw [9, 10] (fun v i wr => ∃ k, Rel w wr (g + 2) g (g + 1) i v n k) (fun _ i _ => n - (intOf i).toNat)
    case atStart => exact ⟨0, HR0.out⟩
    case round =>
      clear HR0
      obtain ⟨k, hrel⟩ := hrel
      obtain rfl := hrel.hi
      have hk := hrel.hk
      obtain ⟨a, s, l, rfl, ha0, ha1, hs, hl, hp, hsl, hll⟩ := hrel.st
      have HBW := Lib.hid hrel.below
      have HBS := Lib.hid hrel.hB
      have HS := Lib.hid hs
      have HL := Lib.hid hl
      clear hrel hs hl
      by_cases hlt : k < n
      · have hlt0 : k < len2 := by omega
        have hlt4 : (k : Int) < 40 := by omega
        obtain ⟨x, rfl, hxb, k0⟩ := HNM.out.at' k hlt0
        generalize z2.getD k 0 = z at k0
        replace k0 : wr.cell? (x.add k) = some (.int .i64 z) := by rw [HBW.out.cell (cell_lt k0)]; exact k0
        have he : (IntKind.u64.wrap z).tmod 30 = rst 30 z := rfl
        obtain ⟨hr0, hr1⟩ := rst_bd 30 z (by omega)
        obtain ⟨hp2, hx1, hx2, hx3⟩ := pair_add (b := a + rst 30 z) hp ha0 (by omega) (by omega)
        have hb2 : a + rst 30 z ≤ 29 * ((k + 1 : Nat) : Int) := by omega
        have K1 := Lib.hid (addw_c (g + 2) g s (a + rst 30 z) wr HS.out hp.ts.f (by omega) HBS.out)
        have K2 := Lib.hid (fun W h hB => addw_c (g + 2) (g + 1) l (a + rst 30 z) W h hp.tl.f (by omega) hB)
        have hsl2 := add_len s (a + rst 30 z)
        have hll2 := add_len l (a + rst 30 z)
        have HP2 := Lib.hid hp2
        clear hp hp2
        generalize addN s (a + rst 30 z) = X at *
        generalize addN l (a + rst 30 z) = Y at *
        generalize addw s (a + rst 30 z) = s' at *
        generalize addw l (a + rst 30 z) = l' at *
        have hd1 : decide (Y < X) = false := by simp; omega
        have hd2 : decide ((X : Int) < 1) = false := by simp; omega
        have hd3 : decide (l'.l.length < s'.l.length) = false := by simp; omega
        go_wp2_with fail
        refine K1.out.mono ?_
        rintro e w2 ⟨rfl, ho2, hn2⟩
        have HS2 := Lib.hid ho2
        have HL2 := Lib.hid (HL.out.near hn2 (by omega) (by omega))
        have HB2 := Lib.hid (hn2.later HBW.out HBW.out.size hge)
        have HZ2 := Lib.hid (Nat.le_trans HBS.out hn2.size)
        clear ho2 hn2
        go_wp2_with fail
        refine (K2.out _ HL2.out HZ2.out).mono ?_
        rintro e w3 ⟨rfl, ho3, hn3⟩
        have HL3 := Lib.hid ho3
        have HS3 := Lib.hid (HS2.out.near hn3 (by omega) (by omega))
        have HB3 := Lib.hid (hn3.later HB2.out HB2.out.size (by omega))
        have HZ3 := Lib.hid (Nat.le_trans HZ2.out hn3.size)
        clear ho3 hn3
        go_wp2_with (first | (go_at_call 11; (with_reducible refine (wlen_c (g + 2) g s' _ HS3.out).mono ?_); rintro e w' ⟨rfl, rfl⟩) | (go_at_call 11; (with_reducible refine (wlen_c (g + 2) (g + 1) l' _ HL3.out).mono ?_); rintro e w' ⟨rfl, rfl⟩))
        go_roundw
        case rel => exact ⟨k + 1, by go_num, by omega, ⟨a + rst 30 z, s', l', rfl, by omega, hb2, HS3.out, HL3.out, HP2.out, by omega, by omega⟩, HB3.out, HZ3.out⟩
        case measure => simp [intOf]; omega
      · obtain rfl : n = k := by omega
        have hgd : (n < len2 ∧ decide ((n : Int) < 40) = false) ∨ decide (n < len2) = false := by
          have := HN.out
          by_cases hq : n < len2
          · exact .inl ⟨hq, by simp; omega⟩
          · exact .inr (by simpa using hq)
        have hft := hp.tl.f
        have htp := hp.tl.top
        have hca := cut_in a
        have hf1 : WF { l with l := [] } := ⟨hft.s1, hft.s2, hft.t1, hft.t2, by simp⟩
        obtain ⟨a1', a2', a3', a4'⟩ := alone { l with l := [] } a hf1 rfl (by dsimp only; omega)
        have hf2 := wf_cnt hf1 a
        generalize hl1 : ({ l with l := [] } : WN) = l1 at *
        have hl10 : l1.l = [] := by rw [← hl1]
        obtain ⟨b1', b2', b3', b4'⟩ := alone (cnt l1 a) a hf2 a3' (by omega)
        have hg1 := wf_new a1
        obtain ⟨d1', d2', d3', d4'⟩ := alone ⟨long a1, 0, []⟩ a hg1 rfl (by dsimp only; omega)
        have hg2 := wf_cnt hg1 a
        obtain ⟨e1', e2', e3', e4'⟩ := alone (cnt ⟨long a1, 0, []⟩ a) a hg2 d3' (by omega)
        have KR := reset_c (g + 2) (g + 1) l wr HL.out
        rw [hl1] at KR
        have KR := Lib.hid KR
        have KL := Lib.hid (fun B W (h : OW W B (g + 1) l1) => last_c B (g + 1) l1 W h (by rw [hl10]; decide))
        rw [show lastv l1.l = #[.int .i64 0, .bool false] from by rw [hl10]; rfl] at KL
        have KN := Lib.hid (fun B W (h : OW W B (g + 1) l1) => wlen_c B (g + 1) l1 W h)
        rw [show ((l1.l.length : Nat) : Int) = 0 from by rw [hl10]; rfl] at KN
        have KC := Lib.hid (fun B W (h : OW W B (g + 1) l1) => (count_c B (g + 1) l1 a W h.c hf1 (by rw [hl10]; decide)).mono fun _ _ h => CP.cast2 h a2')
        have KD := Lib.hid (fun B g3 W (h : OW W B g3 ⟨long a1, 0, []⟩) => (count_c B g3 ⟨long a1, 0, []⟩ a W h.c hg1 (by simp)).mono fun _ _ h => CP.cast2 h d2')
        have KA := Lib.hid (fun B W (h : OW W B (g + 1) (cnt l1 a)) hB => (addw_c B (g + 1) (cnt l1 a) a W h hf2 (by rw [a3']; decide) hB).mono fun _ _ h => CP.cast2 h b1')
        have KB := Lib.hid (fun B g3 W (h : OW W B g3 (cnt ⟨long a1, 0, []⟩ a)) hB => (addw_c B g3 (cnt ⟨long a1, 0, []⟩ a) a W h hg2 (by rw [d3']; decide) hB).mono fun _ _ h => CP.cast2 h e1')
        have HL10 := Lib.hid hl10
        have HA3 := Lib.hid a3'
        have HLF := Lib.hid (fun (W : World) (B : Nat) => new_ow a1 W B)
        clear hft htp hca hf1 a1' a2' a3' a4' hf2 hl1 hl10 b1' b2' b3' b4' hg1 d1' d2' d3' d4' hg2 e1' e2' e3' e4' hp hlt
        rcases hgd with ⟨hgd1, hgd2⟩ | hgd1
        all_goals
          go_wp2_with fail
          refine KR.out.mono ?_
          rintro e w2 ⟨rfl, ho2, hn2⟩
          have HL2 := Lib.hid (ow_lift ho2 HL10.out (show g + 1 < w2.heap.size + 1 by have := hn2.size; have := HBS.out; omega))
          have HB2 := Lib.hid (hn2.later HBW.out HBW.out.size (by omega))
          have HZ2 := Lib.hid (Nat.le_trans HBS.out hn2.size)
          clear ho2 hn2
          have HN3 := Lib.hid (HLF.out w2 (w2.heap.size + 1) (Nat.lt_succ_self _))
          have HL3 := Lib.hid (HL2.out.keep ((Below.refl w2.heap.size w2).alloc (Nat.le_refl _) (.cells #[.int .i64 (long a1), .int .i64 0, .slice none 0 0] 49)))
          have HB3 := Lib.hid (HB2.out.alloc HB2.out.size (.cells #[.int .i64 (long a1), .int .i64 0, .slice none 0 0] 49))
          have hz2 := HZ2.out
          have HZ3 := Lib.hid (show w2.heap.size + 1 ≤ (w2.alloc (.cells #[.int .i64 (long a1), .int .i64 0, .slice none 0 0] 49)).heap.size by simp)
          go_wp2_with (go_at_call 9; refine (new_c _ _).mono ?_; rintro e w' ⟨rfl, rfl⟩)
          refine (KL.out _ _ HL3.out).mono ?_
          rintro e w4 ⟨rfl, q4, rfl⟩
          go_wp2_with fail
          refine (KN.out _ _ (HL3.out.drewN q4)).mono ?_
          rintro e w5 ⟨rfl, rfl⟩
          go_wp2_with fail
          refine (KC.out _ _ (HL3.out.drewN q4)).mono ?_
          rintro e w6 ⟨rfl, ho6, hn6⟩
          have HL6 := Lib.hid ho6
          have HN6 := Lib.hid ((HN3.out.drewN q4).near hn6 (by omega) (by omega))
          have HB6 := Lib.hid (hn6.later (bel_drewN HB3.out q4) HB3.out.size (by omega))
          have HZ6 := Lib.hid (Nat.le_trans HZ3.out hn6.size)
          clear ho6 hn6
          go_wp2_with fail
          refine (KD.out _ _ _ HN6.out).mono ?_
          rintro e w7 ⟨rfl, ho7, hn7⟩
          have HN7 := Lib.hid ho7
          have HL7 := Lib.hid (HL6.out.near hn7 (by omega) (by omega))
          have HB7 := Lib.hid (hn7.later HB6.out HB6.out.size (by have := HB2.out.size; omega))
          have HZ7 := Lib.hid (Nat.le_trans HZ6.out hn7.size)
          clear ho7 hn7
          go_wp2_with fail
          refine (KA.out _ _ HL7.out HZ7.out).mono ?_
          rintro e w8 ⟨rfl, ho8, hn8⟩
          have HN8 := Lib.hid (HN7.out.near hn8 (by omega) (by omega))
          have HB8 := Lib.hid (hn8.later HB7.out HB7.out.size (by omega))
          have HZ8 := Lib.hid (Nat.le_trans HZ7.out hn8.size)
          clear ho8 hn8
          go_wp2_with fail
          refine (KB.out _ _ _ HN8.out HZ8.out).mono ?_
          rintro e w9 ⟨rfl, ho9, hn9⟩
          have HB9 := Lib.hid (hn9.later HB8.out HB8.out.size (by have := HB2.out.size; omega))
          clear ho9 hn9
          go_wp2_with fail
          go_ret
          exact ⟨rfl, HB9.out⟩
  · subst hcmp
    go_enter Try.func6, Try.ntmps6
    go_wp2_with fail
    refine (wlives_c _).mono ?_
    rintro e w1 ⟨rfl, hl1⟩
    have hgs := hl1.size
    obtain ⟨g, hg⟩ : ∃ g, w1.heap.size = g := ⟨_, rfl⟩
    have HR0 := Lib.hid (start a0 a0 (by omega) n hl1 hg)
    have hge : w.heap.size ≤ g := by omega
    clear hl1
    go_wp2_with (go_at_call 9; refine (new_c _ _).mono ?_; rintro e w' ⟨rfl, rfl⟩)
    have HH := Lib.hid (show max a0 a0 = a0 by omega)
    clear hg hgs
    go_loopw [9, 10] (fun v i wr => ∃ k, Rel w wr (g + 2) g (g + 1) i v n k) (fun _ i _ => n - (intOf i).toNat)
    case atStart => exact ⟨0, HR0.out⟩
    case round =>
      clear HR0
      obtain ⟨k, hrel⟩ := hrel
      obtain rfl := hrel.hi
      have hk := hrel.hk
      obtain ⟨a, s, l, rfl, ha0, ha1, hs, hl, hp, hsl, hll⟩ := hrel.st
      have HBW := Lib.hid hrel.below
      have HBS := Lib.hid hrel.hB
      have HS := Lib.hid hs
      have HL := Lib.hid hl
      clear hrel hs hl
      by_cases hlt : k < n
      · have hlt0 : k < len2 := by omega
        have hlt4 : (k : Int) < 40 := by omega
        obtain ⟨x, rfl, hxb, k0⟩ := HNM.out.at' k hlt0
        generalize z2.getD k 0 = z at k0
        replace k0 : wr.cell? (x.add k) = some (.int .i64 z) := by rw [HBW.out.cell (cell_lt k0)]; exact k0
        have he : (IntKind.u64.wrap z).tmod 30 = rst 30 z := rfl
        obtain ⟨hr0, hr1⟩ := rst_bd 30 z (by omega)
        obtain ⟨hp2, hx1, hx2, hx3⟩ := pair_add (b := a + rst 30 z) hp ha0 (by omega) (by omega)
        have hb2 : a + rst 30 z ≤ 29 * ((k + 1 : Nat) : Int) := by omega
        have K1 := Lib.hid (addw_c (g + 2) g s (a + rst 30 z) wr HS.out hp.ts.f (by omega) HBS.out)
        have K2 := Lib.hid (fun W h hB => addw_c (g + 2) (g + 1) l (a + rst 30 z) W h hp.tl.f (by omega) hB)
        have hsl2 := add_len s (a + rst 30 z)
        have hll2 := add_len l (a + rst 30 z)
        have HP2 := Lib.hid hp2
        clear hp hp2
        generalize addN s (a + rst 30 z) = X at *
        generalize addN l (a + rst 30 z) = Y at *
        generalize addw s (a + rst 30 z) = s' at *
        generalize addw l (a + rst 30 z) = l' at *
        have hd1 : decide (Y < X) = false := by simp; omega
        have hd2 : decide ((X : Int) < 1) = false := by simp; omega
        have hd3 : decide (l'.l.length < s'.l.length) = false := by simp; omega
        go_wp2_with fail
        refine K1.out.mono ?_
        rintro e w2 ⟨rfl, ho2, hn2⟩
        have HS2 := Lib.hid ho2
        have HL2 := Lib.hid (HL.out.near hn2 (by omega) (by omega))
        have HB2 := Lib.hid (hn2.later HBW.out HBW.out.size hge)
        have HZ2 := Lib.hid (Nat.le_trans HBS.out hn2.size)
        clear ho2 hn2
        go_wp2_with fail
        refine (K2.out _ HL2.out HZ2.out).mono ?_
        rintro e w3 ⟨rfl, ho3, hn3⟩
        have HL3 := Lib.hid ho3
        have HS3 := Lib.hid (HS2.out.near hn3 (by omega) (by omega))
        have HB3 := Lib.hid (hn3.later HB2.out HB2.out.size (by omega))
        have HZ3 := Lib.hid (Nat.le_trans HZ2.out hn3.size)
        clear ho3 hn3
        go_wp2_with (first | (go_at_call 11; (with_reducible refine (wlen_c (g + 2) g s' _ HS3.out).mono ?_); rintro e w' ⟨rfl, rfl⟩) | (go_at_call 11; (with_reducible refine (wlen_c (g + 2) (g + 1) l' _ HL3.out).mono ?_); rintro e w' ⟨rfl, rfl⟩))
        go_roundw
        case rel => exact ⟨k + 1, by go_num, by omega, ⟨a + rst 30 z, s', l', rfl, by omega, hb2, HS3.out, HL3.out, HP2.out, by omega, by omega⟩, HB3.out, HZ3.out⟩
        case measure => simp [intOf]; omega
      · obtain rfl : n = k := by omega
        have hgd : (n < len2 ∧ decide ((n : Int) < 40) = false) ∨ decide (n < len2) = false := by
          have := HN.out
          by_cases hq : n < len2
          · exact .inl ⟨hq, by simp; omega⟩
          · exact .inr (by simpa using hq)
        have hft := hp.tl.f
        have htp := hp.tl.top
        have hca := cut_in a
        have hf1 : WF { l with l := [] } := ⟨hft.s1, hft.s2, hft.t1, hft.t2, by simp⟩
        obtain ⟨a1', a2', a3', a4'⟩ := alone { l with l := [] } a hf1 rfl (by dsimp only; omega)
        have hf2 := wf_cnt hf1 a
        generalize hl1 : ({ l with l := [] } : WN) = l1 at *
        have hl10 : l1.l = [] := by rw [← hl1]
        obtain ⟨b1', b2', b3', b4'⟩ := alone (cnt l1 a) a hf2 a3' (by omega)
        have hg1 := wf_new a0
        obtain ⟨d1', d2', d3', d4'⟩ := alone ⟨long a0, 0, []⟩ a hg1 rfl (by dsimp only; omega)
        have hg2 := wf_cnt hg1 a
        obtain ⟨e1', e2', e3', e4'⟩ := alone (cnt ⟨long a0, 0, []⟩ a) a hg2 d3' (by omega)
        have KR := reset_c (g + 2) (g + 1) l wr HL.out
        rw [hl1] at KR
        have KR := Lib.hid KR
        have KL := Lib.hid (fun B W (h : OW W B (g + 1) l1) => last_c B (g + 1) l1 W h (by rw [hl10]; decide))
        rw [show lastv l1.l = #[.int .i64 0, .bool false] from by rw [hl10]; rfl] at KL
        have KN := Lib.hid (fun B W (h : OW W B (g + 1) l1) => wlen_c B (g + 1) l1 W h)
        rw [show ((l1.l.length : Nat) : Int) = 0 from by rw [hl10]; rfl] at KN
        have KC := Lib.hid (fun B W (h : OW W B (g + 1) l1) => (count_c B (g + 1) l1 a W h.c hf1 (by rw [hl10]; decide)).mono fun _ _ h => CP.cast2 h a2')
        have KD := Lib.hid (fun B g3 W (h : OW W B g3 ⟨long a0, 0, []⟩) => (count_c B g3 ⟨long a0, 0, []⟩ a W h.c hg1 (by simp)).mono fun _ _ h => CP.cast2 h d2')
        have KA := Lib.hid (fun B W (h : OW W B (g + 1) (cnt l1 a)) hB => (addw_c B (g + 1) (cnt l1 a) a W h hf2 (by rw [a3']; decide) hB).mono fun _ _ h => CP.cast2 h b1')
        have KB := Lib.hid (fun B g3 W (h : OW W B g3 (cnt ⟨long a0, 0, []⟩ a)) hB => (addw_c B g3 (cnt ⟨long a0, 0, []⟩ a) a W h hg2 (by rw [d3']; decide) hB).mono fun _ _ h => CP.cast2 h e1')
        have HL10 := Lib.hid hl10
        have HA3 := Lib.hid a3'
        have HLF := Lib.hid (fun (W : World) (B : Nat) => new_ow a0 W B)
        clear hft htp hca hf1 a1' a2' a3' a4' hf2 hl1 hl10 b1' b2' b3' b4' hg1 d1' d2' d3' d4' hg2 e1' e2' e3' e4' hp hlt
        rcases hgd with ⟨hgd1, hgd2⟩ | hgd1
        all_goals
          go_wp2_with fail
          refine KR.out.mono ?_
          rintro e w2 ⟨rfl, ho2, hn2⟩
          have HL2 := Lib.hid (ow_lift ho2 HL10.out (show g + 1 < w2.heap.size + 1 by have := hn2.size; have := HBS.out; omega))
          have HB2 := Lib.hid (hn2.later HBW.out HBW.out.size (by omega))
          have HZ2 := Lib.hid (Nat.le_trans HBS.out hn2.size)
          clear ho2 hn2
          have HN3 := Lib.hid (HLF.out w2 (w2.heap.size + 1) (Nat.lt_succ_self _))
          have HL3 := Lib.hid (HL2.out.keep ((Below.refl w2.heap.size w2).alloc (Nat.le_refl _) (.cells #[.int .i64 (long a0), .int .i64 0, .slice none 0 0] 49)))
          have HB3 := Lib.hid (HB2.out.alloc HB2.out.size (.cells #[.int .i64 (long a0), .int .i64 0, .slice none 0 0] 49))
          have hz2 := HZ2.out
          have HZ3 := Lib.hid (show w2.heap.size + 1 ≤ (w2.alloc (.cells #[.int .i64 (long a0), .int .i64 0, .slice none 0 0] 49)).heap.size by simp)
          go_wp2_with (go_at_call 9; refine (new_c _ _).mono ?_; rintro e w' ⟨rfl, rfl⟩)
          refine (KL.out _ _ HL3.out).mono ?_
          rintro e w4 ⟨rfl, q4, rfl⟩
          go_wp2_with fail
          refine (KN.out _ _ (HL3.out.drewN q4)).mono ?_
          rintro e w5 ⟨rfl, rfl⟩
          go_wp2_with fail
          refine (KC.out _ _ (HL3.out.drewN q4)).mono ?_
          rintro e w6 ⟨rfl, ho6, hn6⟩
          have HL6 := Lib.hid ho6
          have HN6 := Lib.hid ((HN3.out.drewN q4).near hn6 (by omega) (by omega))
          have HB6 := Lib.hid (hn6.later (bel_drewN HB3.out q4) HB3.out.size (by omega))
          have HZ6 := Lib.hid (Nat.le_trans HZ3.out hn6.size)
          clear ho6 hn6
          go_wp2_with fail
          refine (KD.out _ _ _ HN6.out).mono ?_
          rintro e w7 ⟨rfl, ho7, hn7⟩
          have HN7 := Lib.hid ho7
          have HL7 := Lib.hid (HL6.out.near hn7 (by omega) (by omega))
          have HB7 := Lib.hid (hn7.later HB6.out HB6.out.size (by have := HB2.out.size; omega))
          have HZ7 := Lib.hid (Nat.le_trans HZ6.out hn7.size)
          clear ho7 hn7
          go_wp2_with fail
          refine (KA.out _ _ HL7.out HZ7.out).mono ?_
          rintro e w8 ⟨rfl, ho8, hn8⟩
          have HN8 := Lib.hid (HN7.out.near hn8 (by omega) (by omega))
          have HB8 := Lib.hid (hn8.later HB7.out HB7.out.size (by omega))
          have HZ8 := Lib.hid (Nat.le_trans HZ7.out hn8.size)
          clear ho8 hn8
          go_wp2_with fail
          refine (KB.out _ _ _ HN8.out HZ8.out).mono ?_
          rintro e w9 ⟨rfl, ho9, hn9⟩
          have HB9 := Lib.hid (hn9.later HB8.out HB8.out.size (by have := HB2.out.size; omega))
          clear ho9 hn9
          go_wp2_with fail
          go_ret
          exact ⟨rfl, HB9.out⟩
  · go_enter Try.func6, Try.ntmps6
    go_wp2_with fail
    refine (wlives_c _).mono ?_
    rintro e w1 ⟨rfl, hl1⟩
    have hgs := hl1.size
    obtain ⟨g, hg⟩ : ∃ g, w1.heap.size = g := ⟨_, rfl⟩
    have HR0 := Lib.hid (start a1 a0 (by omega) n hl1 hg)
    have hge : w.heap.size ≤ g := by omega
    clear hl1
    go_wp2_with (go_at_call 9; refine (new_c _ _).mono ?_; rintro e w' ⟨rfl, rfl⟩)
    have HH := Lib.hid (show max a1 a0 = a0 by omega)
    clear hg hgs
    go_loopw [9, 10] (fun v i wr => ∃ k, Rel w wr (g + 2) g (g + 1) i v n k) (fun _ i _ => n - (intOf i).toNat)
    case atStart => exact ⟨0, HR0.out⟩
    case round =>
      clear HR0
      obtain ⟨k, hrel⟩ := hrel
      obtain rfl := hrel.hi
      have hk := hrel.hk
      obtain ⟨a, s, l, rfl, ha0, ha1, hs, hl, hp, hsl, hll⟩ := hrel.st
      have HBW := Lib.hid hrel.below
      have HBS := Lib.hid hrel.hB
      have HS := Lib.hid hs
      have HL := Lib.hid hl
      clear hrel hs hl
      by_cases hlt : k < n
      · have hlt0 : k < len2 := by omega
        have hlt4 : (k : Int) < 40 := by omega
        obtain ⟨x, rfl, hxb, k0⟩ := HNM.out.at' k hlt0
        generalize z2.getD k 0 = z at k0
        replace k0 : wr.cell? (x.add k) = some (.int .i64 z) := by rw [HBW.out.cell (cell_lt k0)]; exact k0
        have he : (IntKind.u64.wrap z).tmod 30 = rst 30 z := rfl
        obtain ⟨hr0, hr1⟩ := rst_bd 30 z (by omega)
        obtain ⟨hp2, hx1, hx2, hx3⟩ := pair_add (b := a + rst 30 z) hp ha0 (by omega) (by omega)
        have hb2 : a + rst 30 z ≤ 29 * ((k + 1 : Nat) : Int) := by omega
        have K1 := Lib.hid (addw_c (g + 2) g s (a + rst 30 z) wr HS.out hp.ts.f (by omega) HBS.out)
        have K2 := Lib.hid (fun W h hB => addw_c (g + 2) (g + 1) l (a + rst 30 z) W h hp.tl.f (by omega) hB)
        have hsl2 := add_len s (a + rst 30 z)
        have hll2 := add_len l (a + rst 30 z)
        have HP2 := Lib.hid hp2
        clear hp hp2
        generalize addN s (a + rst 30 z) = X at *
        generalize addN l (a + rst 30 z) = Y at *
        generalize addw s (a + rst 30 z) = s' at *
        generalize addw l (a + rst 30 z) = l' at *
        have hd1 : decide (Y < X) = false := by simp; omega
        have hd2 : decide ((X : Int) < 1) = false := by simp; omega
        have hd3 : decide (l'.l.length < s'.l.length) = false := by simp; omega
        go_wp2_with fail
        refine K1.out.mono ?_
        rintro e w2 ⟨rfl, ho2, hn2⟩
        have HS2 := Lib.hid ho2
        have HL2 := Lib.hid (HL.out.near hn2 (by omega) (by omega))
        have HB2 := Lib.hid (hn2.later HBW.out HBW.out.size hge)
        have HZ2 := Lib.hid (Nat.le_trans HBS.out hn2.size)
        clear ho2 hn2
        go_wp2_with fail
        refine (K2.out _ HL2.out HZ2.out).mono ?_
        rintro e w3 ⟨rfl, ho3, hn3⟩
        have HL3 := Lib.hid ho3
        have HS3 := Lib.hid (HS2.out.near hn3 (by omega) (by omega))
        have HB3 := Lib.hid (hn3.later HB2.out HB2.out.size (by omega))
        have HZ3 := Lib.hid (Nat.le_trans HZ2.out hn3.size)
        clear ho3 hn3
        go_wp2_with (first | (go_at_call 11; (with_reducible refine (wlen_c (g + 2) g s' _ HS3.out).mono ?_); rintro e w' ⟨rfl, rfl⟩) | (go_at_call 11; (with_reducible refine (wlen_c (g + 2) (g + 1) l' _ HL3.out).mono ?_); rintro e w' ⟨rfl, rfl⟩))
        go_roundw
        case rel => exact ⟨k + 1, by go_num, by omega, ⟨a + rst 30 z, s', l', rfl, by omega, hb2, HS3.out, HL3.out, HP2.out, by omega, by omega⟩, HB3.out, HZ3.out⟩
        case measure => simp [intOf]; omega
      · obtain rfl : n = k := by omega
        have hgd : (n < len2 ∧ decide ((n : Int) < 40) = false) ∨ decide (n < len2) = false := by
          have := HN.out
          by_cases hq : n < len2
          · exact .inl ⟨hq, by simp; omega⟩
          · exact .inr (by simpa using hq)
        have hft := hp.tl.f
        have htp := hp.tl.top
        have hca := cut_in a
        have hf1 : WF { l with l := [] } := ⟨hft.s1, hft.s2, hft.t1, hft.t2, by simp⟩
        obtain ⟨a1', a2', a3', a4'⟩ := alone { l with l := [] } a hf1 rfl (by dsimp only; omega)
        have hf2 := wf_cnt hf1 a
        generalize hl1 : ({ l with l := [] } : WN) = l1 at *
        have hl10 : l1.l = [] := by rw [← hl1]
        obtain ⟨b1', b2', b3', b4'⟩ := alone (cnt l1 a) a hf2 a3' (by omega)
        have hg1 := wf_new a0
        obtain ⟨d1', d2', d3', d4'⟩ := alone ⟨long a0, 0, []⟩ a hg1 rfl (by dsimp only; omega)
        have hg2 := wf_cnt hg1 a
        obtain ⟨e1', e2', e3', e4'⟩ := alone (cnt ⟨long a0, 0, []⟩ a) a hg2 d3' (by omega)
        have KR := reset_c (g + 2) (g + 1) l wr HL.out
        rw [hl1] at KR
        have KR := Lib.hid KR
        have KL := Lib.hid (fun B W (h : OW W B (g + 1) l1) => last_c B (g + 1) l1 W h (by rw [hl10]; decide))
        rw [show lastv l1.l = #[.int .i64 0, .bool false] from by rw [hl10]; rfl] at KL
        have KN := Lib.hid (fun B W (h : OW W B (g + 1) l1) => wlen_c B (g + 1) l1 W h)
        rw [show ((l1.l.length : Nat) : Int) = 0 from by rw [hl10]; rfl] at KN
        have KC := Lib.hid (fun B W (h : OW W B (g + 1) l1) => (count_c B (g + 1) l1 a W h.c hf1 (by rw [hl10]; decide)).mono fun _ _ h => CP.cast2 h a2')
        have KD := Lib.hid (fun B g3 W (h : OW W B g3 ⟨long a0, 0, []⟩) => (count_c B g3 ⟨long a0, 0, []⟩ a W h.c hg1 (by simp)).mono fun _ _ h => CP.cast2 h d2')
        have KA := Lib.hid (fun B W (h : OW W B (g + 1) (cnt l1 a)) hB => (addw_c B (g + 1) (cnt l1 a) a W h hf2 (by rw [a3']; decide) hB).mono fun _ _ h => CP.cast2 h b1')
        have KB := Lib.hid (fun B g3 W (h : OW W B g3 (cnt ⟨long a0, 0, []⟩ a)) hB => (addw_c B g3 (cnt ⟨long a0, 0, []⟩ a) a W h hg2 (by rw [d3']; decide) hB).mono fun _ _ h => CP.cast2 h e1')
        have HL10 := Lib.hid hl10
        have HA3 := Lib.hid a3'
        have HLF := Lib.hid (fun (W : World) (B : Nat) => new_ow a0 W B)
        clear hft htp hca hf1 a1' a2' a3' a4' hf2 hl1 hl10 b1' b2' b3' b4' hg1 d1' d2' d3' d4' hg2 e1' e2' e3' e4' hp hlt
        rcases hgd with ⟨hgd1, hgd2⟩ | hgd1
        all_goals
          go_wp2_with fail
          refine KR.out.mono ?_
          rintro e w2 ⟨rfl, ho2, hn2⟩
          have HL2 := Lib.hid (ow_lift ho2 HL10.out (show g + 1 < w2.heap.size + 1 by have := hn2.size; have := HBS.out; omega))
          have HB2 := Lib.hid (hn2.later HBW.out HBW.out.size (by omega))
          have HZ2 := Lib.hid (Nat.le_trans HBS.out hn2.size)
          clear ho2 hn2
          have HN3 := Lib.hid (HLF.out w2 (w2.heap.size + 1) (Nat.lt_succ_self _))
          have HL3 := Lib.hid (HL2.out.keep ((Below.refl w2.heap.size w2).alloc (Nat.le_refl _) (.cells #[.int .i64 (long a0), .int .i64 0, .slice none 0 0] 49)))
          have HB3 := Lib.hid (HB2.out.alloc HB2.out.size (.cells #[.int .i64 (long a0), .int .i64 0, .slice none 0 0] 49))
          have hz2 := HZ2.out
          have HZ3 := Lib.hid (show w2.heap.size + 1 ≤ (w2.alloc (.cells #[.int .i64 (long a0), .int .i64 0, .slice none 0 0] 49)).heap.size by simp)
          go_wp2_with (go_at_call 9; refine (new_c _ _).mono ?_; rintro e w' ⟨rfl, rfl⟩)
          refine (KL.out _ _ HL3.out).mono ?_
          rintro e w4 ⟨rfl, q4, rfl⟩
          go_wp2_with fail
          refine (KN.out _ _ (HL3.out.drewN q4)).mono ?_
          rintro e w5 ⟨rfl, rfl⟩
          go_wp2_with fail
          refine (KC.out _ _ (HL3.out.drewN q4)).mono ?_
          rintro e w6 ⟨rfl, ho6, hn6⟩
          have HL6 := Lib.hid ho6
          have HN6 := Lib.hid ((HN3.out.drewN q4).near hn6 (by omega) (by omega))
          have HB6 := Lib.hid (hn6.later (bel_drewN HB3.out q4) HB3.out.size (by omega))
          have HZ6 := Lib.hid (Nat.le_trans HZ3.out hn6.size)
          clear ho6 hn6
          go_wp2_with fail
          refine (KD.out _ _ _ HN6.out).mono ?_
          rintro e w7 ⟨rfl, ho7, hn7⟩
          have HN7 := Lib.hid ho7
          have HL7 := Lib.hid (HL6.out.near hn7 (by omega) (by omega))
          have HB7 := Lib.hid (hn7.later HB6.out HB6.out.size (by have := HB2.out.size; omega))
          have HZ7 := Lib.hid (Nat.le_trans HZ6.out hn7.size)
          clear ho7 hn7
          go_wp2_with fail
          refine (KA.out _ _ HL7.out HZ7.out).mono ?_
          rintro e w8 ⟨rfl, ho8, hn8⟩
          have HN8 := Lib.hid (HN7.out.near hn8 (by omega) (by omega))
          have HB8 := Lib.hid (hn8.later HB7.out HB7.out.size (by omega))
          have HZ8 := Lib.hid (Nat.le_trans HZ7.out hn8.size)
          clear ho8 hn8
          go_wp2_with fail
          refine (KB.out _ _ _ HN8.out HZ8.out).mono ?_
          rintro e w9 ⟨rfl, ho9, hn9⟩
          have HB9 := Lib.hid (hn9.later HB8.out HB8.out.size (by have := HB2.out.size; omega))
          clear ho9 hn9
          go_wp2_with fail
          go_ret
          exact ⟨rfl, HB9.out⟩

/-! ### THE ROW -/
set_option maxRecDepth 100000 in
theorem lifted (os : Os) (started : os.Started) (H : Type) (enc : TypeId × Value → H) :
    ReturnsInHanded {} Try.checked os 6 .any (Rows.windowSpansSpec.pre6 enc Try.prog Try.f6 Rows.windowSpansRow.domain false) (Rows.windowSpansSpec.post enc Try.prog Try.f6 false true false false) := by
  refine returnsInHanded_of_change (C := Try.checked) own started (by kernel_rfl) Try.func6
    (ChangeSpec.witness6 (enc := enc) (C := Try.checked) false ⟨#[], #[.int .i64 0, .int .i64 0, .slice none 0 0], []⟩ 8 (by kernel_rfl) (by kernel_rfl) (by kernel_rfl) (by kernel_rfl)) ?_
  intro W base args ds gs before hval0 hW hcnd _
  have hval : ∀ (j : Nat) t v, Try.f6.params[j]? = some t → args[j]? = some v → Value.okWide Try.prog W .any base t v := hval0
  have hW' := hW
  obtain ⟨p, q, hA0, hV, rfl, hfz, hnd⟩ := hW
  have hA : DataW.TrodAll enc Try.prog W 0 (fun _ => true) true Try.f6.params.toList args.toList ds p := hA0
  rw [Try.params6] at hA hval
  obtain ⟨v0, vs0, d0, ds0, p0, q0, hargs, rfl, rfl, h0, r0⟩ := trodAll_cons hA
  obtain ⟨v1, vs1, d1, ds1, p1, q1, rfl, rfl, rfl, h1, r1⟩ := trodAll_cons r0
  obtain ⟨v2, vs2, d2, ds2, p2, q2, rfl, rfl, rfl, h2, r2⟩ := trodAll_cons r1
  obtain ⟨rfl, rfl, rfl⟩ := trodAll_nil r2
  obtain rfl : args = #[v0, v1, v2] := by cases args; simp_all
  obtain ⟨rfl, rfl⟩ := trodVars_none hV
  obtain ⟨a0, rfl, rfl, rfl, w0⟩ := open_int Try.underlying3 (hval 0 3 v0 rfl rfl) h0
  obtain ⟨a1, rfl, rfl, rfl, w1⟩ := open_int Try.underlying3 (hval 1 3 v1 rfl rfl) h1
  obtain ⟨a2, len2, cap2, rfl⟩ := okWide_slice Try.underlying22 (hval 2 22 v2 rfl rfl)
  have k2 := h2
  have lt2 : ∀ x ∈ p2, x.block < W.heap.size := by obtain ⟨m, hm⟩ := k2; exact DataW.trod_lt m _ _ _ hm
  obtain ⟨z2, w2⟩ : ∃ zs, IsRow .i64 W a2 len2 cap2 zs := open_row Try.underlying22 Try.underlying3 (by kernel_rfl) h2
  clear hA0 hval0
  refine (walk a0 a1 a2 len2 cap2 z2 W w0 w1 w2).mono fun e W' ⟨he, bel⟩ => ?_
  subst he
  exact ⟨_, rfl, _, _, _, [], _, [], hW', trodAll_mk1 (shut_bool Try.underlying4 _), (trodAll_cons_mk (shut_int Try.underlying3 w0) (trodAll_cons_mk (shut_int Try.underlying3 w1) (trodAll_cons_mk (Below.trod laidOut (by kernel_rfl) (of_decide_eq_true (by kernel_rfl)) k2 bel lt2) trodAll_mk0))), rfl, bel.frame _, fun h => by cases h⟩

theorem over : Rows.windowSpansRow.holds Try.pinned (OpenSpec.ofChange Rows.windowSpansSpec) :=
  OpenClaim.holds_of_wide 6 Try.f6 rfl rfl rfl rfl rfl rfl rfl ⟨rfl, rfl, rfl, rfl, rfl⟩ rfl rfl rfl rfl rfl (by kernel_rfl) Try.func6 (by kernel_rfl)
    (of_decide_eq_true (by kernel_rfl)) (by unfold Func.isWrapper; first | (rw [if_pos (by decide +kernel)]; kernel_rfl) | (rw [if_neg (by decide +kernel)]; exact ⟨rfl, rfl⟩))
    (fun os started H enc _ => lifted os started H enc)

theorem proved : Rows.WindowSpansSaid := over
#print axioms proved
end Go.Proofs.Ytgonoccacbbhjaa.windowSpans
