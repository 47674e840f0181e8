/- Contracts of the references of the package window over this seat's translation. -/
import Derived.Test.YtgonoccacbbhjaaXe
namespace Go.Proofs.Ytgonoccacbbhjaa
open Go.ChangeShapes Go.WideShapes Go.ChangeAt Go.RowKit
set_option linter.unusedVariables false
abbrev rwc (n : WN) (A : Option Addr) (c : Nat) : Array Value := #[.int .i64 n.span, .slice A n.l.length c, .int .i64 n.top]
theorem rspan_c (n : Int) (w : World) : Calls Try.prog 27 #[.int .i64 n] w fun e w' => e = .returned (.int .i64 (long n)) ∧ w = w' := by
  go_enter Try.func27, Try.ntmps27
  go_wp2
  all_goals (go_ret; exact ⟨ret_int (by unfold long; omega), rfl⟩)
theorem late_c (a s t : Int) (w : World) (a0 : 0 ≤ a) (a1 : a ≤ 1099511627776) (s0 : 0 ≤ s) (s1 : s ≤ 1048576) : Calls Try.prog 29 #[.int .i64 a, .int .i64 s, .int .i64 t] w fun e w' => e = .returned (.bool (decide (t < a + s))) ∧ w = w' := by
  go_enter Try.func29, Try.ntmps29
  go_wp2
  go_ret
  exact ⟨rfl, rfl⟩
/-- Ticks that may be. -/
def Ok (l : List Int) : Prop := ∀ x ∈ l, 0 ≤ x ∧ x ≤ 1099511627776
/-- What All is at behind k ticks. -/
structure RelL (W w : World) (n : WN) (A : Option Addr) (c : Nat) (v i : Value) (k : Nat) : Prop where
  hi : i = .int .i64 (k : Int)
  hk : k ≤ n.l.length
  own : w.ownsRow (W.heap.size + 1) 3 1 v (lf n.span n.top (n.l.take k)).length (ic (lf n.span n.top (n.l.take k)))
  blk : Blk w W.heap.size 32 (rwc n A c)
  below : Below W.heap.size W w
theorem RelL.drewN {W w : World} {n : WN} {A : Option Addr} {c : Nat} {v i : Value} {k : Nat} (h : RelL W w n A c v i k) (q : Nat) : RelL W (w.drewN q) n A c v i k := ⟨h.hi, h.hk, h.own, h.blk, bel_drewN h.below q⟩
theorem blk_grown {w w' : World} {g : Nat} {t : TypeId} {cs : Array Value} {row : Option Nat} (h : Blk w g t cs) (hg : w.grownBy w' row) (hr : ∀ j, row = some j → g < j) : Blk w' g t cs :=
  (hg.block g h.lt (fun e => by have := hr g e.symm; omega)).trans h
theorem own_mono {w : World} {base base' size n : Nat} {e : TypeId} {v : Value} {xs : List Value} (h : w.ownsRow base e size v n xs) (hb : base' ≤ base) : w.ownsRow base' e size v n xs := by
  refine ⟨h.1, ?_⟩
  rcases h.2 with hn | ⟨g, cap, cur, rfl, hbg, rest⟩
  · exact .inl hn
  · exact .inr ⟨g, cap, cur, rfl, by omega, rest⟩
theorem lf_snoc (s t : Int) (l : List Int) (k : Nat) (h : k < l.length) : lf s t (l.take (k + 1)) = if t < l[k] + s then lf s t (l.take k) ++ [l[k]] else lf s t (l.take k) := by
  rw [List.take_succ_eq_append_getElem h, lf_app, lf_cons]
  split
  · rfl
  · exact List.append_nil _
def Row (l : List Int) (w : World) (e : Ending) (w' : World) : Prop := ∃ v, e = .returned v ∧ Below w.heap.size w w' ∧ w'.ownsRow w.heap.size 3 1 v l.length (ic l)
set_option maxRecDepth 100000 in
set_option maxHeartbeats 8000000 in
theorem rall_c (n : WN) (A : Option Addr) (c B : Nat) (w : World) (hi : IR w B A n.l) (hok : Ok n.l) (s0 : 0 ≤ n.span) (s1 : n.span ≤ 1048576) (hl : n.l.length ≤ 100000) :
    Calls Try.prog 19 #[.agg (rwc n A c)] w (Row (lf n.span n.top n.l) w) := by
  obtain ⟨i0, hi0, hz0, hz1, hz2⟩ := info_parts infoI
  have HI := Lib.hid hi
  have HOK := Lib.hid hok
  have HR0 := Lib.hid (show RelL w (w.alloc (.cells (rwc n A c) 32)) n A c (.slice none 0 0) (.int .i64 0) 0 from
    ⟨rfl, Nat.zero_le _, by simpa [lf, ic] using World.ownsRow_nil _ (w.heap.size + 1) 3 1, Blk.new _ _ _, (Below.refl _ _).alloc (Nat.le_refl _) _⟩)
  obtain ⟨m, hm⟩ : ∃ m, m = n.l.length := ⟨_, rfl⟩
  have HM := Lib.hid hm
  have hm5 : m ≤ 100000 := by omega
  clear hi hok hm
  go_enter Try.func19, Try.ntmps19
  go_wp2_with fail
  go_loopw [3, 4] (fun v i wr => ∃ k, RelL w wr n A c v i k) (fun _ i _ => m - (intOf i).toNat)
  case atStart => exact ⟨0, HR0.out⟩
  case round =>
    clear HR0
    obtain ⟨k, hrel⟩ := hrel
    obtain rfl := hrel.hi
    have hk := hrel.hk
    rw [← HM.out] at hk
    have c0 : wr.cell? ⟨w.heap.size, 0, none⟩ = some (.int .i64 n.span) := hrel.blk.cell 0
    have c1 : wr.cell? ⟨w.heap.size, 1, none⟩ = some (.slice A n.l.length c) := hrel.blk.cell 1
    have c2 : wr.cell? ⟨w.heap.size, 2, none⟩ = some (.int .i64 n.top) := hrel.blk.cell 2
    rw [← HM.out] at c1
    have HREL := Lib.hid hrel
    clear hrel
    by_cases hlt : k < m
    · have hlt2 : k < n.l.length := by rw [← HM.out]; exact hlt
      obtain ⟨x, rfl, hxb, cx⟩ := (HI.out.keep HREL.out.below) k hlt2
      have hxo := HOK.out (n.l[k]) (List.getElem_mem hlt2)
      have HSN := Lib.hid (lf_snoc n.span n.top n.l k hlt2)
      have hll := lf_le n.span n.top (n.l.take k)
      rw [List.length_take] at hll
      have hll2 : (lf n.span n.top (n.l.take k)).length ≤ 100000 := by omega
      clear hll
      generalize n.l[k] = y at cx hxo HSN
      obtain ⟨y0, y1⟩ := hxo
      have KL := Lib.hid (fun W => late_c y n.span n.top W y0 y1 s0 s1)
      by_cases hy : n.top < y + n.span
      · have hsn := HSN.out
        rw [if_pos hy] at hsn
        have HS := Lib.hid hsn
        rw [show decide (n.top < y + n.span) = true from by simpa using hy] at KL
        clear hsn hy
        go_wp2_with fail
        go_quiet ((go_at_call 29; exact quiet' (KL.out _)))
        have HRq := Lib.hid (HREL.out.drewN nq)
        have d0 : (wr.drewN nq).cell? ⟨w.heap.size, 0, none⟩ = some (.int .i64 n.span) := c0
        have d1 : (wr.drewN nq).cell? ⟨w.heap.size, 1, none⟩ = some (.slice (some x) m c) := c1
        have dx : (wr.drewN nq).cell? (x.add k) = some (.int .i64 y) := cx
        clear HREL c0 c1 c2 cx
        generalize wr.drewN nq = wq at *
        have HO1 := Lib.hid (HRq.out.own.alloc (.cells #[.int .i64 y] 3))
        have HB1 := Lib.hid (HRq.out.below.alloc HRq.out.below.size (.cells #[.int .i64 y] 3))
        have HK1 := Lib.hid (HRq.out.blk.alloc (.cells #[.int .i64 y] 3))
        have HC1 := Lib.hid (one_at wq y 3)
        have C5 := Lib.hid HK1.out.lt
        have C3 := Lib.hid (show (lf n.span n.top (n.l.take k)).length + 1 ≤ maxLen by unfold maxLen; omega)
        have C4 := Lib.hid (show ((lf n.span n.top (n.l.take k)).length + 1) * 8 ≤ 140737488355328 by omega)
        go_wp2_with (at_builtin; refine wpList_append_own _ rfl _ _ 22 rfl (w.heap.size + 1) 3 i0 (.int .i64 0) 1 8 Try.underlying22 hi0 hz0 hz1 hz2 rfl (by decide) _ _ _ rfl HO1.out ⟨wq.heap.size, 0, none⟩ 1 1 (ic [y]) rfl rfl HC1.out (ic_one _) C3.out C4.out C5.out ?_)
        intro v' w2 hown' hgrow _
        rw [ic_app, ← HS.out] at hown'
        have HB2 := Lib.hid (HB1.out.grown hgrow HB1.out.size (fun j hj => by have := (HO1.out.lt j hj).1; omega))
        have HK2 := Lib.hid (blk_grown HK1.out hgrow (fun j hj => by have := (HO1.out.lt j hj).1; omega))
        have HO2 := Lib.hid hown'
        clear hown' hgrow
        go_wp2_with fail
        go_roundw
        case rel => exact ⟨k + 1, by go_num, by rw [← HM.out]; exact hlt, by have := HO2.out; rwa [show (lf n.span n.top (n.l.take k)).length + 1 = (lf n.span n.top (n.l.take (k + 1))).length by rw [HS.out]; simp] at this, HK2.out, HB2.out⟩
        case measure => simp [intOf]; omega
      · have hsn := HSN.out
        rw [if_neg hy] at hsn
        have HS := Lib.hid hsn
        rw [show decide (n.top < y + n.span) = false from by simpa using hy] at KL
        clear hsn hy
        go_wp2_with fail
        go_quiet ((go_at_call 29; exact quiet' (KL.out _)))
        have HRq := Lib.hid (HREL.out.drewN nq)
        clear HREL c0 c1 c2 cx
        go_wp2_with fail
        go_roundw
        case rel => exact ⟨k + 1, by go_num, by rw [← HM.out]; exact hlt, by rw [HS.out]; exact HRq.out.own, HRq.out.blk, HRq.out.below⟩
        case measure => simp [intOf]; omega
    · obtain rfl : k = m := by omega
      have HT := Lib.hid (show n.l.take k = n.l from by rw [HM.out, List.take_length])
      go_wp2
      go_ret
      exact ⟨u3, rfl, HREL.out.below, by have := own_mono HREL.out.own (Nat.le_succ _); rwa [HT.out] at this⟩
def RC (r : WN) (A : Option Addr) (c N : Nat) (w : World) (e : Ending) (w' : World) : Prop := e = .returned (.tuple #[.agg (rwc r A c), .int .i64 (N : Int)]) ∧ Below w.heap.size w w'
theorem ok_lf {l : List Int} (h : Ok l) (s t : Int) : Ok (lf s t l) := fun x hx => h x (lf_mem hx).1
abbrev zwc : Array Value := #[.int .i64 0, .slice none 0 0, .int .i64 0]
set_option maxRecDepth 100000 in
set_option maxHeartbeats 8000000 in
theorem rcount_c (r : WN) (A : Option Addr) (c B : Nat) (now : Int) (w : World) (hi : IR w B A r.l) (hok : Ok r.l) (hf : WF ⟨r.span, r.top, []⟩) (hl : r.l.length ≤ 100000) :
    Calls Try.prog 17 #[.agg (rwc r A c), .int .i64 now] w (RC { r with top := max r.top (cut now) } A c (cntN r now) w) := by
  have s1 := hf.s1
  have s2 := hf.s2
  have t1 := hf.t1
  have t2 := hf.t2
  dsimp only at s1 s2 t1 t2
  have hc := cut_in now
  have hc0 := hc.1
  have hc1 := hc.2
  obtain ⟨T, hT⟩ : ∃ T, T = max r.top (cut now) := ⟨_, rfl⟩
  have hN : cntN r now = (lf r.span (cut now) (lf r.span T r.l)).length := by unfold cntN cnt; rw [hT]
  rw [← hT, hN]
  have hok2 := ok_lf hok r.span T
  have hll := lf_le r.span T r.l
  have KA := Lib.hid (fun (W : World) (hb : Below w.heap.size w W) => rall_c { r with top := T } A c B W (by
    intro j hj
    obtain ⟨x, hx, hxb, hxc⟩ := hi j hj
    exact ⟨x, hx, hxb, by rw [hb.cell (cell_lt hxc)]; exact hxc⟩) hok (by dsimp only; omega) s2 hl)
  dsimp only at KA
  obtain ⟨L, hL⟩ : ∃ L, L = lf r.span T r.l := ⟨_, rfl⟩
  rw [← hL] at hok2 hll KA ⊢
  have HB0 := Lib.hid (((Below.refl w.heap.size w).alloc (Nat.le_refl _) (.cells (rwc ⟨r.span, T, r.l⟩ A c) 32)).alloc (by simp) (.cells zwc 32))
  have HX0 := Lib.hid ((Blk.new w 32 (rwc ⟨r.span, T, r.l⟩ A c)).alloc (.cells zwc 32))
  have HZ0 := Lib.hid (show Blk ((w.alloc (.cells (rwc ⟨r.span, T, r.l⟩ A c) 32)).alloc (.cells zwc 32)) (w.heap.size + 1) 32 zwc from by
    have := Blk.new (w.alloc (.cells (rwc ⟨r.span, T, r.l⟩ A c) 32)) 32 zwc
    rwa [show (w.alloc (.cells (rwc ⟨r.span, T, r.l⟩ A c) 32)).heap.size = w.heap.size + 1 by simp] at this)
  have HOK := Lib.hid hok2
  have HT := Lib.hid hT
  obtain ⟨rs, rt, rl⟩ := r
  dsimp only at s1 s2 t1 t2 hll hl
  obtain ⟨m, hm⟩ : ∃ m, m = rl.length := ⟨_, rfl⟩
  have HM := Lib.hid hm
  have hT' := hT
  dsimp only at hT'
  rcases (by omega : (cut now ≤ rt ∧ T = rt) ∨ (rt < cut now ∧ T = cut now)) with ⟨hmx, ht⟩ | ⟨hmx, ht⟩
  · clear hc hT hN hok2 hL hi hok hf hT' hm
    subst ht
    go_enter Try.func17, Try.ntmps17
    go_wp2_with (go_at_call 28; refine (rcut_c _ _).mono ?_; rintro e w' ⟨rfl, rfl⟩)
    refine (KA.out _ HB0.out).mono ?_
    rintro e w2 ⟨v2, rfl, hb2, hown2⟩
    obtain ⟨A2, c2, rfl, hIR, hLn, hLc, hLm, _⟩ := IR.of_own hown2
    have HI2 := Lib.hid hIR
    have HX2 := Lib.hid (HX0.out.below hb2 (by simp; omega))
    have HZ2 := Lib.hid (HZ0.out.below hb2 (by simp))
    have HB2 := Lib.hid (HB0.out.trans (hb2.mono (by simp; omega)))
    clear hIR hown2 hb2 hLn KA HB0 HX0 HZ0 HT hmx
    obtain ⟨p, hp⟩ : ∃ p, p = L.length := ⟨_, rfl⟩
    have hp5 : p ≤ 100000 := by omega
    rw [← hp] at hLc ⊢
    have HP := Lib.hid hp
    unfold maxLen at hLm
    clear hp hll
    go_wp2_with fail
    go_loopw [6, 8] (fun v i wr => ∃ k q : Nat, i = .int .i64 k ∧ k ≤ p ∧ v = .int .i64 ((lf rs (cut now) (L.take k)).length : Nat) ∧ wr = w2.drewN q) (fun _ i _ => p - (intOf i).toNat)
    case atStart => exact ⟨0, 0, rfl, Nat.zero_le _, rfl, rfl⟩
    case round =>
      obtain ⟨k, q, rfl, hk, rfl, rfl⟩ := hrel
      have x0 : w2.cell? ⟨w.heap.size, 0, none⟩ = some (.int .i64 rs) := HX2.out.cell 0
      by_cases hlt : k < p
      · have hlt2 : k < L.length := by rw [← HP.out]; exact hlt
        obtain ⟨x, rfl, hxb, cx⟩ := HI2.out k hlt2
        have hxo := HOK.out (L[k]) (List.getElem_mem hlt2)
        have HSN := Lib.hid (lf_snoc rs (cut now) L k hlt2)
        have hq := lf_le rs (cut now) (L.take k)
        rw [List.length_take] at hq
        have hq2 : (lf rs (cut now) (L.take k)).length ≤ 100000 := by omega
        clear hq
        generalize L[k] = y at cx hxo HSN
        obtain ⟨y0, y1⟩ := hxo
        have KL := Lib.hid (fun W => late_c y rs (cut now) W y0 y1 (by omega) s2)
        by_cases hy : (cut now) < y + rs
        · have hsn := HSN.out
          rw [if_pos hy] at hsn
          have HS := Lib.hid hsn
          rw [show decide ((cut now) < y + rs) = true from by simpa using hy] at KL
          clear hsn hy
          go_wp2_with fail
          go_quiet ((go_at_call 29; first | exact quiet2 (KL.out _) | exact quiet' (KL.out _)))
          go_wp2_with fail
          go_roundw
          case rel => exact ⟨k + 1, _, by go_num, by omega, by rw [HS.out, List.length_append]; go_num, rfl⟩
          case measure => simp [intOf]; omega
        · have hsn := HSN.out
          rw [if_neg hy] at hsn
          have HS := Lib.hid hsn
          rw [show decide ((cut now) < y + rs) = false from by simpa using hy] at KL
          clear hsn hy
          go_wp2_with fail
          go_quiet ((go_at_call 29; first | exact quiet2 (KL.out _) | exact quiet' (KL.out _)))
          go_wp2_with fail
          go_roundw
          case rel => exact ⟨k + 1, _, by go_num, by omega, by rw [HS.out], rfl⟩
          case measure => simp [intOf]; omega
      · obtain rfl : k = p := by omega
        have HT2 := Lib.hid (show (lf rs (cut now) (L.take k)).length = (lf rs (cut now) L).length from by rw [HP.out, List.take_length])
        have y1 : w2.cell? ⟨w.heap.size, 1, none⟩ = some (.slice A rl.length c) := HX2.out.cell 1
        have y2 : w2.cell? ⟨w.heap.size, 2, none⟩ = some (.int .i64 T) := HX2.out.cell 2
        have z0 : w2.cell? ⟨w.heap.size + 1, 0, none⟩ = some (.int .i64 0) := HZ2.out.cell 0
        have z1 : w2.cell? ⟨w.heap.size + 1, 1, none⟩ = some (.slice none 0 0) := HZ2.out.cell 1
        have z2 : w2.cell? ⟨w.heap.size + 1, 2, none⟩ = some (.int .i64 0) := HZ2.out.cell 2
        have q0 := HZ2.out.free 0
        have q1 := HZ2.out.free 1
        have q2 := HZ2.out.free 2
        have hlt := HZ2.out.lt
        rw [HT2.out]
        go_wp2_with fail
        refine bodyPost_ret (v := .tuple #[.agg #[.int .i64 rs, .slice A rl.length c, .int .i64 T], .int .i64 ((lf rs (cut now) L).length : Nat)]) (by simp [results, Try.results17, go_sem, z0, z1, z2]) rfl ⟨rfl, ?_⟩
        repeat (refine Below.setCell ?_ (by simp) _)
        exact bel_drewN HB2.out q
  · clear hc hT hN hok2 hL hi hok hf hT' hm
    subst ht
    go_enter Try.func17, Try.ntmps17
    go_wp2_with (go_at_call 28; refine (rcut_c _ _).mono ?_; rintro e w' ⟨rfl, rfl⟩)
    refine (KA.out _ HB0.out).mono ?_
    rintro e w2 ⟨v2, rfl, hb2, hown2⟩
    obtain ⟨A2, c2, rfl, hIR, hLn, hLc, hLm, _⟩ := IR.of_own hown2
    have HI2 := Lib.hid hIR
    have HX2 := Lib.hid (HX0.out.below hb2 (by simp; omega))
    have HZ2 := Lib.hid (HZ0.out.below hb2 (by simp))
    have HB2 := Lib.hid (HB0.out.trans (hb2.mono (by simp; omega)))
    clear hIR hown2 hb2 hLn KA HB0 HX0 HZ0 HT hmx
    obtain ⟨p, hp⟩ : ∃ p, p = L.length := ⟨_, rfl⟩
    have hp5 : p ≤ 100000 := by omega
    rw [← hp] at hLc ⊢
    have HP := Lib.hid hp
    unfold maxLen at hLm
    clear hp hll
    go_wp2_with fail
    go_loopw [6, 8] (fun v i wr => ∃ k q : Nat, i = .int .i64 k ∧ k ≤ p ∧ v = .int .i64 ((lf rs (cut now) (L.take k)).length : Nat) ∧ wr = w2.drewN q) (fun _ i _ => p - (intOf i).toNat)
    case atStart => exact ⟨0, 0, rfl, Nat.zero_le _, rfl, rfl⟩
    case round =>
      obtain ⟨k, q, rfl, hk, rfl, rfl⟩ := hrel
      have x0 : w2.cell? ⟨w.heap.size, 0, none⟩ = some (.int .i64 rs) := HX2.out.cell 0
      by_cases hlt : k < p
      · have hlt2 : k < L.length := by rw [← HP.out]; exact hlt
        obtain ⟨x, rfl, hxb, cx⟩ := HI2.out k hlt2
        have hxo := HOK.out (L[k]) (List.getElem_mem hlt2)
        have HSN := Lib.hid (lf_snoc rs (cut now) L k hlt2)
        have hq := lf_le rs (cut now) (L.take k)
        rw [List.length_take] at hq
        have hq2 : (lf rs (cut now) (L.take k)).length ≤ 100000 := by omega
        clear hq
        generalize L[k] = y at cx hxo HSN
        obtain ⟨y0, y1⟩ := hxo
        have KL := Lib.hid (fun W => late_c y rs (cut now) W y0 y1 (by omega) s2)
        by_cases hy : (cut now) < y + rs
        · have hsn := HSN.out
          rw [if_pos hy] at hsn
          have HS := Lib.hid hsn
          rw [show decide ((cut now) < y + rs) = true from by simpa using hy] at KL
          clear hsn hy
          go_wp2_with fail
          go_quiet ((go_at_call 29; first | exact quiet2 (KL.out _) | exact quiet' (KL.out _)))
          go_wp2_with fail
          go_roundw
          case rel => exact ⟨k + 1, _, by go_num, by omega, by rw [HS.out, List.length_append]; go_num, rfl⟩
          case measure => simp [intOf]; omega
        · have hsn := HSN.out
          rw [if_neg hy] at hsn
          have HS := Lib.hid hsn
          rw [show decide ((cut now) < y + rs) = false from by simpa using hy] at KL
          clear hsn hy
          go_wp2_with fail
          go_quiet ((go_at_call 29; first | exact quiet2 (KL.out _) | exact quiet' (KL.out _)))
          go_wp2_with fail
          go_roundw
          case rel => exact ⟨k + 1, _, by go_num, by omega, by rw [HS.out], rfl⟩
          case measure => simp [intOf]; omega
      · obtain rfl : k = p := by omega
        have HT2 := Lib.hid (show (lf rs (cut now) (L.take k)).length = (lf rs (cut now) L).length from by rw [HP.out, List.take_length])
        have y1 : w2.cell? ⟨w.heap.size, 1, none⟩ = some (.slice A rl.length c) := HX2.out.cell 1
        have y2 : w2.cell? ⟨w.heap.size, 2, none⟩ = some (.int .i64 (cut now)) := HX2.out.cell 2
        have z0 : w2.cell? ⟨w.heap.size + 1, 0, none⟩ = some (.int .i64 0) := HZ2.out.cell 0
        have z1 : w2.cell? ⟨w.heap.size + 1, 1, none⟩ = some (.slice none 0 0) := HZ2.out.cell 1
        have z2 : w2.cell? ⟨w.heap.size + 1, 2, none⟩ = some (.int .i64 0) := HZ2.out.cell 2
        have q0 := HZ2.out.free 0
        have q1 := HZ2.out.free 1
        have q2 := HZ2.out.free 2
        have hlt := HZ2.out.lt
        rw [HT2.out]
        go_wp2_with fail
        refine bodyPost_ret (v := .tuple #[.agg #[.int .i64 rs, .slice A rl.length c, .int .i64 (cut now)], .int .i64 ((lf rs (cut now) L).length : Nat)]) (by simp [results, Try.results17, go_sem, z0, z1, z2]) rfl ⟨rfl, ?_⟩
        repeat (refine Below.setCell ?_ (by simp) _)
        exact bel_drewN HB2.out q
theorem rnew_c (n : Int) (w : World) : Calls Try.prog 13 #[.int .i64 n] w fun e w' => e = .returned (.agg #[.int .i64 (long n), .slice none 0 0, .int .i64 0]) ∧ Below w.heap.size w w' := by
  go_enter Try.func13, Try.ntmps13
  go_wp2_with (go_at_call 27; refine (rspan_c _ _).mono ?_; rintro e w' ⟨rfl, rfl⟩)
  exact bodyPost_ret (v := .agg #[.int .i64 (long n), .slice none 0 0, .int .i64 0]) (by simp [results, Try.results13, go_sem]) rfl ⟨rfl, (Below.refl _ _).alloc (Nat.le_refl _) _⟩
/-- What becomes of the reference's window when a tick is added. -/
def radd (r : WN) (at' : Int) : WN := { r with l := lf r.span r.top r.l ++ [tick { r with l := lf r.span r.top r.l } at'] }
def rtick (r : WN) (at' : Int) : Int := tick { r with l := lf r.span r.top r.l } at'
theorem ir_mono {w : World} {B B' : Nat} {A : Option Addr} {l : List Int} (h : IR w B A l) (hB : B' ≤ B) : IR w B' A l := fun j hj => by
  obtain ⟨x, hx, hxb, hxc⟩ := h j hj
  exact ⟨x, hx, by omega, hxc⟩
def RA (r : WN) (at' : Int) (w : World) (e : Ending) (w' : World) : Prop :=
  ∃ A c, e = .returned (.tuple #[.agg (rwc { (radd r at') with top := max r.top (cut (rtick r at')) } A c), .int .i64 (cntN (radd r at') (rtick r at') : Nat)]) ∧ Below w.heap.size w w' ∧ IR w' w.heap.size A (radd r at').l
set_option maxRecDepth 100000 in
set_option maxHeartbeats 8000000 in
theorem wradd_c (r : WN) (A : Option Addr) (c B : Nat) (at' : Int) (w : World) (hi : IR w B A r.l) (hok : Ok r.l) (hf : WF ⟨r.span, r.top, []⟩) (hl : r.l.length ≤ 10000) :
    Calls Try.prog 16 #[.agg (rwc r A c), .int .i64 at'] w (RA r at' w) := by
  obtain ⟨i0, hi0, hz0, hz1, hz2⟩ := info_parts infoI
  have s1 := hf.s1
  have s2 := hf.s2
  dsimp only at s1 s2
  have hc := cut_in at'
  have hll := lf_le r.span r.top r.l
  have hok2 := ok_lf hok r.span r.top
  have KA := Lib.hid (fun (W : World) (hb : Below w.heap.size w W) => rall_c r A c B W (hi.keep hb) hok (by omega) s2 (by omega))
  obtain ⟨L, hL⟩ : ∃ L, L = lf r.span r.top r.l := ⟨_, rfl⟩
  obtain ⟨T, hT⟩ : ∃ T, T = rtick r at' := ⟨_, rfl⟩
  have hT2 := hT
  unfold rtick tick at hT2
  dsimp only at hT2
  rw [← hL] at hT2
  have hra : radd r at' = { r with l := L ++ [T] } := by unfold radd; rw [← hL]; rw [hT, hL]; rfl
  have hLok : ∀ v, L.getLast? = some v → 0 ≤ v ∧ v ≤ 1099511627776 := fun v hv => by
    rw [hL] at hv; exact hok2 v (List.mem_of_getLast? hv)
  have hTok : 0 ≤ T ∧ T ≤ 1099511627776 := by
    by_cases h0 : L = []
    · rw [if_pos h0] at hT2; omega
    · rw [if_neg h0] at hT2
      cases hh : L.getLast? with
      | none => exact absurd (List.getLast?_eq_none_iff.1 hh) h0
      | some v => rw [hh] at hT2; have := hLok v hh; have e : (some v).getD 0 = v := rfl; rw [e] at hT2; omega
  have hok3 : Ok (L ++ [T]) := fun x hx => by
    rcases List.mem_append.1 hx with hx | hx
    · rw [hL] at hx; exact hok2 x hx
    · simp at hx; rw [hx]; exact hTok
  rw [← hL] at hll KA
  have KC := Lib.hid (fun (W : World) (A' : Option Addr) (c' B' : Nat) (h : IR W B' A' (L ++ [T])) => rcount_c { r with l := L ++ [T] } A' c' B' T W h hok3 hf (by simp; omega))
  have HRA := Lib.hid (show RA r at' w = fun e w' => ∃ A c, e = .returned (.tuple #[.agg (rwc { r with l := L ++ [T], top := max r.top (cut T) } A c), .int .i64 (cntN { r with l := L ++ [T] } T : Nat)]) ∧ Below w.heap.size w w' ∧ IR w' w.heap.size A (L ++ [T]) from by
    unfold RA; rw [hra, ← hT])
  have HB0 := Lib.hid (((Below.refl w.heap.size w).alloc (Nat.le_refl _) (.cells (rwc r A c) 32)).alloc (by simp) (.cells zwc 32))
  have HX0 := Lib.hid ((Blk.new w 32 (rwc r A c)).alloc (.cells zwc 32))
  have HZ0 := Lib.hid (show Blk ((w.alloc (.cells (rwc r A c) 32)).alloc (.cells zwc 32)) (w.heap.size + 1) 32 zwc from by
    have := Blk.new (w.alloc (.cells (rwc r A c) 32)) 32 zwc
    rwa [show (w.alloc (.cells (rwc r A c) 32)).heap.size = w.heap.size + 1 by simp] at this)
  obtain ⟨rs, rt, rl⟩ := r
  dsimp only at s1 s2 hll hl
  obtain ⟨p, hp⟩ : ∃ p, p = L.length := ⟨_, rfl⟩
  have HP := Lib.hid hp.symm
  have hpl : p ≤ 10000 := by omega
  by_cases h0 : L = []
  · rw [if_pos h0] at hT2
    have hlen : decide (0 < p) = false := by rw [hp, h0]; rfl
    clear hT hra hLok hok3 hok2 hL h0
    subst hT2
    go_enter Try.func16, Try.ntmps16
    go_wp2_with (go_at_call 28; refine (rcut_c _ _).mono ?_; rintro e w' ⟨rfl, rfl⟩)
    refine (KA.out _ HB0.out).mono ?_
    rintro e w2 ⟨v2, rfl, hb2, hown2⟩
    obtain ⟨A2, c2, rfl, hIR, hLn, hLc, hLm, hno⟩ := IR.of_own hown2
    clear hno hLn
    have HX2 := Lib.hid (HX0.out.below hb2 (by simp; omega))
    have HZ2 := Lib.hid (HZ0.out.below hb2 (by simp))
    have HB2 := Lib.hid (HB0.out.trans (hb2.mono (by simp; omega)))
    have HO2 := Lib.hid (own_mono hown2 (show w.heap.size + 2 ≤ _ by simp))
    have HS2 := Lib.hid (show w.heap.size + 2 ≤ w2.heap.size by have := hb2.size; simp at this; omega)
    have HIR := Lib.hid hIR
    rw [← hp] at HO2 hLc ⊢
    clear hown2 hb2 KA HB0 HX0 HZ0 hIR
    clear hp hll
    unfold maxLen at hLm
    have HO3 := Lib.hid (HO2.out.alloc (.cells #[.int .i64 (cut at')] 3))
    have HB3 := Lib.hid (HB2.out.alloc HB2.out.size (.cells #[.int .i64 (cut at')] 3))
    have HX3 := Lib.hid (HX2.out.alloc (.cells #[.int .i64 (cut at')] 3))
    have HZ3 := Lib.hid (HZ2.out.alloc (.cells #[.int .i64 (cut at')] 3))
    have HC3 := Lib.hid (one_at w2 (cut at') 3)
    have C5 := Lib.hid (show w.heap.size + 2 ≤ (w2.alloc (.cells #[.int .i64 (cut at')] 3)).heap.size by have := HS2.out; simp; omega)
    have C3 := Lib.hid (show p + 1 ≤ maxLen by unfold maxLen; omega)
    have C4 := Lib.hid (show (p + 1) * 8 ≤ 140737488355328 by omega)
    go_wp2_with (at_builtin; refine wpList_append_own _ rfl _ _ 22 rfl (w.heap.size + 2) 3 i0 (.int .i64 0) 1 8 Try.underlying22 hi0 hz0 hz1 hz2 rfl (by decide) _ _ _ rfl HO3.out ⟨w2.heap.size, 0, none⟩ 1 1 (ic [(cut at')]) rfl rfl HC3.out (ic_one _) C3.out C4.out C5.out ?_)
    intro v' w3 hown' hgrow _
    rw [ic_app] at hown'
    have HB4 := Lib.hid (HB3.out.grown hgrow HB3.out.size (fun j hj => by have := (HO3.out.lt j hj).1; omega))
    have hx4 := blk_grown HX3.out hgrow (fun j hj => by have := (HO3.out.lt j hj).1; omega)
    have hz4 := blk_grown HZ3.out hgrow (fun j hj => by have := (HO3.out.lt j hj).1; omega)
    obtain ⟨A4, c4, rfl, hIR4, hL4, _, _, _⟩ := IR.of_own hown'
    have x1 : w3.cell? ⟨w.heap.size, 1, none⟩ = some (.slice A rl.length c) := hx4.cell 1
    have f1 := hx4.free 1
    have HX5 := Lib.hid (show Blk (w3.setCell ⟨w.heap.size, 1, none⟩ (.slice A4 (p + 1) c4)) w.heap.size 32 #[.int .i64 rs, .slice A4 (p + 1) c4, .int .i64 rt] from hx4.set 1 _)
    have HN5 := (Near.refl w.heap.size w3).set 1 (.slice A4 (p + 1) c4)
    have HZ5 := Lib.hid (hz4.near HN5 (by omega))
    have HI5 := Lib.hid (hIR4.near HN5 (by omega))
    have HB5 := Lib.hid (HB4.out.setCell (p := ⟨w.heap.size, 1, none⟩) (Nat.le_refl _) (.slice A4 (p + 1) c4))
    have y0 : w3.cell? ⟨w.heap.size, 0, none⟩ = some (.int .i64 rs) := hx4.cell 0
    have y2 : w3.cell? ⟨w.heap.size, 2, none⟩ = some (.int .i64 rt) := hx4.cell 2
    have hxl := hx4.lt
    have KC5 := KC.out (w3.setCell ⟨w.heap.size, 1, none⟩ (.slice A4 (p + 1) c4)) A4 c4 _ HI5.out
    rw [show rwc ⟨rs, rt, L ++ [(cut at')]⟩ A4 c4 = #[.int .i64 rs, .slice A4 (p + 1) c4, .int .i64 rt] from by simp [rwc, HP.out]] at KC5
    have KC6 := Lib.hid KC5
    clear hown' hgrow hx4 hz4 hIR4 hL4 HN5 KC5 KC HO3 HB3 HX3 HZ3 HC3 C3 C4 C5 HO2 HX2 HZ2 HB2 HS2 HIR
    go_wp2_with fail
    refine KC6.out.mono ?_
    rintro e w6 ⟨rfl, hb6⟩
    have hz6 := HZ5.out.below hb6 HZ5.out.lt
    have z0 : w6.cell? ⟨w.heap.size + 1, 0, none⟩ = some (.int .i64 0) := hz6.cell 0
    have z1 : w6.cell? ⟨w.heap.size + 1, 1, none⟩ = some (.slice none 0 0) := hz6.cell 1
    have z2 : w6.cell? ⟨w.heap.size + 1, 2, none⟩ = some (.int .i64 0) := hz6.cell 2
    have q0 := hz6.free 0
    have q1 := hz6.free 1
    have q2 := hz6.free 2
    have hzl := hz6.lt
    have HB6 := Lib.hid (HB5.out.trans (hb6.mono HB5.out.size))
    have HI6 := Lib.hid (HI5.out.keep hb6)
    clear hb6 hz6
    dsimp only [rwc]
    go_wp2_with fail
    refine bodyPost_ret (v := .tuple #[.agg #[.int .i64 rs, .slice A4 (p + 1) c4, .int .i64 (max rt (cut (cut at')))], .int .i64 (cntN ⟨rs, rt, L ++ [(cut at')]⟩ (cut at') : Nat)]) (by simp [results, Try.results16, go_sem, z0, z1, z2, HP.out]) rfl ?_
    rw [HRA.out]
    refine ⟨A4, c4, by simp [rwc, HP.out], ?_, fun j hj => ?_⟩
    · repeat (refine Below.setCell ?_ (by simp) _)
      exact HB6.out
    · exact (ir_mono (IR.near HI6.out ((((Near.refl (w.heap.size + 1) w6).set 0 _).set 1 _).set 2 _) (Nat.lt_succ_self _)) (show w.heap.size ≤ _ by omega)) j hj
  · rw [if_neg h0] at hT2
    have hp0 : 0 < p := by rw [hp]; exact List.length_pos_iff.2 h0
    have hlast : L.getLast?.getD 0 = L[p - 1]'(by omega) := by
      have h1 : L.length - 1 = p - 1 := by omega
      rw [List.getLast?_eq_getElem?, h1, List.getElem?_eq_getElem]; rfl
    rw [hlast] at hT2
    obtain ⟨p1, hp1⟩ : ∃ p1, p = p1 + 1 := ⟨p - 1, by omega⟩
    subst hp1
    have hlt : p1 < L.length := by omega
    generalize hv : L[p1 + 1 - 1]'(by omega) = v at hT2
    have HV := Lib.hid (show L[p1]'hlt = v from hv)
    have hpp : p1 ≤ 10000 := by omega
    clear hv hlast
    rcases (by omega : (v ≤ cut at' ∧ T = cut at') ∨ (cut at' < v ∧ T = v)) with ⟨hm, ht⟩ | ⟨hm, ht⟩
    · clear hT hra hLok hok3 hok2 hL h0 hT2
      subst ht
      go_enter Try.func16, Try.ntmps16
      go_wp2_with (go_at_call 28; refine (rcut_c _ _).mono ?_; rintro e w' ⟨rfl, rfl⟩)
      refine (KA.out _ HB0.out).mono ?_
      rintro e w2 ⟨v2, rfl, hb2, hown2⟩
      obtain ⟨A2, c2, rfl, hIR, hLn, hLc, hLm, hno⟩ := IR.of_own hown2
      clear hno hLn
      have HX2 := Lib.hid (HX0.out.below hb2 (by simp; omega))
      have HZ2 := Lib.hid (HZ0.out.below hb2 (by simp))
      have HB2 := Lib.hid (HB0.out.trans (hb2.mono (by simp; omega)))
      have HO2 := Lib.hid (own_mono hown2 (show w.heap.size + 2 ≤ _ by simp))
      have HS2 := Lib.hid (show w.heap.size + 2 ≤ w2.heap.size by have := hb2.size; simp at this; omega)
      have HIR := Lib.hid hIR
      rw [← hp] at HO2 hLc ⊢
      clear hown2 hb2 KA HB0 HX0 HZ0 hIR
      obtain ⟨xa, rfl, _, cx⟩ := HIR.out p1 (by rw [HP.out]; omega)
      rw [HV.out] at cx
      clear hp hll
      unfold maxLen at hLm
      have HO3 := Lib.hid (HO2.out.alloc (.cells #[.int .i64 (cut at')] 3))
      have HB3 := Lib.hid (HB2.out.alloc HB2.out.size (.cells #[.int .i64 (cut at')] 3))
      have HX3 := Lib.hid (HX2.out.alloc (.cells #[.int .i64 (cut at')] 3))
      have HZ3 := Lib.hid (HZ2.out.alloc (.cells #[.int .i64 (cut at')] 3))
      have HC3 := Lib.hid (one_at w2 (cut at') 3)
      have C5 := Lib.hid (show w.heap.size + 2 ≤ (w2.alloc (.cells #[.int .i64 (cut at')] 3)).heap.size by have := HS2.out; simp; omega)
      have C3 := Lib.hid (show p1 + 1 + 1 ≤ maxLen by unfold maxLen; omega)
      have C4 := Lib.hid (show (p1 + 1 + 1) * 8 ≤ 140737488355328 by omega)
      go_wp2_with (at_builtin; refine wpList_append_own _ rfl _ _ 22 rfl (w.heap.size + 2) 3 i0 (.int .i64 0) 1 8 Try.underlying22 hi0 hz0 hz1 hz2 rfl (by decide) _ _ _ rfl HO3.out ⟨w2.heap.size, 0, none⟩ 1 1 (ic [(cut at')]) rfl rfl HC3.out (ic_one _) C3.out C4.out C5.out ?_)
      intro v' w3 hown' hgrow _
      rw [ic_app] at hown'
      have HB4 := Lib.hid (HB3.out.grown hgrow HB3.out.size (fun j hj => by have := (HO3.out.lt j hj).1; omega))
      have hx4 := blk_grown HX3.out hgrow (fun j hj => by have := (HO3.out.lt j hj).1; omega)
      have hz4 := blk_grown HZ3.out hgrow (fun j hj => by have := (HO3.out.lt j hj).1; omega)
      obtain ⟨A4, c4, rfl, hIR4, hL4, _, _, _⟩ := IR.of_own hown'
      have x1 : w3.cell? ⟨w.heap.size, 1, none⟩ = some (.slice A rl.length c) := hx4.cell 1
      have f1 := hx4.free 1
      have HX5 := Lib.hid (show Blk (w3.setCell ⟨w.heap.size, 1, none⟩ (.slice A4 (p1 + 1 + 1) c4)) w.heap.size 32 #[.int .i64 rs, .slice A4 (p1 + 1 + 1) c4, .int .i64 rt] from hx4.set 1 _)
      have HN5 := (Near.refl w.heap.size w3).set 1 (.slice A4 (p1 + 1 + 1) c4)
      have HZ5 := Lib.hid (hz4.near HN5 (by omega))
      have HI5 := Lib.hid (hIR4.near HN5 (by omega))
      have HB5 := Lib.hid (HB4.out.setCell (p := ⟨w.heap.size, 1, none⟩) (Nat.le_refl _) (.slice A4 (p1 + 1 + 1) c4))
      have y0 : w3.cell? ⟨w.heap.size, 0, none⟩ = some (.int .i64 rs) := hx4.cell 0
      have y2 : w3.cell? ⟨w.heap.size, 2, none⟩ = some (.int .i64 rt) := hx4.cell 2
      have hxl := hx4.lt
      have KC5 := KC.out (w3.setCell ⟨w.heap.size, 1, none⟩ (.slice A4 (p1 + 1 + 1) c4)) A4 c4 _ HI5.out
      rw [show rwc ⟨rs, rt, L ++ [(cut at')]⟩ A4 c4 = #[.int .i64 rs, .slice A4 (p1 + 1 + 1) c4, .int .i64 rt] from by simp [rwc, HP.out]] at KC5
      have KC6 := Lib.hid KC5
      clear hown' hgrow hx4 hz4 hIR4 hL4 HN5 KC5 KC HO3 HB3 HX3 HZ3 HC3 C3 C4 C5 HO2 HX2 HZ2 HB2 HS2 HIR
      go_wp2_with fail
      refine KC6.out.mono ?_
      rintro e w6 ⟨rfl, hb6⟩
      have hz6 := HZ5.out.below hb6 HZ5.out.lt
      have z0 : w6.cell? ⟨w.heap.size + 1, 0, none⟩ = some (.int .i64 0) := hz6.cell 0
      have z1 : w6.cell? ⟨w.heap.size + 1, 1, none⟩ = some (.slice none 0 0) := hz6.cell 1
      have z2 : w6.cell? ⟨w.heap.size + 1, 2, none⟩ = some (.int .i64 0) := hz6.cell 2
      have q0 := hz6.free 0
      have q1 := hz6.free 1
      have q2 := hz6.free 2
      have hzl := hz6.lt
      have HB6 := Lib.hid (HB5.out.trans (hb6.mono HB5.out.size))
      have HI6 := Lib.hid (HI5.out.keep hb6)
      clear hb6 hz6
      dsimp only [rwc]
      go_wp2_with fail
      refine bodyPost_ret (v := .tuple #[.agg #[.int .i64 rs, .slice A4 (p1 + 1 + 1) c4, .int .i64 (max rt (cut (cut at')))], .int .i64 (cntN ⟨rs, rt, L ++ [(cut at')]⟩ (cut at') : Nat)]) (by simp [results, Try.results16, go_sem, z0, z1, z2, HP.out]) rfl ?_
      rw [HRA.out]
      refine ⟨A4, c4, by simp [rwc, HP.out], ?_, fun j hj => ?_⟩
      · repeat (refine Below.setCell ?_ (by simp) _)
        exact HB6.out
      · exact (ir_mono (IR.near HI6.out ((((Near.refl (w.heap.size + 1) w6).set 0 _).set 1 _).set 2 _) (Nat.lt_succ_self _)) (show w.heap.size ≤ _ by omega)) j hj
    · clear hT hra hLok hok3 hok2 hL h0 hT2
      subst ht
      go_enter Try.func16, Try.ntmps16
      go_wp2_with (go_at_call 28; refine (rcut_c _ _).mono ?_; rintro e w' ⟨rfl, rfl⟩)
      refine (KA.out _ HB0.out).mono ?_
      rintro e w2 ⟨v2, rfl, hb2, hown2⟩
      obtain ⟨A2, c2, rfl, hIR, hLn, hLc, hLm, hno⟩ := IR.of_own hown2
      clear hno hLn
      have HX2 := Lib.hid (HX0.out.below hb2 (by simp; omega))
      have HZ2 := Lib.hid (HZ0.out.below hb2 (by simp))
      have HB2 := Lib.hid (HB0.out.trans (hb2.mono (by simp; omega)))
      have HO2 := Lib.hid (own_mono hown2 (show w.heap.size + 2 ≤ _ by simp))
      have HS2 := Lib.hid (show w.heap.size + 2 ≤ w2.heap.size by have := hb2.size; simp at this; omega)
      have HIR := Lib.hid hIR
      rw [← hp] at HO2 hLc ⊢
      clear hown2 hb2 KA HB0 HX0 HZ0 hIR
      obtain ⟨xa, rfl, _, cx⟩ := HIR.out p1 (by rw [HP.out]; omega)
      rw [HV.out] at cx
      clear hp hll
      unfold maxLen at hLm
      have HO3 := Lib.hid (HO2.out.alloc (.cells #[.int .i64 T] 3))
      have HB3 := Lib.hid (HB2.out.alloc HB2.out.size (.cells #[.int .i64 T] 3))
      have HX3 := Lib.hid (HX2.out.alloc (.cells #[.int .i64 T] 3))
      have HZ3 := Lib.hid (HZ2.out.alloc (.cells #[.int .i64 T] 3))
      have HC3 := Lib.hid (one_at w2 T 3)
      have C5 := Lib.hid (show w.heap.size + 2 ≤ (w2.alloc (.cells #[.int .i64 T] 3)).heap.size by have := HS2.out; simp; omega)
      have C3 := Lib.hid (show p1 + 1 + 1 ≤ maxLen by unfold maxLen; omega)
      have C4 := Lib.hid (show (p1 + 1 + 1) * 8 ≤ 140737488355328 by omega)
      go_wp2_with (at_builtin; refine wpList_append_own _ rfl _ _ 22 rfl (w.heap.size + 2) 3 i0 (.int .i64 0) 1 8 Try.underlying22 hi0 hz0 hz1 hz2 rfl (by decide) _ _ _ rfl HO3.out ⟨w2.heap.size, 0, none⟩ 1 1 (ic [T]) rfl rfl HC3.out (ic_one _) C3.out C4.out C5.out ?_)
      intro v' w3 hown' hgrow _
      rw [ic_app] at hown'
      have HB4 := Lib.hid (HB3.out.grown hgrow HB3.out.size (fun j hj => by have := (HO3.out.lt j hj).1; omega))
      have hx4 := blk_grown HX3.out hgrow (fun j hj => by have := (HO3.out.lt j hj).1; omega)
      have hz4 := blk_grown HZ3.out hgrow (fun j hj => by have := (HO3.out.lt j hj).1; omega)
      obtain ⟨A4, c4, rfl, hIR4, hL4, _, _, _⟩ := IR.of_own hown'
      have x1 : w3.cell? ⟨w.heap.size, 1, none⟩ = some (.slice A rl.length c) := hx4.cell 1
      have f1 := hx4.free 1
      have HX5 := Lib.hid (show Blk (w3.setCell ⟨w.heap.size, 1, none⟩ (.slice A4 (p1 + 1 + 1) c4)) w.heap.size 32 #[.int .i64 rs, .slice A4 (p1 + 1 + 1) c4, .int .i64 rt] from hx4.set 1 _)
      have HN5 := (Near.refl w.heap.size w3).set 1 (.slice A4 (p1 + 1 + 1) c4)
      have HZ5 := Lib.hid (hz4.near HN5 (by omega))
      have HI5 := Lib.hid (hIR4.near HN5 (by omega))
      have HB5 := Lib.hid (HB4.out.setCell (p := ⟨w.heap.size, 1, none⟩) (Nat.le_refl _) (.slice A4 (p1 + 1 + 1) c4))
      have y0 : w3.cell? ⟨w.heap.size, 0, none⟩ = some (.int .i64 rs) := hx4.cell 0
      have y2 : w3.cell? ⟨w.heap.size, 2, none⟩ = some (.int .i64 rt) := hx4.cell 2
      have hxl := hx4.lt
      have KC5 := KC.out (w3.setCell ⟨w.heap.size, 1, none⟩ (.slice A4 (p1 + 1 + 1) c4)) A4 c4 _ HI5.out
      rw [show rwc ⟨rs, rt, L ++ [T]⟩ A4 c4 = #[.int .i64 rs, .slice A4 (p1 + 1 + 1) c4, .int .i64 rt] from by simp [rwc, HP.out]] at KC5
      have KC6 := Lib.hid KC5
      clear hown' hgrow hx4 hz4 hIR4 hL4 HN5 KC5 KC HO3 HB3 HX3 HZ3 HC3 C3 C4 C5 HO2 HX2 HZ2 HB2 HS2 HIR
      go_wp2_with fail
      refine KC6.out.mono ?_
      rintro e w6 ⟨rfl, hb6⟩
      have hz6 := HZ5.out.below hb6 HZ5.out.lt
      have z0 : w6.cell? ⟨w.heap.size + 1, 0, none⟩ = some (.int .i64 0) := hz6.cell 0
      have z1 : w6.cell? ⟨w.heap.size + 1, 1, none⟩ = some (.slice none 0 0) := hz6.cell 1
      have z2 : w6.cell? ⟨w.heap.size + 1, 2, none⟩ = some (.int .i64 0) := hz6.cell 2
      have q0 := hz6.free 0
      have q1 := hz6.free 1
      have q2 := hz6.free 2
      have hzl := hz6.lt
      have HB6 := Lib.hid (HB5.out.trans (hb6.mono HB5.out.size))
      have HI6 := Lib.hid (HI5.out.keep hb6)
      clear hb6 hz6
      dsimp only [rwc]
      go_wp2_with fail
      refine bodyPost_ret (v := .tuple #[.agg #[.int .i64 rs, .slice A4 (p1 + 1 + 1) c4, .int .i64 (max rt (cut T))], .int .i64 (cntN ⟨rs, rt, L ++ [T]⟩ T : Nat)]) (by simp [results, Try.results16, go_sem, z0, z1, z2, HP.out]) rfl ?_
      rw [HRA.out]
      refine ⟨A4, c4, by simp [rwc, HP.out], ?_, fun j hj => ?_⟩
      · repeat (refine Below.setCell ?_ (by simp) _)
        exact HB6.out
      · exact (ir_mono (IR.near HI6.out ((((Near.refl (w.heap.size + 1) w6).set 0 _).set 1 _).set 2 _) (Nat.lt_succ_self _)) (show w.heap.size ≤ _ by omega)) j hj
end Go.Proofs.Ytgonoccacbbhjaa
