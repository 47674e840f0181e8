/-
  Proved: of every number and every script of steps 'hostlerlaw06.WindowPlays' returns true: no condition.
  The frame is written by this session's frame.py, after the kit's proof-skeleton.mjs.
-/
import Derived.Test.YtgonoccacbbhjaaXg
namespace Go.Proofs.Ytgonoccacbbhjaa.windowPlays
open Go.ChangeShapes Go.WideShapes Go.ChangeAt Go.RowKit
set_option linter.unusedVariables false
theorem own : ownKnob Try.prog.godebug = none := by kernel_rfl
theorem laidOut : laidOutB Try.prog = true := by kernel_rfl

structure Rel (W w : World) (g b : Nat) (i : Value) (n k : Nat) : Prop where
  hi : i = .int .i64 k
  hk : k ≤ n
  st : ∃ r : WN, StP W w g b r k
/-- What the step has done: the same of both. -/
structure Did (W w : World) (g b k : Nat) (r2 : WN) : Prop where
  st : StP W w g b r2 (k + 1)

/-! ### STEP 1 -/
set_option maxRecDepth 100000 in
set_option maxHeartbeats 32000000 in
theorem walk (a0 : Int) (a1 : Option Addr) (len1 cap1 : Nat) (z1 : List (Int × Int)) (w : World) (w0 : (Lit.int .i64 a0).wf = true) (w1 : IsRecs_ii w a1 len1 cap1 z1) :
    Calls Try.prog 4 #[.int .i64 a0, .slice a1 len1 cap1] w fun e w' => e = .returned (.bool true) ∧ Below w.heap.size w w' := by
  have hst := steps_of w1
  have HST := Lib.hid hst
  obtain ⟨n, hn⟩ : ∃ n, n = min len1 100 := ⟨_, rfl⟩
  have hn1 : n ≤ 100 := by omega
  have hn2 : n ≤ len1 := by omega
  have HE := Lib.hid (fun W => early6_c a1 len1 cap1 n W hn hst.lc hst.lm)
  clear w0 w1 hst hn
  go_enter Try.func4, Try.ntmps4
  go_wp2_with fail
  refine (wlives_c _).mono ?_
  rintro e w1 ⟨rfl, hl1⟩
  have HS0 := Lib.hid (fun w2 hb2 => StP.start a0 hl1 rfl w2 hb2)
  obtain ⟨g, hg⟩ : ∃ g, w1.heap.size = g := ⟨_, rfl⟩
  rw [hg] at HS0
  clear hl1
  go_wp2_with (go_at_call 9; refine (new_c _ _).mono ?_; rintro e w' ⟨rfl, rfl⟩)
  refine (rnew_c _ _).mono ?_
  rintro e w2 ⟨rfl, hb2⟩
  obtain ⟨b, hb⟩ : ∃ b, w2.heap.size = b := ⟨_, rfl⟩
  have HR0 := Lib.hid (show Rel w (w2.alloc (.cells #[.int .i64 (long a0), .slice none 0 0, .int .i64 0] 32)) g b (.int .i64 0) n 0 from ⟨rfl, Nat.zero_le _, _, by have := HS0.out w2 hb2; rwa [hb] at this⟩)
  clear hb2 HS0
  go_wp2_with (go_at_call 14; refine (HE.out _).mono ?_; rintro e w' ⟨rfl, rfl⟩)
  go_loopw [7] (fun i wr => ∃ k, Rel w wr g b i n k) (fun i _ => n - (intOf i).toNat)
  case atStart => exact ⟨0, HR0.out⟩
  case round =>
    clear HR0 hg hb
    obtain ⟨k, hrel⟩ := hrel
    obtain rfl := hrel.hi
    have hk := hrel.hk
    obtain ⟨r, hs⟩ := hrel.st
    have HS := Lib.hid hs
    have hgb := hs.gb
    clear hrel
    by_cases hlt : k < n
    · obtain ⟨x, rfl, k0, k1⟩ := HST.out.at' k (by omega)
      generalize (z1.getD k (0, 0)).1 = ki at k0
      generalize (z1.getD k (0, 0)).2 = ka at k1
      replace k0 : wr.cell? (x.add (k * 2)) = some (.int .i64 ki) := by rw [hs.below.cell (cell_lt k0)]; exact k0
      replace k1 : wr.cell? ⟨(x.add (k * 2)).block, (x.add (k * 2)).off + 1, none⟩ = some (.int .i64 ka) := by rw [hs.below.cell (cell_lt k1)]; exact k1
      obtain ⟨A, c, hblk, hir⟩ := hs.rb
      have y0 : wr.cell? ⟨b, 0, none⟩ = some (.int .i64 r.span) := hblk.cell 0
      have y1 : wr.cell? ⟨b, 1, none⟩ = some (.slice A r.l.length c) := hblk.cell 1
      have y2 : wr.cell? ⟨b, 2, none⟩ = some (.int .i64 r.top) := hblk.cell 2
      have yl := hblk.lt
      have hk100 : k ≤ 100 := by omega
      have hlen := hs.len
      have KK := Lib.hid (kind6_c ki ka (wr.alloc (.cells #[.int .i64 ki, .int .i64 ka] 36)))
      have HSS := Lib.hid (hs.keep (((Below.refl wr.heap.size wr).alloc (Nat.le_refl _) (.cells #[.int .i64 ki, .int .i64 ka] 36)).alloc (by simp) (.cells #[.int .i64 ki, .int .i64 ka] 36)))
      have HB := Lib.hid (((Below.refl wr.heap.size wr).alloc (Nat.le_refl _) (.cells #[.int .i64 ki, .int .i64 ka] 36)).alloc (by simp) (.cells #[.int .i64 ki, .int .i64 ka] 36))
      have HP := Lib.hid ((Blk.new wr 36 #[.int .i64 ki, .int .i64 ka]).alloc (.cells #[.int .i64 ki, .int .i64 ka] 36))
      have KA := Lib.hid (fun (W : World) (hb : Below wr.heap.size wr W) => show Calls Try.prog 16 #[.agg (rwc r A c), .int .i64 ka] W (RA2 r ka W) from wradd_c r A c (b + 1) ka W (hir.keep hb) hs.ok hs.flat (by omega))
      have KC := Lib.hid (fun (W : World) (hb : Below wr.heap.size wr W) => show Calls Try.prog 17 #[.agg (rwc r A c), .int .i64 ka] W (RC (rcnt2 r ka) A c (cntN (nof r) ka) W) from by
        have := rcount_c r A c (b + 1) ka W (hir.keep hb) hs.ok hs.flat (by omega)
        rw [(nof_cnt r ka).2] at this; exact this)
      have hnl := hs.nlen
      have KWA := Lib.hid (fun (W : World) (h : OW W (b + 1) g (nof r)) (hB : b + 1 ≤ W.heap.size) => addw_c (b + 1) g (nof r) ka W h hs.wf (by omega) hB)
      have KWC := Lib.hid (fun (W : World) (h : OW W (b + 1) g (nof r)) => count_c (b + 1) g (nof r) ka W h.c hs.wf (by omega))
      have HIR := Lib.hid hir
      have HBK := Lib.hid hblk
      have hwb := hs.hB
      clear hs hir hblk
      rcases (by have := rst_bd 4 ki (by omega); omega : rst 4 ki = 0 ∨ rst 4 ki = 1 ∨ rst 4 ki = 2 ∨ rst 4 ki = 3) with hkd | hkd | hkd | hkd
      · have hkk := KK.out
        rw [hkd] at hkk
        have KK := Lib.hid hkk
        clear hkk hkd
        go_wp2_with fail
        refine KK.out.mono ?_
        rintro e w' ⟨rfl, rfl⟩
        go_wp2_with fail
        refine (KA.out _ HB.out).mono ?_
        rintro e w2 ⟨A2, c2, rfl, hb2, hir2⟩
        obtain ⟨r2, hr2⟩ : ∃ r2, r2 = radd2 r ka := ⟨_, rfl⟩
        obtain ⟨X, hX⟩ : ∃ X, X = addN (nof r) ka := ⟨_, rfl⟩
        have HW2 := Lib.hid (show nof r2 = addw (nof r) ka by rw [hr2]; rfl)
        have HX := Lib.hid hX
        have hr2l : r2.l.length ≤ k + 1 := by rw [hr2]; show ((nof r).l ++ [_]).length ≤ _; rw [List.length_append]; simp; omega
        have HOK2 := Lib.hid (show Ok r2.l by rw [hr2]; exact ok_tick HSS.out.ok ka)
        have HWF2 := Lib.hid (show WF (nof r2) by rw [HW2.out]; exact wf_add HSS.out.wf ka)
        rw [← hr2] at hir2 ⊢
        rw [← hX]
        have HI2 := Lib.hid hir2
        have hblk2 := (HBK.out.below HB.out HBK.out.lt).below hb2 (by have := HB.out.size; omega)
        have hp2 := HP.out.below hb2 (by simp; omega)
        have HSS2 := Lib.hid (HSS.out.keep hb2)
        clear hr2 hX hb2
        obtain ⟨rs, rt, rl⟩ := r2
        try dsimp only at hr2l
        try dsimp only [rwc]
        have z0 : w2.cell? ⟨b, 0, none⟩ = some (.int .i64 r.span) := hblk2.cell 0
        have z1 : w2.cell? ⟨b, 1, none⟩ = some (.slice A r.l.length c) := hblk2.cell 1
        have z2 : w2.cell? ⟨b, 2, none⟩ = some (.int .i64 r.top) := hblk2.cell 2
        have q0 := hblk2.free 0
        have q1 := hblk2.free 1
        have q2 := hblk2.free 2
        have zl := hblk2.lt
        have s1 : w2.cell? ⟨wr.heap.size, 1, none⟩ = some (.int .i64 ka) := hp2.cell 1
        have sl := hp2.lt
        have hN : Near b w2 (((( w2.setCell ⟨b, 0, none⟩ (.int .i64 rs)).setCell ⟨b, 1, none⟩ (.slice A2 rl.length c2)).setCell ⟨b, 2, none⟩ (.int .i64 rt)).alloc (.cells #[.int .i64 rs, .slice A2 rl.length c2, .int .i64 rt] 32)) := ((((Near.refl b w2).set 0 (.int .i64 rs)).set 1 (.slice A2 rl.length c2)).set 2 (.int .i64 rt)).alloc (.cells #[.int .i64 rs, .slice A2 rl.length c2, .int .i64 rt] 32)
        have HN4 := Lib.hid hN
        have HR4 := Lib.hid (show Blk (((( w2.setCell ⟨b, 0, none⟩ (.int .i64 rs)).setCell ⟨b, 1, none⟩ (.slice A2 rl.length c2)).setCell ⟨b, 2, none⟩ (.int .i64 rt)).alloc (.cells #[.int .i64 rs, .slice A2 rl.length c2, .int .i64 rt] 32)) b 32 (rwc ⟨rs, rt, rl⟩ A2 c2) from (((hblk2.set 0 (.int .i64 rs)).set 1 (.slice A2 rl.length c2)).set 2 (.int .i64 rt)).alloc (.cells #[.int .i64 rs, .slice A2 rl.length c2, .int .i64 rt] 32))
        have HP4 := Lib.hid (hp2.near hN (by omega))
        have HI4 := Lib.hid (ir_mono (IR.near HI2.out hN (by have := HSS2.out.below.size; have := HB.out.size; simp at this ⊢; omega)) (show b + 1 ≤ _ by have := HB.out.size; simp at this ⊢; omega))
        have HO4 := Lib.hid (HSS2.out.ow.near hN (by omega) (by omega))
        have HB4 := Lib.hid (hN.later HSS2.out.below HSS2.out.below.size (by have := HSS2.out.gW; omega))
        have hb4 : b + 1 ≤ (((( w2.setCell ⟨b, 0, none⟩ (.int .i64 rs)).setCell ⟨b, 1, none⟩ (.slice A2 rl.length c2)).setCell ⟨b, 2, none⟩ (.int .i64 rt)).alloc (.cells #[.int .i64 rs, .slice A2 rl.length c2, .int .i64 rt] 32)).heap.size := Nat.le_trans HSS2.out.hB hN.size
        have hgw := HSS2.out.gW
        clear hN hblk2 hp2
        go_wp2_with fail
        refine (KWA.out _ HO4.out hb4).mono ?_
        rintro e w5 ⟨rfl, ho5, hn5⟩
        rw [← HX.out]
        have HS5 := Lib.hid (show StP w w5 g b ⟨rs, rt, rl⟩ (k + 1) from ⟨hgb, hgw, by rw [HW2.out]; exact ho5, ⟨A2, c2, HR4.out.near hn5 (by omega), HI4.out.near hn5 (by omega)⟩, HOK2.out, HWF2.out, hr2l, hn5.later HB4.out HB4.out.size hgw, Nat.le_trans hb4 hn5.size⟩)
        clear ho5 hn5
        obtain ⟨B2, d2, hbk5, hir5⟩ := HS5.out.rb
        have x0 : w5.cell? ⟨b, 0, none⟩ = some (.int .i64 rs) := hbk5.cell 0
        have x1 : w5.cell? ⟨b, 1, none⟩ = some (.slice B2 rl.length d2) := hbk5.cell 1
        have x2 : w5.cell? ⟨b, 2, none⟩ = some (.int .i64 rt) := hbk5.cell 2
        have K5 := Lib.hid (rall_c ⟨rs, rt, rl⟩ B2 d2 (b + 1) w5 hir5 HS5.out.ok (by have := HS5.out.wf.s1; show 0 ≤ rs; have h : (nof ⟨rs, rt, rl⟩).span = rs := rfl; omega) HS5.out.wf.s2 (by show rl.length ≤ _; omega))
        have hll := HS5.out.nlen
        have hLL : (nof ⟨rs, rt, rl⟩).l = lf rs rt rl := rfl
        clear hbk5 hir5
        go_wp2_with fail
        refine K5.out.mono ?_
        rintro e w6 ⟨v6, rfl, hb6, hown6⟩
        try dsimp only at hown6
        have HS6 := Lib.hid (HS5.out.keep hb6)
        have KL := Lib.hid (last_c (b + 1) g (nof ⟨rs, rt, rl⟩) w6 HS6.out.ow (by omega))
        have KN := Lib.hid (fun q => wlen_c (b + 1) g (nof ⟨rs, rt, rl⟩) (w6.drewN q) (HS6.out.ow.drewN q))
        rw [hLL] at KL KN hll
        obtain ⟨L, hL⟩ : ∃ L, L = lf rs rt rl := ⟨_, rfl⟩
        rw [← hL] at KL KN hll hown6
        obtain ⟨A7, c7, rfl, hir7, _, hc7, _, _⟩ := IR.of_own hown6
        have HI7 := Lib.hid hir7
        have HE7 := Lib.hid (fun q => HS6.out.keep (bel_drewN (Below.refl w6.heap.size w6) q))
        obtain ⟨p, hp⟩ : ∃ p, p = L.length := ⟨_, rfl⟩
        rw [← hp] at KN hll hc7 ⊢
        have HLP := Lib.hid hp
        clear hL hLL hown6 hir7 hb6 x0 x1 x2 K5
        by_cases h0 : L = []
        · have hp0 : decide (0 < p) = false := by rw [hp, h0]; rfl
          have HV := Lib.hid (show lastv L = #[.int .i64 0, .bool false] by rw [h0]; rfl)
          rw [HV.out] at KL
          clear h0 hp
          go_wp2_with fail
          refine KL.out.mono ?_
          rintro e w7 ⟨rfl, q, rfl⟩
          go_wp2_with fail
          refine (KN.out _).mono ?_
          rintro e w8 ⟨rfl, rfl⟩
          go_wp2_with fail
          go_roundw
          case rel => exact ⟨k + 1, by go_num, by omega, _, HE7.out q⟩
          case measure => simp [intOf]; omega
        · have hp0 : 0 < p := by rw [hp]; exact List.length_pos_iff.2 h0
          have hlast : L.getLast?.getD 0 = L[p - 1]'(by omega) := by
            have h1 : L.length - 1 = p - 1 := by omega
            rw [List.getLast?_eq_getElem?, h1, List.getElem?_eq_getElem]; rfl
          obtain ⟨p1, hp1⟩ : ∃ p1, p = p1 + 1 := ⟨p - 1, by omega⟩
          subst hp1
          have hlt1 : p1 < L.length := by omega
          have HV := Lib.hid (show lastv L = #[.int .i64 (L[p1]'hlt1), .bool true] by
            have he : L.isEmpty = false := by simpa using h0
            unfold lastv; rw [hlast, he]; rfl)
          obtain ⟨xa, rfl, _, cx⟩ := HI7.out p1 hlt1
          rw [HV.out] at KL
          generalize L[p1]'hlt1 = v at cx KL
          clear h0 hp hlast HV
          go_wp2_with fail
          refine KL.out.mono ?_
          rintro e w7 ⟨rfl, q, rfl⟩
          go_wp2_with fail
          refine (KN.out _).mono ?_
          rintro e w8 ⟨rfl, rfl⟩
          go_wp2_with fail
          go_roundw
          case rel => exact ⟨k + 1, by go_num, by omega, _, HE7.out q⟩
          case measure => simp [intOf]; omega
      · have hkk := KK.out
        rw [hkd] at hkk
        have KK := Lib.hid hkk
        clear hkk hkd
        go_wp2_with fail
        refine KK.out.mono ?_
        rintro e w' ⟨rfl, rfl⟩
        go_wp2_with fail
        refine (KA.out _ HB.out).mono ?_
        rintro e w2 ⟨A2, c2, rfl, hb2, hir2⟩
        obtain ⟨r2, hr2⟩ : ∃ r2, r2 = radd2 r ka := ⟨_, rfl⟩
        obtain ⟨X, hX⟩ : ∃ X, X = addN (nof r) ka := ⟨_, rfl⟩
        have HW2 := Lib.hid (show nof r2 = addw (nof r) ka by rw [hr2]; rfl)
        have HX := Lib.hid hX
        have hr2l : r2.l.length ≤ k + 1 := by rw [hr2]; show ((nof r).l ++ [_]).length ≤ _; rw [List.length_append]; simp; omega
        have HOK2 := Lib.hid (show Ok r2.l by rw [hr2]; exact ok_tick HSS.out.ok ka)
        have HWF2 := Lib.hid (show WF (nof r2) by rw [HW2.out]; exact wf_add HSS.out.wf ka)
        rw [← hr2] at hir2 ⊢
        rw [← hX]
        have HI2 := Lib.hid hir2
        have hblk2 := (HBK.out.below HB.out HBK.out.lt).below hb2 (by have := HB.out.size; omega)
        have hp2 := HP.out.below hb2 (by simp; omega)
        have HSS2 := Lib.hid (HSS.out.keep hb2)
        clear hr2 hX hb2
        obtain ⟨rs, rt, rl⟩ := r2
        try dsimp only at hr2l
        try dsimp only [rwc]
        have z0 : w2.cell? ⟨b, 0, none⟩ = some (.int .i64 r.span) := hblk2.cell 0
        have z1 : w2.cell? ⟨b, 1, none⟩ = some (.slice A r.l.length c) := hblk2.cell 1
        have z2 : w2.cell? ⟨b, 2, none⟩ = some (.int .i64 r.top) := hblk2.cell 2
        have q0 := hblk2.free 0
        have q1 := hblk2.free 1
        have q2 := hblk2.free 2
        have zl := hblk2.lt
        have s1 : w2.cell? ⟨wr.heap.size, 1, none⟩ = some (.int .i64 ka) := hp2.cell 1
        have sl := hp2.lt
        have hN : Near b w2 (((( w2.setCell ⟨b, 0, none⟩ (.int .i64 rs)).setCell ⟨b, 1, none⟩ (.slice A2 rl.length c2)).setCell ⟨b, 2, none⟩ (.int .i64 rt)).alloc (.cells #[.int .i64 rs, .slice A2 rl.length c2, .int .i64 rt] 32)) := ((((Near.refl b w2).set 0 (.int .i64 rs)).set 1 (.slice A2 rl.length c2)).set 2 (.int .i64 rt)).alloc (.cells #[.int .i64 rs, .slice A2 rl.length c2, .int .i64 rt] 32)
        have HN4 := Lib.hid hN
        have HR4 := Lib.hid (show Blk (((( w2.setCell ⟨b, 0, none⟩ (.int .i64 rs)).setCell ⟨b, 1, none⟩ (.slice A2 rl.length c2)).setCell ⟨b, 2, none⟩ (.int .i64 rt)).alloc (.cells #[.int .i64 rs, .slice A2 rl.length c2, .int .i64 rt] 32)) b 32 (rwc ⟨rs, rt, rl⟩ A2 c2) from (((hblk2.set 0 (.int .i64 rs)).set 1 (.slice A2 rl.length c2)).set 2 (.int .i64 rt)).alloc (.cells #[.int .i64 rs, .slice A2 rl.length c2, .int .i64 rt] 32))
        have HP4 := Lib.hid (hp2.near hN (by omega))
        have HI4 := Lib.hid (ir_mono (IR.near HI2.out hN (by have := HSS2.out.below.size; have := HB.out.size; simp at this ⊢; omega)) (show b + 1 ≤ _ by have := HB.out.size; simp at this ⊢; omega))
        have HO4 := Lib.hid (HSS2.out.ow.near hN (by omega) (by omega))
        have HB4 := Lib.hid (hN.later HSS2.out.below HSS2.out.below.size (by have := HSS2.out.gW; omega))
        have hb4 : b + 1 ≤ (((( w2.setCell ⟨b, 0, none⟩ (.int .i64 rs)).setCell ⟨b, 1, none⟩ (.slice A2 rl.length c2)).setCell ⟨b, 2, none⟩ (.int .i64 rt)).alloc (.cells #[.int .i64 rs, .slice A2 rl.length c2, .int .i64 rt] 32)).heap.size := Nat.le_trans HSS2.out.hB hN.size
        have hgw := HSS2.out.gW
        clear hN hblk2 hp2
        go_wp2_with fail
        refine (KWA.out _ HO4.out hb4).mono ?_
        rintro e w5 ⟨rfl, ho5, hn5⟩
        rw [← HX.out]
        have HS5 := Lib.hid (show StP w w5 g b ⟨rs, rt, rl⟩ (k + 1) from ⟨hgb, hgw, by rw [HW2.out]; exact ho5, ⟨A2, c2, HR4.out.near hn5 (by omega), HI4.out.near hn5 (by omega)⟩, HOK2.out, HWF2.out, hr2l, hn5.later HB4.out HB4.out.size hgw, Nat.le_trans hb4 hn5.size⟩)
        clear ho5 hn5
        obtain ⟨B2, d2, hbk5, hir5⟩ := HS5.out.rb
        have x0 : w5.cell? ⟨b, 0, none⟩ = some (.int .i64 rs) := hbk5.cell 0
        have x1 : w5.cell? ⟨b, 1, none⟩ = some (.slice B2 rl.length d2) := hbk5.cell 1
        have x2 : w5.cell? ⟨b, 2, none⟩ = some (.int .i64 rt) := hbk5.cell 2
        have K5 := Lib.hid (rall_c ⟨rs, rt, rl⟩ B2 d2 (b + 1) w5 hir5 HS5.out.ok (by have := HS5.out.wf.s1; show 0 ≤ rs; have h : (nof ⟨rs, rt, rl⟩).span = rs := rfl; omega) HS5.out.wf.s2 (by show rl.length ≤ _; omega))
        have hll := HS5.out.nlen
        have hLL : (nof ⟨rs, rt, rl⟩).l = lf rs rt rl := rfl
        clear hbk5 hir5
        go_wp2_with fail
        refine K5.out.mono ?_
        rintro e w6 ⟨v6, rfl, hb6, hown6⟩
        try dsimp only at hown6
        have HS6 := Lib.hid (HS5.out.keep hb6)
        have KL := Lib.hid (last_c (b + 1) g (nof ⟨rs, rt, rl⟩) w6 HS6.out.ow (by omega))
        have KN := Lib.hid (fun q => wlen_c (b + 1) g (nof ⟨rs, rt, rl⟩) (w6.drewN q) (HS6.out.ow.drewN q))
        rw [hLL] at KL KN hll
        obtain ⟨L, hL⟩ : ∃ L, L = lf rs rt rl := ⟨_, rfl⟩
        rw [← hL] at KL KN hll hown6
        obtain ⟨A7, c7, rfl, hir7, _, hc7, _, _⟩ := IR.of_own hown6
        have HI7 := Lib.hid hir7
        have HE7 := Lib.hid (fun q => HS6.out.keep (bel_drewN (Below.refl w6.heap.size w6) q))
        obtain ⟨p, hp⟩ : ∃ p, p = L.length := ⟨_, rfl⟩
        rw [← hp] at KN hll hc7 ⊢
        have HLP := Lib.hid hp
        clear hL hLL hown6 hir7 hb6 x0 x1 x2 K5
        by_cases h0 : L = []
        · have hp0 : decide (0 < p) = false := by rw [hp, h0]; rfl
          have HV := Lib.hid (show lastv L = #[.int .i64 0, .bool false] by rw [h0]; rfl)
          rw [HV.out] at KL
          clear h0 hp
          go_wp2_with fail
          refine KL.out.mono ?_
          rintro e w7 ⟨rfl, q, rfl⟩
          go_wp2_with fail
          refine (KN.out _).mono ?_
          rintro e w8 ⟨rfl, rfl⟩
          go_wp2_with fail
          go_roundw
          case rel => exact ⟨k + 1, by go_num, by omega, _, HE7.out q⟩
          case measure => simp [intOf]; omega
        · have hp0 : 0 < p := by rw [hp]; exact List.length_pos_iff.2 h0
          have hlast : L.getLast?.getD 0 = L[p - 1]'(by omega) := by
            have h1 : L.length - 1 = p - 1 := by omega
            rw [List.getLast?_eq_getElem?, h1, List.getElem?_eq_getElem]; rfl
          obtain ⟨p1, hp1⟩ : ∃ p1, p = p1 + 1 := ⟨p - 1, by omega⟩
          subst hp1
          have hlt1 : p1 < L.length := by omega
          have HV := Lib.hid (show lastv L = #[.int .i64 (L[p1]'hlt1), .bool true] by
            have he : L.isEmpty = false := by simpa using h0
            unfold lastv; rw [hlast, he]; rfl)
          obtain ⟨xa, rfl, _, cx⟩ := HI7.out p1 hlt1
          rw [HV.out] at KL
          generalize L[p1]'hlt1 = v at cx KL
          clear h0 hp hlast HV
          go_wp2_with fail
          refine KL.out.mono ?_
          rintro e w7 ⟨rfl, q, rfl⟩
          go_wp2_with fail
          refine (KN.out _).mono ?_
          rintro e w8 ⟨rfl, rfl⟩
          go_wp2_with fail
          go_roundw
          case rel => exact ⟨k + 1, by go_num, by omega, _, HE7.out q⟩
          case measure => simp [intOf]; omega
      · have hkk := KK.out
        rw [hkd] at hkk
        have KK := Lib.hid hkk
        clear hkk hkd
        go_wp2_with fail
        refine KK.out.mono ?_
        rintro e w' ⟨rfl, rfl⟩
        go_wp2_with fail
        refine (KC.out _ HB.out).mono ?_
        rintro e w2 ⟨rfl, hb2⟩
        obtain ⟨r2, hr2⟩ : ∃ r2, r2 = rcnt2 r ka := ⟨_, rfl⟩
        obtain ⟨X, hX⟩ : ∃ X, X = cntN (nof r) ka := ⟨_, rfl⟩
        obtain ⟨A2, c2, hA2⟩ : ∃ A2 c2, A2 = A ∧ c2 = c := ⟨_, _, rfl, rfl⟩
        obtain ⟨rfl, rfl⟩ := hA2
        have HW2 := Lib.hid (show nof r2 = cnt (nof r) ka by rw [hr2]; exact (nof_cnt r ka).1)
        have HX := Lib.hid hX
        have hr2l : r2.l.length ≤ k + 1 := by rw [hr2]; show r.l.length ≤ _; omega
        have HOK2 := Lib.hid (show Ok r2.l by rw [hr2]; exact HSS.out.ok)
        have HWF2 := Lib.hid (show WF (nof r2) by rw [HW2.out]; exact wf_cnt HSS.out.wf ka)
        have HI2 := Lib.hid (show IR w2 (b + 1) A2 r2.l by rw [hr2]; exact (HIR.out.keep HB.out).keep hb2)
        rw [← hr2]
        rw [← hX]
        have hblk2 := (HBK.out.below HB.out HBK.out.lt).below hb2 (by have := HB.out.size; omega)
        have hp2 := HP.out.below hb2 (by simp; omega)
        have HSS2 := Lib.hid (HSS.out.keep hb2)
        clear hr2 hX hb2
        obtain ⟨rs, rt, rl⟩ := r2
        try dsimp only at hr2l
        try dsimp only [rwc]
        have z0 : w2.cell? ⟨b, 0, none⟩ = some (.int .i64 r.span) := hblk2.cell 0
        have z1 : w2.cell? ⟨b, 1, none⟩ = some (.slice A2 r.l.length c2) := hblk2.cell 1
        have z2 : w2.cell? ⟨b, 2, none⟩ = some (.int .i64 r.top) := hblk2.cell 2
        have q0 := hblk2.free 0
        have q1 := hblk2.free 1
        have q2 := hblk2.free 2
        have zl := hblk2.lt
        have s1 : w2.cell? ⟨wr.heap.size, 1, none⟩ = some (.int .i64 ka) := hp2.cell 1
        have sl := hp2.lt
        have hN : Near b w2 (((( w2.setCell ⟨b, 0, none⟩ (.int .i64 rs)).setCell ⟨b, 1, none⟩ (.slice A2 rl.length c2)).setCell ⟨b, 2, none⟩ (.int .i64 rt)).alloc (.cells #[.int .i64 rs, .slice A2 rl.length c2, .int .i64 rt] 32)) := ((((Near.refl b w2).set 0 (.int .i64 rs)).set 1 (.slice A2 rl.length c2)).set 2 (.int .i64 rt)).alloc (.cells #[.int .i64 rs, .slice A2 rl.length c2, .int .i64 rt] 32)
        have HN4 := Lib.hid hN
        have HR4 := Lib.hid (show Blk (((( w2.setCell ⟨b, 0, none⟩ (.int .i64 rs)).setCell ⟨b, 1, none⟩ (.slice A2 rl.length c2)).setCell ⟨b, 2, none⟩ (.int .i64 rt)).alloc (.cells #[.int .i64 rs, .slice A2 rl.length c2, .int .i64 rt] 32)) b 32 (rwc ⟨rs, rt, rl⟩ A2 c2) from (((hblk2.set 0 (.int .i64 rs)).set 1 (.slice A2 rl.length c2)).set 2 (.int .i64 rt)).alloc (.cells #[.int .i64 rs, .slice A2 rl.length c2, .int .i64 rt] 32))
        have HP4 := Lib.hid (hp2.near hN (by omega))
        have HI4 := Lib.hid (ir_mono (IR.near HI2.out hN (Nat.lt_succ_self b)) (Nat.le_refl _))
        have HO4 := Lib.hid (HSS2.out.ow.near hN (by omega) (by omega))
        have HB4 := Lib.hid (hN.later HSS2.out.below HSS2.out.below.size (by have := HSS2.out.gW; omega))
        have hb4 : b + 1 ≤ (((( w2.setCell ⟨b, 0, none⟩ (.int .i64 rs)).setCell ⟨b, 1, none⟩ (.slice A2 rl.length c2)).setCell ⟨b, 2, none⟩ (.int .i64 rt)).alloc (.cells #[.int .i64 rs, .slice A2 rl.length c2, .int .i64 rt] 32)).heap.size := Nat.le_trans HSS2.out.hB hN.size
        have hgw := HSS2.out.gW
        clear hN hblk2 hp2
        go_wp2_with fail
        refine (KWC.out _ HO4.out).mono ?_
        rintro e w5 ⟨rfl, ho5, hn5⟩
        rw [← HX.out]
        have HS5 := Lib.hid (show StP w w5 g b ⟨rs, rt, rl⟩ (k + 1) from ⟨hgb, hgw, by rw [HW2.out]; exact ho5, ⟨A2, c2, HR4.out.near hn5 (by omega), HI4.out.near hn5 (by omega)⟩, HOK2.out, HWF2.out, hr2l, hn5.later HB4.out HB4.out.size hgw, Nat.le_trans hb4 hn5.size⟩)
        clear ho5 hn5
        obtain ⟨B2, d2, hbk5, hir5⟩ := HS5.out.rb
        have x0 : w5.cell? ⟨b, 0, none⟩ = some (.int .i64 rs) := hbk5.cell 0
        have x1 : w5.cell? ⟨b, 1, none⟩ = some (.slice B2 rl.length d2) := hbk5.cell 1
        have x2 : w5.cell? ⟨b, 2, none⟩ = some (.int .i64 rt) := hbk5.cell 2
        have K5 := Lib.hid (rall_c ⟨rs, rt, rl⟩ B2 d2 (b + 1) w5 hir5 HS5.out.ok (by have := HS5.out.wf.s1; show 0 ≤ rs; have h : (nof ⟨rs, rt, rl⟩).span = rs := rfl; omega) HS5.out.wf.s2 (by show rl.length ≤ _; omega))
        have hll := HS5.out.nlen
        have hLL : (nof ⟨rs, rt, rl⟩).l = lf rs rt rl := rfl
        clear hbk5 hir5
        go_wp2_with fail
        refine K5.out.mono ?_
        rintro e w6 ⟨v6, rfl, hb6, hown6⟩
        try dsimp only at hown6
        have HS6 := Lib.hid (HS5.out.keep hb6)
        have KL := Lib.hid (last_c (b + 1) g (nof ⟨rs, rt, rl⟩) w6 HS6.out.ow (by omega))
        have KN := Lib.hid (fun q => wlen_c (b + 1) g (nof ⟨rs, rt, rl⟩) (w6.drewN q) (HS6.out.ow.drewN q))
        rw [hLL] at KL KN hll
        obtain ⟨L, hL⟩ : ∃ L, L = lf rs rt rl := ⟨_, rfl⟩
        rw [← hL] at KL KN hll hown6
        obtain ⟨A7, c7, rfl, hir7, _, hc7, _, _⟩ := IR.of_own hown6
        have HI7 := Lib.hid hir7
        have HE7 := Lib.hid (fun q => HS6.out.keep (bel_drewN (Below.refl w6.heap.size w6) q))
        obtain ⟨p, hp⟩ : ∃ p, p = L.length := ⟨_, rfl⟩
        rw [← hp] at KN hll hc7 ⊢
        have HLP := Lib.hid hp
        clear hL hLL hown6 hir7 hb6 x0 x1 x2 K5
        by_cases h0 : L = []
        · have hp0 : decide (0 < p) = false := by rw [hp, h0]; rfl
          have HV := Lib.hid (show lastv L = #[.int .i64 0, .bool false] by rw [h0]; rfl)
          rw [HV.out] at KL
          clear h0 hp
          go_wp2_with fail
          refine KL.out.mono ?_
          rintro e w7 ⟨rfl, q, rfl⟩
          go_wp2_with fail
          refine (KN.out _).mono ?_
          rintro e w8 ⟨rfl, rfl⟩
          go_wp2_with fail
          go_roundw
          case rel => exact ⟨k + 1, by go_num, by omega, _, HE7.out q⟩
          case measure => simp [intOf]; omega
        · have hp0 : 0 < p := by rw [hp]; exact List.length_pos_iff.2 h0
          have hlast : L.getLast?.getD 0 = L[p - 1]'(by omega) := by
            have h1 : L.length - 1 = p - 1 := by omega
            rw [List.getLast?_eq_getElem?, h1, List.getElem?_eq_getElem]; rfl
          obtain ⟨p1, hp1⟩ : ∃ p1, p = p1 + 1 := ⟨p - 1, by omega⟩
          subst hp1
          have hlt1 : p1 < L.length := by omega
          have HV := Lib.hid (show lastv L = #[.int .i64 (L[p1]'hlt1), .bool true] by
            have he : L.isEmpty = false := by simpa using h0
            unfold lastv; rw [hlast, he]; rfl)
          obtain ⟨xa, rfl, _, cx⟩ := HI7.out p1 hlt1
          rw [HV.out] at KL
          generalize L[p1]'hlt1 = v at cx KL
          clear h0 hp hlast HV
          go_wp2_with fail
          refine KL.out.mono ?_
          rintro e w7 ⟨rfl, q, rfl⟩
          go_wp2_with fail
          refine (KN.out _).mono ?_
          rintro e w8 ⟨rfl, rfl⟩
          go_wp2_with fail
          go_roundw
          case rel => exact ⟨k + 1, by go_num, by omega, _, HE7.out q⟩
          case measure => simp [intOf]; omega
      · have hkk := KK.out
        rw [hkd] at hkk
        have KK := Lib.hid hkk
        clear hkk hkd
        by_cases hodd : ka.tmod 2 = 0
        · have h0' : (ka.tmod 2 != 0) = false := by simpa using hodd
          clear hodd
          go_wp2_with fail
          refine KK.out.mono ?_
          rintro e w' ⟨rfl, rfl⟩
          have HS5 := Lib.hid (HSS.out.mono (Nat.le_succ k))
          have hr2l : r.l.length ≤ k + 1 := by omega
          have s1 : ((wr.alloc (.cells #[.int .i64 ki, .int .i64 ka] 36)).alloc (.cells #[.int .i64 ki, .int .i64 ka] 36)).cell? ⟨wr.heap.size, 1, none⟩ = some (.int .i64 ka) := HP.out.cell 1
          obtain ⟨rs, rt, rl⟩ := r
          try dsimp only at hr2l
          clear y0 y1 y2 yl k0 k1 KA KC KWA KWC HIR HBK HSS HB HP HS hnl hlen
          generalize ((wr.alloc (.cells #[.int .i64 ki, .int .i64 ka] 36)).alloc (.cells #[.int .i64 ki, .int .i64 ka] 36)) = w5 at *
          obtain ⟨B2, d2, hbk5, hir5⟩ := HS5.out.rb
          have x0 : w5.cell? ⟨b, 0, none⟩ = some (.int .i64 rs) := hbk5.cell 0
          have x1 : w5.cell? ⟨b, 1, none⟩ = some (.slice B2 rl.length d2) := hbk5.cell 1
          have x2 : w5.cell? ⟨b, 2, none⟩ = some (.int .i64 rt) := hbk5.cell 2
          have K5 := Lib.hid (rall_c ⟨rs, rt, rl⟩ B2 d2 (b + 1) w5 hir5 HS5.out.ok (by have := HS5.out.wf.s1; show 0 ≤ rs; have h : (nof ⟨rs, rt, rl⟩).span = rs := rfl; omega) HS5.out.wf.s2 (by show rl.length ≤ _; omega))
          have hll := HS5.out.nlen
          have hLL : (nof ⟨rs, rt, rl⟩).l = lf rs rt rl := rfl
          clear hbk5 hir5
          go_wp2_with fail
          refine K5.out.mono ?_
          rintro e w6 ⟨v6, rfl, hb6, hown6⟩
          try dsimp only at hown6
          have HS6 := Lib.hid (HS5.out.keep hb6)
          have KL := Lib.hid (last_c (b + 1) g (nof ⟨rs, rt, rl⟩) w6 HS6.out.ow (by omega))
          have KN := Lib.hid (fun q => wlen_c (b + 1) g (nof ⟨rs, rt, rl⟩) (w6.drewN q) (HS6.out.ow.drewN q))
          rw [hLL] at KL KN hll
          obtain ⟨L, hL⟩ : ∃ L, L = lf rs rt rl := ⟨_, rfl⟩
          rw [← hL] at KL KN hll hown6
          obtain ⟨A7, c7, rfl, hir7, _, hc7, _, _⟩ := IR.of_own hown6
          have HI7 := Lib.hid hir7
          have HE7 := Lib.hid (fun q => HS6.out.keep (bel_drewN (Below.refl w6.heap.size w6) q))
          obtain ⟨p, hp⟩ : ∃ p, p = L.length := ⟨_, rfl⟩
          rw [← hp] at KN hll hc7 ⊢
          have HLP := Lib.hid hp
          clear hL hLL hown6 hir7 hb6 x0 x1 x2 K5
          by_cases h0 : L = []
          · have hp0 : decide (0 < p) = false := by rw [hp, h0]; rfl
            have HV := Lib.hid (show lastv L = #[.int .i64 0, .bool false] by rw [h0]; rfl)
            rw [HV.out] at KL
            clear h0 hp
            go_wp2_with fail
            refine KL.out.mono ?_
            rintro e w7 ⟨rfl, q, rfl⟩
            go_wp2_with fail
            refine (KN.out _).mono ?_
            rintro e w8 ⟨rfl, rfl⟩
            go_wp2_with fail
            go_roundw
            case rel => exact ⟨k + 1, by go_num, by omega, _, HE7.out q⟩
            case measure => simp [intOf]; omega
          · have hp0 : 0 < p := by rw [hp]; exact List.length_pos_iff.2 h0
            have hlast : L.getLast?.getD 0 = L[p - 1]'(by omega) := by
              have h1 : L.length - 1 = p - 1 := by omega
              rw [List.getLast?_eq_getElem?, h1, List.getElem?_eq_getElem]; rfl
            obtain ⟨p1, hp1⟩ : ∃ p1, p = p1 + 1 := ⟨p - 1, by omega⟩
            subst hp1
            have hlt1 : p1 < L.length := by omega
            have HV := Lib.hid (show lastv L = #[.int .i64 (L[p1]'hlt1), .bool true] by
              have he : L.isEmpty = false := by simpa using h0
              unfold lastv; rw [hlast, he]; rfl)
            obtain ⟨xa, rfl, _, cx⟩ := HI7.out p1 hlt1
            rw [HV.out] at KL
            generalize L[p1]'hlt1 = v at cx KL
            clear h0 hp hlast HV
            go_wp2_with fail
            refine KL.out.mono ?_
            rintro e w7 ⟨rfl, q, rfl⟩
            go_wp2_with fail
            refine (KN.out _).mono ?_
            rintro e w8 ⟨rfl, rfl⟩
            go_wp2_with fail
            go_roundw
            case rel => exact ⟨k + 1, by go_num, by omega, _, HE7.out q⟩
            case measure => simp [intOf]; omega
        · have h0' : (ka.tmod 2 != 0) = true := by simpa using hodd
          clear hodd
          have q1 := HBK.out.free 1
          have HW := Lib.hid (((HS.out.ow.near ((Near.refl b wr).set 1 (.slice none 0 0)) (Nat.lt_succ_self b) (by omega)).keep ((Below.refl _ _).alloc (Nat.le_refl _) (.cells #[.int .i64 ki, .int .i64 ka] 36))).keep ((Below.refl _ _).alloc (Nat.le_refl _) (.cells #[.int .i64 ki, .int .i64 ka] 36)))
          have hN := (((Near.refl b wr).set 1 (.slice none 0 0)).alloc (.cells #[.int .i64 ki, .int .i64 ka] 36)).alloc (.cells #[.int .i64 ki, .int .i64 ka] 36)
          have HR4 := Lib.hid (((HBK.out.set 1 (.slice none 0 0)).alloc (.cells #[.int .i64 ki, .int .i64 ka] 36)).alloc (.cells #[.int .i64 ki, .int .i64 ka] 36))
          have hgw := HS.out.gW
          have HB4 := Lib.hid (hN.later HS.out.below HS.out.below.size (by omega))
          have hb4 := Nat.le_trans HS.out.hB hN.size
          have KR := Lib.hid (reset_c (b + 1) g (nof r) _ HW.out)
          have HWF2 := Lib.hid (show WF (nof (rres2 r)) from ⟨HS.out.wf.s1, HS.out.wf.s2, HS.out.wf.t1, HS.out.wf.t2, (List.Pairwise.nil : Up ([] : List Int))⟩)
          clear hN HSS HS HP HB
          go_wp2_with fail
          refine KK.out.mono ?_
          rintro e w' ⟨rfl, rfl⟩
          go_wp2_with fail
          refine KR.out.mono ?_
          rintro e w5 ⟨rfl, ho5, hn5⟩
          have hs5 : StP w w5 g b (rres2 r) (k + 1) := ⟨hgb, hgw, ho5, ⟨none, 0, HR4.out.near hn5 (by omega), fun j hj => absurd hj (Nat.not_lt_zero _)⟩, (fun x hx => by cases hx), HWF2.out, Nat.zero_le _, hn5.later HB4.out HB4.out.size hgw, Nat.le_trans hb4 hn5.size⟩
          have hr2l : (rres2 r).l.length ≤ k + 1 := Nat.zero_le _
          clear ho5 hn5 hb4 KR HW HR4 HB4 HWF2 h0' q1 y0 y1 y2 yl k0 k1 HIR HBK KA KC KWA KWC
          generalize rres2 r = r2 at *
          obtain ⟨rs, rt, rl⟩ := r2
          try dsimp only at hr2l
          have HS5 := Lib.hid hs5
          clear hs5
          obtain ⟨B2, d2, hbk5, hir5⟩ := HS5.out.rb
          have x0 : w5.cell? ⟨b, 0, none⟩ = some (.int .i64 rs) := hbk5.cell 0
          have x1 : w5.cell? ⟨b, 1, none⟩ = some (.slice B2 rl.length d2) := hbk5.cell 1
          have x2 : w5.cell? ⟨b, 2, none⟩ = some (.int .i64 rt) := hbk5.cell 2
          have K5 := Lib.hid (rall_c ⟨rs, rt, rl⟩ B2 d2 (b + 1) w5 hir5 HS5.out.ok (by have := HS5.out.wf.s1; show 0 ≤ rs; have h : (nof ⟨rs, rt, rl⟩).span = rs := rfl; omega) HS5.out.wf.s2 (by show rl.length ≤ _; omega))
          have hll := HS5.out.nlen
          have hLL : (nof ⟨rs, rt, rl⟩).l = lf rs rt rl := rfl
          clear hbk5 hir5
          go_wp2_with fail
          refine K5.out.mono ?_
          rintro e w6 ⟨v6, rfl, hb6, hown6⟩
          try dsimp only at hown6
          have HS6 := Lib.hid (HS5.out.keep hb6)
          have KL := Lib.hid (last_c (b + 1) g (nof ⟨rs, rt, rl⟩) w6 HS6.out.ow (by omega))
          have KN := Lib.hid (fun q => wlen_c (b + 1) g (nof ⟨rs, rt, rl⟩) (w6.drewN q) (HS6.out.ow.drewN q))
          rw [hLL] at KL KN hll
          obtain ⟨L, hL⟩ : ∃ L, L = lf rs rt rl := ⟨_, rfl⟩
          rw [← hL] at KL KN hll hown6
          obtain ⟨A7, c7, rfl, hir7, _, hc7, _, _⟩ := IR.of_own hown6
          have HI7 := Lib.hid hir7
          have HE7 := Lib.hid (fun q => HS6.out.keep (bel_drewN (Below.refl w6.heap.size w6) q))
          obtain ⟨p, hp⟩ : ∃ p, p = L.length := ⟨_, rfl⟩
          rw [← hp] at KN hll hc7 ⊢
          have HLP := Lib.hid hp
          clear hL hLL hown6 hir7 hb6 x0 x1 x2 K5
          by_cases h0 : L = []
          · have hp0 : decide (0 < p) = false := by rw [hp, h0]; rfl
            have HV := Lib.hid (show lastv L = #[.int .i64 0, .bool false] by rw [h0]; rfl)
            rw [HV.out] at KL
            clear h0 hp
            go_wp2_with fail
            refine KL.out.mono ?_
            rintro e w7 ⟨rfl, q, rfl⟩
            go_wp2_with fail
            refine (KN.out _).mono ?_
            rintro e w8 ⟨rfl, rfl⟩
            go_wp2_with fail
            go_roundw
            case rel => exact ⟨k + 1, by go_num, by omega, _, HE7.out q⟩
            case measure => simp [intOf]; omega
          · have hp0 : 0 < p := by rw [hp]; exact List.length_pos_iff.2 h0
            have hlast : L.getLast?.getD 0 = L[p - 1]'(by omega) := by
              have h1 : L.length - 1 = p - 1 := by omega
              rw [List.getLast?_eq_getElem?, h1, List.getElem?_eq_getElem]; rfl
            obtain ⟨p1, hp1⟩ : ∃ p1, p = p1 + 1 := ⟨p - 1, by omega⟩
            subst hp1
            have hlt1 : p1 < L.length := by omega
            have HV := Lib.hid (show lastv L = #[.int .i64 (L[p1]'hlt1), .bool true] by
              have he : L.isEmpty = false := by simpa using h0
              unfold lastv; rw [hlast, he]; rfl)
            obtain ⟨xa, rfl, _, cx⟩ := HI7.out p1 hlt1
            rw [HV.out] at KL
            generalize L[p1]'hlt1 = v at cx KL
            clear h0 hp hlast HV
            go_wp2_with fail
            refine KL.out.mono ?_
            rintro e w7 ⟨rfl, q, rfl⟩
            go_wp2_with fail
            refine (KN.out _).mono ?_
            rintro e w8 ⟨rfl, rfl⟩
            go_wp2_with fail
            go_roundw
            case rel => exact ⟨k + 1, by go_num, by omega, _, HE7.out q⟩
            case measure => simp [intOf]; omega
    · go_wp2
      go_ret
      exact ⟨rfl, HS.out.below⟩

/-! ### THE ROW -/
set_option maxRecDepth 100000 in
theorem lifted (os : Os) (started : os.Started) (H : Type) (enc : TypeId × Value → H) :
    ReturnsInHanded {} Try.checked os 4 .any (Rows.windowPlaysSpec.pre6 enc Try.prog Try.f4 Rows.windowPlaysRow.domain false) (Rows.windowPlaysSpec.post enc Try.prog Try.f4 false true false false) := by
  refine returnsInHanded_of_change (C := Try.checked) own started (by kernel_rfl) Try.func4
    (ChangeSpec.witness6 (enc := enc) (C := Try.checked) false ⟨#[], #[.int .i64 0, .slice none 0 0], []⟩ 8 (by kernel_rfl) (by kernel_rfl) (by kernel_rfl) (by kernel_rfl)) ?_
  intro W base args ds gs before hval0 hW hcnd _
  have hval : ∀ (j : Nat) t v, Try.f4.params[j]? = some t → args[j]? = some v → Value.okWide Try.prog W .any base t v := hval0
  have hW' := hW
  obtain ⟨p, q, hA0, hV, rfl, hfz, hnd⟩ := hW
  have hA : DataW.TrodAll enc Try.prog W 0 (fun _ => true) true Try.f4.params.toList args.toList ds p := hA0
  rw [Try.params4] at hA hval
  obtain ⟨v0, vs0, d0, ds0, p0, q0, hargs, rfl, rfl, h0, r0⟩ := trodAll_cons hA
  obtain ⟨v1, vs1, d1, ds1, p1, q1, rfl, rfl, rfl, h1, r1⟩ := trodAll_cons r0
  obtain ⟨rfl, rfl, rfl⟩ := trodAll_nil r1
  obtain rfl : args = #[v0, v1] := by cases args; simp_all
  obtain ⟨rfl, rfl⟩ := trodVars_none hV
  obtain ⟨a0, rfl, rfl, rfl, w0⟩ := open_int Try.underlying3 (hval 0 3 v0 rfl rfl) h0
  obtain ⟨a1, len1, cap1, rfl⟩ := okWide_slice Try.underlying30 (hval 1 30 v1 rfl rfl)
  have k1 := h1
  have lt1 : ∀ x ∈ p1, x.block < W.heap.size := by obtain ⟨m, hm⟩ := k1; exact DataW.trod_lt m _ _ _ hm
  obtain ⟨z1, w1⟩ : ∃ zs, IsRecs_ii W a1 len1 cap1 zs := open_recs_ii Try.underlying30 Try.underlying36 (by kernel_rfl) (by kernel_rfl) Try.underlying3 Try.underlying3 h1
  clear hA0 hval0
  refine (walk a0 a1 len1 cap1 z1 W w0 w1).mono fun e W' ⟨he, bel⟩ => ?_
  subst he
  exact ⟨_, rfl, _, _, _, [], _, [], hW', trodAll_mk1 (shut_bool Try.underlying4 _), (trodAll_cons_mk (shut_int Try.underlying3 w0) (trodAll_cons_mk (Below.trod laidOut (by kernel_rfl) (of_decide_eq_true (by kernel_rfl)) k1 bel lt1) trodAll_mk0)), rfl, bel.frame _, fun h => by cases h⟩

theorem over : Rows.windowPlaysRow.holds Try.pinned (OpenSpec.ofChange Rows.windowPlaysSpec) :=
  OpenClaim.holds_of_wide 4 Try.f4 rfl rfl rfl rfl rfl rfl rfl ⟨rfl, rfl, rfl, rfl, rfl⟩ rfl rfl rfl rfl rfl (by kernel_rfl) Try.func4 (by kernel_rfl)
    (of_decide_eq_true (by kernel_rfl)) (by unfold Func.isWrapper; first | (rw [if_pos (by decide +kernel)]; kernel_rfl) | (rw [if_neg (by decide +kernel)]; exact ⟨rfl, rfl⟩))
    (fun os started H enc _ => lifted os started H enc)

theorem proved : Rows.WindowPlaysSaid := over
#print axioms proved
end Go.Proofs.Ytgonoccacbbhjaa.windowPlays
