/-
  Proved: of every slice of numbers and every two numbers 'hostlerlaw06.WindowRates' returns true: no condition.
  The frame is written by this session's frame.py, after the kit's proof-skeleton.mjs.
-/
import Derived.Test.YtgonoccacbbhjaaXh
import Derived.Deep.DeepCutAuto
namespace Go.Proofs.Ytgonoccacbbhjaa.windowRates
open Go.ChangeShapes Go.WideShapes Go.ChangeAt Go.RowKit
set_option linter.unusedVariables false
theorem own : ownKnob Try.prog.godebug = none := by kernel_rfl
theorem laidOut : laidOutB Try.prog = true := by kernel_rfl

set_option maxRecDepth 100000 in
set_option maxHeartbeats 8000000 in
theorem addw2_c (B0 B g : Nat) (n : WN) (at' : Int) (w : World) (h : OW w B0 g n) (hf : WF n) (hl : n.l.length ≤ 100000) (hB : B ≤ w.heap.size) (hg : g < B) :
    Calls Try.prog 10 #[.pointer (some ⟨g, 0, none⟩), .int .i64 at'] w (CP (addw n at') (addN n at') B g w) := by
  obtain ⟨i0, hi, hz0, hz1, hz2⟩ := info_parts infoI
  have HLA := Lib.hid (last_c B0 g n w h (by omega))
  have hfp := wf_put hf at'
  obtain ⟨_, A, hwc⟩ := h
  have c2 : w.cell? ⟨g, 2, none⟩ = some (.slice A n.l.length n.l.length) := hwc.1.cell 2
  have HWC := Lib.hid hwc
  have HC := Lib.hid (fun (W : World) (hN : Near g w W) (h : OWc W B g (put n at')) => show Calls Try.prog 12 #[.pointer (some ⟨g, 0, none⟩), .int .i64 (tick n at')] W (CP (addw n at') (addN n at') B g w) from
    (count_c B g (put n at') (tick n at') W h hfp (by unfold put; simp; omega)).mono fun _ _ ⟨a, b, c⟩ => ⟨a, b, hN.trans c⟩)
  have HAFT := Lib.hid (fun (W' : World) (hb0 : Below w.heap.size w W') (b : Nat) (hbb : w.heap.size ≤ b) (v' : Value) (w2 : World) (ho : w2.ownsRow b 3 1 v' (n.l.length + 1) (ic n.l ++ ic [tick n at'])) (hgr : W'.grownBy w2 none) =>
    show OWc (w2.setCell ⟨g, 2, none⟩ v') B g (put n at') ∧ Near g w (w2.setCell ⟨g, 2, none⟩ v') ∧ w2.cell? ⟨g, 2, none⟩ = some (.slice A n.l.length n.l.length) ∧ w2.frozen? ⟨g, 2, none⟩ = false ∧ ∃ A' c', v' = .slice A' (n.l.length + 1) c' from by
      rw [ic_app] at ho
      have hb : Below w.heap.size w w2 := hb0.grown hgr hb0.size (fun j hj => by simp at hj)
      have hblk := hwc.1.below hb hwc.1.lt
      obtain ⟨A', c', rfl, hir, hnn, hcc, _, hnone⟩ := IR.of_own ho
      refine ⟨⟨hg, A', c', ?_, ?_, ?_, ?_⟩, (Near.of_below hb).set 2 _, hblk.cell 2, hblk.free 2, A', c', rfl⟩
      · unfold put; simp; omega
      · have := hblk.set 2 (.slice A' (n.l.length + 1) c')
        show Blk _ _ _ #[.int .i64 n.span, .int .i64 n.top, .slice A' (n.l ++ [tick n at']).length c']
        rw [List.length_append]; exact this
      · refine IR.near (w := w2) (fun j hj => ?_) ((Near.refl g w2).set 2 _) hg
        obtain ⟨x, hx, hxb, hxc⟩ := hir j hj
        refine ⟨x, hx, ?_, hxc⟩
        omega
      · intro h0; have := (hnone h0).1; omega)
  have C3 := Lib.hid (show n.l.length + 1 ≤ maxLen by unfold maxLen; omega)
  have C4 := Lib.hid (show (n.l.length + 1) * 8 ≤ 140737488355328 by omega)
  have CL := Lib.hid (show (ic n.l).length = n.l.length * 1 by rw [ic_len]; omega)
  have HAT := Lib.hid (fun (W' : World) (hb0 : Below w.heap.size w W') => ic_at (hwc.2.1.keep hb0))
  have HBL := Lib.hid (fun (x : Int) (q : Nat) => bel_drewN ((Below.refl w.heap.size w).alloc (Nat.le_refl _) (.cells #[.int .i64 x] 3)) q)
  have HON := Lib.hid (fun (x : Int) (q : Nat) => show ∀ (j : Nat) (u : Value), (ic [x])[j]? = some u → ((w.alloc (.cells #[.int .i64 x] 3)).drewN q).cell? ((⟨w.heap.size, 0, none⟩ : Addr).add j) = some u from one_at w x 3)
  have HAN := Lib.hid hwc.2.2
  have hcut := cut_in at'
  obtain ⟨T, hT⟩ : ∃ T, T = tick n at' := ⟨_, rfl⟩
  have hT2 := hT
  unfold tick at hT2
  rw [← hT] at HC HAFT
  by_cases h0 : n.l = []
  · rw [if_pos h0] at hT2
    have HV := Lib.hid (show lastv n.l = #[.int .i64 0, .bool false] by rw [h0]; rfl)
    rw [HV.out] at HLA
    clear hwc h0 hf hfp hcut hT
    subst hT2
    go_enter Try.func10, Try.ntmps10
    go_wp2_with (go_at_call 25; refine (cut_c _ _).mono ?_; rintro e w' ⟨rfl, rfl⟩)
    refine HLA.out.mono ?_
    rintro e w1 ⟨rfl, q, rfl⟩
    go_wp2_with (at_builtin; refine wpList_append_grows _ rfl _ _ 22 rfl 3 i0 (.int .i64 0) 1 8 Try.underlying22 hi hz0 hz1 hz2 rfl (by decide) A n.l.length n.l.length (ic n.l) rfl HAN.out CL.out (HAT.out _ (HBL.out _ _)) ⟨w.heap.size, 0, none⟩ 1 1 (ic [(cut at')]) rfl rfl (HON.out _ _) (ic_one _) (Nat.lt_succ_self _) C3.out C4.out ?_)
    intro v' w2 hown hgr
    obtain ⟨ho, hn, hc, hq, A', c', rfl⟩ := HAFT.out _ (HBL.out (cut at') q) (w.heap.size + 1) (Nat.le_succ _) v' w2 hown hgr
    have HO := Lib.hid ho
    have HN := Lib.hid hn
    clear ho hn hown hgr HAFT
    go_wp2_with fail
    refine (HC.out _ HN.out HO.out).mono ?_
    rintro e w3 ⟨rfl, ho3, hn3⟩
    have HO3 := Lib.hid ho3
    have HN3 := Lib.hid hn3
    clear ho3 hn3
    go_wp2_with fail
    go_ret
    exact ⟨rfl, HO3.out, HN3.out⟩
  · rw [if_neg h0] at hT2
    have HV := Lib.hid (show lastv n.l = #[.int .i64 (n.l.getLast?.getD 0), .bool true] by
      have he : n.l.isEmpty = false := by simpa using h0
      unfold lastv; rw [he]; rfl)
    rw [HV.out] at HLA
    generalize n.l.getLast?.getD 0 = v at *
    rcases (by omega : (v ≤ cut at' ∧ T = cut at') ∨ (cut at' < v ∧ T = v)) with ⟨hm, ht⟩ | ⟨hm, ht⟩
    · clear hwc h0 hf hfp hcut hT hT2
      subst ht
      go_enter Try.func10, Try.ntmps10
      go_wp2_with (go_at_call 25; refine (cut_c _ _).mono ?_; rintro e w' ⟨rfl, rfl⟩)
      refine HLA.out.mono ?_
      rintro e w1 ⟨rfl, q, rfl⟩
      go_wp2_with (at_builtin; refine wpList_append_grows _ rfl _ _ 22 rfl 3 i0 (.int .i64 0) 1 8 Try.underlying22 hi hz0 hz1 hz2 rfl (by decide) A n.l.length n.l.length (ic n.l) rfl HAN.out CL.out (HAT.out _ (HBL.out _ _)) ⟨w.heap.size, 0, none⟩ 1 1 (ic [(cut at')]) rfl rfl (HON.out _ _) (ic_one _) (Nat.lt_succ_self _) C3.out C4.out ?_)
      intro v' w2 hown hgr
      obtain ⟨ho, hn, hc, hq, A', c', rfl⟩ := HAFT.out _ (HBL.out (cut at') q) (w.heap.size + 1) (Nat.le_succ _) v' w2 hown hgr
      have HO := Lib.hid ho
      have HN := Lib.hid hn
      clear ho hn hown hgr HAFT
      go_wp2_with fail
      refine (HC.out _ HN.out HO.out).mono ?_
      rintro e w3 ⟨rfl, ho3, hn3⟩
      have HO3 := Lib.hid ho3
      have HN3 := Lib.hid hn3
      clear ho3 hn3
      go_wp2_with fail
      go_ret
      exact ⟨rfl, HO3.out, HN3.out⟩
    · clear hwc h0 hf hfp hcut hT hT2
      subst ht
      go_enter Try.func10, Try.ntmps10
      go_wp2_with (go_at_call 25; refine (cut_c _ _).mono ?_; rintro e w' ⟨rfl, rfl⟩)
      refine HLA.out.mono ?_
      rintro e w1 ⟨rfl, q, rfl⟩
      go_wp2_with (at_builtin; refine wpList_append_grows _ rfl _ _ 22 rfl 3 i0 (.int .i64 0) 1 8 Try.underlying22 hi hz0 hz1 hz2 rfl (by decide) A n.l.length n.l.length (ic n.l) rfl HAN.out CL.out (HAT.out _ (HBL.out _ _)) ⟨w.heap.size, 0, none⟩ 1 1 (ic [T]) rfl rfl (HON.out _ _) (ic_one _) (Nat.lt_succ_self _) C3.out C4.out ?_)
      intro v' w2 hown hgr
      obtain ⟨ho, hn, hc, hq, A', c', rfl⟩ := HAFT.out _ (HBL.out T q) (w.heap.size + 1) (Nat.le_succ _) v' w2 hown hgr
      have HO := Lib.hid ho
      have HN := Lib.hid hn
      clear ho hn hown hgr HAFT
      go_wp2_with fail
      refine (HC.out _ HN.out HO.out).mono ?_
      rintro e w3 ⟨rfl, ho3, hn3⟩
      have HO3 := Lib.hid ho3
      have HN3 := Lib.hid hn3
      clear ho3 hn3
      go_wp2_with fail
      go_ret
      exact ⟨rfl, HO3.out, HN3.out⟩
theorem own_near {w w' : World} {g base size n : Nat} {e : TypeId} {v : Value} {xs : List Value} (h : w.ownsRow base e size v n xs) (hn : Near g w w') (hg : g < base) : w'.ownsRow base e size v n xs := by
  refine ⟨h.1, ?_⟩
  rcases h.2 with hv | ⟨k, cap, cur, rfl, hbg, hgg, rest⟩
  · exact .inl hv
  · exact .inr ⟨k, cap, cur, rfl, hbg, (hn.block k (Array.getElem?_eq_some_iff.1 hgg).1 (by omega)).trans hgg, rest⟩
theorem lf_rate (o : List Int) (sp t : Int) (ho : Ok o) (h0 : 0 ≤ t) (h1 : t ≤ 1099511627776) : (lf (long sp) t o).length = rate o sp t := by
  unfold lf rate
  rw [← List.countP_eq_length_filter]
  have hc : cut t = t := by unfold cut; omega
  rw [hc]
  refine List.countP_congr fun x hx => ?_
  have := ho x hx
  have hx2 : cut x = x := by unfold cut; omega
  rw [hx2]
structure RelW (W w : World) (sp : Int) (g : Nat) (v i at' : Value) (n k : Nat) : Prop where
  hi : i = .int .i64 k
  hk : k ≤ n
  st : ∃ (a : Int) (nw : WN) (o : List Int) (B : Nat), at' = .int .i64 a ∧ 0 ≤ a ∧ a ≤ 1099511627776 ∧ OW w B g nw ∧ Told nw a ∧ nw.span = long sp ∧ nw.l = lf (long sp) a o ∧ o.length = k ∧ Ok o ∧
    w.ownsRow (g + 1) 3 1 v k (ic o) ∧ (∀ j, v.ownBlock = some j → j < B) ∧ B ≤ w.heap.size
  below : Below W.heap.size W w
  hg : W.heap.size ≤ g
theorem startW {W w : World} {g : Nat} (sp : Int) (n : Nat) (hb : Below W.heap.size W w) (hg : w.heap.size = g) :
    RelW W (w.alloc (.cells #[.int .i64 (long sp), .int .i64 0, .slice none 0 0] 49)) sp g (.slice none 0 0) (.int .i64 0) (.int .i64 0) n 0 := by
  subst hg
  exact ⟨rfl, Nat.zero_le _, ⟨0, ⟨long sp, 0, []⟩, [], w.heap.size + 1, rfl, Int.le_refl _, by omega, new_ow sp w (w.heap.size + 1) (Nat.lt_succ_self _), told_new sp, rfl, rfl, rfl, (fun x hx => by cases hx), World.ownsRow_nil _ _ _ _, (fun j hj => by simp [Value.ownBlock] at hj), by simp⟩, hb.alloc hb.size _, hb.size⟩
theorem WC.grown {w w' : World} {B g c : Nat} {n : WN} {A : Option Addr} {row : Option Nat} (h : WC w B g n A c) (hg : w.grownBy w' row) (hr : ∀ j, row = some j → g < j ∧ j < B) : WC w' B g n A c :=
  ⟨blk_grown h.1 hg (fun j hj => (hr j hj).1), fun j hj => by
    obtain ⟨x, hx, hxb, hxc⟩ := h.2.1 j hj
    exact ⟨x, hx, hxb, hg.cell hxc (by rw [block_add]; intro e; have := hr _ e.symm; omega)⟩, h.2.2⟩

/-! ### STEP 1 -/
set_option maxRecDepth 100000 in
set_option maxHeartbeats 16000000 in
theorem walk (a0 : Option Addr) (len0 cap0 : Nat) (z0 : List Int) (a1 : Int) (a2 : Int) (w : World) (w0 : IsRow .i64 w a0 len0 cap0 z0) (w1 : (Lit.int .i64 a1).wf = true) (w2 : (Lit.int .i64 a2).wf = true) :
    Calls Try.prog 7 #[.slice a0 len0 cap0, .int .i64 a1, .int .i64 a2] w fun e w' => e = .returned (.bool true) ∧ Below w.heap.size w w' := by
  have hzc : ∃ zc : List Int, zc.length = min len0 40 ∧ IR w 0 a0 zc ∧ ∀ k (hk : k < zc.length), zc[k] = z0.getD k 0 := by
    rcases w0 with ⟨_, h2, _, h4⟩ | ⟨x, hx, hl, hm, hz, hc, hw⟩
    · subst h2 h4; exact ⟨[], rfl, fun j hj => absurd hj (Nat.not_lt_zero _), fun k hk => absurd hk (Nat.not_lt_zero _)⟩
    · have hg : ∀ k (hk : k < (z0.take (min len0 40)).length), (z0.take (min len0 40))[k] = z0.getD k 0 := fun k hk => by
        rw [List.length_take] at hk
        rw [List.getElem_take, List.getD_eq_getElem?_getD, List.getElem?_eq_getElem (by omega)]; rfl
      refine ⟨z0.take (min len0 40), by rw [List.length_take]; omega, fun j hj => ⟨x, hx, Nat.zero_le _, ?_⟩, hg⟩
      rw [hg j hj]
      rw [List.length_take] at hj
      exact hc j (by omega)
  have hcap : len0 ≤ cap0 ∧ len0 ≤ 9223372036854775807 := by
    rcases w0 with ⟨_, h2, h3, _⟩ | ⟨x, hx, hl, hm, hz, hc, hw⟩
    · omega
    · unfold maxLen at hm; omega
  obtain ⟨hcap1, hcap2⟩ := hcap
  obtain ⟨zc, hzl, hzi, _⟩ := hzc
  obtain ⟨n, hn⟩ : ∃ n, n = min len0 40 := ⟨_, rfl⟩
  rw [← hn] at hzl
  have HZL := Lib.hid hzl
  have HZI := Lib.hid hzi
  have hn40 : n ≤ 40 := by omega
  have HN := Lib.hid hn
  clear w0 w1 w2 hzl hzi hn
  go_enter Try.func7, Try.ntmps7
  go_wp2_with fail
  refine (wlives_c _).mono ?_
  rintro e w1 ⟨rfl, hl1⟩
  have HL := Lib.hid hl1
  clear hl1
  go_upto_region 3 with fail
  go_cut [0] (fun s0 wx => s0 = .slice a0 n cap0 ∧ w1 = wx)
  case first =>
    have hn := HN.out
    rcases (by omega : (len0 ≤ 40 ∧ n = len0) ∨ (40 < len0 ∧ n = 40)) with ⟨hsz, hnn⟩ | ⟨hsz, hnn⟩
    · have h2 : (len0 : Int) ≤ 40 := by omega
      clear hn HN
      subst hnn
      rcases (by rcases a0 with _ | x; exact .inl rfl; exact .inr ⟨x, rfl⟩ : a0 = none ∨ ∃ x, a0 = some x) with rfl | ⟨x, rfl⟩
      all_goals
        go_wp2_with fail
        go_meet
        case rel => exact ⟨rfl, rfl⟩
    · have h2 : (40 : Int) < (len0 : Int) := by omega
      clear hn HN
      subst hnn
      rcases (by rcases a0 with _ | x; exact .inl rfl; exact .inr ⟨x, rfl⟩ : a0 = none ∨ ∃ x, a0 = some x) with rfl | ⟨x, rfl⟩
      all_goals
        go_wp2_with fail
        go_meet
        case rel => exact ⟨rfl, rfl⟩
  case rest =>
    obtain ⟨rfl, rfl⟩ := hcut
    have KR := Lib.hid (show Calls Try.prog 21 #[.slice a0 n cap0, .int .i64 a1, .int .i64 a2] w1 fun e w' => e = .returned (.int .i64 (rate zc a1 a2 : Nat)) ∧ w1 = w' from by
      have := rate_c a0 cap0 0 zc a1 a2 w1 (HZI.out.keep HL.out) (by rw [HZL.out]; omega); rwa [HZL.out] at this)
    have KQ := Lib.hid (show Calls Try.prog 22 #[.slice a0 n cap0, .int .i64 a1, .int .i64 a2] w1 fun e w' => e = .returned (.int .i64 (rate zc a1 a2 : Nat)) ∧ w1 = w' from by
      have := rrate_c a0 cap0 0 zc a1 a2 w1 (HZI.out.keep HL.out) (by rw [HZL.out]; omega); rwa [HZL.out] at this)
    obtain ⟨g, hg⟩ : ∃ g, w1.heap.size = g := ⟨_, rfl⟩
    have HR0 := Lib.hid (startW a1 n HL.out hg)
    go_wp2_with (first | (go_at_call 21; refine KR.out.mono ?_; rintro e w' ⟨rfl, rfl⟩) | (go_at_call 22; refine KQ.out.mono ?_; rintro e w' ⟨rfl, rfl⟩) | (go_at_call 9; refine (new_c _ _).mono ?_; rintro e w' ⟨rfl, rfl⟩))
    clear hg KR KQ
    go_loopw [8, 9, 10] (fun u v i wr => ∃ k, RelW w wr a1 g v i u n k) (fun _ _ i _ => n - (intOf i).toNat)
    case atStart => exact ⟨0, HR0.out⟩
    case round =>
      clear HR0
      obtain ⟨k, hrel⟩ := hrel
      obtain rfl := hrel.hi
      have hk := hrel.hk
      obtain ⟨a, nw, o, B, rfl, ha0, ha1, how, htd, hsp, hnl, hol, hok, hown, hblk, hBs⟩ := hrel.st
      have hgw := hrel.hg
      have HBW := Lib.hid hrel.below
      have HIC := Lib.hid (HZI.out.keep hrel.below)
      clear hrel
      obtain ⟨i0, hi0, hz0, hz1, hz2⟩ := info_parts infoI
      by_cases hlt : k < n
      · obtain ⟨x, rfl, _, cx⟩ := HIC.out k (by rw [HZL.out]; exact hlt)
        generalize zc[k]'(by rw [HZL.out]; exact hlt) = y at cx
        have he : (IntKind.u64.wrap y).tmod 50 = rst 50 y := rfl
        obtain ⟨hq0, hq1⟩ := rst_bd 50 y (by omega)
        obtain ⟨b, hb⟩ : ∃ b, b = add a (rst 50 y) := ⟨_, rfl⟩
        have hb2 : a ≤ b ∧ b ≤ 1099511627776 := by rw [hb]; unfold add cut; omega
        obtain ⟨hb3, hb4⟩ := hb2
        have KAD := Lib.hid (fun W => radd_c a (rst 50 y) W)
        rw [← hb] at KAD
        clear hb
        obtain ⟨e1, _, _, htd2⟩ := told_add (b := b) htd ha0 hb4 hb3
        have hnl2 : (addw nw b).l = lf (long a1) b (o ++ [b]) := by
          rw [e1]; dsimp only; rw [hsp, hnl, lf_app, lf_app, lf_lf _ _ _ hb3]
        have hsp2 : (addw nw b).span = long a1 := by rw [e1]; exact hsp
        have hok2 : Ok (o ++ [b]) := fun z hz => by
          rcases List.mem_append.1 hz with hz | hz
          · exact hok z hz
          · simp at hz; rw [hz]; exact ⟨by omega, hb4⟩
        have hnwl : nw.l.length ≤ 100000 := by
          rw [hnl]; exact Nat.le_trans (lf_le _ _ _) (by omega)
        have HNL2 := Lib.hid hnl2
        have HSP2 := Lib.hid hsp2
        have HOK2 := Lib.hid hok2
        have HTD2 := Lib.hid htd2
        have HOL := Lib.hid hol
        obtain ⟨hgB, A, hwc⟩ := how
        have HO3 := Lib.hid (hown.alloc (.cells #[.int .i64 b] 3))
        have HB3 := Lib.hid (HBW.out.alloc HBW.out.size (.cells #[.int .i64 b] 3))
        have HC3 := Lib.hid (one_at wr b 3)
        have HWC3 := Lib.hid (hwc.keep ((Below.refl _ _).alloc (Nat.le_refl _) (.cells #[.int .i64 b] 3)))
        have HRW := Lib.hid hblk
        have C5 := Lib.hid (show g + 1 ≤ (wr.alloc (.cells #[.int .i64 b] 3)).heap.size by simp; omega)
        have C3 := Lib.hid (show k + 1 ≤ maxLen by unfold maxLen; omega)
        have C4 := Lib.hid (show (k + 1) * 8 ≤ 140737488355328 by omega)
        have HFW := Lib.hid htd.f
        clear e1 htd hnl hsp hnl2 hsp2 hok2 hok htd2 hol hown hblk hwc
        go_wp2_with (first | (go_at_call 23; refine (KAD.out _).mono ?_; rintro e w' ⟨rfl, rfl⟩) | (at_builtin; refine wpList_append_own _ rfl _ _ 22 rfl (g + 1) 3 i0 (.int .i64 0) 1 8 Try.underlying22 hi0 hz0 hz1 hz2 rfl (by decide) _ _ _ rfl HO3.out ⟨wr.heap.size, 0, none⟩ 1 1 (ic [b]) rfl rfl HC3.out (ic_one _) C3.out C4.out C5.out ?_))
        intro v' w2 hown' hgrow _
        rw [ic_app] at hown'
        have hrow := HO3.out.lt
        have hrb := HRW.out
        have HB4 := Lib.hid (HB3.out.grown hgrow HB3.out.size (fun j hj => by have := (hrow j hj).1; omega))
        have HW4 := Lib.hid (show OW w2 B g nw from ⟨hgB, A, WC.grown HWC3.out hgrow (fun j hj => ⟨by have := (hrow j hj).1; omega, hrb j hj⟩)⟩)
        have hgs : g < w2.heap.size := HW4.out.2.choose_spec.1.lt
        have K4 := Lib.hid (addw2_c B w2.heap.size g nw b w2 HW4.out HFW.out hnwl (Nat.le_refl _) hgs)
        have HO4 := Lib.hid hown'
        clear hown' hgrow hrow hrb hgs HO3 HB3 HC3 HWC3 HRW C3 C4 C5
        go_wp2_with fail
        refine K4.out.mono ?_
        rintro e w5 ⟨rfl, ho5, hn5⟩
        have HW5 := Lib.hid ho5
        have HB5 := Lib.hid (hn5.later HB4.out HB4.out.size hgw)
        have HO5 := Lib.hid (own_near HO4.out hn5 (Nat.lt_succ_self g))
        have HL5 := Lib.hid HO4.out.lt
        have HZ5 := Lib.hid hn5.size
        clear ho5 hn5
        go_wp2_with fail
        go_roundw
        case rel => exact ⟨k + 1, by go_num, by omega, ⟨b, addw nw b, o ++ [b], w2.heap.size, rfl, by omega, hb4, HW5.out, HTD2.out, HSP2.out, HNL2.out, by rw [List.length_append, HOL.out]; rfl, HOK2.out, HO5.out, fun j hj => (HL5.out j hj).2, HZ5.out⟩, HB5.out, hgw⟩
        case measure => simp [intOf]; omega
      · obtain rfl : n = k := by omega
        obtain ⟨b, hb⟩ : ∃ b, b = add a a2 := ⟨_, rfl⟩
        have hb2 : a ≤ b ∧ b ≤ 1099511627776 := by rw [hb]; unfold add cut; omega
        obtain ⟨hb3, hb4⟩ := hb2
        have KAD := Lib.hid (fun W => radd_c a a2 W)
        rw [← hb] at KAD
        clear hb
        obtain ⟨e1, e2, _⟩ := told_cnt (b := b) htd ha0 hb4 hb3
        have hnwl : nw.l.length ≤ 100000 := by
          rw [hnl]; exact Nat.le_trans (lf_le _ _ _) (by omega)
        have hX : cntN nw b = rate o a1 b := by
          rw [e2, e1]; dsimp only; rw [hsp, hnl, lf_lf _ _ _ hb3]
          exact lf_rate o a1 b hok (by omega) hb4
        have K1 := count_c B g nw b wr how.c htd.f (by omega)
        rw [hX] at K1
        have KC := Lib.hid K1
        obtain ⟨A9, c9, hv9, g1, g2, g3, g4, g5⟩ := IR.of_own (l := o) hown
        clear g1 g2 g3 g4 g5
        subst hv9
        have KO := Lib.hid (fun (W : World) (hN : Near g wr W) => show Calls Try.prog 21 #[.slice A9 n c9, .int .i64 a1, .int .i64 b] W fun e w' => e = .returned (.int .i64 (rate o a1 b : Nat)) ∧ W = w' from by
          obtain ⟨A8, c8, hv8, hir8, _, _, _, _⟩ := IR.of_own (l := o) (own_near hown hN (Nat.lt_succ_self g))
          injection hv8 with h1 h2 h3
          subst h1 h3
          have := rate_c A9 c9 (g + 1) o a1 b W hir8 (by omega)
          rwa [hol] at this)
        clear e1 e2 hX K1 hnl hsp htd hok hown hblk how hlt hol
        generalize rate o a1 b = X at *
        go_wp2_with (go_at_call 23; refine (KAD.out _).mono ?_; rintro e w' ⟨rfl, rfl⟩)
        refine KC.out.mono ?_
        rintro e w5 ⟨rfl, ho5, hn5⟩
        have HB5 := Lib.hid (hn5.later HBW.out HBW.out.size hgw)
        have KO5 := Lib.hid (KO.out w5 hn5)
        clear ho5 hn5
        go_wp2_with fail
        refine KO5.out.mono ?_
        rintro e w' ⟨rfl, rfl⟩
        go_wp2_with fail
        go_ret
        exact ⟨by first | rfl | exact ret_bool (by simp), HB5.out⟩

/-! ### THE ROW -/
set_option maxRecDepth 100000 in
theorem lifted (os : Os) (started : os.Started) (H : Type) (enc : TypeId × Value → H) :
    ReturnsInHanded {} Try.checked os 7 .any (Rows.windowRatesSpec.pre6 enc Try.prog Try.f7 Rows.windowRatesRow.domain false) (Rows.windowRatesSpec.post enc Try.prog Try.f7 false true false false) := by
  refine returnsInHanded_of_change (C := Try.checked) own started (by kernel_rfl) Try.func7
    (ChangeSpec.witness6 (enc := enc) (C := Try.checked) false ⟨#[], #[.slice none 0 0, .int .i64 0, .int .i64 0], []⟩ 8 (by kernel_rfl) (by kernel_rfl) (by kernel_rfl) (by kernel_rfl)) ?_
  intro W base args ds gs before hval0 hW hcnd _
  have hval : ∀ (j : Nat) t v, Try.f7.params[j]? = some t → args[j]? = some v → Value.okWide Try.prog W .any base t v := hval0
  have hW' := hW
  obtain ⟨p, q, hA0, hV, rfl, hfz, hnd⟩ := hW
  have hA : DataW.TrodAll enc Try.prog W 0 (fun _ => true) true Try.f7.params.toList args.toList ds p := hA0
  rw [Try.params7] at hA hval
  obtain ⟨v0, vs0, d0, ds0, p0, q0, hargs, rfl, rfl, h0, r0⟩ := trodAll_cons hA
  obtain ⟨v1, vs1, d1, ds1, p1, q1, rfl, rfl, rfl, h1, r1⟩ := trodAll_cons r0
  obtain ⟨v2, vs2, d2, ds2, p2, q2, rfl, rfl, rfl, h2, r2⟩ := trodAll_cons r1
  obtain ⟨rfl, rfl, rfl⟩ := trodAll_nil r2
  obtain rfl : args = #[v0, v1, v2] := by cases args; simp_all
  obtain ⟨rfl, rfl⟩ := trodVars_none hV
  obtain ⟨a0, len0, cap0, rfl⟩ := okWide_slice Try.underlying22 (hval 0 22 v0 rfl rfl)
  have k0 := h0
  have lt0 : ∀ x ∈ p0, x.block < W.heap.size := by obtain ⟨m, hm⟩ := k0; exact DataW.trod_lt m _ _ _ hm
  obtain ⟨z0, w0⟩ : ∃ zs, IsRow .i64 W a0 len0 cap0 zs := open_row Try.underlying22 Try.underlying3 (by kernel_rfl) h0
  obtain ⟨a1, rfl, rfl, rfl, w1⟩ := open_int Try.underlying3 (hval 1 3 v1 rfl rfl) h1
  obtain ⟨a2, rfl, rfl, rfl, w2⟩ := open_int Try.underlying3 (hval 2 3 v2 rfl rfl) h2
  clear hA0 hval0
  refine (walk a0 len0 cap0 z0 a1 a2 W w0 w1 w2).mono fun e W' ⟨he, bel⟩ => ?_
  subst he
  exact ⟨_, rfl, _, _, _, [], _, [], hW', trodAll_mk1 (shut_bool Try.underlying4 _), (trodAll_cons_mk (Below.trod laidOut (by kernel_rfl) (of_decide_eq_true (by kernel_rfl)) k0 bel lt0) (trodAll_cons_mk (shut_int Try.underlying3 w1) (trodAll_cons_mk (shut_int Try.underlying3 w2) trodAll_mk0))), rfl, bel.frame _, fun h => by cases h⟩

theorem over : Rows.windowRatesRow.holds Try.pinned (OpenSpec.ofChange Rows.windowRatesSpec) :=
  OpenClaim.holds_of_wide 7 Try.f7 rfl rfl rfl rfl rfl rfl rfl ⟨rfl, rfl, rfl, rfl, rfl⟩ rfl rfl rfl rfl rfl (by kernel_rfl) Try.func7 (by kernel_rfl)
    (of_decide_eq_true (by kernel_rfl)) (by unfold Func.isWrapper; first | (rw [if_pos (by decide +kernel)]; kernel_rfl) | (rw [if_neg (by decide +kernel)]; exact ⟨rfl, rfl⟩))
    (fun os started H enc _ => lifted os started H enc)

theorem proved : Rows.WindowRatesSaid := over
#print axioms proved
end Go.Proofs.Ytgonoccacbbhjaa.windowRates
