/-
  Proved: of every slice of frames and every slice of texts 'hostlerlaw03.ReaderAfter' returns true: no condition.
  The frame is written by this session's frame.py, after the kit's proof-skeleton.mjs.
-/
import Derived.Test.YtghcgnahdeaofaaRy
import Derived.Deep.DeepCutAuto
namespace Go.Proofs.Ytghcgnahdeaofaa.readerAfter
open Go.ChangeShapes Go.WideShapes Go.ChangeAt Go.RowKit
set_option linter.unusedVariables false
theorem own : ownKnob Try.prog.godebug = none := by kernel_rfl
theorem laidOut : laidOutB Try.prog = true := by kernel_rfl


/-! ### STEP 1 -/
set_option maxRecDepth 100000 in
set_option maxHeartbeats 16000000 in
theorem walk (a0 : Option Addr) (len0 cap0 : Nat) (z0 : List (Int × ByteArray)) (a1 : Option Addr) (len1 cap1 : Nat) (z1 : List ByteArray) (w : World) (w0 : IsRecs_is w a0 len0 cap0 z0) (w1 : IsStrs w a1 len1 cap1 z1) :
    Calls Try.prog 4 #[.slice a0 len0 cap0, .slice a1 len1 cap1] w fun e w' => e = .returned (.bool true) ∧ Below w.heap.size w w' := by
  have hcm := came_of w0
  have HC := Lib.hid hcm
  have hlm := hcm.lm
  unfold maxLen at hlm
  clear w0 hcm
  have HCS := Lib.hid (cameS_of w1)
  clear w1
  obtain ⟨i0, hi, hz0, hz1, hz2⟩ := info_parts info23
  obtain ⟨n, hn⟩ : ∃ n, n = min len0 6 := ⟨_, rfl⟩
  have hn1 : n ≤ len0 := by omega
  have hn6 : n ≤ 6 := by omega
  have HN := Lib.hid hn
  clear hn
  go_enter Try.func4, Try.ntmps4
  go_wp2_with fail
  refine (rlives_c _).mono ?_
  rintro e w1 ⟨rfl, hl1⟩
  have HL1 := Lib.hid hl1
  clear hl1
  go_wp2_with fail
  go_loopw [5, 6] (fun v i wr => ∃ k, RelR w wr v i z0 n k) (fun _ i _ => n - (intOf i).toNat)
  case atStart => exact ⟨0, RelR.start z0 n HL1.out⟩
  case round =>
    obtain ⟨k, hrel⟩ := hrel
    have hk := hrel.hk
    obtain rfl := hrel.hi
    have HREL := Lib.hid hrel
    clear hrel
    by_cases hlt : k < n
    · have hlt0 : k < len0 := by omega
      have hlt6 : (k : Int) < 6 := by omega
      obtain ⟨x, rfl, hxb, k0, k1, hsz⟩ := HC.out.at' k hlt0
      have GA := Lib.hid (good_app z0 k (by have := HC.out.zl; omega))
      replace k0 : wr.cell? (x.add (k * 2)) = some (.int .i64 (z0.getD k (0, ByteArray.empty)).1) := by rw [HREL.out.below.cell (cell_lt k0)]; exact k0
      rw [add_fld x (k * 2) 1 (by omega)] at k1
      replace k1 : wr.cell? ⟨(x.add (k * 2)).block, (x.add (k * 2)).off + 1, none⟩ = some (.string (z0.getD k (0, ByteArray.empty)).2) := by rw [HREL.out.below.cell (cell_lt k1)]; exact k1
      generalize z0.getD k (0, ByteArray.empty) = g at *
      obtain ⟨g1, g2⟩ := g
      dsimp only at k0 k1 hsz
      have HG := Lib.hid (good_c g1 g2 wr hsz)
      clear hsz
      go_wp2_with fail
      refine HG.out.mono ?_
      rintro e w2 ⟨rfl, hb2⟩
      have HO1 := Lib.hid ((own_keep HREL.out.own hb2).alloc (.cells #[.int .i64 (gk g1), .string (gs g2)] 33))
      have HB1 := Lib.hid ((HREL.out.below.trans (hb2.mono HREL.out.below.size)).alloc (Nat.le_trans HREL.out.below.size hb2.size) (.cells #[.int .i64 (gk g1), .string (gs g2)] 33))
      have HC1 := Lib.hid (fr_at w2 (gk g1) (gs g2) 33)
      have C5 := Lib.hid HB1.out.size
      have C3 := Lib.hid (show k + 1 ≤ maxLen by unfold maxLen; omega)
      have C4 := Lib.hid (show (k + 1) * 24 ≤ 140737488355328 by omega)
      clear hb2
      go_wp2_with (at_builtin; refine wpList_append_own _ rfl _ _ 24 rfl w.heap.size 33 i0 (.agg #[.int .i64 0, .string ByteArray.empty]) 2 24 Try.underlying24 hi hz0 hz1 hz2 rfl (by decide) _ _ _ rfl HO1.out ⟨w2.heap.size, 0, none⟩ 1 1 (fc [(gk g1, gs g2)]) rfl rfl HC1.out (fc_one _) C3.out C4.out C5.out ?_)
      intro v' w3 hown' hgrow _
      have HB2 := Lib.hid (HB1.out.grown hgrow HB1.out.size (fun j hj => (HO1.out.lt j hj).1))
      have HO2 := Lib.hid (show w3.ownsRow w.heap.size 33 2 v' (k + 1) (fc (ins z0 (k + 1))) from by rw [← GA.out]; exact hown')
      clear hown' hgrow
      go_wp2_with fail
      go_roundw
      case rel => exact ⟨k + 1, by go_num, by omega, HO2.out, fun h => by omega, HB2.out⟩
      case measure => simp [intOf]; omega
    · obtain rfl : n = k := by omega
      have hgd : (n < len0 ∧ decide ((n : Int) < 6) = false) ∨ decide (n < len0) = false := by
        have := HN.out
        by_cases hq : n < len0
        · exact .inl ⟨hq, by simp; omega⟩
        · exact .inr (by simpa using hq)
      clear hlt HN
      go_upto_region 5 with fail
      go_cut [22] (fun s22 wx => s22 = .bool false ∧ wr = wx)
      case first =>
        rcases hgd with ⟨hg1, hg2⟩ | hg1
        all_goals
          go_wp2_with fail
          go_meet
          case rel => exact ⟨rfl, rfl⟩
      case rest =>
      obtain ⟨rfl, rfl⟩ := hcut
      clear hgd
      have HOK := Lib.hid (ins_ok z0 n)
      have hfl := ins_len (show n ≤ z0.length by have := HC.out.zl; omega)
      have hown := HREL.out.own
      generalize ins z0 n = fs at *
      obtain ⟨Ao, co, hu, hFR, hnl, hco, hcom, hAo⟩ := FR.of_own hown
      clear hnl
      have hnul := HREL.out.nul
      have HLw := Lib.hid HREL.out.below
      clear hown HREL
      subst hu
      have HBY := Lib.hid (fun (W : World) (hb : Below wr.heap.size wr W) => show Calls Try.prog 15 #[.slice Ao n co] W fun e w' => ∃ v, e = .returned v ∧ Below W.heap.size W w' ∧ w'.ownsRow W.heap.size 5 1 v (fbs fs).length (bc (fbs fs)) ∧ (n = 0 → v = .slice none 0 0) from by
        have := bytes_of Ao co fs W (hFR.keep hb) HOK.out (by omega)
        rwa [hfl] at this)
      have HFL := Lib.hid hfl
      have HFR := Lib.hid hFR
      have HAo := Lib.hid hAo
      have HNUL := Lib.hid hnul
      clear hfl hFR hAo hnul
      unfold maxLen at hcom
      have hL43 := fbs_le HOK.out
      rw [HFL.out] at hL43
      obtain ⟨L, hL⟩ : ∃ L, L = (fbs fs).length := ⟨_, rfl⟩
      rw [← hL] at hL43
      obtain ⟨D, hD⟩ : ∃ D : ByteArray, D = ⟨(fbs fs).toArray⟩ := ⟨_, rfl⟩
      have HDL := Lib.hid (show D.data.toList = fbs fs by rw [hD])
      have hDs : D.size = L := by rw [hD, hL]; exact List.size_toArray
      have HDD := Lib.hid hD
      have HLL := Lib.hid hL
      clear hD hL
      have HBYD := Lib.hid (fun (v : Value) (w2 : World) (B : Nat) (h : w2.ownsRow B 5 1 v (fbs fs).length (bc (fbs fs))) => show ∃ A c, v = .slice A L c ∧ (convert 36 9 v).run Try.prog w2 = .ok (.string D) w2 from by
        obtain ⟨A, c, hv, hbr, _⟩ := BR.own' h
        refine ⟨A, c, by rw [hv, HLL.out], ?_⟩
        rw [hv, HDD.out]; exact str_of hbr c)
      obtain ⟨G, hG⟩ : ∃ G, G = wr.heap.size := ⟨_, rfl⟩
      have K0 := Lib.hid (Blk.new wr 49 #[.int .i64 40, .slice none 0 0, .int .i64 0])
      have K1 := Lib.hid (show Below wr.heap.size wr (wr.alloc (.cells #[.int .i64 40, .slice none 0 0, .int .i64 0] 49)) from (Below.refl _ _).alloc (Nat.le_refl _) _)
      go_wp2_with fail
      refine (rnew_c _ _).mono ?_
      rintro e w' ⟨rfl, rfl⟩
      generalize (wr.alloc (.cells #[.int .i64 40, .slice none 0 0, .int .i64 0] 49)) = W5 at *
      rw [← hG] at K0 ⊢
      have HG := Lib.hid hG.symm
      have HWG := Lib.hid (show w.heap.size ≤ G by rw [hG]; exact HLw.out.size)
      clear hG
      go_wp2_with fail
      refine (HBY.out W5 K1.out).mono ?_
      rintro e w6 ⟨v6, rfl, hb6, ho6, hn0⟩
      obtain ⟨A6, c6, rfl, hcv⟩ := HBYD.out v6 w6 _ ho6
      have HK6 := Lib.hid (K0.out.below hb6 K0.out.lt)
      have HB6 := Lib.hid (K1.out.trans (hb6.mono K1.out.size))
      clear hb6 ho6 hn0 HBYD HBY
      have HSD := Lib.hid (show (D ++ { data := #[9, 0, 0] } : ByteArray).data.toList = fbs fs ++ [9, 0, 0] from by rw [ByteArray.data_append, Array.toList_append, HDL.out])
      have HSZ : (D ++ { data := #[9, 0, 0] } : ByteArray).size = L + 3 := by rw [ByteArray.size_append, hDs]; rfl
      have hbd : ([] : List UInt8).length + (L + 3) ≤ 100000 := by simp only [List.length_nil]; omega
      have HFD := Lib.hid ((feed_c w6.heap.size G ⟨40, [], 0⟩ (D ++ { data := #[9, 0, 0] }) w6 ⟨HK6.out.lt, _, HK6.out, World.ownsRow_nil _ _ _ _⟩ (Nat.le_refl _) (by rw [HSZ]; exact hbd)).mono (fun _ _ h => FD.new (r2 := ⟨40, [], 4⟩) h rfl (by rw [HSD.out]; exact fed_after HOK.out) fs (by rw [HSD.out]; exact told_after HOK.out)))
      clear HSZ hbd
      go_wp2_with fail
      refine HFD.out.mono ?_
      rintro e w7 ⟨v7, he7, ho7, hu7, hr7⟩
      have he7' : e = .returned (.tuple #[v7, .int .i64 4]) := he7
      subst he7'
      have HR7 := Lib.hid hr7
      have HB7 := Lib.hid (hu7.later HB6.out HB6.out.size (by rw [HG.out]; exact Nat.le_refl _))
      obtain ⟨A7, c7, rfl, q1, q2, q3, q4, q5⟩ := FR.of_own ho7
      have HF7 := Lib.hid q1
      have HF1 := Lib.hid (HFR.out.keep HB7.out)
      have HBF := Lib.hid (HLw.out.trans (HB7.out.mono HLw.out.size))
      rw [HFL.out] at q3 ⊢
      clear hDs he7 ho7 hu7 hr7 q1 q2 q4 q5 HFD HFR hcv HK6 HB6
      go_wp2_with fail
      refine (same_n A7 Ao c7 co fs w7 n HFL.out HF7.out HF1.out (by omega)).mono ?_
      rintro e w8 ⟨rfl, q, rfl⟩
      have HX1 := Lib.hid (HR7.out.keep (bel_drewN (Below.refl _ _) q))
      have HXB := Lib.hid (bel_drewN HBF.out q)
      clear HF1 HF7 HR7 HBF HB7
      generalize w7.drewN q = w8 at *
      have HLF := Lib.hid (left_c _ _ _ _ HX1.out)
      have HER := Lib.hid (err_c _ _ _ _ HX1.out)
      go_wp2_with fail
      refine HER.out.mono ?_
      rintro e w' ⟨rfl, rfl⟩
      dsimp only
      go_wp2_with fail
      refine HLF.out.mono ?_
      rintro e w' ⟨rfl, rfl⟩
      go_wp2_with fail
      refine (few3_c a1 len1 cap1 z1 _ (HCS.out.keep HXB.out)).mono ?_
      rintro e w9 ⟨v9, rfl, hb9, ho9⟩
      obtain ⟨P, hP⟩ : ∃ P, P = cuts z1 (min len1 30) := ⟨_, rfl⟩
      have hpl : P.length ≤ 30 := by rw [hP]; unfold cuts; rw [List.length_map, List.length_take]; omega
      rw [← hP] at ho9
      clear hP
      obtain ⟨A9, c9, rfl, q1, q2, q3', q4⟩ := SR.of_own ho9
      have HSR := Lib.hid q1
      have HX9 := Lib.hid (HX1.out.keep hb9)
      have HXB9 := Lib.hid (HXB.out.trans (hb9.mono HXB.out.size))
      obtain ⟨p, hp⟩ : ∃ p, p = P.length := ⟨_, rfl⟩
      rw [← hp] at hpl q3' ⊢
      have HPL := Lib.hid hp.symm
      clear hp hb9 ho9 q1 q2 q4 HLF HER HX1 HXB
      go_wp2_with fail
      go_loopw [10] (fun i wk => ∃ k : Nat, i = .int .i64 k ∧ k ≤ p ∧ Below w9.heap.size w9 wk) (fun i _ => p - (intOf i).toNat)
      case atStart => exact ⟨0, rfl, Nat.zero_le _, Below.refl _ _⟩
      case round =>
        obtain ⟨k, rfl, hk, hbk⟩ := hrel
        have HBK := Lib.hid hbk
        clear hbk
        by_cases hlt : k < p
        · obtain ⟨x, rfl, cx⟩ := (HSR.out.keep HBK.out) k (by rw [HPL.out]; exact hlt)
          generalize (P[k]'(by rw [HPL.out]; exact hlt)) = y at cx
          have HXk := Lib.hid (HX9.out.keep HBK.out)
          go_wp2_with fail
          refine (feed_err2 _ _ _ _ _ HXk.out (by decide)).mono ?_
          rintro e w10 ⟨rfl, hb10⟩
          have HX10 := Lib.hid (HXk.out.keep hb10)
          have HB10 := Lib.hid (HBK.out.trans (hb10.mono HBK.out.size))
          have HLF := Lib.hid (left_c _ _ _ _ HX10.out)
          have HWT := Lib.hid (want_c _ _ _ _ HX10.out (by simp))
          rw [wantN_err] at HWT
          clear hb10
          dsimp only
          go_wp2_with fail
          refine HLF.out.mono ?_
          rintro e w' ⟨rfl, rfl⟩
          go_wp2_with fail
          refine HWT.out.mono ?_
          rintro e w11 ⟨rfl, hb11⟩
          have HB11 := Lib.hid (HB10.out.trans (hb11.mono HB10.out.size))
          clear hb11
          go_wp2_with fail
          go_roundw
          case rel => exact ⟨k + 1, by go_num, by omega, HB11.out⟩
          case measure => simp [intOf]; omega
        · obtain rfl : k = p := by omega
          have HE := Lib.hid (HXB9.out.trans (HBK.out.mono HXB9.out.size))
          go_wp2_with fail
          go_ret
          exact ⟨rfl, HE.out⟩

/-! ### THE ROW -/
set_option maxRecDepth 100000 in
theorem lifted (os : Os) (started : os.Started) (H : Type) (enc : TypeId × Value → H) :
    ReturnsInHanded {} Try.checked os 4 .any (Rows.readerAfterSpec.pre6 enc Try.prog Try.f4 Rows.readerAfterRow.domain false) (Rows.readerAfterSpec.post enc Try.prog Try.f4 false true false false) := by
  refine returnsInHanded_of_change (C := Try.checked) own started (by kernel_rfl) Try.func4
    (ChangeSpec.witness6 (enc := enc) (C := Try.checked) false ⟨#[], #[.slice none 0 0, .slice none 0 0], []⟩ 8 (by kernel_rfl) (by kernel_rfl) (by kernel_rfl) (by kernel_rfl)) ?_
  intro W base args ds gs before hval0 hW hcnd _
  have hval : ∀ (j : Nat) t v, Try.f4.params[j]? = some t → args[j]? = some v → Value.okWide Try.prog W .any base t v := hval0
  have hW' := hW
  obtain ⟨p, q, hA0, hV, rfl, hfz, hnd⟩ := hW
  have hA : DataW.TrodAll enc Try.prog W 0 (fun _ => true) true Try.f4.params.toList args.toList ds p := hA0
  rw [Try.params4] at hA hval
  obtain ⟨v0, vs0, d0, ds0, p0, q0, hargs, rfl, rfl, h0, r0⟩ := trodAll_cons hA
  obtain ⟨v1, vs1, d1, ds1, p1, q1, rfl, rfl, rfl, h1, r1⟩ := trodAll_cons r0
  obtain ⟨rfl, rfl, rfl⟩ := trodAll_nil r1
  obtain rfl : args = #[v0, v1] := by cases args; simp_all
  obtain ⟨rfl, rfl⟩ := trodVars_none hV
  obtain ⟨a0, len0, cap0, rfl⟩ := okWide_slice Try.underlying24 (hval 0 24 v0 rfl rfl)
  have k0 := h0
  have lt0 : ∀ x ∈ p0, x.block < W.heap.size := by obtain ⟨m, hm⟩ := k0; exact DataW.trod_lt m _ _ _ hm
  obtain ⟨z0, w0⟩ : ∃ zs, IsRecs_is W a0 len0 cap0 zs := open_recs_is Try.underlying24 Try.underlying33 (by kernel_rfl) (by kernel_rfl) Try.underlying3 Try.underlying9 h0
  obtain ⟨a1, len1, cap1, rfl⟩ := okWide_slice Try.underlying31 (hval 1 31 v1 rfl rfl)
  have k1 := h1
  have lt1 : ∀ x ∈ p1, x.block < W.heap.size := by obtain ⟨m, hm⟩ := k1; exact DataW.trod_lt m _ _ _ hm
  obtain ⟨z1, w1⟩ : ∃ zs, IsStrs W a1 len1 cap1 zs := open_strs_row Try.underlying31 Try.underlying9 (by kernel_rfl) h1
  clear hA0 hval0
  refine (walk a0 len0 cap0 z0 a1 len1 cap1 z1 W w0 w1).mono fun e W' ⟨he, bel⟩ => ?_
  subst he
  exact ⟨_, rfl, _, _, _, [], _, [], hW', trodAll_mk1 (shut_bool Try.underlying4 _), (trodAll_cons_mk (Below.trod laidOut (by kernel_rfl) (of_decide_eq_true (by kernel_rfl)) k0 bel lt0) (trodAll_cons_mk (Below.trod laidOut (by kernel_rfl) (of_decide_eq_true (by kernel_rfl)) k1 bel lt1) trodAll_mk0)), rfl, bel.frame _, fun h => by cases h⟩

theorem over : Rows.readerAfterRow.holds Try.pinned (OpenSpec.ofChange Rows.readerAfterSpec) :=
  OpenClaim.holds_of_wide 4 Try.f4 rfl rfl rfl rfl rfl rfl rfl ⟨rfl, rfl, rfl, rfl, rfl⟩ rfl rfl rfl rfl rfl (by kernel_rfl) Try.func4 (by kernel_rfl)
    (of_decide_eq_true (by kernel_rfl)) (by unfold Func.isWrapper; first | (rw [if_pos (by decide +kernel)]; kernel_rfl) | (rw [if_neg (by decide +kernel)]; exact ⟨rfl, rfl⟩))
    (fun os started H enc _ => lifted os started H enc)

theorem proved : Rows.ReaderAfterSaid := over
#print axioms proved
end Go.Proofs.Ytghcgnahdeaofaa.readerAfter
