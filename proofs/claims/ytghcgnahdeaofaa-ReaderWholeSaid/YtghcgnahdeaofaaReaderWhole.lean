/-
  Proved: of every slice of frames and every slice of numbers 'hostlerlaw03.ReaderWhole' returns true: no condition.
  The frame is written by this session's frame.py, after the kit's proof-skeleton.mjs.
-/
import Derived.Test.YtghcgnahdeaofaaRx
import Derived.Deep.DeepCutAuto
namespace Go.Proofs.Ytghcgnahdeaofaa.readerWhole
open Go.ChangeShapes Go.WideShapes Go.ChangeAt Go.RowKit
set_option linter.unusedVariables false
theorem own : ownKnob Try.prog.godebug = none := by kernel_rfl
theorem laidOut : laidOutB Try.prog = true := by kernel_rfl


/-! ### STEP 1 -/
set_option maxRecDepth 100000 in
set_option maxHeartbeats 16000000 in
theorem walk (a0 : Option Addr) (len0 cap0 : Nat) (z0 : List (Int × ByteArray)) (a1 : Option Addr) (len1 cap1 : Nat) (z1 : List Int) (w : World) (w0 : IsRecs_is w a0 len0 cap0 z0) (w1 : IsRow .i64 w a1 len1 cap1 z1) :
    Calls Try.prog 7 #[.slice a0 len0 cap0, .slice a1 len1 cap1] w fun e w' => e = .returned (.bool true) ∧ Below w.heap.size w w' := by
  have hcm := came_of w0
  have HC := Lib.hid hcm
  have hlm := hcm.lm
  unfold maxLen at hlm
  clear w0 hcm
  obtain ⟨zc, hzl, hzr, hcap1, hcap2, hnone⟩ := nums_of w1 20
  obtain ⟨n2, hn2⟩ : ∃ n2, n2 = min len1 20 := ⟨_, rfl⟩
  rw [← hn2] at hzl
  have hn20 : n2 ≤ 20 := by omega
  have HN2 := Lib.hid hn2
  have HZL := Lib.hid hzl
  have HZR := Lib.hid hzr
  have HNO := Lib.hid hnone
  clear w1 hn2 hzl hzr hnone
  obtain ⟨i0, hi, hz0, hz1, hz2⟩ := info_parts info23
  obtain ⟨n, hn⟩ : ∃ n, n = min len0 8 := ⟨_, rfl⟩
  have hn1 : n ≤ len0 := by omega
  have hn8 : n ≤ 8 := by omega
  have HN := Lib.hid hn
  clear hn
  go_enter Try.func7, Try.ntmps7
  go_wp2_with fail
  refine (rlives_c _).mono ?_
  rintro e w1 ⟨rfl, hl1⟩
  have HL1 := Lib.hid hl1
  clear hl1
  go_wp2_with fail
  go_loopw [5, 6] (fun v i wr => ∃ k, RelR w wr v i z0 n k) (fun _ i _ => n - (intOf i).toNat)
  case atStart => exact ⟨0, RelR.start z0 n HL1.out⟩
  case round =>
    obtain ⟨k, hrel⟩ := hrel
    have hk := hrel.hk
    obtain rfl := hrel.hi
    have HREL := Lib.hid hrel
    clear hrel
    by_cases hlt : k < n
    · have hlt0 : k < len0 := by omega
      have hlt8 : (k : Int) < 8 := by omega
      obtain ⟨x, rfl, hxb, k0, k1, hsz⟩ := HC.out.at' k hlt0
      have GA := Lib.hid (good_app z0 k (by have := HC.out.zl; omega))
      replace k0 : wr.cell? (x.add (k * 2)) = some (.int .i64 (z0.getD k (0, ByteArray.empty)).1) := by rw [HREL.out.below.cell (cell_lt k0)]; exact k0
      rw [add_fld x (k * 2) 1 (by omega)] at k1
      replace k1 : wr.cell? ⟨(x.add (k * 2)).block, (x.add (k * 2)).off + 1, none⟩ = some (.string (z0.getD k (0, ByteArray.empty)).2) := by rw [HREL.out.below.cell (cell_lt k1)]; exact k1
      generalize z0.getD k (0, ByteArray.empty) = g at *
      obtain ⟨g1, g2⟩ := g
      dsimp only at k0 k1 hsz
      have HG := Lib.hid (good_c g1 g2 wr hsz)
      clear hsz
      go_wp2_with fail
      refine HG.out.mono ?_
      rintro e w2 ⟨rfl, hb2⟩
      have HO1 := Lib.hid ((own_keep HREL.out.own hb2).alloc (.cells #[.int .i64 (gk g1), .string (gs g2)] 33))
      have HB1 := Lib.hid ((HREL.out.below.trans (hb2.mono HREL.out.below.size)).alloc (Nat.le_trans HREL.out.below.size hb2.size) (.cells #[.int .i64 (gk g1), .string (gs g2)] 33))
      have HC1 := Lib.hid (fr_at w2 (gk g1) (gs g2) 33)
      have C5 := Lib.hid HB1.out.size
      have C3 := Lib.hid (show k + 1 ≤ maxLen by unfold maxLen; omega)
      have C4 := Lib.hid (show (k + 1) * 24 ≤ 140737488355328 by omega)
      clear hb2
      go_wp2_with (at_builtin; refine wpList_append_own _ rfl _ _ 24 rfl w.heap.size 33 i0 (.agg #[.int .i64 0, .string ByteArray.empty]) 2 24 Try.underlying24 hi hz0 hz1 hz2 rfl (by decide) _ _ _ rfl HO1.out ⟨w2.heap.size, 0, none⟩ 1 1 (fc [(gk g1, gs g2)]) rfl rfl HC1.out (fc_one _) C3.out C4.out C5.out ?_)
      intro v' w3 hown' hgrow _
      have HB2 := Lib.hid (HB1.out.grown hgrow HB1.out.size (fun j hj => (HO1.out.lt j hj).1))
      have HO2 := Lib.hid (show w3.ownsRow w.heap.size 33 2 v' (k + 1) (fc (ins z0 (k + 1))) from by rw [← GA.out]; exact hown')
      clear hown' hgrow
      go_wp2_with fail
      go_roundw
      case rel => exact ⟨k + 1, by go_num, by omega, HO2.out, fun h => by omega, HB2.out⟩
      case measure => simp [intOf]; omega
    · obtain rfl : n = k := by omega
      have hgd : (n < len0 ∧ decide ((n : Int) < 8) = false) ∨ decide (n < len0) = false := by
        have := HN.out
        by_cases hq : n < len0
        · exact .inl ⟨hq, by simp; omega⟩
        · exact .inr (by simpa using hq)
      clear hlt HN
      go_upto_region 5 with fail
      go_cut [22] (fun s22 wx => s22 = .bool false ∧ wr = wx)
      case first =>
        rcases hgd with ⟨hg1, hg2⟩ | hg1
        all_goals
          go_wp2_with fail
          go_meet
          case rel => exact ⟨rfl, rfl⟩
      case rest =>
      obtain ⟨rfl, rfl⟩ := hcut
      clear hgd
      have HOK := Lib.hid (ins_ok z0 n)
      have hfl := ins_len (show n ≤ z0.length by have := HC.out.zl; omega)
      have hown := HREL.out.own
      generalize ins z0 n = fs at *
      obtain ⟨Ao, co, hu, hFR, hnl, hco, hcom, hAo⟩ := FR.of_own hown
      clear hnl
      have hnul := HREL.out.nul
      have HLw := Lib.hid HREL.out.below
      clear hown HREL
      subst hu
      have hby := bytes_of Ao co fs wr.drew (hFR.keep (Below.refl _ _).drew) HOK.out (by omega)
      rw [hfl] at hby
      have HBY := Lib.hid hby
      clear hby
      have HFL := Lib.hid hfl
      have HFR := Lib.hid hFR
      have HAo := Lib.hid hAo
      have HNUL := Lib.hid hnul
      clear hfl hFR hAo hnul
      unfold maxLen at hcom
      have hL43 := fbs_le HOK.out
      rw [HFL.out] at hL43
      obtain ⟨L, hL⟩ : ∃ L, L = (fbs fs).length := ⟨_, rfl⟩
      rw [← hL] at hL43
      obtain ⟨D, hD⟩ : ∃ D : ByteArray, D = ⟨(fbs fs).toArray⟩ := ⟨_, rfl⟩
      have HDL := Lib.hid (show D.data.toList = fbs fs by rw [hD])
      have hDs : D.size = L := by rw [hD, hL]; exact List.size_toArray
      have HSP := Lib.hid (fun (W : World) (hb : Below w.heap.size w W) => show Calls Try.prog 18 #[.string D, .slice a1 n2 cap1] W (Texts (pieces D zc) W) from by
        have := split_c D a1 cap1 zc W (HZR.out.keep hb) (by rw [HZL.out]; omega) (by omega); rwa [HZL.out] at this)
      have hpl : (pieces D zc).length ≤ 21 := by
        have := (goes_inv D zc).2.1
        unfold pieces; rw [List.length_append]; rw [HZL.out] at this
        simp; omega
      have HFP := Lib.hid ((pieces_flat D zc).trans HDL.out)
      obtain ⟨P, hP⟩ : ∃ P, P = pieces D zc := ⟨_, rfl⟩
      rw [← hP] at HSP hpl HFP
      obtain ⟨p, hp⟩ : ∃ p, p = P.length := ⟨_, rfl⟩
      rw [← hp] at hpl
      have HPL := Lib.hid hp.symm
      have HDD := Lib.hid hD
      have HLL := Lib.hid hL
      clear hP hp hD hL hDs
      have HBYD := Lib.hid (fun (v : Value) (w2 : World) (h : w2.ownsRow wr.heap.size 5 1 v (fbs fs).length (bc (fbs fs))) => show ∃ A c, v = .slice A L c ∧ (convert 36 9 v).run Try.prog w2 = .ok (.string D) w2 from by
        obtain ⟨A, c, hv, hbr, _⟩ := BR.own' h
        refine ⟨A, c, by rw [hv, HLL.out], ?_⟩
        rw [hv, HDD.out]; exact str_of hbr c)
      skip
      all_goals
        go_upto_region 8 with fail
        go_cut [7] (fun s7 wx => Below wr.heap.size wr wx ∧ ∃ A2 c2, s7 = .slice A2 p c2 ∧ p ≤ c2 ∧ SR wx A2 P)
        case first =>
          have hn2 := HN2.out
          rcases (by rcases a1 with _ | x; exact .inl rfl; exact .inr ⟨x, rfl⟩ : a1 = none ∨ ∃ x, a1 = some x) with rfl | ⟨x, rfl⟩
          · obtain ⟨h1, h2⟩ := HNO.out rfl
            subst h1 h2
            have h0 : n2 = 0 := by omega
            subst h0
            clear hn2 HN2
            go_wp2_with fail
            go_region_with (first | (go_at_call 15; (with_reducible refine HBY.out.mono ?_); rintro e w2 ⟨v2, rfl, hb2, ho2, _⟩; obtain ⟨A2, c2, rfl, hcv⟩ := HBYD.out v2 w2 ho2; have b2 : Below wr.heap.size wr w2 := ⟨hb2.os, hb2.tape, hb2.output, hb2.size, hb2.block⟩) | (go_at_call 18; (with_reducible refine (HSP.out w2 (HLw.out.trans (b2.mono HLw.out.size))).mono ?_); rintro e w3 ⟨v3, rfl, hb3, ho3⟩; have b3 : Below wr.heap.size wr w3 := b2.trans (hb3.mono b2.size); obtain ⟨A3, c3, rfl, hsr3, hpn, hpc, _⟩ := SR.of_own ho3))
            all_goals
              go_wp2_with fail
              go_meet
              case rel => exact ⟨b3, A3, c3, by rw [HPL.out], by rw [← HPL.out]; exact hpc, hsr3⟩
          · rcases (by omega : (len1 ≤ 20 ∧ n2 = len1) ∨ (20 < len1 ∧ n2 = 20)) with ⟨hsz, hnn⟩ | ⟨hsz, hnn⟩
            · have h2 : (len1 : Int) ≤ 20 := by omega
              clear hn2 HN2 HNO
              subst hnn
              have h3 : (0 : Int) ≤ (n2 : Int) := by omega
              have h4 : (n2 : Int) ≤ (cap1 : Int) := by omega
              by_cases hz : cap1 = 0
              · subst hz
                obtain rfl : n2 = 0 := by omega
                go_wp2_with fail
                go_region_with (first | (go_at_call 15; (with_reducible refine HBY.out.mono ?_); rintro e w2 ⟨v2, rfl, hb2, ho2, _⟩; obtain ⟨A2, c2, rfl, hcv⟩ := HBYD.out v2 w2 ho2; have b2 : Below wr.heap.size wr w2 := ⟨hb2.os, hb2.tape, hb2.output, hb2.size, hb2.block⟩) | (go_at_call 18; (with_reducible refine (HSP.out w2 (HLw.out.trans (b2.mono HLw.out.size))).mono ?_); rintro e w3 ⟨v3, rfl, hb3, ho3⟩; have b3 : Below wr.heap.size wr w3 := b2.trans (hb3.mono b2.size); obtain ⟨A3, c3, rfl, hsr3, hpn, hpc, _⟩ := SR.of_own ho3))
                all_goals
                  go_wp2_with fail
                  go_meet
                  case rel => exact ⟨b3, A3, c3, by rw [HPL.out], by rw [← HPL.out]; exact hpc, hsr3⟩
              · skip
                go_wp2_with fail
                go_region_with (first | (go_at_call 15; (with_reducible refine HBY.out.mono ?_); rintro e w2 ⟨v2, rfl, hb2, ho2, _⟩; obtain ⟨A2, c2, rfl, hcv⟩ := HBYD.out v2 w2 ho2; have b2 : Below wr.heap.size wr w2 := ⟨hb2.os, hb2.tape, hb2.output, hb2.size, hb2.block⟩) | (go_at_call 18; (with_reducible refine (HSP.out w2 (HLw.out.trans (b2.mono HLw.out.size))).mono ?_); rintro e w3 ⟨v3, rfl, hb3, ho3⟩; have b3 : Below wr.heap.size wr w3 := b2.trans (hb3.mono b2.size); obtain ⟨A3, c3, rfl, hsr3, hpn, hpc, _⟩ := SR.of_own ho3))
                all_goals
                  go_wp2_with fail
                  go_meet
                  case rel => exact ⟨b3, A3, c3, by rw [HPL.out], by rw [← HPL.out]; exact hpc, hsr3⟩
            · have h2 : (20 : Int) < (len1 : Int) := by omega
              clear hn2 HN2 HNO
              subst hnn
              have h4 : (20 : Int) ≤ (cap1 : Int) := by omega
              have hz : ¬ cap1 = 0 := by omega
              go_wp2_with fail
              go_region_with (first | (go_at_call 15; (with_reducible refine HBY.out.mono ?_); rintro e w2 ⟨v2, rfl, hb2, ho2, _⟩; obtain ⟨A2, c2, rfl, hcv⟩ := HBYD.out v2 w2 ho2; have b2 : Below wr.heap.size wr w2 := ⟨hb2.os, hb2.tape, hb2.output, hb2.size, hb2.block⟩) | (go_at_call 18; (with_reducible refine (HSP.out w2 (HLw.out.trans (b2.mono HLw.out.size))).mono ?_); rintro e w3 ⟨v3, rfl, hb3, ho3⟩; have b3 : Below wr.heap.size wr w3 := b2.trans (hb3.mono b2.size); obtain ⟨A3, c3, rfl, hsr3, hpn, hpc, _⟩ := SR.of_own ho3))
              all_goals
                go_wp2_with fail
                go_meet
                case rel => exact ⟨b3, A3, c3, by rw [HPL.out], by rw [← HPL.out]; exact hpc, hsr3⟩
        case rest =>
          obtain ⟨hbc, A2, c2, rfl, hpc, hsr⟩ := hcut
          have HFRc := Lib.hid (HFR.out.keep hbc)
          have HSRc := Lib.hid hsr
          have HBc := Lib.hid (HLw.out.trans (hbc.mono HLw.out.size))
          clear hbc hsr HBY HBYD HSP HDL HDD HFR
          obtain ⟨G, hG⟩ : ∃ G, G = wc.heap.size := ⟨_, rfl⟩
          have K0 := Lib.hid (rnew_or 40 wc (wc.alloc (.cells #[.int .i64 40, .slice none 0 0, .int .i64 0] 49)).heap.size (by simp))
          have K1 := Lib.hid (show Below wc.heap.size wc (wc.alloc (.cells #[.int .i64 40, .slice none 0 0, .int .i64 0] 49)) from (Below.refl _ _).alloc (Nat.le_refl _) _)
          go_wp2_with fail
          refine (rnew_c _ _).mono ?_
          rintro e w' ⟨rfl, rfl⟩
          generalize (wc.alloc (.cells #[.int .i64 40, .slice none 0 0, .int .i64 0] 49)) = W5 at *
          rw [← hG] at K0 ⊢
          have HG := Lib.hid hG.symm
          have HWG := Lib.hid (show w.heap.size ≤ G by rw [hG]; exact HBc.out.size)
          clear hG
          go_wp2_with fail
          go_loopw [9, 10] (fun v i wr => ∃ k, RelP W5 wr G ⟨40, [], 0⟩ P v i k) (fun _ i _ => p - (intOf i).toNat)
          case atStart => exact ⟨0, RelP.start _ _ _ _ K0.out⟩
          case round =>
            obtain ⟨k, hrel⟩ := hrel
            obtain rfl := hrel.hi
            have hk := hrel.hk
            rw [HPL.out] at hk
            have HREL := Lib.hid hrel
            clear hrel
            have HBk := Lib.hid (near_later K1.out HREL.out.near (by rw [HG.out]; exact Nat.le_refl _) K1.out.size)
            by_cases hlt : k < p
            · obtain ⟨x, rfl, cx⟩ := (HSRc.out.keep HBk.out) k (by rw [HPL.out]; exact hlt)
              have HSN := Lib.hid (flat_snoc P k (by rw [HPL.out]; exact hlt))
              have hfl1 := flat_take_le P (k + 1)
              have HE0 := Lib.hid (show (fed ⟨40, [], 0⟩ (flat (P.take (k + 1)))).e = 0 by rw [flat_take, HFP.out]; exact fed_part HOK.out _)
              rw [HSN.out, HFP.out, List.length_append] at hfl1
              rw [← HLL.out] at hfl1
              generalize (P[k]'(by rw [HPL.out]; exact hlt)) = y at cx HSN hfl1
              have hfl2 : (flat (P.take k)).length + y.size ≤ L := by
                have e1 : y.data.toList.length = y.size := Array.length_toList
                omega
              clear hfl1
              have HT := Lib.hid (show told ⟨40, [], 0⟩ (flat (P.take (k + 1))) = told ⟨40, [], 0⟩ (flat (P.take k)) ++ told (fed ⟨40, [], 0⟩ (flat (P.take k))) y.data.toList by rw [HSN.out, told_app])
              have HE := Lib.hid (show fed ⟨40, [], 0⟩ (flat (P.take (k + 1))) = fed (fed ⟨40, [], 0⟩ (flat (P.take k))) y.data.toList by rw [HSN.out, fed_app])
              rw [HE.out] at HE0
              have hq1 := told_len ⟨40, [], 0⟩ (flat (P.take k))
              have hr1 := fed_len ⟨40, [], 0⟩ (flat (P.take k))
              simp only [List.length_nil, Nat.zero_add] at hq1 hr1
              have HOW := Lib.hid HREL.out.own
              have HRD := Lib.hid HREL.out.rdr
              have HNR := Lib.hid HREL.out.near
              clear HREL HSN
              generalize fed ⟨40, [], 0⟩ (flat (P.take k)) = r at *
              generalize told ⟨40, [], 0⟩ (flat (P.take k)) = gs at *
              generalize (flat (P.take k)).length = z at *
              have hq2 := told_len r y.data.toList
              have e1 : y.data.toList.length = y.size := Array.length_toList
              rw [e1] at hq2
              clear e1
              obtain ⟨q, hq⟩ : ∃ q, q = gs.length := ⟨_, rfl⟩
              rw [← hq] at hq1 HOW
              have HQ := Lib.hid hq
              clear hq
              have C0 := Lib.hid HNR.out.size
              have CG := Lib.hid (show G < W5.heap.size from K0.out.hg)
              go_wp2_with fail
              refine (feed_c W5.heap.size G r y wr HRD.out C0.out (by omega)).mono ?_
              rintro e w5 hfd
              obtain ⟨v5, rfl, ho5, hu5, hr5⟩ := FD.both hfd C0.out CG.out
              clear hfd
              rw [HE0.out]
              have HR5 := Lib.hid hr5
              have HO5 := Lib.hid (own_upto HOW.out hu5 CG.out (by decide))
              have HN5 := Lib.hid (near_upto HNR.out hu5 (Nat.le_refl _))
              have C5 := Lib.hid (Nat.le_trans C0.out hu5.size)
              obtain ⟨A5, c5, rfl, q1, q2, hc5, q3, q4⟩ := FR.of_own ho5
              have HO6 := Lib.hid ho5
              clear hr5 hu5 ho5 q1 q2 q3
              generalize fed r y.data.toList = r5 at *
              generalize told r y.data.toList = fs5 at *
              obtain ⟨q5, hq5⟩ : ∃ q5, q5 = fs5.length := ⟨_, rfl⟩
              rw [← hq5] at hq2 hc5 q4 HO6 ⊢
              have HQ5 := Lib.hid hq5
              clear hq5
              rcases (by rcases A5 with _ | x5; exact .inl rfl; exact .inr ⟨x5, rfl⟩ : A5 = none ∨ ∃ x5, A5 = some x5) with rfl | ⟨x5, rfl⟩
              · obtain ⟨h1, h2⟩ := q4 rfl
                subst h1 h2
                have HNIL := Lib.hid (show fs5 = [] from List.eq_nil_of_length_eq_zero HQ5.out.symm)
                clear q4 hc5
                go_wp2_with (at_builtin; refine wpList_append_own_none rfl _ _ 24 rfl W5.heap.size 33 i0 2 Try.underlying24 hi _ q (fc gs) rfl HO5.out rfl ?_)
                go_roundw
                case rel => exact ⟨k + 1, by go_num, by rw [HPL.out]; omega, by rw [HT.out, HNIL.out, List.append_nil, ← HQ.out]; exact HO5.out, by rw [HE.out]; exact HR5.out, HN5.out⟩
                case measure => simp [intOf]; omega
              · have C3 := Lib.hid (show q + q5 ≤ maxLen by unfold maxLen; omega)
                have C4 := Lib.hid (show (q + q5) * 24 ≤ 140737488355328 by omega)
                have CL := Lib.hid (show (fc fs5).length = q5 * 2 by rw [fc_len, HQ5.out])
                have CC := Lib.hid (own_cells HO6.out)
                clear q4
                go_wp2_with (at_builtin; refine wpList_append_own _ rfl _ _ 24 rfl W5.heap.size 33 i0 (.agg #[.int .i64 0, .string ByteArray.empty]) 2 24 Try.underlying24 hi hz0 hz1 hz2 rfl (by decide) _ q (fc gs) rfl HO5.out x5 q5 c5 (fc fs5) rfl CL.out CC.out (fc_one _) C3.out C4.out C5.out ?_)
                intro v' w6 hown' hgrow _
                rw [← fc_app] at hown'
                have HR6 := Lib.hid (OR.grown HR5.out HO5.out (by decide) CG.out hgrow)
                have HN6 := Lib.hid (near_grown HN5.out hgrow (fun j hj => (HO5.out.lt j hj).1))
                have HO7 := Lib.hid hown'
                clear hown' hgrow
                go_wp2_with fail
                go_roundw
                case rel => exact ⟨k + 1, by go_num, by rw [HPL.out]; omega, by rw [HT.out, List.length_append, ← HQ.out, ← HQ5.out]; exact HO7.out, by rw [HE.out]; exact HR6.out, HN6.out⟩
                case measure => simp [intOf]; omega
            · obtain rfl : k = p := by omega
              have HTK := Lib.hid (show P.take k = P from by rw [← HPL.out, List.take_length])
              have HT := Lib.hid (show told ⟨40, [], 0⟩ (flat (P.take k)) = fs by rw [HTK.out, HFP.out]; exact told_whole HOK.out)
              have HE := Lib.hid (show fed ⟨40, [], 0⟩ (flat (P.take k)) = ⟨40, [], 0⟩ by rw [HTK.out, HFP.out]; exact fed_whole HOK.out)
              obtain ⟨v9, hv9⟩ : ∃ v9, v9 = u9 := ⟨_, rfl⟩
              have HOW := Lib.hid (show wr.ownsRow W5.heap.size 33 2 u9 n (fc fs) from by have := HREL.out.own; rwa [HT.out, HFL.out] at this)
              have HRD := Lib.hid (show OR wr W5.heap.size G ⟨40, [], 0⟩ from by have := HREL.out.rdr; rwa [HE.out] at this)
              clear hv9 v9
              obtain ⟨A7, c7, rfl, q1, q2, q3, q4, q5⟩ := FR.of_own HOW.out
              have HF7 := Lib.hid q1
              have HF1 := Lib.hid (HFRc.out.keep HBk.out)
              have HBF := Lib.hid (HBc.out.trans (HBk.out.mono HBc.out.size))
              clear q1 q2 q4 q5 HREL HT HE HTK hlt hk
              go_wp2_with fail
              refine (same_n A7 Ao c7 co fs wr n HFL.out HF7.out HF1.out (by omega)).mono ?_
              rintro e w7 ⟨rfl, q, rfl⟩
              have HX1 := Lib.hid (HRD.out.keep (bel_drewN (Below.refl _ _) q))
              have HXB := Lib.hid (bel_drewN HBF.out q)
              clear HF1 HF7 HRD HBF HOW
              generalize wr.drewN q = w7 at *
              have HLF := Lib.hid (left_c _ _ _ _ HX1.out)
              have HWT := Lib.hid (want_c _ _ _ _ HX1.out (by simp))
              rw [wantN_none] at HWT
              go_wp2_with fail
              refine HLF.out.mono ?_
              rintro e w' ⟨rfl, rfl⟩
              go_wp2_with fail
              refine HWT.out.mono ?_
              rintro e w8 ⟨rfl, hb8⟩
              have HXB8 := Lib.hid (HXB.out.trans (hb8.mono HXB.out.size))
              clear hb8
              go_wp2_with fail
              go_ret
              exact ⟨rfl, HXB8.out⟩

/-! ### THE ROW -/
set_option maxRecDepth 100000 in
theorem lifted (os : Os) (started : os.Started) (H : Type) (enc : TypeId × Value → H) :
    ReturnsInHanded {} Try.checked os 7 .any (Rows.readerWholeSpec.pre6 enc Try.prog Try.f7 Rows.readerWholeRow.domain false) (Rows.readerWholeSpec.post enc Try.prog Try.f7 false true false false) := by
  refine returnsInHanded_of_change (C := Try.checked) own started (by kernel_rfl) Try.func7
    (ChangeSpec.witness6 (enc := enc) (C := Try.checked) false ⟨#[], #[.slice none 0 0, .slice none 0 0], []⟩ 8 (by kernel_rfl) (by kernel_rfl) (by kernel_rfl) (by kernel_rfl)) ?_
  intro W base args ds gs before hval0 hW hcnd _
  have hval : ∀ (j : Nat) t v, Try.f7.params[j]? = some t → args[j]? = some v → Value.okWide Try.prog W .any base t v := hval0
  have hW' := hW
  obtain ⟨p, q, hA0, hV, rfl, hfz, hnd⟩ := hW
  have hA : DataW.TrodAll enc Try.prog W 0 (fun _ => true) true Try.f7.params.toList args.toList ds p := hA0
  rw [Try.params7] at hA hval
  obtain ⟨v0, vs0, d0, ds0, p0, q0, hargs, rfl, rfl, h0, r0⟩ := trodAll_cons hA
  obtain ⟨v1, vs1, d1, ds1, p1, q1, rfl, rfl, rfl, h1, r1⟩ := trodAll_cons r0
  obtain ⟨rfl, rfl, rfl⟩ := trodAll_nil r1
  obtain rfl : args = #[v0, v1] := by cases args; simp_all
  obtain ⟨rfl, rfl⟩ := trodVars_none hV
  obtain ⟨a0, len0, cap0, rfl⟩ := okWide_slice Try.underlying24 (hval 0 24 v0 rfl rfl)
  have k0 := h0
  have lt0 : ∀ x ∈ p0, x.block < W.heap.size := by obtain ⟨m, hm⟩ := k0; exact DataW.trod_lt m _ _ _ hm
  obtain ⟨z0, w0⟩ : ∃ zs, IsRecs_is W a0 len0 cap0 zs := open_recs_is Try.underlying24 Try.underlying33 (by kernel_rfl) (by kernel_rfl) Try.underlying3 Try.underlying9 h0
  obtain ⟨a1, len1, cap1, rfl⟩ := okWide_slice Try.underlying41 (hval 1 41 v1 rfl rfl)
  have k1 := h1
  have lt1 : ∀ x ∈ p1, x.block < W.heap.size := by obtain ⟨m, hm⟩ := k1; exact DataW.trod_lt m _ _ _ hm
  obtain ⟨z1, w1⟩ : ∃ zs, IsRow .i64 W a1 len1 cap1 zs := open_row Try.underlying41 Try.underlying3 (by kernel_rfl) h1
  clear hA0 hval0
  refine (walk a0 len0 cap0 z0 a1 len1 cap1 z1 W w0 w1).mono fun e W' ⟨he, bel⟩ => ?_
  subst he
  exact ⟨_, rfl, _, _, _, [], _, [], hW', trodAll_mk1 (shut_bool Try.underlying4 _), (trodAll_cons_mk (Below.trod laidOut (by kernel_rfl) (of_decide_eq_true (by kernel_rfl)) k0 bel lt0) (trodAll_cons_mk (Below.trod laidOut (by kernel_rfl) (of_decide_eq_true (by kernel_rfl)) k1 bel lt1) trodAll_mk0)), rfl, bel.frame _, fun h => by cases h⟩

theorem over : Rows.readerWholeRow.holds Try.pinned (OpenSpec.ofChange Rows.readerWholeSpec) :=
  OpenClaim.holds_of_wide 7 Try.f7 rfl rfl rfl rfl rfl rfl rfl ⟨rfl, rfl, rfl, rfl, rfl⟩ rfl rfl rfl rfl rfl (by kernel_rfl) Try.func7 (by kernel_rfl)
    (of_decide_eq_true (by kernel_rfl)) (by unfold Func.isWrapper; first | (rw [if_pos (by decide +kernel)]; kernel_rfl) | (rw [if_neg (by decide +kernel)]; exact ⟨rfl, rfl⟩))
    (fun os started H enc _ => lifted os started H enc)

theorem proved : Rows.ReaderWholeSaid := over
#print axioms proved
end Go.Proofs.Ytghcgnahdeaofaa.readerWhole
