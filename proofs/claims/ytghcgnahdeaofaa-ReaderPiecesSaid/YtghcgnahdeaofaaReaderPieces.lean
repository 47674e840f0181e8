/-
  Proved: of every number, every text and every slice of numbers 'hostlerlaw03.ReaderPieces' returns true: no condition.
  The frame is written by this session's frame.py, after the kit's proof-skeleton.mjs.
-/
import Derived.Test.YtghcgnahdeaofaaRw
import Derived.Deep.DeepCutAuto
namespace Go.Proofs.Ytghcgnahdeaofaa.readerPieces
open Go.ChangeShapes Go.WideShapes Go.ChangeAt Go.RowKit Go.ChangeMaps
set_option linter.unusedVariables false
theorem own : ownKnob Try.prog.godebug = none := by kernel_rfl
theorem laidOut : laidOutB Try.prog = true := by kernel_rfl

/-- What has come of the second reader when k pieces are fed. -/
structure RelP (W4 wr : World) (g : Nat) (r : RD) (P : List ByteArray) (v f i : Value) (k : Nat) : Prop where
  hi : i = .int .i64 k
  hk : k ≤ P.length
  hf : f = .int .i64 (fed r (flat (P.take k))).e
  own : wr.ownsRow W4.heap.size 33 2 v (told r (flat (P.take k))).length (fc (told r (flat (P.take k))))
  rdr : OR wr W4.heap.size g (fed r (flat (P.take k)))
  near : Near g W4 wr
theorem RelP.start (W4 : World) (g : Nat) (m : Int) (P : List ByteArray) (h : OR W4 W4.heap.size g ⟨m, [], 0⟩) : RelP W4 W4 g ⟨m, [], 0⟩ P (.slice none 0 0) (.int .i64 0) (.int .i64 0) 0 := by
  have e : flat (P.take 0) = [] := by simp [flat]
  refine ⟨rfl, Nat.zero_le _, by rw [e, fed_nil], ?_, by rw [e, fed_nil]; exact h, Near.refl _ _⟩
  rw [e, told_nil]
  exact World.ownsRow_nil _ _ _ _
theorem same_n (A1 A2 : Option Addr) (c1 c2 : Nat) (fs : List Fr) (w : World) (n : Nat) (hn : fs.length = n) (h1 : FR w A1 fs) (h2 : FR w A2 fs) (hl : n ≤ 1000000) :
    Calls Try.prog 16 #[.slice A1 n c1, .slice A2 n c2] w fun e w' => e = .returned (.bool true) ∧ ∃ q, w.drewN q = w' := by
  subst hn
  exact (same_c A1 A2 c1 c2 fs w h1 h2 hl).mono fun _ _ ⟨he, q, hq⟩ => ⟨he, q, hq.symm⟩

/-! ### STEP 1 -/
set_option maxRecDepth 100000 in
set_option maxHeartbeats 16000000 in
theorem walk (a0 : Int) (a1 : ByteArray) (a2 : Option Addr) (len2 cap2 : Nat) (z2 : List Int) (w : World) (w0 : (Lit.int .i64 a0).wf = true) (w1 : a1.size ≤ maxLen) (w2 : IsRow .i64 w a2 len2 cap2 z2) :
    Calls Try.prog 5 #[.int .i64 a0, .string a1, .slice a2 len2 cap2] w fun e w' => e = .returned (.bool true) ∧ Below w.heap.size w w' := by
  obtain ⟨zc, hzl, hzr, hcap1, hcap2, hnone⟩ := nums_of w2 20
  obtain ⟨n, hn⟩ : ∃ n, n = min len2 20 := ⟨_, rfl⟩
  rw [← hn] at hzl
  have hn20 : n ≤ 20 := by omega
  obtain ⟨H, hH⟩ : ∃ H, H = upto 200 a1 := ⟨_, rfl⟩
  have hH2 : H.size ≤ 200 := by rw [hH]; exact upto_size 200 a1
  have h20s := upto_small 200 a1
  have h20l := upto_large 200 a1
  rw [← hH] at h20s h20l
  have HSM := Lib.hid h20s
  have HLA := Lib.hid h20l
  have HN := Lib.hid hn
  have HZL := Lib.hid hzl
  have HZR := Lib.hid hzr
  have hm0 := w1
  unfold maxLen at hm0
  obtain ⟨i0, hi, hz0, hz1, hz2⟩ := info_parts info23
  clear w0 w1 w2 h20s h20l hn hH hzl hzr hnone
  go_enter Try.func5, Try.ntmps5
  go_wp2_with fail
  refine (rlives_c _).mono ?_
  rintro e w1 ⟨rfl, hl1⟩
  have HL := Lib.hid hl1
  clear hl1
  go_upto_region 3 with fail
  go_cut [1] (fun s1 wx => s1 = .string H ∧ w1 = wx)
  case first =>
    rcases (by omega : a1.size ≤ 200 ∨ 200 < a1.size) with hsz | hsz
    · have e20 := HSM.out hsz
      have hsz2 : (a1.size : Int) ≤ 200 := by omega
      subst e20
      go_wp2_with fail
      go_meet
      case rel => exact ⟨rfl, rfl⟩
    · have e20 := HLA.out hsz
      have hsz2 : (200 : Int) < (a1.size : Int) := by omega
      subst e20
      go_wp2_with fail
      go_meet
      case rel => exact ⟨rfl, rfl⟩
  case rest =>
    obtain ⟨rfl, rfl⟩ := hcut
    clear HSM HLA hm0
    go_upto_region 4 with fail
    go_cut [2] (fun s1 wx => s1 = .slice a2 n cap2 ∧ w1 = wx)
    case first =>
      have hn := HN.out
      rcases (by omega : (len2 ≤ 20 ∧ n = len2) ∨ (20 < len2 ∧ n = 20)) with ⟨hsz, hnn⟩ | ⟨hsz, hnn⟩
      · have h2 : (len2 : Int) ≤ 20 := by omega
        clear hn HN
        subst hnn
        rcases (by rcases a2 with _ | x; exact .inl rfl; exact .inr ⟨x, rfl⟩ : a2 = none ∨ ∃ x, a2 = some x) with rfl | ⟨x, rfl⟩
        all_goals
          go_wp2_with fail
          go_meet
          case rel => exact ⟨rfl, rfl⟩
      · have h2 : (20 : Int) < (len2 : Int) := by omega
        clear hn HN
        subst hnn
        rcases (by rcases a2 with _ | x; exact .inl rfl; exact .inr ⟨x, rfl⟩ : a2 = none ∨ ∃ x, a2 = some x) with rfl | ⟨x, rfl⟩
        all_goals
          go_wp2_with fail
          go_meet
          case rel => exact ⟨rfl, rfl⟩
    case rest =>
      obtain ⟨rfl, rfl⟩ := hcut
      have KS := Lib.hid (fun (W : World) (hb : Below w.heap.size w W) => show Calls Try.prog 18 #[.string H, .slice a2 n cap2] W (Texts (pieces H zc) W) from by
        have := split_c H a2 cap2 zc W (HZR.out.keep hb) (by rw [HZL.out]; omega) (by omega); rwa [HZL.out] at this)
      have hpl : (pieces H zc).length ≤ 21 := by
        have := (goes_inv H zc).2.1
        unfold pieces; rw [List.length_append]; rw [HZL.out] at this
        simp; omega
      have HFL := Lib.hid (pieces_flat H zc)
      obtain ⟨P, hP⟩ : ∃ P, P = pieces H zc := ⟨_, rfl⟩
      rw [← hP] at KS hpl HFL
      obtain ⟨p, hp⟩ : ∃ p, p = P.length := ⟨_, rfl⟩
      rw [← hp] at hpl
      have HPL := Lib.hid hp.symm
      clear hP hp
      obtain ⟨G, hG⟩ : ∃ G, G = w1.heap.size := ⟨_, rfl⟩
      have HWG := Lib.hid (show w.heap.size ≤ G by rw [hG]; exact HL.out.size)
      have K0 := Lib.hid (show OR ((w1.alloc (.cells #[.int .i64 a0, .slice none 0 0, .int .i64 0] 49)).alloc (.cells #[.int .i64 a0, .slice none 0 0, .int .i64 0] 49)) (G + 2) G ⟨a0, [], 0⟩ from by
        have := rnew_or a0 w1 (w1.heap.size + 2) (by omega)
        rw [← hG] at this
        exact this.keep ((Below.refl _ _).alloc (Nat.le_refl _) _))
      have K1 := Lib.hid (show Blk ((w1.alloc (.cells #[.int .i64 a0, .slice none 0 0, .int .i64 0] 49)).alloc (.cells #[.int .i64 a0, .slice none 0 0, .int .i64 0] 49)) (G + 1) 49 #[.int .i64 a0, .slice none 0 0, .int .i64 0] from by
        have := Blk.new (w1.alloc (.cells #[.int .i64 a0, .slice none 0 0, .int .i64 0] 49)) 49 #[.int .i64 a0, .slice none 0 0, .int .i64 0]
        rwa [show (w1.alloc (.cells #[.int .i64 a0, .slice none 0 0, .int .i64 0] 49)).heap.size = G + 1 by rw [hG]; simp] at this)
      have K2 := Lib.hid (show Below w.heap.size w ((w1.alloc (.cells #[.int .i64 a0, .slice none 0 0, .int .i64 0] 49)).alloc (.cells #[.int .i64 a0, .slice none 0 0, .int .i64 0] 49)) from
        (HL.out.alloc HL.out.size _).alloc (Nat.le_trans HL.out.size (by simp)) _)
      have K3 := Lib.hid (show G + 2 ≤ ((w1.alloc (.cells #[.int .i64 a0, .slice none 0 0, .int .i64 0] 49)).alloc (.cells #[.int .i64 a0, .slice none 0 0, .int .i64 0] 49)).heap.size by rw [hG]; simp)
      have K4 := Lib.hid (show (w1.alloc (.cells #[.int .i64 a0, .slice none 0 0, .int .i64 0] 49)).heap.size = G + 1 by rw [hG]; simp)
      have HG := Lib.hid hG.symm
      clear hG
      go_wp2_with fail
      refine (rnew_c _ _).mono ?_
      rintro e w' ⟨rfl, rfl⟩
      rw [HG.out]
      go_wp2_with fail
      refine (rnew_c _ _).mono ?_
      rintro e w' ⟨rfl, rfl⟩
      rw [K4.out]
      clear HG K4
      generalize ((w1.alloc (.cells #[.int .i64 a0, .slice none 0 0, .int .i64 0] 49)).alloc (.cells #[.int .i64 a0, .slice none 0 0, .int .i64 0] 49)) = W2 at *
      go_wp2_with fail
      refine (feed_c (G + 2) G ⟨a0, [], 0⟩ H W2 K0.out K3.out (by simp; omega)).mono ?_
      rintro e W3 hfd
      obtain ⟨v1, rfl, ho1, hu1, hr1⟩ := FD.new hfd rfl rfl _ rfl
      clear hfd
      have HR0 := Lib.hid hr1
      have HO0 := Lib.hid ho1
      have HB3 := Lib.hid (hu1.later K2.out (by have := HWG.out; omega) (by have := HWG.out; omega))
      have HK3 := Lib.hid (hu1.blk K1.out (by omega) (by omega))
      have HS3 := Lib.hid (Nat.le_trans K3.out hu1.size)
      obtain ⟨A1, c1, rfl, q1, q2, hc1, q3, q4⟩ := FR.of_own ho1
      clear ho1 hu1 hr1 q1 q2 q3 q4
      have hfl := told_len ⟨a0, [], 0⟩ H.data.toList
      have hfb := fed_len ⟨a0, [], 0⟩ H.data.toList
      have e0 : H.data.toList.length = H.size := Array.length_toList
      rw [e0] at hfl hfb
      simp only [List.length_nil, Nat.zero_add] at hfl hfb
      clear e0
      obtain ⟨fs, hfs⟩ : ∃ fs, fs = told ⟨a0, [], 0⟩ H.data.toList := ⟨_, rfl⟩
      obtain ⟨R1, hR1⟩ : ∃ R1, R1 = fed ⟨a0, [], 0⟩ H.data.toList := ⟨_, rfl⟩
      rw [← hfs] at HO0 hc1 hfl ⊢
      rw [← hR1] at HR0 hfb ⊢
      obtain ⟨m, hm⟩ : ∃ m, m = fs.length := ⟨_, rfl⟩
      rw [← hm] at HO0 hc1 hfl ⊢
      have HFS := Lib.hid hfs
      have HR1 := Lib.hid hR1
      have HM := Lib.hid hm.symm
      clear hfs hR1 hm
      go_wp2_with fail
      refine (KS.out W3 HB3.out).mono ?_
      rintro e W4 ⟨v2, rfl, hb4, ho4⟩
      obtain ⟨A2, c2, rfl, q1, q2, hc2, q3⟩ := SR.of_own ho4
      have HO2 := Lib.hid ho4
      rw [HPL.out] at HO2 hc2 ⊢
      have HOA := Lib.hid (own_keep HO0.out hb4)
      have HRA := Lib.hid (HR0.out.keep hb4)
      have HB4 := Lib.hid (HB3.out.trans (hb4.mono HB3.out.size))
      have HS4 := Lib.hid (Nat.le_trans HS3.out hb4.size)
      have HS24 := Lib.hid (show W3.heap.size ≤ W4.heap.size from hb4.size)
      have HRB := Lib.hid (show OR W4 W4.heap.size (G + 1) ⟨a0, [], 0⟩ from ⟨by have := HS4.out; omega, _, HK3.out.below hb4 HK3.out.lt, World.ownsRow_nil _ _ _ _⟩)
      clear ho4 hb4 q1 q2 q3 KS HR0 HO0 HK3 K0 K1
      go_wp2_with fail
      go_loopw [12, 13, 14] (fun v f i wr => ∃ k, RelP W4 wr (G + 1) ⟨a0, [], 0⟩ P v f i k) (fun _ _ i _ => p - (intOf i).toNat)
      case atStart => exact ⟨0, RelP.start _ _ _ _ HRB.out⟩
      case round =>
        obtain ⟨k, hrel⟩ := hrel
        obtain rfl := hrel.hi
        obtain rfl := hrel.hf
        have hk := hrel.hk
        rw [HPL.out] at hk
        have HREL := Lib.hid hrel
        clear hrel
        by_cases hlt : k < p
        · have HSR := Lib.hid (SR.own (own_near HO2.out HREL.out.near (by have := HS3.out; omega)))
          obtain ⟨x, rfl, cx⟩ := HSR.out k (by rw [HPL.out]; exact hlt)
          have HSN := Lib.hid (flat_snoc P k (by rw [HPL.out]; exact hlt))
          have hfl1 := flat_take_le P (k + 1)
          rw [HSN.out, HFL.out, List.length_append] at hfl1
          generalize (P[k]'(by rw [HPL.out]; exact hlt)) = y at cx HSN hfl1
          have hfl2 : (flat (P.take k)).length + y.size ≤ 200 := by
            have e1 : y.data.toList.length = y.size := Array.length_toList
            have e2 : H.data.toList.length = H.size := Array.length_toList
            omega
          clear hfl1
          have HT := Lib.hid (show told ⟨a0, [], 0⟩ (flat (P.take (k + 1))) = told ⟨a0, [], 0⟩ (flat (P.take k)) ++ told (fed ⟨a0, [], 0⟩ (flat (P.take k))) y.data.toList by rw [HSN.out, told_app])
          have HE := Lib.hid (show fed ⟨a0, [], 0⟩ (flat (P.take (k + 1))) = fed (fed ⟨a0, [], 0⟩ (flat (P.take k))) y.data.toList by rw [HSN.out, fed_app])
          have hq1 := told_len ⟨a0, [], 0⟩ (flat (P.take k))
          have hr1 := fed_len ⟨a0, [], 0⟩ (flat (P.take k))
          simp only [List.length_nil, Nat.zero_add] at hq1 hr1
          have HOW := Lib.hid HREL.out.own
          have HRD := Lib.hid HREL.out.rdr
          have HNR := Lib.hid HREL.out.near
          clear HREL HSN
          generalize fed ⟨a0, [], 0⟩ (flat (P.take k)) = r at *
          generalize told ⟨a0, [], 0⟩ (flat (P.take k)) = gs at *
          generalize (flat (P.take k)).length = z at *
          have hq2 := told_len r y.data.toList
          have e1 : y.data.toList.length = y.size := Array.length_toList
          rw [e1] at hq2
          clear e1
          obtain ⟨q, hq⟩ : ∃ q, q = gs.length := ⟨_, rfl⟩
          rw [← hq] at hq1 HOW
          have HQ := Lib.hid hq
          clear hq
          have C0 := Lib.hid HNR.out.size
          go_wp2_with fail
          refine (feed_c W4.heap.size (G + 1) r y wr HRD.out C0.out (by omega)).mono ?_
          rintro e w5 hfd
          obtain ⟨v5, rfl, ho5, hu5, hr5⟩ := FD.both hfd C0.out (by have := HS4.out; omega)
          clear hfd
          have HR5 := Lib.hid hr5
          have HO5 := Lib.hid (own_upto HOW.out hu5 (by have := HS4.out; omega) (by decide))
          have HN5 := Lib.hid (near_upto HNR.out hu5 (Nat.le_refl _))
          have C5 := Lib.hid (Nat.le_trans C0.out hu5.size)
          obtain ⟨A5, c5, rfl, q1, q2, hc5, q3, q4⟩ := FR.of_own ho5
          have HO6 := Lib.hid ho5
          clear hr5 hu5 ho5 q1 q2 q3
          generalize fed r y.data.toList = r5 at *
          generalize told r y.data.toList = fs5 at *
          obtain ⟨q5, hq5⟩ : ∃ q5, q5 = fs5.length := ⟨_, rfl⟩
          rw [← hq5] at hq2 hc5 q4 HO6 ⊢
          have HQ5 := Lib.hid hq5
          clear hq5
          rcases (by rcases A5 with _ | x5; exact .inl rfl; exact .inr ⟨x5, rfl⟩ : A5 = none ∨ ∃ x5, A5 = some x5) with rfl | ⟨x5, rfl⟩
          · obtain ⟨h1, h2⟩ := q4 rfl
            subst h1 h2
            have HNIL := Lib.hid (show fs5 = [] from List.eq_nil_of_length_eq_zero HQ5.out.symm)
            clear q4 hc5
            go_wp2_with (at_builtin; refine wpList_append_own_none rfl _ _ 24 rfl W4.heap.size 33 i0 2 Try.underlying24 hi _ q (fc gs) rfl HO5.out rfl ?_)
            go_roundw
            case rel => exact ⟨k + 1, by go_num, by rw [HPL.out]; omega, by rw [HE.out], by rw [HT.out, HNIL.out, List.append_nil, ← HQ.out]; exact HO5.out, by rw [HE.out]; exact HR5.out, HN5.out⟩
            case measure => simp [intOf]; omega
          · have C3 := Lib.hid (show q + q5 ≤ maxLen by unfold maxLen; omega)
            have C4 := Lib.hid (show (q + q5) * 24 ≤ 140737488355328 by omega)
            have CL := Lib.hid (show (fc fs5).length = q5 * 2 by rw [fc_len, HQ5.out])
            have CC := Lib.hid (own_cells HO6.out)
            clear q4
            go_wp2_with (at_builtin; refine wpList_append_own _ rfl _ _ 24 rfl W4.heap.size 33 i0 (.agg #[.int .i64 0, .string ByteArray.empty]) 2 24 Try.underlying24 hi hz0 hz1 hz2 rfl (by decide) _ q (fc gs) rfl HO5.out x5 q5 c5 (fc fs5) rfl CL.out CC.out (fc_one _) C3.out C4.out C5.out ?_)
            intro v' w6 hown' hgrow _
            rw [← fc_app] at hown'
            have HR6 := Lib.hid (OR.grown HR5.out HO5.out (by decide) (by have := HS4.out; omega) hgrow)
            have HN6 := Lib.hid (near_grown HN5.out hgrow (fun j hj => (HO5.out.lt j hj).1))
            have HO7 := Lib.hid hown'
            clear hown' hgrow
            go_wp2_with fail
            go_roundw
            case rel => exact ⟨k + 1, by go_num, by rw [HPL.out]; omega, by rw [HE.out], by rw [HT.out, List.length_append, ← HQ.out, ← HQ5.out]; exact HO7.out, by rw [HE.out]; exact HR6.out, HN6.out⟩
            case measure => simp [intOf]; omega
        · obtain rfl : k = p := by omega
          have HTK := Lib.hid (show P.take k = P from by rw [← HPL.out, List.take_length])
          have HT := Lib.hid (show told ⟨a0, [], 0⟩ (flat (P.take k)) = fs by rw [HTK.out, HFL.out, HFS.out])
          have HE := Lib.hid (show fed ⟨a0, [], 0⟩ (flat (P.take k)) = R1 by rw [HTK.out, HFL.out, HR1.out])
          have HOW := Lib.hid (show wr.ownsRow W4.heap.size 33 2 u12 m (fc fs) from by have := HREL.out.own; rwa [HT.out, HM.out] at this)
          have HRD := Lib.hid (show OR wr W4.heap.size (G + 1) R1 from by have := HREL.out.rdr; rwa [HE.out] at this)
          have HNR := Lib.hid HREL.out.near
          rw [HE.out]
          obtain ⟨A7, c7, rfl, q1, q2, q3, q4, q5⟩ := FR.of_own HOW.out
          have HF7 := Lib.hid q1
          have HF1 := Lib.hid (FR.own (own_near HOA.out HNR.out (by have := K3.out; omega)))
          have HRC := Lib.hid (HRA.out.near HNR.out (by omega) (by have := K3.out; omega))
          have HBF := Lib.hid (near_later HB4.out HNR.out (by have := HWG.out; omega) HB4.out.size)
          clear q1 q2 q4 q5 HREL HT HE HTK hlt hk
          go_wp2_with fail
          refine (same_n A1 A7 c1 c7 fs wr m HM.out HF1.out HF7.out (by omega)).mono ?_
          rintro e w7 ⟨rfl, q, rfl⟩
          have HX1 := Lib.hid (HRC.out.keep (bel_drewN (Below.refl _ _) q))
          have HX2 := Lib.hid (HRD.out.keep (bel_drewN (Below.refl _ _) q))
          have HXB := Lib.hid (bel_drewN HBF.out q)
          clear HF1 HF7 HRC HRD HBF HOW
          generalize wr.drewN q = w7 at *
          go_wp2_with fail
          refine (left_c _ _ _ _ HX1.out).mono ?_
          rintro e w' ⟨rfl, rfl⟩
          go_wp2_with fail
          refine (left_c _ _ _ _ HX2.out).mono ?_
          rintro e w' ⟨rfl, rfl⟩
          go_wp2_with fail
          refine (err_c _ _ _ _ HX1.out).mono ?_
          rintro e w' ⟨rfl, rfl⟩
          go_wp2_with fail
          refine (err_c _ _ _ _ HX2.out).mono ?_
          rintro e w' ⟨rfl, rfl⟩
          go_wp2_with fail
          refine (want_c _ _ _ _ HX1.out (by omega)).mono ?_
          rintro e w8 ⟨rfl, hb8⟩
          have HX3 := Lib.hid (HX2.out.keep hb8)
          have HXB8 := Lib.hid (HXB.out.trans (hb8.mono HXB.out.size))
          clear hb8
          go_wp2_with fail
          refine (want_c _ _ _ _ HX3.out (by omega)).mono ?_
          rintro e w9 ⟨rfl, hb9⟩
          have HXB9 := Lib.hid (HXB8.out.trans (hb9.mono HXB8.out.size))
          clear hb9
          go_wp2_with fail
          go_ret
          exact ⟨rfl, HXB9.out⟩

/-! ### THE ROW -/
set_option maxRecDepth 100000 in
theorem lifted (os : Os) (started : os.Started) (H : Type) (enc : TypeId × Value → H) :
    ReturnsInHanded {} Try.checked os 5 .any (Rows.readerPiecesSpec.pre6 enc Try.prog Try.f5 Rows.readerPiecesRow.domain false) (Rows.readerPiecesSpec.post enc Try.prog Try.f5 false true false false) := by
  refine returnsInHanded_of_change (C := Try.checked) own started (by kernel_rfl) Try.func5
    (ChangeSpec.witness6 (enc := enc) (C := Try.checked) false ⟨#[], #[.int .i64 0, .string ByteArray.empty, .slice none 0 0], []⟩ 8 (by kernel_rfl) (by kernel_rfl) (by kernel_rfl) (by kernel_rfl)) ?_
  intro W base args ds gs before hval0 hW hcnd _
  have hval : ∀ (j : Nat) t v, Try.f5.params[j]? = some t → args[j]? = some v → Value.okWide Try.prog W .any base t v := hval0
  have hW' := hW
  obtain ⟨p, q, hA0, hV, rfl, hfz, hnd⟩ := hW
  have hA : DataW.TrodAll enc Try.prog W 0 (fun _ => true) true Try.f5.params.toList args.toList ds p := hA0
  rw [Try.params5] at hA hval
  obtain ⟨v0, vs0, d0, ds0, p0, q0, hargs, rfl, rfl, h0, r0⟩ := trodAll_cons hA
  obtain ⟨v1, vs1, d1, ds1, p1, q1, rfl, rfl, rfl, h1, r1⟩ := trodAll_cons r0
  obtain ⟨v2, vs2, d2, ds2, p2, q2, rfl, rfl, rfl, h2, r2⟩ := trodAll_cons r1
  obtain ⟨rfl, rfl, rfl⟩ := trodAll_nil r2
  obtain rfl : args = #[v0, v1, v2] := by cases args; simp_all
  obtain ⟨rfl, rfl⟩ := trodVars_none hV
  obtain ⟨a0, rfl, rfl, rfl, w0⟩ := open_int Try.underlying3 (hval 0 3 v0 rfl rfl) h0
  obtain ⟨a1, rfl, rfl, rfl, w1⟩ := open_string Try.underlying9 (hval 1 9 v1 rfl rfl) h1
  obtain ⟨a2, len2, cap2, rfl⟩ := okWide_slice Try.underlying41 (hval 2 41 v2 rfl rfl)
  have k2 := h2
  have lt2 : ∀ x ∈ p2, x.block < W.heap.size := by obtain ⟨m, hm⟩ := k2; exact DataW.trod_lt m _ _ _ hm
  obtain ⟨z2, w2⟩ : ∃ zs, IsRow .i64 W a2 len2 cap2 zs := open_row Try.underlying41 Try.underlying3 (by kernel_rfl) h2
  clear hA0 hval0
  refine (walk a0 a1 a2 len2 cap2 z2 W w0 w1 w2).mono fun e W' ⟨he, bel⟩ => ?_
  subst he
  exact ⟨_, rfl, _, _, _, [], _, [], hW', trodAll_mk1 (shut_bool Try.underlying4 _), (trodAll_cons_mk (shut_int Try.underlying3 w0) (trodAll_cons_mk (shut_string Try.underlying9 w1) (trodAll_cons_mk (Below.trod laidOut (by kernel_rfl) (of_decide_eq_true (by kernel_rfl)) k2 bel lt2) trodAll_mk0))), rfl, bel.frame _, fun h => by cases h⟩

theorem over : Rows.readerPiecesRow.holds Try.pinned (OpenSpec.ofChange Rows.readerPiecesSpec) :=
  OpenClaim.holds_of_wide 5 Try.f5 rfl rfl rfl rfl rfl rfl rfl ⟨rfl, rfl, rfl, rfl, rfl⟩ rfl rfl rfl rfl rfl (by kernel_rfl) Try.func5 (by kernel_rfl)
    (of_decide_eq_true (by kernel_rfl)) (by unfold Func.isWrapper; first | (rw [if_pos (by decide +kernel)]; kernel_rfl) | (rw [if_neg (by decide +kernel)]; exact ⟨rfl, rfl⟩))
    (fun os started H enc _ => lifted os started H enc)

theorem proved : Rows.ReaderPiecesSaid := over
#print axioms proved
end Go.Proofs.Ytghcgnahdeaofaa.readerPieces
