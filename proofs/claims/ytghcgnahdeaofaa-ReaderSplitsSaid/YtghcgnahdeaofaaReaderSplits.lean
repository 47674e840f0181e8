/-
  Proved: of every text and every slice of numbers 'hostlerlaw03.ReaderSplits' returns true: no condition.
  The frame is written by this session's frame.py, after the kit's proof-skeleton.mjs.
-/
import Derived.Test.YtghcgnahdeaofaaRu
import Derived.Deep.DeepCutAuto
namespace Go.Proofs.Ytghcgnahdeaofaa.readerSplits
open Go.ChangeShapes Go.WideShapes Go.ChangeAt Go.RowKit Go.ChangeMaps
set_option linter.unusedVariables false
theorem own : ownKnob Try.prog.godebug = none := by kernel_rfl
theorem laidOut : laidOutB Try.prog = true := by kernel_rfl

structure RelC (W w : World) (l : List ByteArray) (s i : Value) (n k : Nat) : Prop where
  hi : i = .int .i64 k
  hk : k ≤ n
  hs : s = .string (cat (l.take k))

/-! ### STEP 1 -/
set_option maxRecDepth 100000 in
set_option maxHeartbeats 16000000 in
theorem walk (a0 : ByteArray) (a1 : Option Addr) (len1 cap1 : Nat) (z1 : List Int) (w : World) (w0 : a0.size ≤ maxLen) (w1 : IsRow .i64 w a1 len1 cap1 z1) :
    Calls Try.prog 6 #[.string a0, .slice a1 len1 cap1] w fun e w' => e = .returned (.bool true) ∧ Below w.heap.size w w' := by
  obtain ⟨zc, hzl, hzr, hcap1, hcap2, hnone⟩ := nums_of w1 20
  obtain ⟨n, hn⟩ : ∃ n, n = min len1 20 := ⟨_, rfl⟩
  rw [← hn] at hzl
  have hn20 : n ≤ 20 := by omega
  obtain ⟨H, hH⟩ : ∃ H, H = upto 200 a0 := ⟨_, rfl⟩
  have hH2 : H.size ≤ 200 := by rw [hH]; exact upto_size 200 a0
  have h20s := upto_small 200 a0
  have h20l := upto_large 200 a0
  rw [← hH] at h20s h20l
  have HSM := Lib.hid h20s
  have HLA := Lib.hid h20l
  have HN := Lib.hid hn
  have HZL := Lib.hid hzl
  have HZR := Lib.hid hzr
  have hm0 := w0
  unfold maxLen at hm0
  clear w0 w1 h20s h20l hn hH hzl hzr hnone
  go_enter Try.func6, Try.ntmps6
  go_wp2_with fail
  refine (rlives_c _).mono ?_
  rintro e w1 ⟨rfl, hl1⟩
  have HL := Lib.hid hl1
  clear hl1
  go_upto_region 3 with fail
  go_cut [0] (fun s0 wx => s0 = .string H ∧ w1 = wx)
  case first =>
    rcases (by omega : a0.size ≤ 200 ∨ 200 < a0.size) with hsz | hsz
    · have e20 := HSM.out hsz
      have hsz2 : (a0.size : Int) ≤ 200 := by omega
      subst e20
      go_wp2_with fail
      go_meet
      case rel => exact ⟨rfl, rfl⟩
    · have e20 := HLA.out hsz
      have hsz2 : (200 : Int) < (a0.size : Int) := by omega
      subst e20
      go_wp2_with fail
      go_meet
      case rel => exact ⟨rfl, rfl⟩
  case rest =>
    obtain ⟨rfl, rfl⟩ := hcut
    clear HSM HLA hm0
    go_upto_region 4 with fail
    go_cut [1] (fun s1 wx => s1 = .slice a1 n cap1 ∧ w1 = wx)
    case first =>
      have hn := HN.out
      rcases (by omega : (len1 ≤ 20 ∧ n = len1) ∨ (20 < len1 ∧ n = 20)) with ⟨hsz, hnn⟩ | ⟨hsz, hnn⟩
      · have h2 : (len1 : Int) ≤ 20 := by omega
        clear hn HN
        subst hnn
        rcases (by rcases a1 with _ | x; exact .inl rfl; exact .inr ⟨x, rfl⟩ : a1 = none ∨ ∃ x, a1 = some x) with rfl | ⟨x, rfl⟩
        all_goals
          go_wp2_with fail
          go_meet
          case rel => exact ⟨rfl, rfl⟩
      · have h2 : (20 : Int) < (len1 : Int) := by omega
        clear hn HN
        subst hnn
        rcases (by rcases a1 with _ | x; exact .inl rfl; exact .inr ⟨x, rfl⟩ : a1 = none ∨ ∃ x, a1 = some x) with rfl | ⟨x, rfl⟩
        all_goals
          go_wp2_with fail
          go_meet
          case rel => exact ⟨rfl, rfl⟩
    case rest =>
      obtain ⟨rfl, rfl⟩ := hcut
      have K1 := Lib.hid (show Calls Try.prog 18 #[.string H, .slice a1 n cap1] w1 (Texts (pieces H zc) w1) from by
        have := split_c H a1 cap1 zc w1 (HZR.out.keep HL.out) (by rw [HZL.out]; omega) (by omega); rwa [HZL.out] at this)
      have K2 := Lib.hid (fun (W : World) (hb : Below w1.heap.size w1 W) => show Calls Try.prog 20 #[.string H, .slice a1 n cap1] W (Texts (pieces H zc) W) from by
        have := rsplit_c H a1 cap1 zc W ((HZR.out.keep HL.out).keep hb) (by rw [HZL.out]; omega) (by omega); rwa [HZL.out] at this)
      have hpl : (pieces H zc).length ≤ 21 := by
        have := (goes_inv H zc).2.1
        unfold pieces; rw [List.length_append]; rw [HZL.out] at this
        simp; omega
      have HCP := Lib.hid (cat_pieces H zc)
      have HCS := Lib.hid (fun k => cat_size H zc k)
      obtain ⟨P, hP⟩ : ∃ P, P = pieces H zc := ⟨_, rfl⟩
      rw [← hP] at K1 K2 hpl HCP HCS
      obtain ⟨p, hp⟩ : ∃ p, p = P.length := ⟨_, rfl⟩
      rw [← hp] at hpl
      have HPL := Lib.hid hp.symm
      clear hP hp
      go_wp2_with fail
      refine K1.out.mono ?_
      rintro e w2 ⟨v2, rfl, hb2, hown2⟩
      obtain ⟨A2, c2, rfl, hsr2, g1, hc2, _⟩ := SR.of_own hown2
      clear g1
      rw [HPL.out] at hc2 ⊢
      have HSR := Lib.hid hsr2
      have HB2 := Lib.hid hb2
      have HL2 := Lib.hid (HL.out.trans (hb2.mono HL.out.size))
      clear hsr2 hown2 hb2
      have hp2 : p ≤ 21 := hpl
      go_wp2_with fail
      go_loop [6, 7] (fun s i => ∃ k : Nat, i = .int .i64 k ∧ k ≤ p ∧ s = .string (cat (P.take k))) (fun _ i => p - (intOf i).toNat)
      case atStart => exact ⟨0, rfl, Nat.zero_le _, rfl⟩
      case round =>
        obtain ⟨k, rfl, hk, rfl⟩ := hrel
        by_cases hlt : k < p
        · obtain ⟨x, rfl, cx⟩ := HSR.out k (by rw [HPL.out]; exact hlt)
          have hcs := HCS.out k
          have hcs2 := HCS.out (k + 1)
          have HSN := Lib.hid (cat_snoc P k (by rw [HPL.out]; exact hlt))
          rw [HSN.out, ByteArray.size_append] at hcs2
          generalize (P[k]'(by rw [HPL.out]; exact hlt)) = y at cx HSN hcs2
          go_wp2_with fail
          go_round
          case rel => exact ⟨k + 1, by go_num, by omega, by rw [HSN.out]⟩
          case measure => simp [intOf]; omega
        · obtain rfl : k = p := by omega
          have HE := Lib.hid (show cat (P.take k) = H from by rw [← HPL.out, List.take_length, HCP.out])
          rw [HE.out]
          go_wp2_with fail
          refine (K2.out w2 HB2.out).mono ?_
          rintro e w3 ⟨v3, rfl, hb3, hown3⟩
          obtain ⟨A3, c3, rfl, hsr3, g1, hc3, _⟩ := SR.of_own hown3
          clear g1
          rw [HPL.out] at hc3 ⊢
          have HSR3 := Lib.hid hsr3
          have HSR2 := Lib.hid (HSR.out.keep hb3)
          have HL3 := Lib.hid (HL2.out.trans (hb3.mono HL2.out.size))
          clear hsr3 hown3 hb3
          go_wp2_with fail
          refine (ssame_c _ _ _ _ k P _ HPL.out HSR2.out HSR3.out (by omega)).mono ?_
          rintro e w4 ⟨rfl, q, rfl⟩
          go_wp2_with fail
          go_ret
          exact ⟨rfl, bel_drewN HL3.out _⟩

/-! ### THE ROW -/
set_option maxRecDepth 100000 in
theorem lifted (os : Os) (started : os.Started) (H : Type) (enc : TypeId × Value → H) :
    ReturnsInHanded {} Try.checked os 6 .any (Rows.readerSplitsSpec.pre6 enc Try.prog Try.f6 Rows.readerSplitsRow.domain false) (Rows.readerSplitsSpec.post enc Try.prog Try.f6 false true false false) := by
  refine returnsInHanded_of_change (C := Try.checked) own started (by kernel_rfl) Try.func6
    (ChangeSpec.witness6 (enc := enc) (C := Try.checked) false ⟨#[], #[.string ByteArray.empty, .slice none 0 0], []⟩ 8 (by kernel_rfl) (by kernel_rfl) (by kernel_rfl) (by kernel_rfl)) ?_
  intro W base args ds gs before hval0 hW hcnd _
  have hval : ∀ (j : Nat) t v, Try.f6.params[j]? = some t → args[j]? = some v → Value.okWide Try.prog W .any base t v := hval0
  have hW' := hW
  obtain ⟨p, q, hA0, hV, rfl, hfz, hnd⟩ := hW
  have hA : DataW.TrodAll enc Try.prog W 0 (fun _ => true) true Try.f6.params.toList args.toList ds p := hA0
  rw [Try.params6] at hA hval
  obtain ⟨v0, vs0, d0, ds0, p0, q0, hargs, rfl, rfl, h0, r0⟩ := trodAll_cons hA
  obtain ⟨v1, vs1, d1, ds1, p1, q1, rfl, rfl, rfl, h1, r1⟩ := trodAll_cons r0
  obtain ⟨rfl, rfl, rfl⟩ := trodAll_nil r1
  obtain rfl : args = #[v0, v1] := by cases args; simp_all
  obtain ⟨rfl, rfl⟩ := trodVars_none hV
  obtain ⟨a0, rfl, rfl, rfl, w0⟩ := open_string Try.underlying9 (hval 0 9 v0 rfl rfl) h0
  obtain ⟨a1, len1, cap1, rfl⟩ := okWide_slice Try.underlying41 (hval 1 41 v1 rfl rfl)
  have k1 := h1
  have lt1 : ∀ x ∈ p1, x.block < W.heap.size := by obtain ⟨m, hm⟩ := k1; exact DataW.trod_lt m _ _ _ hm
  obtain ⟨z1, w1⟩ : ∃ zs, IsRow .i64 W a1 len1 cap1 zs := open_row Try.underlying41 Try.underlying3 (by kernel_rfl) h1
  clear hA0 hval0
  refine (walk a0 a1 len1 cap1 z1 W w0 w1).mono fun e W' ⟨he, bel⟩ => ?_
  subst he
  exact ⟨_, rfl, _, _, _, [], _, [], hW', trodAll_mk1 (shut_bool Try.underlying4 _), (trodAll_cons_mk (shut_string Try.underlying9 w0) (trodAll_cons_mk (Below.trod laidOut (by kernel_rfl) (of_decide_eq_true (by kernel_rfl)) k1 bel lt1) trodAll_mk0)), rfl, bel.frame _, fun h => by cases h⟩

theorem over : Rows.readerSplitsRow.holds Try.pinned (OpenSpec.ofChange Rows.readerSplitsSpec) :=
  OpenClaim.holds_of_wide 6 Try.f6 rfl rfl rfl rfl rfl rfl rfl ⟨rfl, rfl, rfl, rfl, rfl⟩ rfl rfl rfl rfl rfl (by kernel_rfl) Try.func6 (by kernel_rfl)
    (of_decide_eq_true (by kernel_rfl)) (by unfold Func.isWrapper; first | (rw [if_pos (by decide +kernel)]; kernel_rfl) | (rw [if_neg (by decide +kernel)]; exact ⟨rfl, rfl⟩))
    (fun os started H enc _ => lifted os started H enc)

theorem proved : Rows.ReaderSplitsSaid := over
#print axioms proved
end Go.Proofs.Ytghcgnahdeaofaa.readerSplits
