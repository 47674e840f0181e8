/-
  Proved: of every slice of bytes and every number 'hostlerlaw02.FrameReads' returns true: no condition.
  The frame is written by this session's frame.py, after the kit's proof-skeleton.mjs.
-/
import Derived.Test.YtdilbadjbjepaaaV
import Derived.Test.YtdilbadjbjepaaaSa
namespace Go.Proofs.Ytdilbadjbjepaaa.frameReads
open Go.ChangeShapes Go.WideShapes Go.ChangeAt Go.RowKit
set_option linter.unusedVariables false
theorem own : ownKnob Try.prog.godebug = none := by kernel_rfl
theorem laidOut : laidOutB Try.prog = true := by kernel_rfl

theorem al_len (l : List UInt8) (most : Int) : (al l most).1.length ≤ (al l most).2.1 ∧ (al l most).2.1 ≤ l.length := by
  by_cases h : (rd l most).2.2 = 0
  · have ok := rd_ok l most h
    have ih := al_len (l.drop (rd l most).2.1.toNat) most
    rw [al, dif_pos h]
    rw [List.length_drop] at ih
    dsimp only
    rw [List.length_cons]
    omega
  · rw [al, dif_neg h]; split <;> simp
termination_by l.length
decreasing_by
  have := rd_ok l most h
  rw [List.length_drop]; omega

/-! ### STEP 1 -/
set_option maxRecDepth 100000 in
set_option maxHeartbeats 8000000 in
theorem walk (a0 : Option Addr) (len0 cap0 : Nat) (z0 : List Int) (a1 : Int) (w : World) (w0 : IsRow .u8 w a0 len0 cap0 z0) (w1 : (Lit.int .i64 a1).wf = true) :
    Calls Try.prog 7 #[.slice a0 len0 cap0, .int .i64 a1] w fun e w' => e = .returned (.bool true) ∧ Below w.heap.size w w' := by
  have hlen := al_len (cutB z0 len0) a1
  obtain ⟨hlc, hcm⟩ := cutB_cap w0
  have hn1 : a0 = none → len0 = 0 ∧ cap0 = 0 := by
    rcases w0 with ⟨_, h2, h3, _⟩ | ⟨x, h, _⟩
    · exact fun _ => ⟨h2, h3⟩
    · intro h'; rw [h] at h'; cases h'
  have hML := cutB_len w0
  have hM := cutB_BR w0
  have HBY := Lib.hid (fun W => bytes_c a0 len0 cap0 W hlc hcm hn1)
  generalize cutB z0 len0 = M at *
  obtain ⟨mn, hmn⟩ : ∃ mn, mn = min len0 300 := ⟨_, rfl⟩
  rw [← hmn] at hML HBY
  have hn300 : mn ≤ 300 := by omega
  have hnc : mn ≤ cap0 := by omega
  have HH := Lib.hid (fun (W : World) (hb : Below w.heap.size w W) => (show Calls Try.prog 23 #[.slice a0 mn cap0, .int .i64 a1] W (Told (hd M a1) W) from by rw [← hML]; exact head_c a0 M.length cap0 _ _ _ a1 W (h3_of (hM.keep hb)) (by omega)))
  have HRH := Lib.hid (fun (W : World) (hb : Below w.heap.size w W) => (show Calls Try.prog 24 #[.slice a0 mn cap0, .int .i64 a1] W (Told (hd M a1) W) from by rw [← hML]; exact rhead_c a0 M.length cap0 _ _ _ a1 W (h3_of (hM.keep hb)) (by omega)))
  have HR := Lib.hid (fun (W : World) (hb : Below w.heap.size w W) => (show Calls Try.prog 13 #[.slice a0 mn cap0, .int .i64 a1] W (Read3 (rd M a1) W) from by rw [← hML]; exact read_c a0 cap0 M a1 W (hM.keep hb) (by omega) (by omega)))
  have HRR := Lib.hid (fun (W : World) (hb : Below w.heap.size w W) => (show Calls Try.prog 25 #[.slice a0 mn cap0, .int .i64 a1] W (Read3 (rd M a1) W) from by rw [← hML]; exact rread_c a0 cap0 M a1 W (hM.keep hb) (by omega) (by omega)))
  have HA := Lib.hid (fun (W : World) (hb : Below w.heap.size w W) => (show Calls Try.prog 26 #[.slice a0 mn cap0, .int .i64 a1] W (All3 (al M a1) W) from by rw [← hML]; exact all_c a0 cap0 M a1 W (hM.keep hb) (by omega) (by omega) hcm (fun h => (hn1 h).2)))
  have HRA := Lib.hid (fun (W : World) (hb : Below w.heap.size w W) => (show Calls Try.prog 27 #[.slice a0 mn cap0, .int .i64 a1] W (All3 (al M a1) W) from by rw [← hML]; exact rall_c a0 cap0 M a1 W (hM.keep hb) (by omega) (by omega) hcm (fun h => (hn1 h).2)))
  clear hM hmn hn1 w0 w1 hlc hcm
  go_enter Try.func7, Try.ntmps7
  go_wp2_with fail
  refine (flives_c _).mono ?_
  rintro e w1 ⟨rfl, hl1⟩
  have HL1 := Lib.hid hl1
  clear hl1
  go_wp2_with fail
  refine (HBY.out _).mono ?_
  rintro e w' ⟨rfl, rfl⟩
  go_wp2_with fail
  refine (HH.out _ HL1.out).mono ?_
  rintro e w2 ⟨rfl, hl2⟩
  have HL2 := Lib.hid (HL1.out.trans (hl2.mono HL1.out.size))
  clear hl2
  go_wp2_with fail
  refine (HRH.out _ HL2.out).mono ?_
  rintro e w3 ⟨rfl, hl3⟩
  have HL3 := Lib.hid (HL2.out.trans (hl3.mono HL2.out.size))
  clear hl3
  obtain ⟨⟨⟨f1, f2⟩, n, er⟩, hr⟩ : ∃ r, rd M a1 = r := ⟨_, rfl⟩
  rw [hr] at HR HRR
  obtain ⟨⟨fs, N, E⟩, ha⟩ : ∃ r, al M a1 = r := ⟨_, rfl⟩
  rw [ha] at HA HRA hlen
  dsimp only at hlen
  have hfs : fs.length ≤ 1000000 := by omega
  clear hr ha hlen hML
  go_wp2_with fail
  refine (HR.out _ HL3.out).mono ?_
  rintro e w4 ⟨rfl, hl4⟩
  have HL4 := Lib.hid (HL3.out.trans (hl4.mono HL3.out.size))
  have HB4 := Lib.hid (Blk.new w4 23 #[.int .i64 f1, .string f2])
  have HL5 := Lib.hid (HL4.out.alloc HL4.out.size (.cells #[.int .i64 f1, .string f2] 23))
  clear hl4
  dsimp only
  go_wp2_with fail
  refine (HRR.out _ HL5.out).mono ?_
  rintro e w6 ⟨rfl, hl6⟩
  have HL6 := Lib.hid (HL5.out.trans (hl6.mono HL5.out.size))
  have HL7 := Lib.hid (HL6.out.alloc HL6.out.size (.cells #[.int .i64 f1, .string f2] 23))
  have HB6 := Lib.hid ((HB4.out.below hl6 (by simp)).alloc (.cells #[.int .i64 f1, .string f2] 23))
  have HB7 := Lib.hid (Blk.new w6 23 #[.int .i64 f1, .string f2])
  clear hl6
  dsimp only
  go_wp2_with fail
  refine (HA.out _ HL7.out).mono ?_
  rintro e w8 ⟨v1, rfl, hl8, hown1⟩
  obtain ⟨A1, c1, rfl, hFR1, _, _, _, _⟩ := FR.of_own hown1
  have HL8 := Lib.hid (HL7.out.trans (hl8.mono HL7.out.size))
  have HB8 := Lib.hid (HB6.out.below hl8 HB6.out.lt)
  have HB9 := Lib.hid (HB7.out.below hl8 HB7.out.lt)
  have HF8 := Lib.hid hFR1
  clear hl8 hown1 hFR1
  dsimp only
  go_wp2_with fail
  refine (HRA.out _ HL8.out).mono ?_
  rintro e w9 ⟨v2, rfl, hl9, hown2⟩
  obtain ⟨A2, c2, rfl, hFR2, _, _, _, _⟩ := FR.of_own hown2
  have HL9 := Lib.hid (HL8.out.trans (hl9.mono HL8.out.size))
  have q1 := HB8.out.below hl9 HB8.out.lt
  have q2 := HB9.out.below hl9 HB9.out.lt
  have k0 : w9.cell? ⟨w4.heap.size, 0, none⟩ = some (.int .i64 f1) := q1.cell 0
  have k1 : w9.cell? ⟨w4.heap.size, 1, none⟩ = some (.string f2) := q1.cell 1
  have j0 : w9.cell? ⟨w6.heap.size, 0, none⟩ = some (.int .i64 f1) := q2.cell 0
  have j1 : w9.cell? ⟨w6.heap.size, 1, none⟩ = some (.string f2) := q2.cell 1
  have HS := Lib.hid (same_c A1 A2 c1 c2 fs w9 (HF8.out.keep hl9) hFR2 hfs)
  clear hl9 hown2 hFR2 q1 q2
  dsimp only
  go_wp2_with fail
  refine HS.out.mono ?_
  rintro e w' ⟨rfl, q, rfl⟩
  go_wp2_with fail
  go_ret
  exact ⟨rfl, bel_drewN HL9.out _⟩

/-! ### THE ROW -/
set_option maxRecDepth 100000 in
theorem lifted (os : Os) (started : os.Started) (H : Type) (enc : TypeId × Value → H) :
    ReturnsInHanded {} Try.checked os 7 .any (Rows.frameReadsSpec.pre6 enc Try.prog Try.f7 Rows.frameReadsRow.domain false) (Rows.frameReadsSpec.post enc Try.prog Try.f7 false true false false) := by
  refine returnsInHanded_of_change (C := Try.checked) own started (by kernel_rfl) Try.func7
    (ChangeSpec.witness6 (enc := enc) (C := Try.checked) false ⟨#[], #[.slice none 0 0, .int .i64 0], []⟩ 8 (by kernel_rfl) (by kernel_rfl) (by kernel_rfl) (by kernel_rfl)) ?_
  intro W base args ds gs before hval0 hW hcnd _
  have hval : ∀ (j : Nat) t v, Try.f7.params[j]? = some t → args[j]? = some v → Value.okWide Try.prog W .any base t v := hval0
  have hW' := hW
  obtain ⟨p, q, hA0, hV, rfl, hfz, hnd⟩ := hW
  have hA : DataW.TrodAll enc Try.prog W 0 (fun _ => true) true Try.f7.params.toList args.toList ds p := hA0
  rw [Try.params7] at hA hval
  obtain ⟨v0, vs0, d0, ds0, p0, q0, hargs, rfl, rfl, h0, r0⟩ := trodAll_cons hA
  obtain ⟨v1, vs1, d1, ds1, p1, q1, rfl, rfl, rfl, h1, r1⟩ := trodAll_cons r0
  obtain ⟨rfl, rfl, rfl⟩ := trodAll_nil r1
  obtain rfl : args = #[v0, v1] := by cases args; simp_all
  obtain ⟨rfl, rfl⟩ := trodVars_none hV
  obtain ⟨a0, len0, cap0, rfl⟩ := okWide_slice Try.underlying24 (hval 0 24 v0 rfl rfl)
  have k0 := h0
  have lt0 : ∀ x ∈ p0, x.block < W.heap.size := by obtain ⟨m, hm⟩ := k0; exact DataW.trod_lt m _ _ _ hm
  obtain ⟨z0, w0⟩ : ∃ zs, IsRow .u8 W a0 len0 cap0 zs := open_row Try.underlying24 Try.underlying5 (by kernel_rfl) h0
  obtain ⟨a1, rfl, rfl, rfl, w1⟩ := open_int Try.underlying3 (hval 1 3 v1 rfl rfl) h1
  clear hA0 hval0
  refine (walk a0 len0 cap0 z0 a1 W w0 w1).mono fun e W' ⟨he, bel⟩ => ?_
  subst he
  exact ⟨_, rfl, _, _, _, [], _, [], hW', trodAll_mk1 (shut_bool Try.underlying4 _), (trodAll_cons_mk (Below.trod laidOut (by kernel_rfl) (of_decide_eq_true (by kernel_rfl)) k0 bel lt0) (trodAll_cons_mk (shut_int Try.underlying3 w1) trodAll_mk0)), rfl, bel.frame _, fun h => by cases h⟩

theorem over : Rows.frameReadsRow.holds Try.pinned (OpenSpec.ofChange Rows.frameReadsSpec) :=
  OpenClaim.holds_of_wide 7 Try.f7 rfl rfl rfl rfl rfl rfl rfl ⟨rfl, rfl, rfl, rfl, rfl⟩ rfl rfl rfl rfl rfl (by kernel_rfl) Try.func7 (by kernel_rfl)
    (of_decide_eq_true (by kernel_rfl)) (by unfold Func.isWrapper; first | (rw [if_pos (by decide +kernel)]; kernel_rfl) | (rw [if_neg (by decide +kernel)]; exact ⟨rfl, rfl⟩))
    (fun os started H enc _ => lifted os started H enc)

theorem proved : Rows.FrameReadsSaid := over
#print axioms proved
end Go.Proofs.Ytdilbadjbjepaaa.frameReads
