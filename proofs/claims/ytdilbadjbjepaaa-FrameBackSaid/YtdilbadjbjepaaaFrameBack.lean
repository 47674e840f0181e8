/-
  Proved: of every frame and every slice of bytes 'hostlerlaw02.FrameBack' returns true: no condition.
  The frame is written by this session's frame.py, after the kit's proof-skeleton.mjs.
-/
import Derived.Test.YtdilbadjbjepaaaM
namespace Go.Proofs.Ytdilbadjbjepaaa.frameBack
open Go.ChangeShapes Go.WideShapes Go.ChangeAt Go.RowKit
set_option linter.unusedVariables false
theorem own : ownKnob Try.prog.godebug = none := by kernel_rfl
theorem laidOut : laidOutB Try.prog = true := by kernel_rfl

theorem bc_one (l : List UInt8) : ∀ u ∈ bc l, u.oneCell' = true := by
  unfold bc; intro u hu
  obtain ⟨b, _, rfl⟩ := List.mem_map.1 hu
  rfl
theorem bc_at {w : World} {x : Addr} {l : List UInt8} (h : BR w (some x) l) : ∀ j u, (bc l)[j]? = some u → w.cell? (x.add j) = some u := fun j u hu => by
  have hj : j < l.length := by
    rcases Nat.lt_or_ge j l.length with q | q
    · exact q
    · rw [List.getElem?_eq_none (by rw [bc_len]; exact q)] at hu; cases hu
  obtain ⟨y, hy, hc⟩ := h j hj
  cases hy
  rw [hc]; simp [bc, hj] at hu; rw [hu]
theorem bc_app (a b : List UInt8) : bc a ++ bc b = bc (a ++ b) := by simp [bc]

/-! ### STEP 1 -/
set_option maxRecDepth 100000 in
set_option maxHeartbeats 8000000 in
theorem walk (a0kind : Int) (a0data : ByteArray) (a1 : Option Addr) (len1 cap1 : Nat) (z1 : List Int) (w : World) (w0a0kind : (Lit.int .i64 a0kind).wf = true) (w0a0data : a0data.size ≤ maxLen) (w1 : IsRow .u8 w a1 len1 cap1 z1) :
    Calls Try.prog 3 #[.agg #[.int .i64 a0kind, .string a0data], .slice a1 len1 cap1] w fun e w' => e = .returned (.bool true) ∧ Below w.heap.size w w' := by
  have hz := cutS_size a0data
  have hs : (cutS a0data).size ≤ maxLen := by unfold maxLen; omega
  obtain ⟨hlc, hcm⟩ := cutB_cap w1
  have hn1 : a1 = none → len1 = 0 ∧ cap1 = 0 := by
    rcases w1 with ⟨_, h2, h3, _⟩ | ⟨x, h, _⟩
    · exact fun _ => ⟨h2, h3⟩
    · intro h'; rw [h] at h'; cases h'
  have hML := cutB_len w1
  have HM := Lib.hid (cutB_BR w1)
  have HF := Lib.hid (fun W => few_c a0kind a0data W w0a0data)
  have HBY := Lib.hid (fun W => bytes_c a1 len1 cap1 W hlc hcm hn1)
  generalize cutS a0data = s at *
  generalize cutB z1 len1 = M at *
  have HWR := Lib.hid (fun W => write_c a0kind s 1024 W hs)
  have HB := Lib.hid (Blk.new w 23 #[.int .i64 a0kind, .string a0data])
  have HW := Lib.hid (show Below w.heap.size w (w.alloc (.cells #[.int .i64 a0kind, .string a0data] 23)) from (Below.refl _ _).alloc (Nat.le_refl _) _)
  clear w0a0kind w0a0data w1
  go_enter Try.func3, Try.ntmps3
  go_wp2_with fail
  refine (flives_c _).mono ?_
  rintro e w1 ⟨rfl, hl1⟩
  have hB1 := HB.out.below hl1 (by simp)
  have k0 : w1.cell? ⟨w.heap.size, 0, none⟩ = some (.int .i64 a0kind) := hB1.cell 0
  have k1 : w1.cell? ⟨w.heap.size, 1, none⟩ = some (.string a0data) := hB1.cell 1
  have HL := Lib.hid (HW.out.trans (hl1.mono (by simp)))
  have HB1 := Lib.hid hB1
  clear hl1 hB1
  go_wp2_with fail
  refine (HF.out _).mono ?_
  rintro e w2 ⟨rfl, hl2⟩
  have hB2 := HB1.out.below hl2 HB1.out.lt
  have k0 : w2.cell? ⟨w.heap.size, 0, none⟩ = some (.int .i64 a0kind) := hB2.cell 0
  have k1 : w2.cell? ⟨w.heap.size, 1, none⟩ = some (.string a0data) := hB2.cell 1
  have q0 := hB2.free 0
  have q1 := hB2.free 1
  have HL2 := Lib.hid (((HL.out.trans (hl2.mono HL.out.size)).setCell (p := ⟨w.heap.size, 0, none⟩) (Nat.le_refl _) (.int .i64 a0kind)).setCell (p := ⟨w.heap.size, 1, none⟩) (Nat.le_refl _) (.string s))
  have HB2 := Lib.hid (show Blk ((w2.setCell ⟨w.heap.size, 0, none⟩ (.int .i64 a0kind)).setCell ⟨w.heap.size, 1, none⟩ (.string s)) w.heap.size 23 #[.int .i64 a0kind, .string s] from (hB2.set 0 (.int .i64 a0kind)).set 1 (.string s))
  clear hl2 hB2
  go_wp2_with fail
  generalize ((w2.setCell ⟨w.heap.size, 0, none⟩ (.int .i64 a0kind)).setCell ⟨w.heap.size, 1, none⟩ (.string s)) = W at *
  by_cases hr : rt a0kind s.size 1024 = 0
  · obtain ⟨k1', k8', hsz⟩ := rt_zero hr
    obtain ⟨i0, hi, hz0, hz1, hz2⟩ := info_parts info5
    refine (HWR.out _).mono ?_
    rintro e w3 ⟨v1, rfl, hl3, _, hv1⟩
    have hown := hv1 hr
    rw [hr]
    obtain ⟨A, cap, rfl, hBR, hnn, hncap⟩ := BR.of_own hown
    have hfl : (fb a0kind s).length = s.size + 3 := fb_len _ _
    obtain ⟨x, hx, hx0⟩ := hBR 0 (by omega)
    subst hx
    have hB3 := HB2.out.below hl3 HB2.out.lt
    have HL3 := Lib.hid (HL2.out.trans (hl3.mono HL2.out.size))
    have HB3 := Lib.hid hB3
    have HBR := Lib.hid hBR
    have HR := Lib.hid (fun m => rd_fb a0kind s m 1024 k1' k8' hsz (by unfold capn; omega))
    have hsz3 := HL3.out.size
    clear hl3 hB3 hown hv1 hr hBR hx0 hnn hfl
    go_wp2_with (at_builtin; refine wpList_append_own _ rfl _ _ 24 rfl w3.heap.size 5 i0 (.int .u8 0) 1 1 Try.underlying24 hi hz0 hz1 hz2 rfl (by decide) _ _ _ rfl (World.ownsRow_nil _ _ _ _) x (s.size + 3) cap (bc (fb a0kind s)) rfl (by rw [bc_len, fb_len]; omega) (bc_at HBR.out) (bc_one _) ?c3 ?c4 ?c5 ?_)
    case c3 => unfold maxLen; omega
    case c4 => omega
    case c5 => exact Nat.le_refl _
    intro v4 w4 hown4 hgrow4 _
    have hl4 : Below w3.heap.size w3 w4 := (Below.refl _ _).grown hgrow4 (Nat.le_refl _) (fun j hj => by simp [Value.ownBlock] at hj)
    have HL4 := Lib.hid (HL3.out.trans (hl4.mono HL3.out.size))
    have HB4 := Lib.hid (HB3.out.below hl4 HB3.out.lt)
    have HO4 := Lib.hid hown4
    have HBE4 := Lib.hid hl4
    clear hown4 hgrow4 hl4
    have HSZ4 := Lib.hid HL4.out.size
    go_wp2_with fail
    refine (HBY.out _).mono ?_
    rintro e w5 ⟨rfl, rfl⟩
    cases a1 with
    | none =>
      obtain ⟨rfl, rfl⟩ := hn1 rfl
      obtain rfl : M = [] := List.eq_nil_of_length_eq_zero (by rw [hML]; rfl)
      have e0 : (min 0 300 : Nat) = 0 := rfl
      rw [e0]
      clear hML e0
      go_wp2_with (at_builtin; refine wpList_append_own_none rfl _ _ 24 rfl w3.heap.size 5 i0 1 Try.underlying24 hi _ _ _ rfl HO4.out rfl ?_)
      have hown5 := HO4.out
      have hl5 : Below w4.heap.size w4 w4 := Below.refl _ _
      have hl4' := HBE4.out
      obtain ⟨A5, cap5, rfl, hBR5, hnn5, hcap5⟩ := BR.of_own hown5
      have hrc := read_c A5 cap5 (fb a0kind s) 1024 w4 hBR5 (by rw [← hnn5]; omega) (by rw [← hnn5]; exact hcap5)
      rw [← hnn5, show rd (fb a0kind s) 1024 = ((a0kind, s), 3 + (s.size : Int), 0) from (by have := HR.out []; rwa [List.append_nil] at this)] at hrc
      have HRC := Lib.hid hrc
      have HL5 := Lib.hid (HL4.out.trans (hl5.mono HL4.out.size))
      have HB5 := Lib.hid (HB4.out.below hl5 HB4.out.lt)
      clear hrc hnn5 hcap5 hBR5 hown5 hl5 hl4'
      go_wp2_with fail
      refine HRC.out.mono ?_
      rintro e w6 ⟨rfl, hl6⟩
      have HL6 := Lib.hid (HL5.out.trans (hl6.mono HL5.out.size))
      have hB6 := HB5.out.below hl6 HB5.out.lt
      have hB7 := hB6.alloc (.cells #[.int .i64 a0kind, .string s] 23)
      have k0 : (w6.alloc (.cells #[.int .i64 a0kind, .string s] 23)).cell? ⟨w.heap.size, 0, none⟩ = some (.int .i64 a0kind) := hB7.cell 0
      have k1 : (w6.alloc (.cells #[.int .i64 a0kind, .string s] 23)).cell? ⟨w.heap.size, 1, none⟩ = some (.string s) := hB7.cell 1
      have HL7 := Lib.hid (HL6.out.alloc HL6.out.size (.cells #[.int .i64 a0kind, .string s] 23))
      clear hl6 hB6 hB7
      dsimp only
      go_wp2_with fail
      go_ret
      exact ⟨by first | rfl | exact ret_bool (by simp; omega), HL7.out⟩
    | some y =>
      have hmn : min len1 300 ≤ 300 := Nat.min_le_right _ _
      obtain ⟨mn, hmn2⟩ : ∃ mn, mn = min len1 300 := ⟨_, rfl⟩
      rw [← hmn2] at hmn hML ⊢
      have HM4 := Lib.hid ((HM.out.keep (HL4.out)))
      have HML := Lib.hid hML
      clear hML hmn2
      go_wp2_with (at_builtin; refine wpList_append_own _ rfl _ _ 24 rfl w3.heap.size 5 i0 (.int .u8 0) 1 1 Try.underlying24 hi hz0 hz1 hz2 rfl (by decide) _ _ _ rfl HO4.out y mn cap1 (bc M) rfl (by rw [bc_len, HML.out]; omega) (bc_at HM4.out) (bc_one _) ?c3 ?c4 ?c5 ?_)
      case c3 => unfold maxLen; omega
      case c4 => omega
      case c5 => have := HBE4.out.size; omega
      intro v5 w5 hown5 hgrow5 _
      rw [bc_app] at hown5
      have hl5 : Below w3.heap.size w4 w5 := (Below.refl _ _).grown hgrow5 HBE4.out.size (fun j hj => (HO4.out.lt j hj).1)
      have hl4' := HBE4.out
      obtain ⟨A5, cap5, rfl, hBR5, hnn5, hcap5⟩ := BR.of_own hown5
      have hrc := read_c A5 cap5 (fb a0kind s ++ M) 1024 w5 hBR5 (by rw [← hnn5]; omega) (by rw [← hnn5]; exact hcap5)
      rw [← hnn5, HR.out] at hrc
      have HRC := Lib.hid hrc
      have HL5 := Lib.hid (HL4.out.trans (hl5.mono HL3.out.size))
      have HB5 := Lib.hid (HB4.out.below hl5 HB3.out.lt)
      clear hrc hnn5 hcap5 hBR5 hown5 hl5 hl4'
      go_wp2_with fail
      refine HRC.out.mono ?_
      rintro e w6 ⟨rfl, hl6⟩
      have HL6 := Lib.hid (HL5.out.trans (hl6.mono HL5.out.size))
      have hB6 := HB5.out.below hl6 HB5.out.lt
      have hB7 := hB6.alloc (.cells #[.int .i64 a0kind, .string s] 23)
      have k0 : (w6.alloc (.cells #[.int .i64 a0kind, .string s] 23)).cell? ⟨w.heap.size, 0, none⟩ = some (.int .i64 a0kind) := hB7.cell 0
      have k1 : (w6.alloc (.cells #[.int .i64 a0kind, .string s] 23)).cell? ⟨w.heap.size, 1, none⟩ = some (.string s) := hB7.cell 1
      have HL7 := Lib.hid (HL6.out.alloc HL6.out.size (.cells #[.int .i64 a0kind, .string s] 23))
      clear hl6 hB6 hB7
      dsimp only
      go_wp2_with fail
      go_ret
      exact ⟨by first | rfl | exact ret_bool (by simp; omega), HL7.out⟩
  · have hr' : (rt a0kind s.size 1024 != 0) = true := by simpa using hr
    refine (HWR.out _).mono ?_
    rintro e w3 ⟨v1, rfl, hl3, hv0, _⟩
    have hv := hv0 hr
    subst hv
    have HL3 := Lib.hid (HL2.out.trans (hl3.mono HL2.out.size))
    clear hl3 hv0 hr
    go_wp2_with fail
    go_ret
    exact ⟨rfl, HL3.out⟩

/-! ### THE ROW -/
set_option maxRecDepth 100000 in
theorem lifted (os : Os) (started : os.Started) (H : Type) (enc : TypeId × Value → H) :
    ReturnsInHanded {} Try.checked os 3 .any (Rows.frameBackSpec.pre6 enc Try.prog Try.f3 Rows.frameBackRow.domain false) (Rows.frameBackSpec.post enc Try.prog Try.f3 false true false false) := by
  refine returnsInHanded_of_change (C := Try.checked) own started (by kernel_rfl) Try.func3
    (ChangeSpec.witness6 (enc := enc) (C := Try.checked) false ⟨#[], #[.agg #[.int .i64 0, .string ByteArray.empty], .slice none 0 0], []⟩ 8 (by kernel_rfl) (by kernel_rfl) (by kernel_rfl) (by kernel_rfl)) ?_
  intro W base args ds gs before hval0 hW hcnd _
  have hval : ∀ (j : Nat) t v, Try.f3.params[j]? = some t → args[j]? = some v → Value.okWide Try.prog W .any base t v := hval0
  have hW' := hW
  obtain ⟨p, q, hA0, hV, rfl, hfz, hnd⟩ := hW
  have hA : DataW.TrodAll enc Try.prog W 0 (fun _ => true) true Try.f3.params.toList args.toList ds p := hA0
  rw [Try.params3] at hA hval
  obtain ⟨v0, vs0, d0, ds0, p0, q0, hargs, rfl, rfl, h0, r0⟩ := trodAll_cons hA
  obtain ⟨v1, vs1, d1, ds1, p1, q1, rfl, rfl, rfl, h1, r1⟩ := trodAll_cons r0
  obtain ⟨rfl, rfl, rfl⟩ := trodAll_nil r1
  obtain rfl : args = #[v0, v1] := by cases args; simp_all
  obtain ⟨rfl, rfl⟩ := trodVars_none hV
  have k0 := h0
  have lt0 : ∀ x ∈ p0, x.block < W.heap.size := by obtain ⟨m, hm⟩ := k0; exact DataW.trod_lt m _ _ _ hm
  obtain ⟨a0kind, a0data, rfl, w0a0kind, w0a0data⟩ := open_val_is Try.underlying23 (by kernel_rfl) (by kernel_rfl) Try.underlying3 Try.underlying9 (hval 0 23 v0 rfl rfl) h0
  obtain ⟨a1, len1, cap1, rfl⟩ := okWide_slice Try.underlying24 (hval 1 24 v1 rfl rfl)
  have k1 := h1
  have lt1 : ∀ x ∈ p1, x.block < W.heap.size := by obtain ⟨m, hm⟩ := k1; exact DataW.trod_lt m _ _ _ hm
  obtain ⟨z1, w1⟩ : ∃ zs, IsRow .u8 W a1 len1 cap1 zs := open_row Try.underlying24 Try.underlying5 (by kernel_rfl) h1
  clear hA0 hval0
  refine (walk a0kind a0data a1 len1 cap1 z1 W w0a0kind w0a0data w1).mono fun e W' ⟨he, bel⟩ => ?_
  subst he
  exact ⟨_, rfl, _, _, _, [], _, [], hW', trodAll_mk1 (shut_bool Try.underlying4 _), (trodAll_cons_mk (Below.trod laidOut (by kernel_rfl) (of_decide_eq_true (by kernel_rfl)) k0 bel lt0) (trodAll_cons_mk (Below.trod laidOut (by kernel_rfl) (of_decide_eq_true (by kernel_rfl)) k1 bel lt1) trodAll_mk0)), rfl, bel.frame _, fun h => by cases h⟩

theorem over : Rows.frameBackRow.holds Try.pinned (OpenSpec.ofChange Rows.frameBackSpec) :=
  OpenClaim.holds_of_wide 3 Try.f3 rfl rfl rfl rfl rfl rfl rfl ⟨rfl, rfl, rfl, rfl, rfl⟩ rfl rfl rfl rfl rfl (by kernel_rfl) Try.func3 (by kernel_rfl)
    (of_decide_eq_true (by kernel_rfl)) (by unfold Func.isWrapper; first | (rw [if_pos (by decide +kernel)]; kernel_rfl) | (rw [if_neg (by decide +kernel)]; exact ⟨rfl, rfl⟩))
    (fun os started H enc _ => lifted os started H enc)

theorem proved : Rows.FrameBackSaid := over
#print axioms proved
end Go.Proofs.Ytdilbadjbjepaaa.frameBack
