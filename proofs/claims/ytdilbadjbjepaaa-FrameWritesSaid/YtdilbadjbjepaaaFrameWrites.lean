/-
  Proved: of every frame and every number 'hostlerlaw02.FrameWrites' returns true: no condition.
  The frame is written by this session's frame.py, after the kit's proof-skeleton.mjs.
-/
import Derived.Test.YtdilbadjbjepaaaL
namespace Go.Proofs.Ytdilbadjbjepaaa.frameWrites
open Go.ChangeShapes Go.WideShapes Go.ChangeAt Go.RowKit
set_option linter.unusedVariables false
theorem own : ownKnob Try.prog.godebug = none := by kernel_rfl
theorem laidOut : laidOutB Try.prog = true := by kernel_rfl

/-- What 'string(b)' gives of what was written. -/
theorem conv_wrote {w w' : World} {k : Int} {s : ByteArray} {r : Int} {v : Value} (h0 : r ≠ 0 → v = .slice none 0 0) (h1 : r = 0 → w'.ownsRow w.heap.size 5 1 v (s.size + 3) (bc (fb k s))) (w2 : World) (hb : Below w'.heap.size w' w2) :
    (convert 24 9 v).run Try.prog w2 = .ok (.string (if r = 0 then ⟨(fb k s).toArray⟩ else ⟨([] : List UInt8).toArray⟩)) w2 := by
  by_cases h : r = 0
  · rw [if_pos h]
    obtain ⟨A, cap, rfl, hBR, hn, _⟩ := BR.of_own (h1 h)
    rw [hn]; exact str_of (hBR.keep hb) cap
  · rw [if_neg h, h0 h]
    exact str_of (l := []) (fun j hj => absurd hj (by simp)) 0
theorem bel_of_drew {w w' : World} (h : Below w.drew.heap.size w.drew w') : Below w.heap.size w w' := ⟨h.os, h.tape, h.output, h.size, h.block⟩

/-! ### STEP 1 -/
set_option maxRecDepth 100000 in
set_option maxHeartbeats 8000000 in
theorem walk (a0kind : Int) (a0data : ByteArray) (a1 : Int) (w : World) (w0a0kind : (Lit.int .i64 a0kind).wf = true) (w0a0data : a0data.size ≤ maxLen) (w1 : (Lit.int .i64 a1).wf = true) :
    Calls Try.prog 5 #[.agg #[.int .i64 a0kind, .string a0data], .int .i64 a1] w fun e w' => e = .returned (.bool true) ∧ Below w.heap.size w w' := by
  have hz := cutS_size a0data
  have hs : (cutS a0data).size ≤ maxLen := by unfold maxLen; omega
  have HF := Lib.hid (fun W => few_c a0kind a0data W w0a0data)
  generalize cutS a0data = s at *
  have HWR := Lib.hid (fun W => write_c a0kind s a1 W hs)
  have HRW := Lib.hid (fun W => rwrite_c a0kind s a1 W hs)
  have HR := Lib.hid (fun W => right_c a0kind s a1 W hs)
  have HRR := Lib.hid (fun W => rright_c a0kind s a1 W hs)
  have HB := Lib.hid (Blk.new w 23 #[.int .i64 a0kind, .string a0data])
  have HW := Lib.hid (show Below w.heap.size w (w.alloc (.cells #[.int .i64 a0kind, .string a0data] 23)) from (Below.refl _ _).alloc (Nat.le_refl _) _)
  clear w0a0kind w0a0data w1
  go_enter Try.func5, Try.ntmps5
  go_wp2_with fail
  refine (flives_c _).mono ?_
  rintro e w1 ⟨rfl, hl1⟩
  have hB1 := HB.out.below hl1 (by simp)
  have k0 : w1.cell? ⟨w.heap.size, 0, none⟩ = some (.int .i64 a0kind) := hB1.cell 0
  have k1 : w1.cell? ⟨w.heap.size, 1, none⟩ = some (.string a0data) := hB1.cell 1
  have HL := Lib.hid (HW.out.trans (hl1.mono (by simp)))
  have HB1 := Lib.hid hB1
  clear hl1 hB1
  go_wp2_with fail
  refine (HF.out _).mono ?_
  rintro e w2 ⟨rfl, hl2⟩
  have hB2 := HB1.out.below hl2 HB1.out.lt
  have k0 : w2.cell? ⟨w.heap.size, 0, none⟩ = some (.int .i64 a0kind) := hB2.cell 0
  have k1 : w2.cell? ⟨w.heap.size, 1, none⟩ = some (.string a0data) := hB2.cell 1
  have q0 := hB2.free 0
  have q1 := hB2.free 1
  have HL2 := Lib.hid (((HL.out.trans (hl2.mono HL.out.size)).setCell (p := ⟨w.heap.size, 0, none⟩) (Nat.le_refl _) (.int .i64 a0kind)).setCell (p := ⟨w.heap.size, 1, none⟩) (Nat.le_refl _) (.string s))
  have HB2 := Lib.hid (show Blk ((w2.setCell ⟨w.heap.size, 0, none⟩ (.int .i64 a0kind)).setCell ⟨w.heap.size, 1, none⟩ (.string s)) w.heap.size 23 #[.int .i64 a0kind, .string s] from (hB2.set 0 (.int .i64 a0kind)).set 1 (.string s))
  clear hl2 hB2
  go_wp2_with fail
  generalize ((w2.setCell ⟨w.heap.size, 0, none⟩ (.int .i64 a0kind)).setCell ⟨w.heap.size, 1, none⟩ (.string s)) = W at *
  refine (HWR.out _).mono ?_
  rintro e w3 ⟨v1, rfl, hl3, hv0, hv1⟩
  have hB3 := HB2.out.below hl3 HB2.out.lt
  have k0 : w3.cell? ⟨w.heap.size, 0, none⟩ = some (.int .i64 a0kind) := hB3.cell 0
  have k1 : w3.cell? ⟨w.heap.size, 1, none⟩ = some (.string s) := hB3.cell 1
  have HL3 := Lib.hid (HL2.out.trans (hl3.mono HL2.out.size))
  have HB3 := Lib.hid hB3
  have HC1 := Lib.hid (fun w2 hb => conv_wrote hv0 hv1 w2 hb)
  clear hl3 hB3 hv0 hv1
  go_wp2_with fail
  refine (HRW.out _).mono ?_
  rintro e w4 ⟨v2, rfl, hl4, hv0, hv1⟩
  have hB4 := HB3.out.below hl4 HB3.out.lt
  have k0 : w4.cell? ⟨w.heap.size, 0, none⟩ = some (.int .i64 a0kind) := hB4.cell 0
  have k1 : w4.cell? ⟨w.heap.size, 1, none⟩ = some (.string s) := hB4.cell 1
  have HL4 := Lib.hid (HL3.out.trans (hl4.mono HL3.out.size))
  have HB4' := hB4
  have bel34 := hl4
  clear hB4 hl4
  obtain ⟨X, hX⟩ : ∃ X : ByteArray, X = (if rt a0kind s.size a1 = 0 then ⟨(fb a0kind s).toArray⟩ else ⟨([] : List UInt8).toArray⟩) := ⟨_, rfl⟩
  have HS := Lib.hid (show ∀ w', Below w4.heap.size w4 w' → (fun w' => (convert 24 9 v1).run Try.prog w' = .ok (.string X) w' ∧ (convert 24 9 v2).run Try.prog w' = .ok (.string X) w' ∧ w'.cell? ⟨w.heap.size, 0, none⟩ = some (.int .i64 a0kind) ∧ w'.cell? ⟨w.heap.size, 1, none⟩ = some (.string s)) w' from fun w' hb => by
    have q := HB4'.below hb HB4'.lt
    rw [hX]
    exact ⟨HC1.out w' ((bel34).trans (hb.mono bel34.size)), conv_wrote hv0 hv1 w' hb, q.cell 0, q.cell 1⟩)
  have c12 := HS.out w4 (Below.refl _ _)
  obtain ⟨c1, c2, _, _⟩ := c12
  have pd := HS.out w4.drew ((Below.refl w4.heap.size w4).drew)
  clear hv0 hv1 hX
  go_wp2_with fail
  go_region_held3 (fun w' => (convert 24 9 v1).run Try.prog w' = .ok (.string X) w' ∧ (convert 24 9 v2).run Try.prog w' = .ok (.string X) w' ∧ w'.cell? ⟨w.heap.size, 0, none⟩ = some (.int .i64 a0kind) ∧ w'.cell? ⟨w.heap.size, 1, none⟩ = some (.string s))
    (first | go_keep | exact p8 | exact p7 | exact p6 | exact p5 | exact pd)
    (first | (go_at_call 14; (with_reducible refine (HR.out _).mono ?_); rintro e w5 ⟨rfl, hb5⟩; have b5 : Below w4.heap.size w4 w5 := bel_of_drew hb5; have p5 := HS.out w5 b5) | (go_at_call 16; (with_reducible refine (HRR.out _).mono ?_); rintro e w6 ⟨rfl, hb6⟩; have b6 : Below w4.heap.size w4 w6 := b5.trans (hb6.mono b5.size); have p6 := HS.out w6 b6) | (go_at_call 17; (with_reducible refine (client_c _ _).mono ?_); rintro e w' ⟨rfl, rfl⟩) | (go_at_call 18; (with_reducible refine (rclient_c _ _).mono ?_); rintro e w' ⟨rfl, rfl⟩) | (go_at_call 19; (with_reducible refine (host_c _ _).mono ?_); rintro e w' ⟨rfl, rfl⟩) | (go_at_call 20; (with_reducible refine (rhost_c _ _).mono ?_); rintro e w' ⟨rfl, rfl⟩) | (go_at_call 21; (with_reducible refine (name_c _ _).mono ?_); rintro e w7 ⟨rfl, hb7⟩; have b7 : Below w4.heap.size w4 w7 := b6.trans (hb7.mono b6.size); have p7 := HS.out w7 b7) | (go_at_call 22; (with_reducible refine (rname_c _ _).mono ?_); rintro e w8 ⟨rfl, hb8⟩; have b8 : Below w4.heap.size w4 w8 := b7.trans (hb8.mono b7.size); have p8 := HS.out w8 b8))
  all_goals
    have HE := Lib.hid (HL4.out.trans (b8.mono HL4.out.size))
    clear hb5 hb6 hb7 hb8 b5 b6 b7 b8 p5 p6 p7 p8
    go_wp2
    go_ret
    exact ⟨rfl, HE.out⟩

/-! ### THE ROW -/
set_option maxRecDepth 100000 in
theorem lifted (os : Os) (started : os.Started) (H : Type) (enc : TypeId × Value → H) :
    ReturnsInHanded {} Try.checked os 5 .any (Rows.frameWritesSpec.pre6 enc Try.prog Try.f5 Rows.frameWritesRow.domain false) (Rows.frameWritesSpec.post enc Try.prog Try.f5 false true false false) := by
  refine returnsInHanded_of_change (C := Try.checked) own started (by kernel_rfl) Try.func5
    (ChangeSpec.witness6 (enc := enc) (C := Try.checked) false ⟨#[], #[.agg #[.int .i64 0, .string ByteArray.empty], .int .i64 0], []⟩ 8 (by kernel_rfl) (by kernel_rfl) (by kernel_rfl) (by kernel_rfl)) ?_
  intro W base args ds gs before hval0 hW hcnd _
  have hval : ∀ (j : Nat) t v, Try.f5.params[j]? = some t → args[j]? = some v → Value.okWide Try.prog W .any base t v := hval0
  have hW' := hW
  obtain ⟨p, q, hA0, hV, rfl, hfz, hnd⟩ := hW
  have hA : DataW.TrodAll enc Try.prog W 0 (fun _ => true) true Try.f5.params.toList args.toList ds p := hA0
  rw [Try.params5] at hA hval
  obtain ⟨v0, vs0, d0, ds0, p0, q0, hargs, rfl, rfl, h0, r0⟩ := trodAll_cons hA
  obtain ⟨v1, vs1, d1, ds1, p1, q1, rfl, rfl, rfl, h1, r1⟩ := trodAll_cons r0
  obtain ⟨rfl, rfl, rfl⟩ := trodAll_nil r1
  obtain rfl : args = #[v0, v1] := by cases args; simp_all
  obtain ⟨rfl, rfl⟩ := trodVars_none hV
  have k0 := h0
  have lt0 : ∀ x ∈ p0, x.block < W.heap.size := by obtain ⟨m, hm⟩ := k0; exact DataW.trod_lt m _ _ _ hm
  obtain ⟨a0kind, a0data, rfl, w0a0kind, w0a0data⟩ := open_val_is Try.underlying23 (by kernel_rfl) (by kernel_rfl) Try.underlying3 Try.underlying9 (hval 0 23 v0 rfl rfl) h0
  obtain ⟨a1, rfl, rfl, rfl, w1⟩ := open_int Try.underlying3 (hval 1 3 v1 rfl rfl) h1
  clear hA0 hval0
  refine (walk a0kind a0data a1 W w0a0kind w0a0data w1).mono fun e W' ⟨he, bel⟩ => ?_
  subst he
  exact ⟨_, rfl, _, _, _, [], _, [], hW', trodAll_mk1 (shut_bool Try.underlying4 _), (trodAll_cons_mk (Below.trod laidOut (by kernel_rfl) (of_decide_eq_true (by kernel_rfl)) k0 bel lt0) (trodAll_cons_mk (shut_int Try.underlying3 w1) trodAll_mk0)), rfl, bel.frame _, fun h => by cases h⟩

theorem over : Rows.frameWritesRow.holds Try.pinned (OpenSpec.ofChange Rows.frameWritesSpec) :=
  OpenClaim.holds_of_wide 5 Try.f5 rfl rfl rfl rfl rfl rfl rfl ⟨rfl, rfl, rfl, rfl, rfl⟩ rfl rfl rfl rfl rfl (by kernel_rfl) Try.func5 (by kernel_rfl)
    (of_decide_eq_true (by kernel_rfl)) (by unfold Func.isWrapper; first | (rw [if_pos (by decide +kernel)]; kernel_rfl) | (rw [if_neg (by decide +kernel)]; exact ⟨rfl, rfl⟩))
    (fun os started H enc _ => lifted os started H enc)

theorem proved : Rows.FrameWritesSaid := over
#print axioms proved
end Go.Proofs.Ytdilbadjbjepaaa.frameWrites
