/-
  Proved: of every number and every two slices of numbers 'hostlerlaw06.WindowBehind' returns true: no condition.
  The frame is written by this session's frame.py, after the kit's proof-skeleton.mjs.
-/
import Derived.Test.YtgonoccacbbhjaaXe
namespace Go.Proofs.Ytgonoccacbbhjaa.windowBehind
open Go.ChangeShapes Go.WideShapes Go.ChangeAt Go.RowKit
set_option linter.unusedVariables false
theorem own : ownKnob Try.prog.godebug = none := by kernel_rfl
theorem laidOut : laidOutB Try.prog = true := by kernel_rfl

structure Rel1 (W w : World) (B g : Nat) (sp : Int) (i at' : Value) (n k : Nat) : Prop where
  hi : i = .int .i64 k
  hk : k ≤ n
  st : ∃ (a : Int) (s : WN), at' = .int .i64 a ∧ 0 ≤ a ∧ a ≤ 8 * k ∧ OW w B g s ∧ Told s a ∧ s.span = sp ∧ s.l.length ≤ k
  below : Below W.heap.size W w
  hB : B ≤ w.heap.size
structure Rel2 (W w : World) (B g : Nat) (sp : Int) (i at' was : Value) (n k : Nat) : Prop where
  hi : i = .int .i64 k
  hk : k ≤ n
  st : ∃ (a : Int) (s : WN), at' = .int .i64 a ∧ was = .int .i64 (s.l.length : Nat) ∧ 0 ≤ a ∧ a ≤ 240 + 8 * k ∧ OW w B g s ∧ Told s a ∧ s.span = sp ∧ s.l.length ≤ 30
  below : Below W.heap.size W w
theorem start {W w : World} {g : Nat} (sp : Int) (h1 : 1 ≤ sp) (h2 : sp ≤ 40) (n : Nat) (hb : Below W.heap.size W w) (hg : w.heap.size = g) :
    Rel1 W (w.alloc (.cells #[.int .i64 sp, .int .i64 0, .slice none 0 0] 49)) (g + 1) g sp (.int .i64 0) (.int .i64 0) n 0 := by
  subst hg
  have e : long sp = sp := by unfold long; omega
  have ho := new_ow sp w (w.heap.size + 1) (by omega)
  have ht := told_new sp
  rw [e] at ho ht
  exact ⟨rfl, Nat.zero_le _, ⟨0, ⟨sp, 0, []⟩, rfl, Int.le_refl _, by omega, ho, ht, rfl, Nat.le_refl _⟩, hb.alloc hb.size _, by simp⟩

/-! ### STEP 1 -/
set_option maxRecDepth 100000 in
set_option maxHeartbeats 16000000 in
theorem walk (a0 : Int) (a1 : Option Addr) (len1 cap1 : Nat) (z1 : List Int) (a2 : Option Addr) (len2 cap2 : Nat) (z2 : List Int) (w : World) (w0 : (Lit.int .i64 a0).wf = true) (w1 : IsRow .i64 w a1 len1 cap1 z1) (w2 : IsRow .i64 w a2 len2 cap2 z2) :
    Calls Try.prog 3 #[.int .i64 a0, .slice a1 len1 cap1, .slice a2 len2 cap2] w fun e w' => e = .returned (.bool true) ∧ Below w.heap.size w w' := by
  have hnm1 := nums_of w1
  have hnm2 := nums_of w2
  have HNM1 := Lib.hid hnm1
  have HNM2 := Lib.hid hnm2
  have hlm1 := hnm1.lm
  have hlm2 := hnm2.lm
  clear w0 w1 w2 hnm1 hnm2
  obtain ⟨n, hn⟩ : ∃ n, n = min len1 30 := ⟨_, rfl⟩
  obtain ⟨m, hm⟩ : ∃ m, m = min len2 30 := ⟨_, rfl⟩
  have hn1 : n ≤ len1 := by omega
  have hn3 : n ≤ 30 := by omega
  have hm1 : m ≤ len2 := by omega
  have hm3 : m ≤ 30 := by omega
  have HN := Lib.hid hn
  have HM := Lib.hid hm
  clear hn hm
  have he0 : (IntKind.u64.wrap a0).tmod 40 = rst 40 a0 := rfl
  obtain ⟨hr0, hr1⟩ := rst_bd 40 a0 (by omega)
  generalize rst 40 a0 = r at *
  have hlg : long (1 + r) = 1 + r := by unfold long; omega
  go_enter Try.func3, Try.ntmps3
  go_wp2_with fail
  refine (wlives_c _).mono ?_
  rintro e w1 ⟨rfl, hl1⟩
  have hgs := hl1.size
  obtain ⟨g, hg⟩ : ∃ g, w1.heap.size = g := ⟨_, rfl⟩
  have HR0 := Lib.hid (start (1 + r) (by omega) (by omega) n hl1 hg)
  have hge : w.heap.size ≤ g := by omega
  have KN := Lib.hid (fun W => new_c (1 + r) W)
  rw [hlg] at KN
  clear hl1 hlg
  go_wp2_with (go_at_call 9; refine (KN.out _).mono ?_; rintro e w' ⟨rfl, rfl⟩)
  clear hg hgs he0 KN
  go_loopw [8, 9] (fun v i wr => ∃ k, Rel1 w wr (g + 1) g (1 + r) i v n k) (fun _ i _ => n - (intOf i).toNat)
  case atStart => exact ⟨0, HR0.out⟩
  case round =>
    clear HR0
    obtain ⟨k, hrel⟩ := hrel
    obtain rfl := hrel.hi
    have hk := hrel.hk
    obtain ⟨a, s, rfl, ha0, ha1, hs, hp, hsp, hsl⟩ := hrel.st
    have HBW := Lib.hid hrel.below
    have HBS := Lib.hid hrel.hB
    have HS := Lib.hid hs
    have HSP := Lib.hid hsp
    clear hrel hs hsp
    by_cases hlt : k < n
    · have hlt0 : k < len1 := by omega
      have hlt4 : (k : Int) < 30 := by omega
      obtain ⟨x, rfl, hxb, k0⟩ := HNM1.out.at' k hlt0
      generalize z1.getD k 0 = z at k0
      replace k0 : wr.cell? (x.add k) = some (.int .i64 z) := by rw [HBW.out.cell (cell_lt k0)]; exact k0
      have he : (IntKind.u64.wrap z).tmod 9 = rst 9 z := rfl
      obtain ⟨hq0, hq1⟩ := rst_bd 9 z (by omega)
      obtain ⟨e1, _, hx1, hp2⟩ := told_add (b := a + rst 9 z) hp ha0 (by omega) (by omega)
      have hlen := told_len (b := a + rst 9 z) hp ha0 (by omega) (by omega)
      have hb2 : a + rst 9 z ≤ 8 * ((k + 1 : Nat) : Int) := by omega
      have K1 := Lib.hid (addw_c (g + 1) g s (a + rst 9 z) wr HS.out hp.f (by omega) HBS.out)
      have hsl2 := add_len s (a + rst 9 z)
      have HP2 := Lib.hid hp2
      have HSP2 := Lib.hid (show (addw s (a + rst 9 z)).span = 1 + r by rw [e1]; exact HSP.out)
      clear hp hp2 e1
      generalize addN s (a + rst 9 z) = X at *
      generalize addw s (a + rst 9 z) = s' at *
      have HLN := Lib.hid hlen
      have hX1 : 1 ≤ X := hx1
      have hX2 : X ≤ k + 1 := by omega
      clear hlen hx1
      have hd1 : decide ((X : Int) < 1) = false := by simp; omega
      have hd2 : decide ((k : Int) + 1 < (X : Int)) = false := by simp; omega
      go_wp2_with fail
      refine K1.out.mono ?_
      rintro e w2 ⟨rfl, ho2, hn2⟩
      have HS2 := Lib.hid ho2
      have HB2 := Lib.hid (hn2.later HBW.out HBW.out.size hge)
      have HZ2 := Lib.hid (Nat.le_trans HBS.out hn2.size)
      clear ho2 hn2
      go_wp2_with fail
      refine (wlen_c (g + 1) g s' _ HS2.out).mono ?_
      rintro e w' ⟨rfl, rfl⟩
      rw [HLN.out]
      go_wp2_with fail
      go_roundw
      case rel => exact ⟨k + 1, by go_num, by omega, ⟨a + rst 9 z, s', rfl, by omega, hb2, HS2.out, HP2.out, HSP2.out, by rw [HLN.out]; omega⟩, HB2.out, HZ2.out⟩
      case measure => simp [intOf]; omega
    · obtain rfl : n = k := by omega
      have hgd : (n < len1 ∧ decide ((n : Int) < 30) = false) ∨ decide (n < len1) = false := by
        have := HN.out
        by_cases hq : n < len1
        · exact .inl ⟨hq, by simp; omega⟩
        · exact .inr (by simpa using hq)
      obtain ⟨e1, e2, hp2⟩ := told_cnt (b := a) hp ha0 (by omega) (Int.le_refl _)
      have K1 := count_c (g + 1) g s a wr HS.out.c hp.f (by omega)
      have hl2 := cnt_len s a
      rw [e2] at K1
      have HSP2 := Lib.hid (show (cnt s a).span = 1 + r by rw [e1]; exact HSP.out)
      have HP2 := Lib.hid hp2
      have KK := Lib.hid K1
      clear e1 e2 hp hp2 hlt K1
      generalize cnt s a = s2 at *
      rcases hgd with ⟨hgd1, hgd2⟩ | hgd1
      all_goals
        go_wp2_with fail
        refine KK.out.mono ?_
        rintro e w2 ⟨rfl, ho2, hn2⟩
        have HS2 := Lib.hid ho2
        have HB2 := Lib.hid (hn2.later HBW.out HBW.out.size hge)
        clear ho2 hn2
        go_wp2_with fail
        have HR0 := Lib.hid (show Rel2 w w2 (g + 1) g (1 + r) (.int .i64 0) (.int .i64 a) (.int .i64 (s2.l.length : Nat)) m 0 from ⟨rfl, Nat.zero_le _, ⟨a, s2, rfl, rfl, ha0, by omega, HS2.out, HP2.out, HSP2.out, by omega⟩, HB2.out⟩)
        clear HS2 HB2 HP2 HSP2 HS HSP HBW HBS KK hl2 hsl ha0 ha1
        go_loopw [8, 11, 12] (fun u v i wr => ∃ k, Rel2 w wr (g + 1) g (1 + r) i u v m k) (fun _ _ i _ => m - (intOf i).toNat)
        case atStart => exact ⟨0, HR0.out⟩
        case round =>
          clear HR0
          obtain ⟨k, hrel⟩ := hrel
          obtain rfl := hrel.hi
          have hk := hrel.hk
          obtain ⟨a, s, rfl, rfl, ha0, ha1, hs, hp, hsp, hsl⟩ := hrel.st
          have HBW := Lib.hid hrel.below
          have HS := Lib.hid hs
          have HSP := Lib.hid hsp
          clear hrel hs hsp
          by_cases hlt : k < m
          · have hlt0 : k < len2 := by omega
            have hlt4 : (k : Int) < 30 := by omega
            obtain ⟨x, rfl, hxb, k0⟩ := HNM2.out.at' k hlt0
            generalize z2.getD k 0 = z at k0
            replace k0 : wr.cell? (x.add k) = some (.int .i64 z) := by rw [HBW.out.cell (cell_lt k0)]; exact k0
            have he : (IntKind.u64.wrap z).tmod 9 = rst 9 z := rfl
            obtain ⟨hq0, hq1⟩ := rst_bd 9 z (by omega)
            obtain ⟨e1, e2, hp2⟩ := told_cnt (b := a + rst 9 z) hp ha0 (by omega) (by omega)
            have k1 := count_c (g + 1) g s (a + rst 9 z) wr HS.out.c hp.f (by omega)
            have hl2 := cnt_len s (a + rst 9 z)
            have hb2 : a + rst 9 z ≤ 240 + 8 * ((k + 1 : Nat) : Int) := by omega
            rw [e2] at k1
            have HSP2 := Lib.hid (show (cnt s (a + rst 9 z)).span = 1 + r by rw [e1]; exact HSP.out)
            have HP2 := Lib.hid hp2
            have KK := Lib.hid k1
            clear e1 e2 hp hp2 k1
            generalize cnt s (a + rst 9 z) = s2 at *
            have hd1 : decide (s.l.length < s2.l.length) = false := by simp; omega
            go_wp2_with fail
            refine KK.out.mono ?_
            rintro e w2 ⟨rfl, ho2, hn2⟩
            have HS2 := Lib.hid ho2
            have HB2 := Lib.hid (hn2.later HBW.out HBW.out.size hge)
            clear ho2 hn2
            go_wp2_with fail
            refine (wlen_c (g + 1) g s2 _ HS2.out).mono ?_
            rintro e w' ⟨rfl, rfl⟩
            go_wp2_with fail
            go_roundw
            case rel => exact ⟨k + 1, by go_num, by omega, ⟨a + rst 9 z, s2, rfl, rfl, by omega, hb2, HS2.out, HP2.out, HSP2.out, by omega⟩, HB2.out⟩
            case measure => simp [intOf]; omega
          · obtain rfl : m = k := by omega
            have hgm : (m < len2 ∧ decide ((m : Int) < 30) = false) ∨ decide (m < len2) = false := by
              have := HM.out
              by_cases hq : m < len2
              · exact .inl ⟨hq, by simp; omega⟩
              · exact .inr (by simpa using hq)
            obtain ⟨t1, t2⟩ := told_end hp ha0 (by rw [HSP.out]; omega)
            rw [HSP.out] at t1 t2
            have k1 := count_c (g + 1) g s (a + (1 + r)) wr HS.out.c hp.f (by omega)
            rw [t1] at k1
            have KK := Lib.hid k1
            have T2 := Lib.hid t2
            clear t1 t2 k1 hp hlt
            generalize cnt s (a + (1 + r)) = s2 at *
            rcases hgm with ⟨hgm1, hgm2⟩ | hgm1
            all_goals
              go_wp2_with fail
              refine KK.out.mono ?_
              rintro e w2 ⟨rfl, ho2, hn2⟩
              have HS2 := Lib.hid ho2
              have HB2 := Lib.hid (hn2.later HBW.out HBW.out.size hge)
              clear ho2 hn2
              go_wp2_with fail
              refine (wlen_c (g + 1) g s2 _ HS2.out).mono ?_
              rintro e w' ⟨rfl, rfl⟩
              rw [T2.out]
              go_wp2_with fail
              go_ret
              exact ⟨rfl, HB2.out⟩

/-! ### THE ROW -/
set_option maxRecDepth 100000 in
theorem lifted (os : Os) (started : os.Started) (H : Type) (enc : TypeId × Value → H) :
    ReturnsInHanded {} Try.checked os 3 .any (Rows.windowBehindSpec.pre6 enc Try.prog Try.f3 Rows.windowBehindRow.domain false) (Rows.windowBehindSpec.post enc Try.prog Try.f3 false true false false) := by
  refine returnsInHanded_of_change (C := Try.checked) own started (by kernel_rfl) Try.func3
    (ChangeSpec.witness6 (enc := enc) (C := Try.checked) false ⟨#[], #[.int .i64 0, .slice none 0 0, .slice none 0 0], []⟩ 8 (by kernel_rfl) (by kernel_rfl) (by kernel_rfl) (by kernel_rfl)) ?_
  intro W base args ds gs before hval0 hW hcnd _
  have hval : ∀ (j : Nat) t v, Try.f3.params[j]? = some t → args[j]? = some v → Value.okWide Try.prog W .any base t v := hval0
  have hW' := hW
  obtain ⟨p, q, hA0, hV, rfl, hfz, hnd⟩ := hW
  have hA : DataW.TrodAll enc Try.prog W 0 (fun _ => true) true Try.f3.params.toList args.toList ds p := hA0
  rw [Try.params3] at hA hval
  obtain ⟨v0, vs0, d0, ds0, p0, q0, hargs, rfl, rfl, h0, r0⟩ := trodAll_cons hA
  obtain ⟨v1, vs1, d1, ds1, p1, q1, rfl, rfl, rfl, h1, r1⟩ := trodAll_cons r0
  obtain ⟨v2, vs2, d2, ds2, p2, q2, rfl, rfl, rfl, h2, r2⟩ := trodAll_cons r1
  obtain ⟨rfl, rfl, rfl⟩ := trodAll_nil r2
  obtain rfl : args = #[v0, v1, v2] := by cases args; simp_all
  obtain ⟨rfl, rfl⟩ := trodVars_none hV
  obtain ⟨a0, rfl, rfl, rfl, w0⟩ := open_int Try.underlying3 (hval 0 3 v0 rfl rfl) h0
  obtain ⟨a1, len1, cap1, rfl⟩ := okWide_slice Try.underlying22 (hval 1 22 v1 rfl rfl)
  have k1 := h1
  have lt1 : ∀ x ∈ p1, x.block < W.heap.size := by obtain ⟨m, hm⟩ := k1; exact DataW.trod_lt m _ _ _ hm
  obtain ⟨z1, w1⟩ : ∃ zs, IsRow .i64 W a1 len1 cap1 zs := open_row Try.underlying22 Try.underlying3 (by kernel_rfl) h1
  obtain ⟨a2, len2, cap2, rfl⟩ := okWide_slice Try.underlying22 (hval 2 22 v2 rfl rfl)
  have k2 := h2
  have lt2 : ∀ x ∈ p2, x.block < W.heap.size := by obtain ⟨m, hm⟩ := k2; exact DataW.trod_lt m _ _ _ hm
  obtain ⟨z2, w2⟩ : ∃ zs, IsRow .i64 W a2 len2 cap2 zs := open_row Try.underlying22 Try.underlying3 (by kernel_rfl) h2
  clear hA0 hval0
  refine (walk a0 a1 len1 cap1 z1 a2 len2 cap2 z2 W w0 w1 w2).mono fun e W' ⟨he, bel⟩ => ?_
  subst he
  exact ⟨_, rfl, _, _, _, [], _, [], hW', trodAll_mk1 (shut_bool Try.underlying4 _), (trodAll_cons_mk (shut_int Try.underlying3 w0) (trodAll_cons_mk (Below.trod laidOut (by kernel_rfl) (of_decide_eq_true (by kernel_rfl)) k1 bel lt1) (trodAll_cons_mk (Below.trod laidOut (by kernel_rfl) (of_decide_eq_true (by kernel_rfl)) k2 bel lt2) trodAll_mk0))), rfl, bel.frame _, fun h => by cases h⟩

theorem over : Rows.windowBehindRow.holds Try.pinned (OpenSpec.ofChange Rows.windowBehindSpec) :=
  OpenClaim.holds_of_wide 3 Try.f3 rfl rfl rfl rfl rfl rfl rfl ⟨rfl, rfl, rfl, rfl, rfl⟩ rfl rfl rfl rfl rfl (by kernel_rfl) Try.func3 (by kernel_rfl)
    (of_decide_eq_true (by kernel_rfl)) (by unfold Func.isWrapper; first | (rw [if_pos (by decide +kernel)]; kernel_rfl) | (rw [if_neg (by decide +kernel)]; exact ⟨rfl, rfl⟩))
    (fun os started H enc _ => lifted os started H enc)

theorem proved : Rows.WindowBehindSaid := over
#print axioms proved
end Go.Proofs.Ytgonoccacbbhjaa.windowBehind
