/-
  Proved: of every slice of frames and every number 'hostlerlaw02.FrameRows' returns true: no condition.
  The frame is written by this session's frame.py, after the kit's proof-skeleton.mjs.
-/
import Derived.Test.YtdilbadjbjepaaaYb
import Derived.Test.YtdilbadjbjepaaaSa
namespace Go.Proofs.Ytdilbadjbjepaaa.frameRows
open Go.ChangeShapes Go.WideShapes Go.ChangeAt Go.RowKit
set_option linter.unusedVariables false
theorem own : ownKnob Try.prog.godebug = none := by kernel_rfl
theorem laidOut : laidOutB Try.prog = true := by kernel_rfl

theorem BR.of_own' {w : World} {base n : Nat} {v : Value} {l : List UInt8} (h : w.ownsRow base 5 1 v n (bc l)) : ∃ A cap, v = .slice A n cap ∧ BR w A l ∧ n ≤ cap ∧ cap ≤ maxLen ∧ (A = none → n = 0 ∧ cap = 0) := by
  have hl : (bc l).length = n * 1 := h.1
  rw [bc_len] at hl
  rcases h.2 with ⟨rfl, hn⟩ | ⟨g, cap, cur, rfl, _, hb, hc, hm, _⟩
  · exact ⟨none, 0, by rw [hn], fun j hj => by omega, by omega, by omega, fun _ => ⟨hn, rfl⟩⟩
  · refine ⟨_, cap, rfl, fun j hj => ⟨_, rfl, ?_⟩, hc, hm, fun h => by cases h⟩
    refine h.cells (g := g) rfl j _ ?_
    simp [bc, hj]
theorem BR.take {w : World} {A : Option Addr} {l : List UInt8} (h : BR w A l) (n : Nat) : BR w A (l.take n) := fun j hj => by
  have hj2 : j < l.length := by rw [List.length_take] at hj; omega
  have := h j hj2
  rwa [List.getElem_take]
theorem BR.drop {w : World} {x : Addr} {l : List UInt8} (h : BR w (some x) l) (n : Nat) : BR w (some (x.add n)) (l.drop n) := fun j hj => by
  have hj2 : n + j < l.length := by rw [List.length_drop] at hj; omega
  obtain ⟨y, hy, c1⟩ := h (n + j) hj2
  cases hy
  refine ⟨_, rfl, ?_⟩
  rw [add_of_add, c1, List.getElem_drop]
/-- The frames of the first k that came in. -/
def ins (z : List Fr) (k : Nat) : List Fr := (z.take k).map good
theorem ins_len {z : List Fr} {k : Nat} (h : k ≤ z.length) : (ins z k).length = k := by unfold ins; rw [List.length_map, List.length_take]; omega
theorem ins_ok (z : List Fr) (k : Nat) : FO (ins z k) := fun f hf => by
  unfold ins at hf
  obtain ⟨g, _, rfl⟩ := List.mem_map.1 hf
  exact good_ok g
theorem ins_snoc (z : List Fr) (k : Nat) (h : k < z.length) : ins z (k + 1) = ins z k ++ [good (z.getD k (0, ByteArray.empty))] := by
  unfold ins
  rw [List.take_succ_eq_append_getElem h, List.map_append, List.getD_eq_getElem?_getD, List.getElem?_eq_getElem h]; rfl
structure RelR (W w : World) (v i : Value) (z : List Fr) (n k : Nat) : Prop where
  hi : i = .int .i64 (k : Int)
  hk : k ≤ n
  own : w.ownsRow W.heap.size 23 2 v k (fc (ins z k))
  nul : k = 0 → v = .slice none 0 0
  below : Below W.heap.size W w
theorem RelR.start {W w : World} (z : List Fr) (n : Nat) (h : Below W.heap.size W w) : RelR W w (.slice none 0 0) (.int .i64 0) z n 0 :=
  ⟨rfl, Nat.zero_le _, World.ownsRow_nil w W.heap.size 23 2, fun _ => rfl, h⟩
/-- The slice of frames that came in, frame by frame. -/
structure Came (w : World) (a : Option Addr) (len cap : Nat) (z : List Fr) : Prop where
  lc : len ≤ cap
  lm : len ≤ maxLen
  zl : len ≤ z.length
  at' : ∀ k, k < len → ∃ x, a = some x ∧ x.block < w.heap.size ∧ w.cell? (x.add (k * 2)) = some (.int .i64 (z.getD k (0, ByteArray.empty)).1) ∧ w.cell? (x.add (k * 2 + 1)) = some (.string (z.getD k (0, ByteArray.empty)).2) ∧ (z.getD k (0, ByteArray.empty)).2.size ≤ maxLen
theorem came_of {w : World} {a : Option Addr} {len cap : Nat} {z : List Fr} (h : IsRecs_is w a len cap z) : Came w a len cap z := by
  rcases h with ⟨_, rfl, _, rfl⟩ | ⟨x, rfl, hl, hm, hz, hc, hw⟩
  · exact ⟨Nat.zero_le _, Nat.zero_le _, Nat.zero_le _, fun k hk => by omega⟩
  · refine ⟨hl, Nat.le_trans hl hm, by omega, fun k hk => ⟨x, rfl, ?_, (hc k (by omega)).1, (hc k (by omega)).2, (hw k (by omega)).2⟩⟩
    have := cell_lt (hc k (by omega)).1
    rwa [block_add] at this
theorem good_app (z : List Fr) (k : Nat) (h : k < z.length) : fc (ins z k) ++ fc [good (z.getD k (0, ByteArray.empty))] = fc (ins z (k + 1)) := by rw [← fc_app, ← ins_snoc z k h]
theorem all3_out {fs : List Fr} {N : Nat} {E : Int} {w w' : World} {e : Ending} (h : All3 (fs, N, E) w e w') (n : Nat) (hn : fs.length = n) :
    ∃ A c, e = .returned (.tuple #[.slice A n c, .int .i64 (N : Int), .int .i64 E]) ∧ Below w.heap.size w w' ∧ FR w' A fs ∧ n ≤ c := by
  obtain ⟨v, rfl, hb, hown⟩ := h
  obtain ⟨A, c, hv, hFR, _, hc, _, _⟩ := FR.of_own hown
  subst hv
  dsimp only at hc ⊢
  rw [hn] at hc ⊢
  exact ⟨A, c, rfl, hb, hFR, hc⟩
theorem same_n (A1 A2 : Option Addr) (c1 c2 : Nat) (fs : List Fr) (w : World) (n : Nat) (hn : fs.length = n) (h1 : FR w A1 fs) (h2 : FR w A2 fs) (hl : n ≤ 1000000) :
    Calls Try.prog 28 #[.slice A1 n c1, .slice A2 n c2] w fun e w' => e = .returned (.bool true) ∧ ∃ q, w.drewN q = w' := by
  subst hn
  exact (same_c A1 A2 c1 c2 fs w h1 h2 hl).mono fun _ _ ⟨he, q, hq⟩ => ⟨he, q, hq.symm⟩
theorem fbs_ge (fs : List Fr) : fs.length ≤ (fbs fs).length := by
  induction fs with
  | nil => exact Nat.le_refl _
  | cons f fs ih => simp only [fbs, List.length_append, fb_len, List.length_cons]; omega

/-! ### STEP 1 -/
set_option maxRecDepth 100000 in
set_option maxHeartbeats 16000000 in
theorem walk (a0 : Option Addr) (len0 cap0 : Nat) (z0 : List (Int × ByteArray)) (a1 : Int) (w : World) (w0 : IsRecs_is w a0 len0 cap0 z0) (w1 : (Lit.int .i64 a1).wf = true) :
    Calls Try.prog 8 #[.slice a0 len0 cap0, .int .i64 a1] w fun e w' => e = .returned (.bool true) ∧ Below w.heap.size w w' := by
  have hcm := came_of w0
  have HC := Lib.hid hcm
  have hlm := hcm.lm
  unfold maxLen at hlm
  clear w0 w1 hcm
  obtain ⟨i0, hi, hz0, hz1, hz2⟩ := info_parts info23
  obtain ⟨n, hn⟩ : ∃ n, n = min len0 8 := ⟨_, rfl⟩
  have hn1 : n ≤ len0 := by omega
  have hn8 : n ≤ 8 := by omega
  have HN := Lib.hid hn
  clear hn
  go_enter Try.func8, Try.ntmps8
  go_wp2_with fail
  refine (flives_c _).mono ?_
  rintro e w1 ⟨rfl, hl1⟩
  have HL1 := Lib.hid hl1
  clear hl1
  go_wp2_with fail
  go_loopw [5, 6] (fun v i wr => ∃ k, RelR w wr v i z0 n k) (fun _ i _ => n - (intOf i).toNat)
  case atStart => exact ⟨0, RelR.start z0 n HL1.out⟩
  case round =>
    obtain ⟨k, hrel⟩ := hrel
    have hk := hrel.hk
    obtain rfl := hrel.hi
    have HREL := Lib.hid hrel
    clear hrel
    by_cases hlt : k < n
    · have hlt0 : k < len0 := by omega
      have hlt8 : (k : Int) < 8 := by omega
      obtain ⟨x, rfl, hxb, k0, k1, hsz⟩ := HC.out.at' k hlt0
      have GA := Lib.hid (good_app z0 k (by have := HC.out.zl; omega))
      replace k0 : wr.cell? (x.add (k * 2)) = some (.int .i64 (z0.getD k (0, ByteArray.empty)).1) := by rw [HREL.out.below.cell (cell_lt k0)]; exact k0
      rw [add_fld x (k * 2) 1 (by omega)] at k1
      replace k1 : wr.cell? ⟨(x.add (k * 2)).block, (x.add (k * 2)).off + 1, none⟩ = some (.string (z0.getD k (0, ByteArray.empty)).2) := by rw [HREL.out.below.cell (cell_lt k1)]; exact k1
      generalize z0.getD k (0, ByteArray.empty) = g at *
      obtain ⟨g1, g2⟩ := g
      dsimp only at k0 k1 hsz
      have HG := Lib.hid (good_c g1 g2 wr hsz)
      clear hsz
      go_wp2_with fail
      refine HG.out.mono ?_
      rintro e w2 ⟨rfl, hb2⟩
      have HO1 := Lib.hid ((own_keep HREL.out.own hb2).alloc (.cells #[.int .i64 (gk g1), .string (gs g2)] 23))
      have HB1 := Lib.hid ((HREL.out.below.trans (hb2.mono HREL.out.below.size)).alloc (Nat.le_trans HREL.out.below.size hb2.size) (.cells #[.int .i64 (gk g1), .string (gs g2)] 23))
      have HC1 := Lib.hid (fr_at w2 (gk g1) (gs g2) 23)
      have C5 := Lib.hid HB1.out.size
      have C3 := Lib.hid (show k + 1 ≤ maxLen by unfold maxLen; omega)
      have C4 := Lib.hid (show (k + 1) * 24 ≤ 140737488355328 by omega)
      clear hb2
      go_wp2_with (at_builtin; refine wpList_append_own _ rfl _ _ 42 rfl w.heap.size 23 i0 (.agg #[.int .i64 0, .string ByteArray.empty]) 2 24 Try.underlying42 hi hz0 hz1 hz2 rfl (by decide) _ _ _ rfl HO1.out ⟨w2.heap.size, 0, none⟩ 1 1 (fc [(gk g1, gs g2)]) rfl rfl HC1.out (fc_one _) C3.out C4.out C5.out ?_)
      intro v' w3 hown' hgrow _
      have HB2 := Lib.hid (HB1.out.grown hgrow HB1.out.size (fun j hj => (HO1.out.lt j hj).1))
      have HO2 := Lib.hid (show w3.ownsRow w.heap.size 23 2 v' (k + 1) (fc (ins z0 (k + 1))) from by rw [← GA.out]; exact hown')
      clear hown' hgrow
      go_wp2_with fail
      go_roundw
      case rel => exact ⟨k + 1, by go_num, by omega, HO2.out, fun h => by omega, HB2.out⟩
      case measure => simp [intOf]; omega
    · obtain rfl : n = k := by omega
      have HOK := Lib.hid (ins_ok z0 n)
      have hfl := ins_len (show n ≤ z0.length by have := HC.out.zl; omega)
      have hown := HREL.out.own
      generalize ins z0 n = fs at *
      obtain ⟨Ao, co, hu, hFR, hnl, hco, hcom, hAo⟩ := FR.of_own hown
      clear hnl
      have hnul := HREL.out.nul
      have HLw := Lib.hid HREL.out.below
      clear hown HREL
      subst hu
      have hby := bytes_of Ao co fs wr hFR HOK.out (by omega)
      rw [hfl] at hby
      have HBY := Lib.hid hby
      clear hby
      have HFL := Lib.hid hfl
      have HFR := Lib.hid hFR
      have HAo := Lib.hid hAo
      have HNUL := Lib.hid hnul
      have hgd : (n < len0 ∧ decide ((n : Int) < 8) = false) ∨ decide (n < len0) = false := by
        have := HN.out
        by_cases hq : n < len0
        · exact .inl ⟨hq, by simp; omega⟩
        · exact .inr (by simpa using hq)
      clear hfl hFR hAo hnul HN
      unfold maxLen at hcom
      clear hlt
      rcases hgd with ⟨hg1, hg2⟩ | hg1
      all_goals
        go_wp2_with fail
        refine HBY.out.mono ?_
        rintro e w2 ⟨vb, rfl, hb2, hownb, hbn⟩
        obtain ⟨A, cap, hvb, hBR, hLc, hcapm, hA⟩ := BR.of_own' hownb
        subst hvb
        obtain ⟨L, hL⟩ : ∃ L, L = (fbs fs).length := ⟨_, rfl⟩
        have hL43 := fbs_le HOK.out
        rw [HFL.out, ← hL] at hL43
        rw [← hL] at hLc hA hbn ⊢
        obtain ⟨kk, hkk, hkL⟩ : ∃ kk : Nat, (IntKind.u64.wrap a1).tmod ((L : Int) + 1) = (kk : Int) ∧ kk ≤ L := by
          have h0 : 0 ≤ IntKind.u64.wrap a1 := by rw [IntKind.wrap_u64]; omega
          have h1 := Int.tmod_nonneg ((L : Int) + 1) h0
          have h2 := Int.tmod_lt_of_pos (IntKind.u64.wrap a1) (show (0 : Int) < (L : Int) + 1 by omega)
          exact ⟨((IntKind.u64.wrap a1).tmod ((L : Int) + 1)).toNat, by omega, by omega⟩
        obtain ⟨j, hj, haj, hmk⟩ := al_take HOK.out kk
        rw [HFL.out] at hj
        have hspl := fbs_split fs j
        have hdr := fbs_drop fs j
        have hall := al_all HOK.out
        have hrest := al_all (HOK.out.drop j)
        obtain ⟨m, hm⟩ : ∃ m, m = (fbs (fs.take j)).length := ⟨_, rfl⟩
        obtain ⟨r, hr⟩ : ∃ r, r = (fbs (fs.drop j)).length := ⟨_, rfl⟩
        rw [← hL, ← hm, ← hr] at hspl
        rw [← hm] at hdr haj hmk
        rw [← hL] at hall
        rw [← hr, ← hdr] at hrest
        unfold maxLen at hcapm
        have H1 := Lib.hid (fun (W : World) (hb : Below w2.heap.size w2 W) => (show Calls Try.prog 26 #[.slice A L cap, .int .i64 40] W (All3 (fs, L, 0) W) from by
          rw [← hall, hL]; exact all_c A cap (fbs fs) 40 W (hBR.keep hb) (by omega) (by omega) (by unfold maxLen; omega) (fun h => (hA h).2)))
        have H2 := Lib.hid (fun (W : World) (hb : Below w2.heap.size w2 W) => (show Calls Try.prog 26 #[.slice A kk cap, .int .i64 40] W (All3 (fs.take j, m, 0) W) from by
          have hl : ((fbs fs).take kk).length = kk := by rw [List.length_take]; omega
          have := all_c A cap ((fbs fs).take kk) 40 W (BR.take (hBR.keep hb) kk) (by omega) (by omega) (by unfold maxLen; omega) (fun h => (hA h).2)
          rwa [haj, hl] at this))
        have H3 := Lib.hid (fun (W : World) (hb : Below w2.heap.size w2 W) (A2 : Option Addr) (c2 : Nat) (h : (cap = m ∧ A2 = A ∧ c2 = 0) ∨ (cap ≠ m ∧ (∃ x, A = some x ∧ A2 = some (x.add m)) ∧ c2 = cap - m) ∨ (A = none ∧ A2 = none ∧ c2 = cap - m)) => (show Calls Try.prog 26 #[.slice A2 (L - m) c2, .int .i64 40] W (All3 (fs.drop j, r, 0) W) from by
          have hl : ((fbs fs).drop m).length = L - m := by rw [List.length_drop]; omega
          have h0 : A = none → L = 0 ∧ cap = 0 := hA
          have hbr : BR W A2 ((fbs fs).drop m) := by
            rcases h with ⟨h1, h2, h3⟩ | ⟨h1, ⟨x, h2, h4⟩, h3⟩ | ⟨h1, h2, h3⟩
            · intro j' hj'; omega
            · rw [h4]; rw [h2] at hBR; exact BR.drop (hBR.keep hb) m
            · have := h0 h1; intro j' hj'; omega
          have := all_c A2 c2 ((fbs fs).drop m) 40 W hbr (by omega) (by omega) (by unfold maxLen; omega) (fun h' => by
            rcases h with ⟨h1, h2, h3⟩ | ⟨h1, ⟨x, h2, h4⟩, h3⟩ | ⟨h1, h2, h3⟩
            · exact h3
            · rw [h4] at h'; cases h'
            · have := h0 h1; omega)
          rwa [hrest, hl] at this))
        have HW2 := Lib.hid (HLw.out.trans (hb2.mono HLw.out.size))
        have HFR2 := Lib.hid (HFR.out.keep hb2)
        have hmL : m ≤ L := by omega
        have hrL : r ≤ L := by omega
        have hd1 : decide (kk < m) = false := by simp; omega
        have hd2 : decide (n < j) = false := by simp; omega
        have hq : ((m : Int) + (r : Int) != (L : Int)) = false := by simp; omega
        have HKK := Lib.hid hkk
        have HA := Lib.hid hA
        have HBN := Lib.hid hbn
        have HBR0 := Lib.hid hBR
        have HLL := Lib.hid hL
        clear hspl hdr hall hrest hm hr hL haj hb2 hownb hA hbn hBR
        have hcase : (A = none ∧ Ao = none) ∨ ∃ x y, A = some x ∧ Ao = some y := by
          rcases Nat.eq_zero_or_pos n with h0 | h0
          · left
            have ha := HBN.out h0
            have hb := HNUL.out h0
            exact ⟨by injection ha, by injection hb⟩
          · right
            obtain ⟨y, hy, _⟩ := HFR2.out 0 (by rw [HFL.out]; exact h0)
            have := fbs_ge fs
            obtain ⟨x, hx, _⟩ := HBR0.out 0 (by rw [HFL.out] at this; omega)
            exact ⟨x, y, hx, hy⟩
        have HTJ := Lib.hid (show (fs.take j).length = j by rw [List.length_take, HFL.out]; omega)
        have HDJ := Lib.hid (show (fs.drop j).length = n - j by rw [List.length_drop, HFL.out])
        have hkk2 := HKK.out
        have hco2 : j ≤ co := by omega
        rcases hcase with ⟨hA0, hAo0⟩ | ⟨x, y, hA0, hAo0⟩
      all_goals
        subst hA0 hAo0
        go_wp2_with fail
        refine (H1.out _ (Below.refl _ _)).mono ?_
        rintro e w3 h3
        obtain ⟨A3, c3, rfl, hb3, hFR3, hnc3⟩ := all3_out h3 n HFL.out
        have HB3 := Lib.hid hb3
        have HF3 := Lib.hid hFR3
        clear h3 hb3 hFR3
        go_wp2_with fail
        refine (H2.out _ HB3.out).mono ?_
        rintro e w4 h4
        obtain ⟨A4, c4, rfl, hb4, hFR4, hnc4⟩ := all3_out h4 j HTJ.out
        have HB4 := Lib.hid (HB3.out.trans (hb4.mono HB3.out.size))
        have HF4 := Lib.hid hFR4
        have HF34 := Lib.hid (HF3.out.keep hb4)
        clear h4 hb4 hFR4
        go_wp2_with fail
      all_goals
        refine (H3.out _ HB4.out _ _ (by first | exact .inl ⟨‹_›, rfl, rfl⟩ | exact .inr (.inl ⟨‹_›, ⟨_, rfl, rfl⟩, rfl⟩) | exact .inr (.inr ⟨by first | rfl | trivial, rfl, rfl⟩))).mono ?_
        rintro e w5 h5
        obtain ⟨A5, c5, rfl, hb5, hFR5, hnc5⟩ := all3_out h5 (n - j) HDJ.out
        have HB5 := Lib.hid (HB4.out.trans (hb5.mono HB4.out.size))
        have HF5 := Lib.hid hFR5
        have HF45 := Lib.hid (HF4.out.keep hb5)
        have HF35 := Lib.hid (HF34.out.keep hb5)
        have HFo := Lib.hid (HFR2.out.keep HB5.out)
        clear h5 hb5 hFR5
        go_wp2_with fail
        refine (same_n A3 _ c3 co fs w5 n HFL.out HF35.out HFo.out (by omega)).mono ?_
        rintro e w6 ⟨rfl, q6, rfl⟩
        go_wp2_with fail
        refine (same_n A4 _ c4 co (fs.take j) _ j HTJ.out (HF45.out.keep (bel_drewN (Below.refl _ _) _)) ((HFo.out.take j).keep (bel_drewN (Below.refl _ _) _)) (by omega)).mono ?_
        rintro e w7 ⟨rfl, q7, rfl⟩
        go_wp2_with fail
      all_goals
        refine (same_n A5 _ c5 _ (fs.drop j) _ (n - j) HDJ.out (HF5.out.keep (bel_drewN (Below.refl _ _) _)) (by first | exact FR.keep (FR.drop HFo.out j) (bel_drewN (Below.refl _ _) _) | (intro i hi; rw [HDJ.out] at hi; exfalso; omega) | (intro i hi; rw [HDJ.out] at hi; exfalso; have := HAo.out (by first | rfl | trivial); omega)) (by omega)).mono ?_
        rintro e w8 ⟨rfl, q8, rfl⟩
        go_wp2_with fail
        go_ret
        exact ⟨rfl, bel_drewN (HW2.out.trans (HB5.out.mono HW2.out.size)) _⟩

/-! ### THE ROW -/
set_option maxRecDepth 100000 in
theorem lifted (os : Os) (started : os.Started) (H : Type) (enc : TypeId × Value → H) :
    ReturnsInHanded {} Try.checked os 8 .any (Rows.frameRowsSpec.pre6 enc Try.prog Try.f8 Rows.frameRowsRow.domain false) (Rows.frameRowsSpec.post enc Try.prog Try.f8 false true false false) := by
  refine returnsInHanded_of_change (C := Try.checked) own started (by kernel_rfl) Try.func8
    (ChangeSpec.witness6 (enc := enc) (C := Try.checked) false ⟨#[], #[.slice none 0 0, .int .i64 0], []⟩ 8 (by kernel_rfl) (by kernel_rfl) (by kernel_rfl) (by kernel_rfl)) ?_
  intro W base args ds gs before hval0 hW hcnd _
  have hval : ∀ (j : Nat) t v, Try.f8.params[j]? = some t → args[j]? = some v → Value.okWide Try.prog W .any base t v := hval0
  have hW' := hW
  obtain ⟨p, q, hA0, hV, rfl, hfz, hnd⟩ := hW
  have hA : DataW.TrodAll enc Try.prog W 0 (fun _ => true) true Try.f8.params.toList args.toList ds p := hA0
  rw [Try.params8] at hA hval
  obtain ⟨v0, vs0, d0, ds0, p0, q0, hargs, rfl, rfl, h0, r0⟩ := trodAll_cons hA
  obtain ⟨v1, vs1, d1, ds1, p1, q1, rfl, rfl, rfl, h1, r1⟩ := trodAll_cons r0
  obtain ⟨rfl, rfl, rfl⟩ := trodAll_nil r1
  obtain rfl : args = #[v0, v1] := by cases args; simp_all
  obtain ⟨rfl, rfl⟩ := trodVars_none hV
  obtain ⟨a0, len0, cap0, rfl⟩ := okWide_slice Try.underlying42 (hval 0 42 v0 rfl rfl)
  have k0 := h0
  have lt0 : ∀ x ∈ p0, x.block < W.heap.size := by obtain ⟨m, hm⟩ := k0; exact DataW.trod_lt m _ _ _ hm
  obtain ⟨z0, w0⟩ : ∃ zs, IsRecs_is W a0 len0 cap0 zs := open_recs_is Try.underlying42 Try.underlying23 (by kernel_rfl) (by kernel_rfl) Try.underlying3 Try.underlying9 h0
  obtain ⟨a1, rfl, rfl, rfl, w1⟩ := open_int Try.underlying3 (hval 1 3 v1 rfl rfl) h1
  clear hA0 hval0
  refine (walk a0 len0 cap0 z0 a1 W w0 w1).mono fun e W' ⟨he, bel⟩ => ?_
  subst he
  exact ⟨_, rfl, _, _, _, [], _, [], hW', trodAll_mk1 (shut_bool Try.underlying4 _), (trodAll_cons_mk (Below.trod laidOut (by kernel_rfl) (of_decide_eq_true (by kernel_rfl)) k0 bel lt0) (trodAll_cons_mk (shut_int Try.underlying3 w1) trodAll_mk0)), rfl, bel.frame _, fun h => by cases h⟩

theorem over : Rows.frameRowsRow.holds Try.pinned (OpenSpec.ofChange Rows.frameRowsSpec) :=
  OpenClaim.holds_of_wide 8 Try.f8 rfl rfl rfl rfl rfl rfl rfl ⟨rfl, rfl, rfl, rfl, rfl⟩ rfl rfl rfl rfl rfl (by kernel_rfl) Try.func8 (by kernel_rfl)
    (of_decide_eq_true (by kernel_rfl)) (by unfold Func.isWrapper; first | (rw [if_pos (by decide +kernel)]; kernel_rfl) | (rw [if_neg (by decide +kernel)]; exact ⟨rfl, rfl⟩))
    (fun os started H enc _ => lifted os started H enc)

theorem proved : Rows.FrameRowsSaid := over
#print axioms proved
end Go.Proofs.Ytdilbadjbjepaaa.frameRows
