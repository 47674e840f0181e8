/- Contracts of All and of its reference over this seat's translation. -/
import Derived.Test.YtghcgnahdeaofaaN
namespace Go.Proofs.Ytghcgnahdeaofaa
open Go.ChangeShapes Go.WideShapes Go.ChangeAt Go.RowKit
set_option linter.unusedVariables false
theorem own_keep {w w' : World} {base size n : Nat} {e : TypeId} {v : Value} {xs : List Value} (h : w.ownsRow base e size v n xs) (hb : Below w.heap.size w w') : w'.ownsRow base e size v n xs := by
  refine ⟨h.1, ?_⟩
  rcases h.2 with hn | ⟨g, cap, cur, rfl, hbg, hgg, rest⟩
  · exact .inl hn
  · exact .inr ⟨g, cap, cur, rfl, hbg, (hb.block g (Array.getElem?_eq_some_iff.1 hgg).1).trans hgg, rest⟩
theorem fr_at (w : World) (f1 : Int) (f2 : ByteArray) (t : TypeId) : ∀ (j : Nat) (u : Value), (fc [(f1, f2)])[j]? = some u → (w.alloc (.cells #[.int .i64 f1, .string f2] t)).cell? ((⟨w.heap.size, 0, none⟩ : Addr).add j) = some u
  | 0, u, h => by rw [show (⟨w.heap.size, 0, none⟩ : Addr).add 0 = ⟨w.heap.size, 0, none⟩ from rfl, (Blk.new w t #[.int .i64 f1, .string f2]).cell 0]; exact h
  | 1, u, h => by rw [show (⟨w.heap.size, 0, none⟩ : Addr).add 1 = ⟨w.heap.size, 1, none⟩ from rfl, (Blk.new w t #[.int .i64 f1, .string f2]).cell 1]; exact h
  | j + 2, u, h => by simp [fc] at h
set_option maxRecDepth 100000 in
set_option maxHeartbeats 8000000 in
theorem all_c (A : Option Addr) (cap : Nat) (l : List UInt8) (most : Int) (w : World) (hB : BR w A l) (hl : l.length ≤ 1000000) (hcap : l.length ≤ cap) (hcm : cap ≤ maxLen) (hnone : A = none → cap = 0) :
    Calls Try.prog 21 #[.slice A l.length cap, .int .i64 most] w (All3 (al l most) w) := by
  unfold maxLen at hcm
  have HBR := Lib.hid hB
  obtain ⟨i0, hi, hz0, hz1, hz2⟩ := info_parts info23
  clear hB
  obtain ⟨len, hlen⟩ : ∃ n : Nat, n = l.length := ⟨_, rfl⟩
  rw [← hlen] at hl hcap ⊢
  have HN := Lib.hid hlen
  clear hlen
  go_enter Try.func21, Try.ntmps21
  go_wp2_with fail
  go_loopw [7, 8] (fun v i wr => ∃ fs k, RelA w wr v i l most fs k) (fun _ i _ => len - (intOf i).toNat)
  case atStart => exact ⟨[], 0, RelA.start w l most⟩
  case round =>
    obtain ⟨fs, k, hrel⟩ := hrel
    have hiv := hrel.hi
    have hk := hrel.hk
    rw [← HN.out] at hk
    obtain rfl := hiv
    have HREL := Lib.hid hrel
    have hrcx := fun (A2 : Option Addr) (c2 : Nat) (h : cap = k ∧ A2 = A ∧ c2 = 0 ∨ cap ≠ k ∧ ∃ x, A = some x ∧ A2 = some (x.add k) ∧ c2 = cap - k) => Lib.hid (show Calls Try.prog 24 #[.slice A2 (len - k) c2, .int .i64 most] wr (Read3 (rd (l.drop k) most) wr) from by
      have hl2 := HN.out
      have hb := HBR.out.keep hrel.below
      have hBR2 : BR wr A2 (l.drop k) := by
        rcases h with ⟨e, rfl, rfl⟩ | ⟨e, x, rfl, rfl, rfl⟩
        · intro j hj; rw [List.length_drop] at hj; omega
        · have := hb.sub k (l.length - k) (by omega)
          rwa [List.take_of_length_le (by rw [List.length_drop]; omega)] at this
      have := read_c A2 c2 (l.drop k) most wr hBR2 (by rw [List.length_drop]; omega) (by rw [List.length_drop]; omega)
      rwa [List.length_drop, ← hl2] at this)
    have HRC := Lib.hid hrcx
    clear hrel hrcx
    have HNONE := Lib.hid hnone
    clear hnone
    rcases (by rcases A with _ | x; exact .inl rfl; exact .inr ⟨x, rfl⟩ : A = none ∨ ∃ x, A = some x) with rfl | ⟨x, rfl⟩
    · obtain rfl : cap = 0 := HNONE.out rfl
      obtain rfl : len = 0 := by omega
      obtain rfl : k = 0 := by omega
      obtain rfl : l = [] := List.eq_nil_of_length_eq_zero HN.out.symm
      have hrd : rd ([] : List UInt8) most = ((0, { data := #[] }), 0, 2) := by unfold rd hd hdS; simp
      have hf := al_form [] most (by rw [hrd])
      have HR0 := HRC.out none 0 (by simp)
      rw [List.drop_nil, hrd] at HR0
      have HF := Lib.hid hf
      clear hrd hf
      go_wp2_with fail
      refine HR0.out.mono ?_
      rintro e w1 ⟨rfl, hb1⟩
      dsimp only
      have HB1 := Lib.hid ((HREL.out.below.trans (hb1.mono HREL.out.below.size)).alloc (Nat.le_trans HREL.out.below.size hb1.size) (.cells #[.int .i64 0, .string { data := #[] }] 33))
      have HO1 := Lib.hid ((own_keep HREL.out.own hb1).alloc (.cells #[.int .i64 0, .string { data := #[] }] 33))
      clear hb1
      go_wp2_with fail
      go_ret3
      exact ⟨u7, by rw [HREL.out.fin, List.drop_nil, HF.out]; simp, HB1.out, by rw [HREL.out.fin, List.drop_nil, HF.out]; simpa using HO1.out⟩
    · by_cases hck : cap = k
      · go_wp2_with fail
        refine (HRC.out _ _ (.inl ⟨hck, rfl, rfl⟩)).out.mono ?_
        rintro e w1 ⟨rfl, hb1⟩
        clear hck
        obtain ⟨⟨⟨f1, f2⟩, n, er⟩, hr⟩ : ∃ r, rd (l.drop k) most = r := ⟨_, rfl⟩
        rw [hr]
        dsimp only
        by_cases h0 : er = 0
        · subst h0
          have hn := rd_ok (l.drop k) most (by rw [hr])
          rw [hr] at hn
          obtain ⟨m, rfl⟩ : ∃ m : Nat, n = m := ⟨n.toNat, by dsimp only at hn; omega⟩
          have hnx := HREL.out.next hr
          have hm1 := hnx.1
          have hm2 : k + m ≤ len := by rw [HN.out]; exact hnx.2.1
          have HNX := Lib.hid hnx.2.2
          have hfew := HREL.out.few
          have HO1 := Lib.hid (((own_keep HREL.out.own hb1).alloc (.cells #[.int .i64 f1, .string f2] 33)).alloc (.cells #[.int .i64 f1, .string f2] 33))
          have HB1 := Lib.hid (((HREL.out.below.trans (hb1.mono HREL.out.below.size)).alloc (Nat.le_trans HREL.out.below.size hb1.size) (.cells #[.int .i64 f1, .string f2] 33)).alloc (by simp; exact Nat.le_succ_of_le (Nat.le_trans HREL.out.below.size hb1.size)) (.cells #[.int .i64 f1, .string f2] 33))
          have hc1 := fr_at (w1.alloc (.cells #[.int .i64 f1, .string f2] 33)) f1 f2 33
          rw [show (w1.alloc (.cells #[.int .i64 f1, .string f2] 33)).heap.size = w1.heap.size + 1 from by simp] at hc1
          have HC1 := Lib.hid hc1
          clear hc1
          have C5 := Lib.hid HB1.out.size
          have C3 := Lib.hid (show fs.length + 1 ≤ maxLen by unfold maxLen; omega)
          have C4 := Lib.hid (show (fs.length + 1) * 24 ≤ 140737488355328 by omega)
          clear hn hnx hr hb1
          go_wp2_with (at_builtin; refine wpList_append_own _ rfl _ _ 24 rfl w.heap.size 33 i0 (.agg #[.int .i64 0, .string ByteArray.empty]) 2 24 Try.underlying24 hi hz0 hz1 hz2 rfl (by decide) _ _ _ rfl HO1.out ⟨w1.heap.size + 1, 0, none⟩ 1 1 (fc [(f1, f2)]) rfl rfl HC1.out (fc_one _) C3.out C4.out C5.out ?_)
          intro v' w2 hown' hgrow _
          rw [← fc_app] at hown'
          have HB2 := Lib.hid (HB1.out.grown hgrow HB1.out.size (fun j hj => (HO1.out.lt j hj).1))
          have HO2 := Lib.hid hown'
          clear hown' hgrow
          go_wp2_with fail
          go_roundw
          case rel => exact ⟨fs ++ [(f1, f2)], k + m, by go_num, by rw [← HN.out]; exact hm2, by simp; omega, by simpa using HO2.out, HNX.out, HB2.out⟩
          case measure => simp [intOf]; omega
        · have g0 : (er == 0) = false := by simpa using h0
          have g0' : (er != 0) = true := by simpa using h0
          by_cases h2 : er = 2
          · subst h2
            have hf := al_form (l.drop k) most (by rw [hr])
            have HB1 := Lib.hid ((HREL.out.below.trans (hb1.mono HREL.out.below.size)).alloc (Nat.le_trans HREL.out.below.size hb1.size) (.cells #[.int .i64 f1, .string f2] 33))
            have HO1 := Lib.hid ((own_keep HREL.out.own hb1).alloc (.cells #[.int .i64 f1, .string f2] 33))
            have HF := Lib.hid hf
            clear hr hf hb1
            go_wp2_with fail
            go_ret3
            exact ⟨u7, by rw [HREL.out.fin, HF.out]; simp, HB1.out, by rw [HREL.out.fin, HF.out]; simpa using HO1.out⟩
          · have g2 : (er == 2) = false := by simpa using h2
            have hf := al_err (l.drop k) most (by rw [hr]; exact h0) (by rw [hr]; exact h2)
            rw [hr] at hf
            have HB1 := Lib.hid ((HREL.out.below.trans (hb1.mono HREL.out.below.size)).alloc (Nat.le_trans HREL.out.below.size hb1.size) (.cells #[.int .i64 f1, .string f2] 33))
            have HO1 := Lib.hid ((own_keep HREL.out.own hb1).alloc (.cells #[.int .i64 f1, .string f2] 33))
            have HF := Lib.hid hf
            clear hr hf hb1 h0 h2
            go_wp2_with fail
            go_ret3
            exact ⟨u7, by rw [HREL.out.fin, HF.out]; simp, HB1.out, by rw [HREL.out.fin, HF.out]; simpa using HO1.out⟩
      · go_wp2_with fail
        refine (HRC.out _ _ (.inr ⟨hck, x, rfl, rfl, rfl⟩)).out.mono ?_
        rintro e w1 ⟨rfl, hb1⟩
        clear hck
        obtain ⟨⟨⟨f1, f2⟩, n, er⟩, hr⟩ : ∃ r, rd (l.drop k) most = r := ⟨_, rfl⟩
        rw [hr]
        dsimp only
        by_cases h0 : er = 0
        · subst h0
          have hn := rd_ok (l.drop k) most (by rw [hr])
          rw [hr] at hn
          obtain ⟨m, rfl⟩ : ∃ m : Nat, n = m := ⟨n.toNat, by dsimp only at hn; omega⟩
          have hnx := HREL.out.next hr
          have hm1 := hnx.1
          have hm2 : k + m ≤ len := by rw [HN.out]; exact hnx.2.1
          have HNX := Lib.hid hnx.2.2
          have hfew := HREL.out.few
          have HO1 := Lib.hid (((own_keep HREL.out.own hb1).alloc (.cells #[.int .i64 f1, .string f2] 33)).alloc (.cells #[.int .i64 f1, .string f2] 33))
          have HB1 := Lib.hid (((HREL.out.below.trans (hb1.mono HREL.out.below.size)).alloc (Nat.le_trans HREL.out.below.size hb1.size) (.cells #[.int .i64 f1, .string f2] 33)).alloc (by simp; exact Nat.le_succ_of_le (Nat.le_trans HREL.out.below.size hb1.size)) (.cells #[.int .i64 f1, .string f2] 33))
          have hc1 := fr_at (w1.alloc (.cells #[.int .i64 f1, .string f2] 33)) f1 f2 33
          rw [show (w1.alloc (.cells #[.int .i64 f1, .string f2] 33)).heap.size = w1.heap.size + 1 from by simp] at hc1
          have HC1 := Lib.hid hc1
          clear hc1
          have C5 := Lib.hid HB1.out.size
          have C3 := Lib.hid (show fs.length + 1 ≤ maxLen by unfold maxLen; omega)
          have C4 := Lib.hid (show (fs.length + 1) * 24 ≤ 140737488355328 by omega)
          clear hn hnx hr hb1
          go_wp2_with (at_builtin; refine wpList_append_own _ rfl _ _ 24 rfl w.heap.size 33 i0 (.agg #[.int .i64 0, .string ByteArray.empty]) 2 24 Try.underlying24 hi hz0 hz1 hz2 rfl (by decide) _ _ _ rfl HO1.out ⟨w1.heap.size + 1, 0, none⟩ 1 1 (fc [(f1, f2)]) rfl rfl HC1.out (fc_one _) C3.out C4.out C5.out ?_)
          intro v' w2 hown' hgrow _
          rw [← fc_app] at hown'
          have HB2 := Lib.hid (HB1.out.grown hgrow HB1.out.size (fun j hj => (HO1.out.lt j hj).1))
          have HO2 := Lib.hid hown'
          clear hown' hgrow
          go_wp2_with fail
          go_roundw
          case rel => exact ⟨fs ++ [(f1, f2)], k + m, by go_num, by rw [← HN.out]; exact hm2, by simp; omega, by simpa using HO2.out, HNX.out, HB2.out⟩
          case measure => simp [intOf]; omega
        · have g0 : (er == 0) = false := by simpa using h0
          have g0' : (er != 0) = true := by simpa using h0
          by_cases h2 : er = 2
          · subst h2
            have hf := al_form (l.drop k) most (by rw [hr])
            have HB1 := Lib.hid ((HREL.out.below.trans (hb1.mono HREL.out.below.size)).alloc (Nat.le_trans HREL.out.below.size hb1.size) (.cells #[.int .i64 f1, .string f2] 33))
            have HO1 := Lib.hid ((own_keep HREL.out.own hb1).alloc (.cells #[.int .i64 f1, .string f2] 33))
            have HF := Lib.hid hf
            clear hr hf hb1
            go_wp2_with fail
            go_ret3
            exact ⟨u7, by rw [HREL.out.fin, HF.out]; simp, HB1.out, by rw [HREL.out.fin, HF.out]; simpa using HO1.out⟩
          · have g2 : (er == 2) = false := by simpa using h2
            have hf := al_err (l.drop k) most (by rw [hr]; exact h0) (by rw [hr]; exact h2)
            rw [hr] at hf
            have HB1 := Lib.hid ((HREL.out.below.trans (hb1.mono HREL.out.below.size)).alloc (Nat.le_trans HREL.out.below.size hb1.size) (.cells #[.int .i64 f1, .string f2] 33))
            have HO1 := Lib.hid ((own_keep HREL.out.own hb1).alloc (.cells #[.int .i64 f1, .string f2] 33))
            have HF := Lib.hid hf
            clear hr hf hb1 h0 h2
            go_wp2_with fail
            go_ret3
            exact ⟨u7, by rw [HREL.out.fin, HF.out]; simp, HB1.out, by rw [HREL.out.fin, HF.out]; simpa using HO1.out⟩
end Go.Proofs.Ytghcgnahdeaofaa
