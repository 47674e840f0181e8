/- Contracts of 'lives', 'few' and 'bytes' over this seat's translation. -/
import Derived.Test.YtdilbadjbjepaaaI
namespace Go.Proofs.Ytdilbadjbjepaaa
open Go.ChangeShapes Go.WideShapes Go.ChangeAt Go.RowKit
set_option linter.unusedVariables false
set_option maxHeartbeats 4000000 in
theorem flives_c (w : World) : Calls Try.prog 9 #[] w fun e w' => e = .returned (.bool true) ∧ Below w.heap.size w w' := by
  have hrt : rt 3 ({ data := #[97, 98] } : ByteArray).size 10 = 0 := by decide
  have hfb : fb 3 { data := #[97, 98] } = [3, 0, 2, 97, 98] := by decide
  have hrd : rd [3, 0, 2, 97, 98] 10 = ((3, { data := #[97, 98] }), 5, 0) := by decide
  have hnm : nameS 3 = { data := #[113, 117, 101, 114, 121] } := by decide
  have HW := Lib.hid (write_c 3 { data := #[97, 98] } 10 w (by decide))
  have HRT := Lib.hid hrt
  have HFB := Lib.hid hfb
  have HRD := Lib.hid hrd
  have HNM := Lib.hid hnm
  clear hrt hfb hrd hnm
  go_enter Try.func9, Try.ntmps9
  go_wp2_with fail
  refine HW.out.mono ?_
  rintro e w1 ⟨v, rfl, hb1, _, hown⟩
  have hown := hown HRT.out
  rw [HFB.out] at hown
  obtain ⟨A, cap, rfl, hBR, hn, hcap⟩ := BR.of_own hown
  have hl5 : ({ data := #[97, 98] } : ByteArray).size + 3 = 5 := by decide
  rw [hl5] at hcap ⊢
  have HB := Lib.hid hb1
  have HBR := Lib.hid hBR
  have HR := Lib.hid (read_c A cap [3, 0, 2, 97, 98] 10 w1 hBR (by simp) hcap)
  rw [HRT.out]
  clear hown hBR hn hl5
  go_wp2_with fail
  refine HR.out.mono ?_
  rintro e w2 ⟨rfl, hb2⟩
  rw [HRD.out]
  have hba : Below w2.heap.size w2 (w2.alloc (.cells #[.int .i64 3, .string { data := #[97, 98] }] 23)) := (Below.refl _ _).alloc (Nat.le_refl _) _
  have HB2 := Lib.hid ((HB.out.trans (hb2.mono HB.out.size)).trans (hba.mono (Nat.le_trans HB.out.size hb2.size)))
  have hcv : (convert 24 9 (.slice A 5 cap)).run Try.prog (w2.alloc (.cells #[.int .i64 3, .string { data := #[97, 98] }] 23)) = .ok (.string { data := #[3, 0, 2, 97, 98] }) (w2.alloc (.cells #[.int .i64 3, .string { data := #[97, 98] }] 23)) := str_of ((HBR.out.keep hb2).keep hba) cap
  clear hb1 hb2 hba
  dsimp only
  go_wp2_with fail
  refine (name_c 3 _).mono ?_
  rintro e w3 ⟨rfl, hb3⟩
  rw [HNM.out]
  have HB3 := Lib.hid (HB2.out.trans (hb3.mono HB2.out.size))
  clear hb3 hcv
  go_wp2_with fail
  go_ret
  exact ⟨rfl, HB3.out⟩
/-- At most 1100 bytes of the data. -/
def cutS (s : ByteArray) : ByteArray := s.extract 0 (min s.size 1100)
theorem cutS_size (s : ByteArray) : (cutS s).size ≤ 1100 ∧ (cutS s).size ≤ s.size := by unfold cutS; rw [ByteArray.size_extract]; omega
theorem cutS_small (s : ByteArray) (h : s.size ≤ 1100) : cutS s = s := by
  unfold cutS; rw [Nat.min_eq_left h]; exact ByteArray.extract_zero_size
theorem cutS_large (s : ByteArray) (h : 1100 < s.size) : cutS s = s.extract 0 1100 := by unfold cutS; rw [Nat.min_eq_right (by omega)]
set_option maxHeartbeats 4000000 in
theorem few_c (k : Int) (s : ByteArray) (w : World) (hs : s.size ≤ maxLen) : Calls Try.prog 10 #[.agg #[.int .i64 k, .string s]] w fun e w' => e = .returned (.agg #[.int .i64 k, .string (cutS s)]) ∧ Below w.heap.size w w' := by
  unfold maxLen at hs
  by_cases h : s.size ≤ 1100
  · have HC := Lib.hid (cutS_small s h)
    go_enter Try.func10, Try.ntmps10
    go_wp2
    refine bodyPost_ret (v := .agg #[.int .i64 k, .string s]) (by simp [results, Try.results10, go_sem]) rfl ⟨by rw [HC.out], ((Below.refl _ _).alloc (Nat.le_refl _) _).alloc (by simp) _⟩
  · have HC := Lib.hid (cutS_large s (by omega))
    have h1 : 1100 < s.size := by omega
    have h2 : (1100 : Int) < (s.size : Int) := by omega
    clear h
    go_enter Try.func10, Try.ntmps10
    go_wp2
    all_goals refine bodyPost_ret (v := .agg #[.int .i64 k, .string (s.extract 0 1100)]) (by simp [results, Try.results10, go_sem]) rfl ⟨by rw [HC.out], ((Below.refl _ _).alloc (Nat.le_refl _) _).alloc (by simp) _⟩
end Go.Proofs.Ytdilbadjbjepaaa
