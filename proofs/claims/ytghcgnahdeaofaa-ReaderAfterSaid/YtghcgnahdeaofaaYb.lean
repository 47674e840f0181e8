/- Contracts of the reference's frames that may be, and of their bytes, over this seat's translation. -/
import Derived.Test.YtghcgnahdeaofaaV
import Derived.Test.YtghcgnahdeaofaaYa
import Derived.Test.YtghcgnahdeaofaaL
import Derived.BigRegion
namespace Go.Proofs.Ytghcgnahdeaofaa
open Go.ChangeShapes Go.WideShapes Go.ChangeAt Go.RowKit
set_option linter.unusedVariables false
def gk (k : Int) : Int := 1 + (IntKind.u64.wrap k).tmod 8
theorem gk_bd (k : Int) : 1 ≤ gk k ∧ gk k ≤ 8 := by
  have h : 0 ≤ IntKind.u64.wrap k := by rw [IntKind.wrap_u64]; omega
  have h1 := Int.tmod_nonneg 8 h
  have h2 := Int.tmod_lt_of_pos (IntKind.u64.wrap k) (show (0 : Int) < 8 by omega)
  unfold gk; omega
def gs (s : ByteArray) : ByteArray := s.extract 0 (min s.size 40)
theorem gs_size (s : ByteArray) : (gs s).size ≤ 40 := by unfold gs; rw [ByteArray.size_extract]; omega
def good (f : Fr) : Fr := (gk f.1, gs f.2)
theorem good_ok (f : Fr) : 1 ≤ (good f).1 ∧ (good f).1 ≤ 8 ∧ (good f).2.size ≤ 40 := ⟨(gk_bd _).1, (gk_bd _).2, gs_size _⟩
set_option maxRecDepth 100000 in
set_option maxHeartbeats 4000000 in
theorem good_c (k : Int) (s : ByteArray) (w : World) (hs : s.size ≤ maxLen) : Calls Try.prog 13 #[.agg #[.int .i64 k, .string s]] w fun e w' => e = .returned (.agg #[.int .i64 (gk k), .string (gs s)]) ∧ Below w.heap.size w w' := by
  unfold maxLen at hs
  have hb := gk_bd k
  have he : 1 + (IntKind.u64.wrap k).tmod 8 = gk k := rfl
  by_cases h : s.size ≤ 40
  · have h1 : (s.size : Int) ≤ 40 := by omega
    have hg : s = gs s := by unfold gs; rw [Nat.min_eq_left h]; exact ByteArray.extract_zero_size.symm
    have HG := Lib.hid hg
    clear hg
    go_enter Try.func13, Try.ntmps13
    go_wp2_with fail
    go_region
    all_goals
      go_wp2
      exact bodyPost_ret (v := .agg #[.int .i64 (gk k), .string s]) (by simp [results, Try.results13, go_sem]) rfl ⟨by rw [← HG.out], (((Below.refl _ _).alloc (Nat.le_refl _) _).alloc (by simp) _).drew⟩
  · have h1 : (40 : Int) < (s.size : Int) := by omega
    have h2 : 40 < s.size := by omega
    have hg : gs s = s.extract 0 40 := by unfold gs; rw [Nat.min_eq_right (by omega)]
    have HG := Lib.hid hg
    clear hg h
    go_enter Try.func13, Try.ntmps13
    go_wp2_with fail
    go_region
    all_goals
      go_wp2
      exact bodyPost_ret (v := .agg #[.int .i64 (gk k), .string (s.extract 0 40)]) (by simp [results, Try.results13, go_sem]) rfl ⟨by rw [HG.out], (((Below.refl _ _).alloc (Nat.le_refl _) _).alloc (by simp) _).drew⟩
/-- What Bytes is at when k frames are written. -/
structure RelB (W w : World) (v i : Value) (fs : List Fr) (k : Nat) : Prop where
  hi : i = .int .i64 (k : Int)
  hk : k ≤ fs.length
  own : w.ownsRow W.heap.size 5 1 v (fbs (fs.take k)).length (bc (fbs (fs.take k)))
  nul : k = 0 → v = .slice none 0 0
  below : Below W.heap.size W w
theorem RelB.start (W : World) (fs : List Fr) : RelB W W (.slice none 0 0) (.int .i64 0) fs 0 :=
  ⟨rfl, Nat.zero_le _, by simpa [fbs, bc] using World.ownsRow_nil W W.heap.size 5 1, fun _ => rfl, Below.refl _ _⟩
theorem bc_one (l : List UInt8) : ∀ u ∈ bc l, u.oneCell' = true := by
  unfold bc; intro u hu
  obtain ⟨b, _, rfl⟩ := List.mem_map.1 hu
  rfl
theorem bc_at {w : World} {x : Addr} {l : List UInt8} (h : BR w (some x) l) : ∀ j u, (bc l)[j]? = some u → w.cell? (x.add j) = some u := fun j u hu => by
  have hj : j < l.length := by
    rcases Nat.lt_or_ge j l.length with q | q
    · exact q
    · rw [List.getElem?_eq_none (by rw [bc_len]; exact q)] at hu; cases hu
  obtain ⟨y, hy, hc⟩ := h j hj
  cases hy
  rw [hc]; simp [bc, hj] at hu; rw [hu]
theorem bc_app (a b : List UInt8) : bc a ++ bc b = bc (a ++ b) := by simp [bc]
theorem fbs_snoc (fs : List Fr) (k : Nat) (hk : k < fs.length) : fbs (fs.take (k + 1)) = fbs (fs.take k) ++ fb fs[k].1 fs[k].2 := by
  rw [List.take_succ_eq_append_getElem hk, fbs_app]; simp [fbs]
set_option maxRecDepth 100000 in
set_option maxHeartbeats 4000000 in
theorem bytes_of (A : Option Addr) (c : Nat) (fs : List Fr) (w : World) (hF : FR w A fs) (ho : FO fs) (hl : fs.length ≤ 1000) :
    Calls Try.prog 15 #[.slice A fs.length c] w fun e w' => ∃ v, e = .returned v ∧ Below w.heap.size w w' ∧ w'.ownsRow w.heap.size 5 1 v (fbs fs).length (bc (fbs fs)) ∧ (fs.length = 0 → v = .slice none 0 0) := by
  obtain ⟨i0, hi, hz0, hz1, hz2⟩ := info_parts info5
  have HF := Lib.hid hF
  have HO := Lib.hid ho
  clear hF ho
  obtain ⟨n, hn⟩ : ∃ n : Nat, n = fs.length := ⟨_, rfl⟩
  rw [← hn] at hl ⊢
  have HN := Lib.hid hn
  clear hn
  go_enter Try.func15, Try.ntmps15
  go_wp2_with fail
  go_loopw [3, 4] (fun v i wr => ∃ k, RelB w wr v i fs k) (fun _ i _ => n - (intOf i).toNat)
  case atStart => exact ⟨0, RelB.start w fs⟩
  case round =>
    obtain ⟨k, hrel⟩ := hrel
    have hk := hrel.hk
    rw [← HN.out] at hk
    obtain rfl := hrel.hi
    have HREL := Lib.hid hrel
    clear hrel
    by_cases hlt : k < n
    · have hlt2 : k < fs.length := by rw [← HN.out]; exact hlt
      obtain ⟨x1, rfl, a1, a2⟩ := (HF.out.keep HREL.out.below) k hlt2
      rw [add_fld x1 (k * 2) 1 (by omega)] at a2
      have HOK := Lib.hid (HO.out fs[k] (List.getElem_mem hlt2))
      have HSN := Lib.hid (fbs_snoc fs k hlt2)
      generalize fs[k].1 = f1 at a1 HOK HSN
      generalize fs[k].2 = f2 at a2 HOK HSN
      have hok := HOK.out
      have hrt : rt f1 f2.size 1024 = 0 := by unfold rt kindB; rw [if_pos (by simp; omega), if_neg (by unfold capn; omega)]
      have HW := Lib.hid (rwrite_c f1 f2 1024 wr (by unfold maxLen; omega))
      rw [hrt] at HW
      have hsz : f2.size ≤ 40 := hok.2.2
      clear hrt hok
      go_wp2_with fail
      refine HW.out.mono ?_
      rintro e w1 ⟨v1, rfl, hb1, _, hv1⟩
      obtain ⟨A1, c1, rfl, hBR, hnn, hncap⟩ := BR.of_own (hv1 rfl)
      have hfl : (fb f1 f2).length = f2.size + 3 := fb_len _ _
      obtain ⟨y, hy⟩ : ∃ y, A1 = some y := by obtain ⟨y, hy, _⟩ := hBR 0 (by omega); exact ⟨y, hy⟩
      subst hy
      have HBR := Lib.hid hBR
      have HO1 := Lib.hid (own_keep HREL.out.own hb1)
      have HB1 := Lib.hid (HREL.out.below.trans (hb1.mono HREL.out.below.size))
      have hle := fbs_le (HO.out.take k)
      rw [List.length_take] at hle
      have C5 := Lib.hid HB1.out.size
      have C3 := Lib.hid (show (fbs (fs.take k)).length + (f2.size + 3) ≤ maxLen by unfold maxLen; omega)
      have C4 := Lib.hid (show ((fbs (fs.take k)).length + (f2.size + 3)) * 1 ≤ 140737488355328 by omega)
      have CL := Lib.hid (show (bc (fb f1 f2)).length = (f2.size + 3) * 1 by rw [bc_len, hfl]; omega)
      clear hle hfl hBR hv1 hnn hb1
      go_wp2_with (at_builtin; refine wpList_append_own _ rfl _ _ 36 rfl w.heap.size 5 i0 (.int .u8 0) 1 1 Try.underlying36 hi hz0 hz1 hz2 rfl (by decide) _ _ _ rfl HO1.out y (f2.size + 3) c1 (bc (fb f1 f2)) rfl CL.out (bc_at HBR.out) (bc_one _) C3.out C4.out C5.out ?_)
      intro v' w2 hown' hgrow _
      rw [bc_app, ← HSN.out] at hown'
      have HB2 := Lib.hid (HB1.out.grown hgrow HB1.out.size (fun j hj => (HO1.out.lt j hj).1))
      have HO2 := Lib.hid hown'
      clear hown' hgrow
      go_wp2_with fail
      go_roundw
      case rel => exact ⟨k + 1, by go_num, by rw [← HN.out]; exact hlt, by have := HO2.out; rwa [show (fbs (fs.take k)).length + (f2.size + 3) = (fbs (fs.take (k + 1))).length by rw [HSN.out, List.length_append, fb_len]] at this, fun h => by omega, HB2.out⟩
      case measure => simp [intOf]; omega
    · obtain rfl : k = n := by omega
      have HT := Lib.hid (show fs.take k = fs from by rw [HN.out, List.take_length])
      go_wp2
      go_ret
      exact ⟨u3, rfl, HREL.out.below, by have := HREL.out.own; rwa [HT.out] at this, fun h => HREL.out.nul h⟩
end Go.Proofs.Ytghcgnahdeaofaa
