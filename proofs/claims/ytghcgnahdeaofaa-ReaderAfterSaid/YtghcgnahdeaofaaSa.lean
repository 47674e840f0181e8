/- Contract of the reference's comparison of frames, at rows that are the same: over this seat's translation. -/
import Derived.Test.YtghcgnahdeaofaaN
namespace Go.Proofs.Ytghcgnahdeaofaa
open Go.ChangeShapes Go.WideShapes Go.ChangeAt Go.RowKit
set_option linter.unusedVariables false
set_option maxRecDepth 100000 in
set_option maxHeartbeats 4000000 in
theorem same_c (A1 A2 : Option Addr) (c1 c2 : Nat) (fs : List Fr) (w : World) (h1 : FR w A1 fs) (h2 : FR w A2 fs) (hl : fs.length ≤ 1000000) :
    Calls Try.prog 16 #[.slice A1 fs.length c1, .slice A2 fs.length c2] w fun e w' => e = .returned (.bool true) ∧ ∃ q, w' = w.drewN q := by
  have H1 := Lib.hid h1
  have H2 := Lib.hid h2
  clear h1 h2
  obtain ⟨n, hn⟩ : ∃ n : Nat, n = fs.length := ⟨_, rfl⟩
  rw [← hn] at hl ⊢
  have HN := Lib.hid hn
  clear hn
  go_enter Try.func16, Try.ntmps16
  go_wp2_with fail
  go_loopw [5] (fun i wr => ∃ k q : Nat, i = .int .i64 k ∧ k ≤ n ∧ wr = w.drewN q) (fun i _ => n - (intOf i).toNat)
  case atStart => exact ⟨0, 0, rfl, Nat.zero_le _, rfl⟩
  case round =>
    obtain ⟨k, q, rfl, hk, rfl⟩ := hrel
    by_cases hlt : k < n
    · obtain ⟨x1, rfl, a1, a2⟩ := H1.out k (by rw [← HN.out]; exact hlt)
      obtain ⟨x2, rfl, b1, b2⟩ := H2.out k (by rw [← HN.out]; exact hlt)
      generalize (fs[k]'(by rw [← HN.out]; exact hlt)).1 = f1 at a1 b1
      generalize (fs[k]'(by rw [← HN.out]; exact hlt)).2 = f2 at a2 b2
      rw [add_fld x1 (k * 2) 1 (by omega)] at a2
      rw [add_fld x2 (k * 2) 1 (by omega)] at b2
      go_wp2_with fail
      go_quiet (fail)
      go_wp2_with fail
      go_roundw
      case rel => exact ⟨k + 1, q + nq, by go_num, by omega, by first | rfl | rw [World.drewN_add]⟩
      case measure => simp [intOf]; omega
    · go_wp2
      go_ret
      exact ⟨rfl, q, rfl⟩
end Go.Proofs.Ytghcgnahdeaofaa
