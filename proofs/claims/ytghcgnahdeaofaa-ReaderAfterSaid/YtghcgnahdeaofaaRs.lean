/- Contract of the law's example over this seat's translation. -/
import Derived.Test.YtghcgnahdeaofaaRr
namespace Go.Proofs.Ytghcgnahdeaofaa
open Go.ChangeShapes Go.WideShapes Go.ChangeAt Go.RowKit
set_option linter.unusedVariables false
theorem OR.base {w : World} {B B' g : Nat} {r : RD} (h : OR w B g r) (hB : B' ≤ B) (hg : g < B') : OR w B' g r := by
  obtain ⟨v, h1, h2⟩ := h.obj
  exact ⟨hg, v, h1, own_mono h2 hB⟩
/-- What Feed gives, with the reader's bytes in new memory. -/
theorem FD.new {r r2 : RD} {s : List UInt8} {B g : Nat} {w w' : World} {e : Ending} (h : FD r s B g w e w') (hr : r.e = 0) (h2 : fed r s = r2) (fs : List Fr) (hf : told r s = fs) :
    ∃ v, e = .returned (.tuple #[v, .int .i64 r2.e]) ∧ w'.ownsRow w.heap.size 33 2 v fs.length (fc fs) ∧ Upto B g w w' ∧ OR w' w.heap.size g r2 := by
  obtain ⟨v, he, ho, hu, h1 | h1⟩ := h
  · subst h2 hf; exact ⟨v, he, ho, hu, h1.2⟩
  · exact absurd hr h1.1
set_option maxRecDepth 100000 in
set_option maxHeartbeats 8000000 in
theorem rlives_c (w : World) : Calls Try.prog 8 #[] w fun e w' => e = .returned (.bool true) ∧ Below w.heap.size w w' := by
  have a1 : al [3, 0] 9 = ([], 0, 0) := al_form _ _ (by decide)
  have a2 : al [3, 0, 1, 113] 9 = ([(3, { data := #[113] })], 4, 0) := by
    rw [al_ok _ _ (3, { data := #[113] }) 4 (by decide)]
    rw [show ([3, 0, 1, 113] : List UInt8).drop 4 = [] from rfl, al_nil]; rfl
  have f1 : fed ⟨9, [], 0⟩ [3, 0] = ⟨9, [3, 0], 0⟩ := by unfold fed; simp [a1]
  have t1 : told ⟨9, [], 0⟩ [3, 0] = [] := by unfold told; simp [a1]
  have f2 : fed ⟨9, [3, 0], 0⟩ [1, 113] = ⟨9, [], 0⟩ := by unfold fed; simp [a2]
  have t2 : told ⟨9, [3, 0], 0⟩ [1, 113] = [(3, { data := #[113] })] := by unfold told; simp [a2]
  have w1n : wantN ⟨9, [3, 0], 0⟩ = 1 := by decide
  have HN := Lib.hid (rnew_or 9 w (w.heap.size + 1) (Nat.lt_succ_self _))
  have HL := Lib.hid (show Below w.heap.size w (w.alloc (.cells #[.int .i64 9, .slice none 0 0, .int .i64 0] 49)) from (Below.refl _ _).alloc (Nat.le_refl _) _)
  have HS := Lib.hid (show w.heap.size + 1 ≤ (w.alloc (.cells #[.int .i64 9, .slice none 0 0, .int .i64 0] 49)).heap.size by simp)
  have K1 := Lib.hid (fun (W : World) (h : OR W (w.heap.size + 1) w.heap.size ⟨9, [], 0⟩) (hB : w.heap.size + 1 ≤ W.heap.size) => (feed_c (w.heap.size + 1) w.heap.size ⟨9, [], 0⟩ { data := #[3, 0] } W h hB (by decide)).mono fun _ _ h => FD.new h rfl f1 [] t1)
  have K2 := Lib.hid (fun (W : World) (h : OR W (w.heap.size + 1) w.heap.size ⟨9, [3, 0], 0⟩) (hB : w.heap.size + 1 ≤ W.heap.size) => (feed_c (w.heap.size + 1) w.heap.size ⟨9, [3, 0], 0⟩ { data := #[1, 113] } W h hB (by decide)).mono fun _ _ h => FD.new h rfl f2 [(3, { data := #[113] })] t2)
  have KW := Lib.hid (fun (W : World) (B : Nat) (h : OR W B w.heap.size ⟨9, [3, 0], 0⟩) => want_c B w.heap.size ⟨9, [3, 0], 0⟩ W h (by decide))
  rw [w1n] at KW
  clear a1 a2 f1 t1 f2 t2 w1n
  go_enter Try.func8, Try.ntmps8
  go_wp2_with fail
  refine (rnew_c _ _).mono ?_
  rintro e w' ⟨rfl, rfl⟩
  go_wp2_with fail
  refine (K1.out _ HN.out HS.out).mono ?_
  rintro e w1 ⟨v1, rfl, ho1, hu1, hr1⟩
  obtain ⟨A1, c1, rfl, _, _, _, _, _⟩ := FR.of_own ho1
  have HR1 := Lib.hid (hr1.base HS.out (Nat.lt_succ_self _))
  have HL1 := Lib.hid (hu1.later HL.out (Nat.le_succ _) (Nat.le_refl _))
  have HS1 := Lib.hid (Nat.le_trans HS.out hu1.size)
  clear ho1 hu1 hr1
  go_wp2_with fail
  refine (KW.out _ _ HR1.out).mono ?_
  rintro e w2 ⟨rfl, hb2⟩
  have HR2 := Lib.hid (HR1.out.keep hb2)
  have HL2 := Lib.hid (HL1.out.trans (hb2.mono HL1.out.size))
  have HS2 := Lib.hid (Nat.le_trans HS1.out hb2.size)
  clear hb2
  go_wp2_with fail
  refine (K2.out _ HR2.out HS2.out).mono ?_
  rintro e w3 ⟨v3, rfl, ho3, hu3, hr3⟩
  obtain ⟨A3, c3, rfl, _, _, _, _, _⟩ := FR.of_own ho3
  have HR3 := Lib.hid hr3
  have HL3 := Lib.hid (hu3.later HL2.out (Nat.le_succ _) (Nat.le_refl _))
  clear ho3 hu3 hr3
  go_wp2_with fail
  refine (left_c _ _ _ _ HR3.out).mono ?_
  rintro e w' ⟨rfl, rfl⟩
  go_wp2_with fail
  refine (err_c _ _ _ _ HR3.out).mono ?_
  rintro e w' ⟨rfl, rfl⟩
  go_wp2_with fail
  go_ret
  exact ⟨rfl, HL3.out⟩
end Go.Proofs.Ytghcgnahdeaofaa
