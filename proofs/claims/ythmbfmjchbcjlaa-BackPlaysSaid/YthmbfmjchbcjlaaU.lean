/- The reading of a script of steps, and what every play of steps keeps, over this seat's translation. -/
import Derived.Test.YthmbfmjchbcjlaaT
namespace Go.Proofs.Ythmbfmjchbcjlaa
open Go.ChangeShapes Go.WideShapes Go.ChangeAt Go.RowKit
/-- What holds of a connection behind any steps: how many replies are to come; who has no client; the states that there are. -/
structure Fine (b : BK) (k : Nat) : Prop where
  o0 : 0 ≤ b.owes
  o1 : b.owes ≤ k
  c0 : 0 ≤ b.client
  s0 : 0 ≤ b.state
  s4 : b.state ≤ 4
  idle : b.state ≠ 3 → b.client = 0 ∧ b.owes = 0
  busy : b.state = 3 → 0 < b.client
theorem fine_new (h : ByteArray) : Fine ⟨h, 0, 0, 0, 0, 0, 0⟩ 0 := ⟨by simp, by simp, by simp, by simp, by simp, by simp, by simp⟩
theorem fine_step {b : BK} {k : Nat} (h : Fine b k) (i a c : Int) : Fine (stp b i a c).1 (k + 1) := by
  obtain ⟨h1, h2, h3, h4, h5, h6, h7⟩ := h
  have hk : ((k + 1 : Nat) : Int) = (k : Int) + 1 := by omega
  have same : Fine b (k + 1) := ⟨h1, by omega, h3, h4, h5, h6, h7⟩
  unfold stp
  split
  · split
    · rename_i h; exact ⟨h1, by show b.owes ≤ _; omega, h3, by show (0 : Int) ≤ 1; omega, by show (1 : Int) ≤ 4; omega, fun _ => h6 (by omega), fun e => by change (1 : Int) = 3 at e; omega⟩
    · exact same
  split
  · split
    · rename_i h; exact ⟨h1, by show b.owes ≤ _; omega, Int.le_refl _, by show (0 : Int) ≤ 2; omega, by show (2 : Int) ≤ 4; omega, fun _ => ⟨rfl, (h6 (by omega)).2⟩, fun e => by change (2 : Int) = 3 at e; omega⟩
    · exact same
  split
  · split
    · rename_i h; exact ⟨Int.le_refl _, by show (0 : Int) ≤ _; omega, by show 0 ≤ a; omega, by show (0 : Int) ≤ 3; omega, by show (3 : Int) ≤ 4; omega, fun e => absurd rfl e, fun _ => h.2⟩
    · exact same
  split
  · split
    · rename_i h; exact ⟨by show 0 ≤ b.owes + 1; omega, by show b.owes + 1 ≤ _; omega, h3, h4, h5, fun e => absurd h e, h7⟩
    · exact same
  split
  · split
    · rename_i h; exact ⟨by show 0 ≤ b.owes - 1; omega, by show b.owes - 1 ≤ _; omega, h3, h4, h5, fun e => absurd h.1 e, h7⟩
    · exact same
  split
  · split
    · rename_i h; exact ⟨h1, by show b.owes ≤ _; omega, Int.le_refl _, by show (0 : Int) ≤ 2; omega, by show (2 : Int) ≤ 4; omega, fun _ => ⟨rfl, h.2⟩, fun e => by change (2 : Int) = 3 at e; omega⟩
    · exact same
  split
  · exact ⟨Int.le_refl _, by show (0 : Int) ≤ _; omega, Int.le_refl _, by show (0 : Int) ≤ 4; omega, Int.le_refl _, fun _ => ⟨rfl, rfl⟩, fun e => by change (4 : Int) = 3 at e; omega⟩
  · exact same
theorem early_steps (k : Nat) (hk : k < 100) {b : BK} (h : Fine b k) : b.owes ≤ 1000 := by have := h.o1; omega
/-- What is read of a script: the three numbers of each step. -/
def Script (w : World) (a : Option Addr) (n : Nat) (z : List (Int × Int × Int)) : Prop :=
  ∀ i, i < n → ∃ x, a = some x ∧ (x.add (i * 3)).block < w.heap.size ∧ w.cell? (x.add (i * 3)) = some (.int .i64 (z.getD i (0, 0, 0)).1) ∧ w.cell? ⟨(x.add (i * 3)).block, (x.add (i * 3)).off + 1, none⟩ = some (.int .i64 (z.getD i (0, 0, 0)).2.1) ∧ w.cell? ⟨(x.add (i * 3)).block, (x.add (i * 3)).off + 2, none⟩ = some (.int .i64 (z.getD i (0, 0, 0)).2.2)
theorem script_of {w : World} {a : Option Addr} {len cap : Nat} {z : List (Int × Int × Int)} (h : IsRecs_iii w a len cap z) : Script w a len z ∧ len ≤ cap ∧ len ≤ 9223372036854775807 := by
  rcases h with ⟨rfl, rfl, rfl, rfl⟩ | ⟨x, rfl, hl, hm, hz, hc, hw⟩
  · exact ⟨fun i hi => by omega, by omega, by omega⟩
  · refine ⟨fun i hi => ?_, hl, by unfold maxLen at hm; omega⟩
    obtain ⟨c0, c1, c2⟩ := hc i (by omega)
    rw [add_fld _ _ _ (by omega)] at c1 c2
    exact ⟨x, rfl, cell_lt c0, c0, c1, c2⟩
end Go.Proofs.Ythmbfmjchbcjlaa
