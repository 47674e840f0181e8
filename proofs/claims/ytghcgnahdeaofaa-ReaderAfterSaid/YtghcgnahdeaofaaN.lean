/- Rows of frames, and all frames of any bytes, plainly. -/
import Derived.Test.YtghcgnahdeaofaaM
namespace Go.Proofs.Ytghcgnahdeaofaa
open Go.ChangeShapes Go.WideShapes Go.ChangeAt Go.RowKit
set_option linter.unusedVariables false
abbrev Fr := Int × ByteArray
/-- The frames' cells. -/
def fc : List Fr → List Value
  | [] => []
  | f :: fs => .int .i64 f.1 :: .string f.2 :: fc fs
theorem fc_len : ∀ fs : List Fr, (fc fs).length = fs.length * 2
  | [] => rfl
  | f :: fs => by simp only [fc, List.length_cons, fc_len fs]; omega
theorem fc_app : ∀ a b : List Fr, fc (a ++ b) = fc a ++ fc b
  | [], b => rfl
  | f :: fs, b => by simp only [fc, List.cons_append, fc_app fs b]
theorem fc_one : ∀ fs : List Fr, ∀ u ∈ fc fs, u.oneCell' = true
  | [], u, h => by simp [fc] at h
  | f :: fs, u, h => by
    simp only [fc, List.mem_cons] at h
    rcases h with rfl | rfl | h
    · rfl
    · rfl
    · exact fc_one fs u h
theorem fc_at : ∀ (fs : List Fr) (j : Nat) (hj : j < fs.length), (fc fs)[j * 2]? = some (.int .i64 fs[j].1) ∧ (fc fs)[j * 2 + 1]? = some (.string fs[j].2)
  | f :: fs, 0, _ => ⟨rfl, rfl⟩
  | f :: fs, j + 1, hj => by
    have h := fc_at fs j (by simpa using hj)
    rw [show (j + 1) * 2 = j * 2 + 1 + 1 by omega]
    exact h
/-- The slice value's first cells are the frames. -/
def FR (w : World) (A : Option Addr) (fs : List Fr) : Prop := ∀ j (hj : j < fs.length), ∃ x, A = some x ∧ w.cell? (x.add (j * 2)) = some (.int .i64 fs[j].1) ∧ w.cell? (x.add (j * 2 + 1)) = some (.string fs[j].2)
theorem FR.of_own {w : World} {base n : Nat} {v : Value} {fs : List Fr} (h : w.ownsRow base 33 2 v n (fc fs)) : ∃ A cap, v = .slice A n cap ∧ FR w A fs ∧ n = fs.length ∧ n ≤ cap ∧ cap ≤ maxLen ∧ (A = none → n = 0 ∧ cap = 0) := by
  have hl : (fc fs).length = n * 2 := h.1
  rw [fc_len] at hl
  rcases h.2 with ⟨rfl, hn⟩ | ⟨g, cap, cur, rfl, _, hb, hc, hm, _⟩
  · exact ⟨none, 0, by rw [hn], fun j hj => by omega, by omega, by omega, by omega, fun _ => ⟨hn, rfl⟩⟩
  · refine ⟨_, cap, rfl, fun j hj => ⟨_, rfl, ?_, ?_⟩, by omega, hc, hm, fun h => by cases h⟩
    · exact h.cells (g := g) rfl (j * 2) _ (fc_at fs j hj).1
    · exact h.cells (g := g) rfl (j * 2 + 1) _ (fc_at fs j hj).2
theorem FR.keep {w w' : World} {A : Option Addr} {fs : List Fr} (h : FR w A fs) (hb : Below w.heap.size w w') : FR w' A fs := fun j hj => by
  obtain ⟨x, rfl, c1, c2⟩ := h j hj
  exact ⟨x, rfl, by rw [hb.cell (cell_lt c1)]; exact c1, by rw [hb.cell (cell_lt c2)]; exact c2⟩
theorem FR.take {w : World} {A : Option Addr} {fs : List Fr} (h : FR w A fs) (n : Nat) : FR w A (fs.take n) := fun j hj => by
  have hj2 : j < fs.length := by rw [List.length_take] at hj; omega
  have := h j hj2
  rwa [List.getElem_take]
theorem FR.drop {w : World} {x : Addr} {fs : List Fr} (h : FR w (some x) fs) (n : Nat) : FR w (some (x.add (n * 2))) (fs.drop n) := fun j hj => by
  have hj2 : n + j < fs.length := by rw [List.length_drop] at hj; omega
  obtain ⟨y, hy, c1, c2⟩ := h (n + j) hj2
  cases hy
  refine ⟨_, rfl, ?_, ?_⟩
  · rw [add_of_add, ← Nat.add_mul, c1, List.getElem_drop]
  · rw [add_of_add, ← Nat.add_assoc, ← Nat.add_mul, c2, List.getElem_drop]
theorem rd_ok (l : List UInt8) (most : Int) (h : (rd l most).2.2 = 0) : 3 ≤ (rd l most).2.1 ∧ (rd l most).2.1 ≤ (l.length : Int) := by
  have hb := hd_bd l most
  unfold rd at h ⊢
  by_cases h1 : (hd l most).2.2 = 0
  · rw [if_neg (by simpa using h1)] at h ⊢
    by_cases h2 : (l.length : Int) < 3 + (hd l most).2.1
    · rw [if_pos h2] at h; simp at h
    · rw [if_neg h2]; dsimp only; omega
  · rw [if_pos h1] at h; exact absurd h h1
/-- All frames at the beginning; how many bytes; the error. -/
def al (l : List UInt8) (most : Int) : List Fr × Nat × Int :=
  if h : (rd l most).2.2 = 0 then
    ((rd l most).1 :: (al (l.drop (rd l most).2.1.toNat) most).1, (rd l most).2.1.toNat + (al (l.drop (rd l most).2.1.toNat) most).2.1, (al (l.drop (rd l most).2.1.toNat) most).2.2)
  else if (rd l most).2.2 = 2 then ([], 0, 0) else ([], 0, (rd l most).2.2)
termination_by l.length
decreasing_by
  all_goals
    have := rd_ok l most h
    rw [List.length_drop]; omega
theorem al_ok (l : List UInt8) (most : Int) (f : Fr) (n : Nat) (h : rd l most = (f, (n : Int), 0)) : al l most = (f :: (al (l.drop n) most).1, n + (al (l.drop n) most).2.1, (al (l.drop n) most).2.2) := by
  rw [al, dif_pos (by rw [h])]
  rw [h]; rfl
theorem al_form (l : List UInt8) (most : Int) (h : (rd l most).2.2 = 2) : al l most = ([], 0, 0) := by
  rw [al, dif_neg (by rw [h]; decide), if_pos h]
theorem al_err (l : List UInt8) (most : Int) (h0 : (rd l most).2.2 ≠ 0) (h2 : (rd l most).2.2 ≠ 2) : al l most = ([], 0, (rd l most).2.2) := by
  rw [al, dif_neg h0, if_neg h2]
/-- What All is at when the next place is k. -/
structure RelA (W w : World) (v i : Value) (l : List UInt8) (most : Int) (fs : List Fr) (k : Nat) : Prop where
  hi : i = .int .i64 (k : Int)
  hk : k ≤ l.length
  few : fs.length ≤ k
  own : w.ownsRow W.heap.size 33 2 v fs.length (fc fs)
  fin : al l most = (fs ++ (al (l.drop k) most).1, k + (al (l.drop k) most).2.1, (al (l.drop k) most).2.2)
  below : Below W.heap.size W w
theorem RelA.start (W : World) (l : List UInt8) (most : Int) : RelA W W (.slice none 0 0) (.int .i64 0) l most [] 0 :=
  ⟨rfl, Nat.zero_le _, Nat.le_refl _, World.ownsRow_nil _ _ _ _, by simp, Below.refl _ _⟩
theorem RelA.next {W w : World} {v i : Value} {l : List UInt8} {most : Int} {fs : List Fr} {k n : Nat} {f : Fr} (h : RelA W w v i l most fs k) (hr : rd (l.drop k) most = (f, (n : Int), 0)) :
    3 ≤ n ∧ k + n ≤ l.length ∧ al l most = ((fs ++ [f]) ++ (al (l.drop (k + n)) most).1, (k + n) + (al (l.drop (k + n)) most).2.1, (al (l.drop (k + n)) most).2.2) := by
  have ok := rd_ok (l.drop k) most (by rw [hr])
  rw [hr, List.length_drop] at ok
  dsimp only at ok
  have hk := h.hk
  refine ⟨by omega, by omega, ?_⟩
  rw [h.fin, al_ok _ _ f n hr, List.drop_drop]
  dsimp only
  rw [List.append_assoc, List.singleton_append, ← Nat.add_assoc]
/-- What All answers. -/
def All3 (r : List Fr × Nat × Int) (w : World) (e : Ending) (w' : World) : Prop :=
  ∃ v, e = .returned (.tuple #[v, .int .i64 (r.2.1 : Int), .int .i64 r.2.2]) ∧ Below w.heap.size w w' ∧ w'.ownsRow w.heap.size 33 2 v r.1.length (fc r.1)
theorem info23 : (Try.prog.info? 33).map (fun i => (i.zero, i.size, i.bytes)) = some (some (.agg #[.int .i64 0, .string ByteArray.empty]), 2, 24) := by kernel_rfl
end Go.Proofs.Ytghcgnahdeaofaa
