/- Contract of the reference's comparison of texts, at rows that are the same; texts put together: over this seat's translation. -/
import Derived.Test.YtghcgnahdeaofaaRt
namespace Go.Proofs.Ytghcgnahdeaofaa
open Go.ChangeShapes Go.WideShapes Go.ChangeAt Go.RowKit
set_option linter.unusedVariables false
set_option maxRecDepth 100000 in
set_option maxHeartbeats 4000000 in
theorem ssame_c (A1 A2 : Option Addr) (c1 c2 n : Nat) (fs : List ByteArray) (w : World) (hn : fs.length = n) (h1 : SR w A1 fs) (h2 : SR w A2 fs) (hl : n ≤ 1000000) :
    Calls Try.prog 19 #[.slice A1 n c1, .slice A2 n c2] w fun e w' => e = .returned (.bool true) ∧ ∃ q, w.drewN q = w' := by
  have H1 := Lib.hid h1
  have H2 := Lib.hid h2
  have HN := Lib.hid hn
  clear h1 h2 hn
  go_enter Try.func19, Try.ntmps19
  go_wp2_with fail
  go_loopw [5] (fun i wr => ∃ k q : Nat, i = .int .i64 k ∧ k ≤ n ∧ wr = w.drewN q) (fun i _ => n - (intOf i).toNat)
  case atStart => exact ⟨0, 0, rfl, Nat.zero_le _, rfl⟩
  case round =>
    obtain ⟨k, q, rfl, hk, rfl⟩ := hrel
    by_cases hlt : k < n
    · obtain ⟨x1, rfl, a1⟩ := H1.out k (by rw [HN.out]; exact hlt)
      obtain ⟨x2, rfl, b1⟩ := H2.out k (by rw [HN.out]; exact hlt)
      generalize (fs[k]'(by rw [HN.out]; exact hlt)) = f1 at a1 b1
      go_wp2_with fail
      go_quiet (fail)
      go_wp2_with fail
      go_roundw
      case rel => exact ⟨k + 1, q + nq, by go_num, by omega, by first | rfl | rw [World.drewN_add]⟩
      case measure => simp [intOf]; omega
    · go_wp2
      go_ret
      exact ⟨rfl, q, rfl⟩
/-- Texts put together. -/
def cat (l : List ByteArray) : ByteArray := l.foldl (· ++ ·) ByteArray.empty
theorem cat_snoc (l : List ByteArray) (k : Nat) (h : k < l.length) : cat (l.take (k + 1)) = cat (l.take k) ++ l[k] := by
  unfold cat
  rw [List.take_succ_eq_append_getElem h, List.foldl_append]; rfl
theorem cat_flat (l : List ByteArray) : (cat l).data.toList = flat l := by
  have h : ∀ (l : List ByteArray) (a : ByteArray), (l.foldl (· ++ ·) a).data.toList = a.data.toList ++ flat l := by
    intro l
    induction l with
    | nil => intro a; simp [flat]
    | cons x l ih => intro a; rw [List.foldl_cons, ih]; simp [flat, ByteArray.data_append]
  have := h l ByteArray.empty
  simpa [cat] using this
theorem cat_pieces (b : ByteArray) (l : List Int) : cat (pieces b l) = b := by
  have h := cat_flat (pieces b l)
  rw [pieces_flat] at h
  have := Array.toList_inj.1 h
  exact ByteArray.ext this
theorem flat_take_le (l : List ByteArray) (k : Nat) : (flat (l.take k)).length ≤ (flat l).length := by
  have h : flat l = flat (l.take k) ++ flat (l.drop k) := by
    unfold flat; rw [← List.flatMap_append, List.take_append_drop]
  rw [h, List.length_append]; omega
theorem cat_size (b : ByteArray) (l : List Int) (k : Nat) : (cat ((pieces b l).take k)).size ≤ b.size := by
  have h := flat_take_le (pieces b l) k
  rw [pieces_flat, ← cat_flat] at h
  simpa using h
/-- The first n bytes. -/
def upto (n : Nat) (s : ByteArray) : ByteArray := s.extract 0 (min s.size n)
theorem upto_small (n : Nat) (s : ByteArray) (h : s.size ≤ n) : upto n s = s := by
  unfold upto; rw [Nat.min_eq_left h]; exact ByteArray.extract_zero_size
theorem upto_large (n : Nat) (s : ByteArray) (h : n < s.size) : upto n s = s.extract 0 n := by unfold upto; rw [Nat.min_eq_right (by omega)]
theorem upto_size (n : Nat) (s : ByteArray) : (upto n s).size ≤ n := by unfold upto; rw [ByteArray.size_extract]; omega
/-- The first n numbers that came in. -/
theorem nums_of {w : World} {a : Option Addr} {len cap : Nat} {z : List Int} (h : IsRow .i64 w a len cap z) (m : Nat) :
    ∃ zc : List Int, zc.length = min len m ∧ NR w a zc ∧ len ≤ cap ∧ len ≤ 9223372036854775807 ∧ (a = none → len = 0 ∧ cap = 0) := by
  rcases h with ⟨h1, rfl, h3, rfl⟩ | ⟨x, hx, hl, hm, hz, hc, hw⟩
  · exact ⟨[], by simp, (fun j hj => absurd hj (Nat.not_lt_zero _)), by omega, by omega, fun _ => ⟨rfl, h3⟩⟩
  · refine ⟨z.take (min len m), by rw [List.length_take]; omega, fun j hj => ⟨x, hx, ?_⟩, hl, by unfold maxLen at hm; omega, fun h => by rw [hx] at h; cases h⟩
    rw [List.length_take] at hj
    rw [hc j (by omega), List.getElem_take, List.getD_eq_getElem?_getD, List.getElem?_eq_getElem (by omega)]; rfl
end Go.Proofs.Ytghcgnahdeaofaa
