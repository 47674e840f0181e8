/- Frames of the law's argument that are made such as may be; frames whole in a reader: over this seat's translation. -/
import Derived.Test.YtghcgnahdeaofaaRw
namespace Go.Proofs.Ytghcgnahdeaofaa
open Go.ChangeShapes Go.WideShapes Go.ChangeAt Go.RowKit
set_option linter.unusedVariables false
/-- The frames of the first k that came in. -/
def ins (z : List Fr) (k : Nat) : List Fr := (z.take k).map good
theorem ins_len {z : List Fr} {k : Nat} (h : k ≤ z.length) : (ins z k).length = k := by unfold ins; rw [List.length_map, List.length_take]; omega
theorem ins_ok (z : List Fr) (k : Nat) : FO (ins z k) := fun f hf => by
  unfold ins at hf
  obtain ⟨g, _, rfl⟩ := List.mem_map.1 hf
  exact good_ok g
theorem ins_snoc (z : List Fr) (k : Nat) (h : k < z.length) : ins z (k + 1) = ins z k ++ [good (z.getD k (0, ByteArray.empty))] := by
  unfold ins
  rw [List.take_succ_eq_append_getElem h, List.map_append, List.getD_eq_getElem?_getD, List.getElem?_eq_getElem h]; rfl
structure RelR (W w : World) (v i : Value) (z : List Fr) (n k : Nat) : Prop where
  hi : i = .int .i64 (k : Int)
  hk : k ≤ n
  own : w.ownsRow W.heap.size 33 2 v k (fc (ins z k))
  nul : k = 0 → v = .slice none 0 0
  below : Below W.heap.size W w
theorem RelR.start {W w : World} (z : List Fr) (n : Nat) (h : Below W.heap.size W w) : RelR W w (.slice none 0 0) (.int .i64 0) z n 0 :=
  ⟨rfl, Nat.zero_le _, World.ownsRow_nil w W.heap.size 33 2, fun _ => rfl, h⟩
/-- The slice of frames that came in, frame by frame. -/
structure Came (w : World) (a : Option Addr) (len cap : Nat) (z : List Fr) : Prop where
  lc : len ≤ cap
  lm : len ≤ maxLen
  zl : len ≤ z.length
  at' : ∀ k, k < len → ∃ x, a = some x ∧ x.block < w.heap.size ∧ w.cell? (x.add (k * 2)) = some (.int .i64 (z.getD k (0, ByteArray.empty)).1) ∧ w.cell? (x.add (k * 2 + 1)) = some (.string (z.getD k (0, ByteArray.empty)).2) ∧ (z.getD k (0, ByteArray.empty)).2.size ≤ maxLen
theorem came_of {w : World} {a : Option Addr} {len cap : Nat} {z : List Fr} (h : IsRecs_is w a len cap z) : Came w a len cap z := by
  rcases h with ⟨_, rfl, _, rfl⟩ | ⟨x, rfl, hl, hm, hz, hc, hw⟩
  · exact ⟨Nat.zero_le _, Nat.zero_le _, Nat.zero_le _, fun k hk => by omega⟩
  · refine ⟨hl, Nat.le_trans hl hm, by omega, fun k hk => ⟨x, rfl, ?_, (hc k (by omega)).1, (hc k (by omega)).2, (hw k (by omega)).2⟩⟩
    have := cell_lt (hc k (by omega)).1
    rwa [block_add] at this
theorem good_app (z : List Fr) (k : Nat) (h : k < z.length) : fc (ins z k) ++ fc [good (z.getD k (0, ByteArray.empty))] = fc (ins z (k + 1)) := by rw [← fc_app, ← ins_snoc z k h]
theorem same_n (A1 A2 : Option Addr) (c1 c2 : Nat) (fs : List Fr) (w : World) (n : Nat) (hn : fs.length = n) (h1 : FR w A1 fs) (h2 : FR w A2 fs) (hl : n ≤ 1000000) :
    Calls Try.prog 16 #[.slice A1 n c1, .slice A2 n c2] w fun e w' => e = .returned (.bool true) ∧ ∃ q, w.drewN q = w' := by
  subst hn
  exact (same_c A1 A2 c1 c2 fs w h1 h2 hl).mono fun _ _ ⟨he, q, hq⟩ => ⟨he, q, hq.symm⟩
theorem fed_whole {fs : List Fr} (h : FO fs) : fed ⟨40, [], 0⟩ (fbs fs) = ⟨40, [], 0⟩ := by
  unfold fed; simp [al_all h]
theorem told_whole {fs : List Fr} (h : FO fs) : told ⟨40, [], 0⟩ (fbs fs) = fs := by
  unfold told; simp [al_all h]
theorem fed_part {fs : List Fr} (h : FO fs) (k : Nat) : (fed ⟨40, [], 0⟩ ((fbs fs).take k)).e = 0 := by
  obtain ⟨j, _, ha, _⟩ := al_take h k
  unfold fed; simp [ha]
theorem flat_take (l : List ByteArray) (k : Nat) : flat (l.take k) = (flat l).take (flat (l.take k)).length := by
  have h : flat l = flat (l.take k) ++ flat (l.drop k) := by
    unfold flat; rw [← List.flatMap_append, List.take_append_drop]
  rw [h, List.take_left]
theorem wantN_none (m : Int) : wantN ⟨m, [], 0⟩ = 3 := by unfold wantN; simp
/-- What has come of a reader, and of all frames that it told, when k pieces are fed. -/
structure RelP (W4 wr : World) (g : Nat) (r : RD) (P : List ByteArray) (v i : Value) (k : Nat) : Prop where
  hi : i = .int .i64 k
  hk : k ≤ P.length
  own : wr.ownsRow W4.heap.size 33 2 v (told r (flat (P.take k))).length (fc (told r (flat (P.take k))))
  rdr : OR wr W4.heap.size g (fed r (flat (P.take k)))
  near : Near g W4 wr
theorem RelP.start (W4 : World) (g : Nat) (m : Int) (P : List ByteArray) (h : OR W4 W4.heap.size g ⟨m, [], 0⟩) : RelP W4 W4 g ⟨m, [], 0⟩ P (.slice none 0 0) (.int .i64 0) 0 := by
  have e : flat (P.take 0) = [] := by simp [flat]
  refine ⟨rfl, Nat.zero_le _, ?_, by rw [e, fed_nil]; exact h, Near.refl _ _⟩
  rw [e, told_nil]
  exact World.ownsRow_nil _ _ _ _
end Go.Proofs.Ytghcgnahdeaofaa
