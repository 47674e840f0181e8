/- A reader's numbers, plainly; and its small functions over this seat's translation. -/
import Derived.Test.YtghcgnahdeaofaaYb
import Derived.Test.YtghcgnahdeaofaaSa
namespace Go.Proofs.Ytghcgnahdeaofaa
open Go.ChangeShapes Go.WideShapes Go.ChangeAt Go.RowKit
set_option linter.unusedVariables false
/-- A reader: the most bytes of a frame, bytes that are no whole frame yet, the error. -/
structure RD where
  most : Int
  b : List UInt8
  e : Int
def fed (r : RD) (s : List UInt8) : RD := if r.e ≠ 0 then r else if (al (r.b ++ s) r.most).2.2 = 0 then ⟨r.most, (r.b ++ s).drop (al (r.b ++ s) r.most).2.1, 0⟩ else ⟨r.most, [], (al (r.b ++ s) r.most).2.2⟩
def told (r : RD) (s : List UInt8) : List Fr := if r.e ≠ 0 then [] else (al (r.b ++ s) r.most).1
theorem fed_e (r : RD) (s : List UInt8) : (fed r s).e = if r.e ≠ 0 then r.e else (al (r.b ++ s) r.most).2.2 := by
  unfold fed; split
  · rfl
  · split
    · rename_i h; exact h.symm
    · rfl
/-- All blocks below B but g are as they were; and so are all blocks but g that are no row of bytes. -/
structure Upto (B g : Nat) (w w' : World) : Prop where
  os : w'.os = w.os
  tape : w'.tape = w.tape
  output : w'.output = w.output
  size : w.heap.size ≤ w'.heap.size
  block : ∀ k, k < B → k ≠ g → w'.heap[k]? = w.heap[k]?
  other : ∀ k, k < w.heap.size → k ≠ g → (∀ cur, w.heap[k]? ≠ some (.cells cur 5 (0, 0))) → w'.heap[k]? = w.heap[k]?
theorem Upto.later {B g B0 : Nat} {W w w' : World} (h : Below B0 W w) (k : Upto B g w w') (hB : B0 ≤ B) (hg : B0 ≤ g) : Below B0 W w' :=
  h.trans ⟨k.os, k.tape, k.output, k.size, fun i hi => k.block i (by omega) (by omega)⟩
theorem Upto.blk {B g k : Nat} {w w' : World} {t : TypeId} {cs : Array Value} (h : Blk w k t cs) (hu : Upto B g w w') (hk : k < B) (hg : k ≠ g) : Blk w' k t cs := (hu.block k hk hg).trans h
/-- A reader in memory; its bytes lie in the reader's own row, from B on. -/
structure OR (w : World) (B g : Nat) (r : RD) : Prop where
  hg : g < B
  obj : ∃ v, Blk w g 49 #[.int .i64 r.most, v, .int .i64 r.e] ∧ w.ownsRow B 5 1 v r.b.length (bc r.b)
theorem OR.lt {w : World} {B g : Nat} {r : RD} (h : OR w B g r) : g < w.heap.size := by obtain ⟨v, h1, _⟩ := h.obj; exact h1.lt
theorem OR.keep {w w' : World} {B g : Nat} {r : RD} (h : OR w B g r) (hb : Below w.heap.size w w') : OR w' B g r := by
  obtain ⟨v, h1, h2⟩ := h.obj
  exact ⟨h.hg, v, h1.below hb h1.lt, own_keep h2 hb⟩
theorem rnew_c (n : Int) (w : World) : Calls Try.prog 14 #[.int .i64 n] w fun e w' => e = .returned (.pointer (some ⟨w.heap.size, 0, none⟩)) ∧ w.alloc (.cells #[.int .i64 n, .slice none 0 0, .int .i64 0] 49) = w' := by
  go_enter Try.func14, Try.ntmps14
  go_wp2
  go_ret
  exact ⟨rfl, rfl⟩
theorem rnew_or (n : Int) (w : World) (B : Nat) (hB : w.heap.size < B) : OR (w.alloc (.cells #[.int .i64 n, .slice none 0 0, .int .i64 0] 49)) B w.heap.size ⟨n, [], 0⟩ :=
  ⟨hB, _, Blk.new _ _ _, World.ownsRow_nil _ _ _ _⟩
theorem feed_nil (s : ByteArray) (w : World) : Calls Try.prog 9 #[.pointer none, .string s] w fun e w' => e = .returned (.tuple #[.slice none 0 0, .int .i64 1]) ∧ w = w' := by
  go_enter Try.func9, Try.ntmps9
  go_wp2_with fail
  go_ret2
  exact ⟨rfl, rfl⟩
theorem left_nil (w : World) : Calls Try.prog 10 #[.pointer none] w fun e w' => e = .returned (.int .i64 0) ∧ w = w' := by
  go_enter Try.func10, Try.ntmps10
  go_wp2_with fail
  go_ret
  exact ⟨rfl, rfl⟩
theorem err_nil (w : World) : Calls Try.prog 12 #[.pointer none] w fun e w' => e = .returned (.int .i64 1) ∧ w = w' := by
  go_enter Try.func12, Try.ntmps12
  go_wp2_with fail
  go_ret
  exact ⟨rfl, rfl⟩
theorem want_nil (w : World) : Calls Try.prog 11 #[.pointer none] w fun e w' => e = .returned (.int .i64 0) ∧ w = w' := by
  go_enter Try.func11, Try.ntmps11
  go_wp2_with fail
  go_ret
  exact ⟨rfl, rfl⟩
theorem err_c (B g : Nat) (r : RD) (w : World) (h : OR w B g r) : Calls Try.prog 12 #[.pointer (some ⟨g, 0, none⟩)] w fun e w' => e = .returned (.int .i64 r.e) ∧ w = w' := by
  obtain ⟨v, hb, _⟩ := h.obj
  have c2 : w.cell? ⟨g, 2, none⟩ = some (.int .i64 r.e) := hb.cell 2
  clear h hb
  go_enter Try.func12, Try.ntmps12
  go_wp2_with fail
  go_ret
  exact ⟨rfl, rfl⟩
theorem left_c (B g : Nat) (r : RD) (w : World) (h : OR w B g r) : Calls Try.prog 10 #[.pointer (some ⟨g, 0, none⟩)] w fun e w' => e = .returned (.int .i64 (r.b.length : Nat)) ∧ w = w' := by
  obtain ⟨v, hb, hown⟩ := h.obj
  obtain ⟨A, cap, rfl, _, hn, _⟩ := BR.of_own hown
  have c1 : w.cell? ⟨g, 1, none⟩ = some (.slice A r.b.length cap) := hb.cell 1
  clear h hb hown hn
  go_enter Try.func10, Try.ntmps10
  go_wp2_with fail
  go_ret
  exact ⟨rfl, rfl⟩
/-- What Feed answers, and what becomes of the reader. -/
def FD (r : RD) (s : List UInt8) (B g : Nat) (w : World) (e : Ending) (w' : World) : Prop :=
  ∃ v, e = .returned (.tuple #[v, .int .i64 (fed r s).e]) ∧ w'.ownsRow w.heap.size 33 2 v (told r s).length (fc (told r s)) ∧ Upto B g w w' ∧ ((r.e = 0 ∧ OR w' w.heap.size g (fed r s)) ∨ (r.e ≠ 0 ∧ OR w' B g (fed r s)))
set_option maxHeartbeats 4000000 in
theorem feed_err (B g : Nat) (r : RD) (s : ByteArray) (w : World) (h : OR w B g r) (he : r.e ≠ 0) : Calls Try.prog 9 #[.pointer (some ⟨g, 0, none⟩), .string s] w (FD r s.data.toList B g w) := by
  have HO := Lib.hid h
  obtain ⟨v, hb, hown⟩ := h.obj
  have c2 : w.cell? ⟨g, 2, none⟩ = some (.int .i64 r.e) := hb.cell 2
  have he1 : (r.e != 0) = true := by simpa using he
  have H1 := Lib.hid (show fed r s.data.toList = r ∧ told r s.data.toList = [] from ⟨by unfold fed; rw [if_pos he], by unfold told; rw [if_pos he]⟩)
  have HE := Lib.hid he
  clear h hb hown he
  go_enter Try.func9, Try.ntmps9
  go_wp2_with fail
  go_quiet (fail)
  go_wp2_with fail
  go_ret2
  exact ⟨.slice none 0 0, by rw [H1.out.1]; rfl, by rw [H1.out.2]; exact World.ownsRow_nil _ _ _ _, ⟨rfl, rfl, rfl, Nat.le_refl _, fun _ _ _ => rfl, fun _ _ _ _ => rfl⟩, .inr ⟨HE.out, by rw [H1.out.1]; exact HO.out.keep (bel_drewN (Below.refl _ _) _)⟩⟩
end Go.Proofs.Ytghcgnahdeaofaa
