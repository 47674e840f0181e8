/- A block of the call's own that is written: what stays beside it. No function of the program. -/
import Derived.Test.YtghcgnahdeaofaaO
namespace Go.Proofs.Ytghcgnahdeaofaa
open Go.RowKit
/-- Every block but g is as it was. -/
structure Near (g : Nat) (w w' : World) : Prop where
  os : w'.os = w.os
  tape : w'.tape = w.tape
  output : w'.output = w.output
  size : w.heap.size ≤ w'.heap.size
  block : ∀ k, k < w.heap.size → k ≠ g → w'.heap[k]? = w.heap[k]?
theorem Near.refl (g : Nat) (w : World) : Near g w w := ⟨rfl, rfl, rfl, Nat.le_refl _, fun _ _ _ => rfl⟩
theorem Near.trans {g : Nat} {a b c : World} (h : Near g a b) (k : Near g b c) : Near g a c :=
  ⟨k.os.trans h.os, k.tape.trans h.tape, k.output.trans h.output, Nat.le_trans h.size k.size, fun i hi hg => (k.block i (Nat.lt_of_lt_of_le hi h.size) hg).trans (h.block i hi hg)⟩
theorem Near.drewN {g : Nat} {a w : World} (h : Near g a w) (m : Nat) : Near g a (w.drewN m) := ⟨h.os, h.tape, h.output, h.size, h.block⟩
theorem Near.drew {g : Nat} {a w : World} (h : Near g a w) : Near g a w.drew := ⟨h.os, h.tape, h.output, h.size, h.block⟩
theorem Near.of_drew {g : Nat} {a w : World} (h : Near g a.drew w) : Near g a w := ⟨h.os, h.tape, h.output, h.size, h.block⟩
theorem Near.set {g : Nat} {a w : World} (h : Near g a w) (i : Nat) (u : Value) : Near g a (w.setCell ⟨g, i, none⟩ u) :=
  h.trans ⟨rfl, rfl, rfl, by simp [World.setCell], fun k _ hg => Below.heap_setCell _ _ _ _ hg⟩
theorem Near.alloc {g : Nat} {a w : World} (h : Near g a w) (o : Obj) : Near g a (w.alloc o) :=
  h.trans ⟨rfl, rfl, rfl, by simp, fun k hk _ => Below.heap_alloc _ _ _ hk⟩
theorem Near.of_below {g : Nat} {w w' : World} (h : Below w.heap.size w w') : Near g w w' := ⟨h.os, h.tape, h.output, h.size, fun k hk _ => h.block k hk⟩
theorem Near.later {g B : Nat} {W w w' : World} (h : Below B W w) (k : Near g w w') (hB : B ≤ w.heap.size) (hg : B ≤ g) : Below B W w' :=
  h.trans ⟨k.os, k.tape, k.output, k.size, fun i hi => k.block i (by omega) (by omega)⟩
theorem near_cell {g : Nat} {w w' : World} {p : Addr} {v : Value} (h : Near g w w') (hp : p.block ≠ g) (hc : w.cell? p = some v) : w'.cell? p = some v := by
  rw [World.cell?_of_block (w := w) (h.block p.block (cell_lt hc) hp)]; exact hc
theorem block_add (a : Addr) (n : Nat) : (a.add n).block = a.block := by unfold Addr.add; split <;> rfl
theorem add_fld (x : Addr) (i j : Nat) (hj : 0 < j) : x.add (i + j) = ⟨(x.add i).block, (x.add i).off + j, none⟩ := by
  rw [← add_of_add]
  generalize x.add i = y
  unfold Addr.add; rw [if_neg (by omega)]
/-- A block that is known whole. -/
def Blk (w : World) (g : Nat) (t : TypeId) (cs : Array Value) : Prop := w.heap[g]? = some (.cells cs t (0, 0))
theorem Blk.lt {w : World} {g : Nat} {t : TypeId} {cs : Array Value} (h : Blk w g t cs) : g < w.heap.size := by
  by_cases hb : g < w.heap.size
  · exact hb
  · unfold Blk at h; simp [Array.getElem?_eq_none (Nat.le_of_not_lt hb)] at h
theorem Blk.cell {w : World} {g : Nat} {t : TypeId} {cs : Array Value} (h : Blk w g t cs) (i : Nat) : w.cell? ⟨g, i, none⟩ = cs[i]? := by
  unfold Blk at h; simp [World.cell?, h]
theorem Blk.free {w : World} {g : Nat} {t : TypeId} {cs : Array Value} (h : Blk w g t cs) (i : Nat) : w.frozen? ⟨g, i, none⟩ = false := by
  unfold Blk at h; simp [World.frozen?, h]
theorem Blk.new (w : World) (t : TypeId) (cs : Array Value) : Blk (w.alloc (.cells cs t)) w.heap.size t cs := by
  unfold Blk World.alloc; simp
theorem Blk.drewN {w : World} {g : Nat} {t : TypeId} {cs : Array Value} (h : Blk w g t cs) (m : Nat) : Blk (w.drewN m) g t cs := h
theorem Blk.alloc {w : World} {g : Nat} {t : TypeId} {cs : Array Value} (h : Blk w g t cs) (o : Obj) : Blk (w.alloc o) g t cs := (Below.heap_alloc w o g h.lt).trans h
theorem Blk.set {w : World} {g : Nat} {t : TypeId} {cs : Array Value} (h : Blk w g t cs) (i : Nat) (u : Value) : Blk (w.setCell ⟨g, i, none⟩ u) g t (cs.setIfInBounds i u) := by
  unfold Blk at h ⊢; simp [World.setCell, Array.getElem?_modify, h]
theorem Blk.near {w w' : World} {g k : Nat} {t : TypeId} {cs : Array Value} (h : Blk w g t cs) (n : Near k w w') (hg : g ≠ k) : Blk w' g t cs := (n.block g h.lt hg).trans h
theorem Blk.below {w w' : World} {g B : Nat} {t : TypeId} {cs : Array Value} (h : Blk w g t cs) (b : Below B w w') (hg : g < B) : Blk w' g t cs := (b.block g hg).trans h
end Go.Proofs.Ytghcgnahdeaofaa
