/- What stays in memory while a reader is fed and rows grow. -/
import Derived.Test.YtghcgnahdeaofaaRv
namespace Go.Proofs.Ytghcgnahdeaofaa
open Go.ChangeShapes Go.WideShapes Go.ChangeAt Go.RowKit
set_option linter.unusedVariables false
theorem near_upto {g B : Nat} {a b c : World} (hn : Near g a b) (hu : Upto B g b c) (hB : a.heap.size ≤ B) : Near g a c :=
  ⟨hu.os.trans hn.os, hu.tape.trans hn.tape, hu.output.trans hn.output, Nat.le_trans hn.size hu.size, fun k hk hg => (hu.block k (by omega) hg).trans (hn.block k hk hg)⟩
theorem near_grown {g : Nat} {a b c : World} {row : Option Nat} (hn : Near g a b) (hg : b.grownBy c row) (hr : ∀ j, row = some j → a.heap.size ≤ j) : Near g a c :=
  ⟨hg.os.trans hn.os, hg.tape.trans hn.tape, hg.output.trans hn.output, Nat.le_trans hn.size hg.size, fun k hk hkg => (hg.block k (Nat.lt_of_lt_of_le hk hn.size) (fun e => by have := hr k e.symm; omega)).trans (hn.block k hk hkg)⟩
theorem near_later {g B0 : Nat} {W a b : World} (h : Below B0 W a) (hn : Near g a b) (hg : B0 ≤ g) (hB : B0 ≤ a.heap.size) : Below B0 W b :=
  h.trans ⟨hn.os, hn.tape, hn.output, hn.size, fun k hk => hn.block k (by omega) (by omega)⟩
theorem FD.both {r : RD} {s : List UInt8} {B g : Nat} {w w' : World} {e : Ending} (h : FD r s B g w e w') (hB : B ≤ w.heap.size) (hg : g < B) :
    ∃ v, e = .returned (.tuple #[v, .int .i64 (fed r s).e]) ∧ w'.ownsRow w.heap.size 33 2 v (told r s).length (fc (told r s)) ∧ Upto B g w w' ∧ OR w' B g (fed r s) := by
  obtain ⟨v, he, ho, hu, h1 | h1⟩ := h
  · exact ⟨v, he, ho, hu, h1.2.base hB hg⟩
  · exact ⟨v, he, ho, hu, h1.2⟩
theorem OR.near {w w' : World} {B g g2 : Nat} {r : RD} (h : OR w B g r) (hn : Near g2 w w') (hg : g ≠ g2) (hb : g2 < B) : OR w' B g r := by
  obtain ⟨v, h1, h2⟩ := h.obj
  exact ⟨h.hg, v, (hn.block g h1.lt hg).trans h1, own_near h2 hn hb⟩
theorem OR.grown {w w' : World} {B g base size n : Nat} {r : RD} {e : TypeId} {v : Value} {xs : List Value} (h : OR w B g r) (ho : w.ownsRow base e size v n xs) (he : e ≠ 5) (hb : g < base) (hg : w.grownBy w' v.ownBlock) : OR w' B g r := by
  obtain ⟨v1, h1, h2⟩ := h.obj
  refine ⟨h.hg, v1, blk_grown h1 hg (fun j hj => by have := (ho.lt j hj).1; omega), h2.kept hg ?_⟩
  rcases hv : v1.ownBlock with _ | j
  · exact .inl rfl
  · refine .inr fun hj => ?_
    obtain ⟨c1, k1⟩ := own_typ h2 j hv
    obtain ⟨c2, k2⟩ := own_typ ho j hj.symm
    rw [k1] at k2
    injection k2 with k2
    injection k2 with _ k3
    exact he k3.symm
theorem own_cells {w : World} {base size n c : Nat} {e : TypeId} {x : Addr} {xs : List Value} (h : w.ownsRow base e size (.slice (some x) n c) n xs) : ∀ j u, xs[j]? = some u → w.cell? (x.add j) = some u := by
  intro j u hu
  rcases h.2 with ⟨hn, _⟩ | ⟨g, cap, cur, hv, hg, hb, hc, hm, _⟩
  · cases hn
  · injection hv with e1 e2 e3
    injection e1 with e1
    subst e1
    exact h.cells (g := g) rfl j _ hu
theorem SR.own {w : World} {base n c : Nat} {A : Option Addr} {l : List ByteArray} (h : w.ownsRow base 9 1 (.slice A n c) n (sc l)) : SR w A l := by
  obtain ⟨A', c', hv, hs, _⟩ := SR.of_own h
  injection hv with e1 e2 e3
  rw [e1]; exact hs
theorem FR.own {w : World} {base n c : Nat} {A : Option Addr} {l : List Fr} (h : w.ownsRow base 33 2 (.slice A n c) n (fc l)) : FR w A l := by
  obtain ⟨A', c', hv, hs, _⟩ := FR.of_own h
  injection hv with e1 e2 e3
  rw [e1]; exact hs
end Go.Proofs.Ytghcgnahdeaofaa
