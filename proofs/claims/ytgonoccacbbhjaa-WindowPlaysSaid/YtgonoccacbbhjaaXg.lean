/- A script of steps, and what a window and the reference's one have in common: over this seat's translation. -/
import Derived.Test.YtgonoccacbbhjaaXf
namespace Go.Proofs.Ytgonoccacbbhjaa
open Go.ChangeShapes Go.WideShapes Go.ChangeAt Go.RowKit
set_option linter.unusedVariables false
theorem early6_c (a : Option Addr) (len cap n : Nat) (w : World) (hn : n = min len 100) (hcap : len ≤ cap) (hm : len ≤ 9223372036854775807) :
    Calls Try.prog 14 #[.slice a len cap] w fun e w' => e = .returned (.slice a n cap) ∧ w = w' := by
  by_cases h : len ≤ 100
  · obtain rfl : n = len := by omega
    clear hn
    go_enter Try.func14, Try.ntmps14
    go_wp2
    all_goals go_ret
    all_goals exact ⟨by first | rfl | (simp; omega), rfl⟩
  · obtain rfl : n = 100 := by omega
    have h1 : 100 < len := by omega
    clear hn h
    go_enter Try.func14, Try.ntmps14
    go_wp2
    all_goals go_ret
    all_goals exact ⟨by first | rfl | (simp; omega), rfl⟩
theorem kind6_c (k a : Int) (w : World) : Calls Try.prog 15 #[.agg #[.int .i64 k, .int .i64 a]] w fun e w' => e = .returned (.int .i64 (rst 4 k)) ∧ w.alloc (.cells #[.int .i64 k, .int .i64 a] 36) = w' := by
  have hb := rst_bd 4 k (by omega)
  have he : (IntKind.u64.wrap k).tmod 4 = rst 4 k := rfl
  go_enter Try.func15, Try.ntmps15
  go_wp2
  go_ret
  exact ⟨rfl, rfl⟩
/-- What is read of a script: the two numbers of each step. -/
structure Steps (w : World) (a : Option Addr) (len cap : Nat) (z : List (Int × Int)) : Prop where
  lc : len ≤ cap
  lm : len ≤ 9223372036854775807
  at' : ∀ i, i < len → ∃ x, a = some x ∧ w.cell? (x.add (i * 2)) = some (.int .i64 (z.getD i (0, 0)).1) ∧ w.cell? ⟨(x.add (i * 2)).block, (x.add (i * 2)).off + 1, none⟩ = some (.int .i64 (z.getD i (0, 0)).2)
theorem steps_of {w : World} {a : Option Addr} {len cap : Nat} {z : List (Int × Int)} (h : IsRecs_ii w a len cap z) : Steps w a len cap z := by
  rcases h with ⟨rfl, rfl, rfl, rfl⟩ | ⟨x, rfl, hl, hm, hz, hc, hw⟩
  · exact ⟨by omega, by omega, fun i hi => by omega⟩
  · refine ⟨hl, by unfold maxLen at hm; omega, fun i hi => ?_⟩
    obtain ⟨c0, c1⟩ := hc i (by omega)
    rw [add_fld _ _ _ (by omega)] at c1
    exact ⟨x, rfl, c0, c1⟩
/-- The window that has what the reference's one has. -/
def nof (r : WN) : WN := ⟨r.span, r.top, lf r.span r.top r.l⟩
def radd2 (r : WN) (at' : Int) : WN := ⟨r.span, max r.top (cut (tick (nof r) at')), (nof r).l ++ [tick (nof r) at']⟩
def rcnt2 (r : WN) (now : Int) : WN := ⟨r.span, max r.top (cut now), r.l⟩
def rres2 (r : WN) : WN := ⟨r.span, r.top, []⟩
theorem nof_add (r : WN) (at' : Int) : nof (radd2 r at') = addw (nof r) at' := rfl
theorem nof_cnt (r : WN) (now : Int) : nof (rcnt2 r now) = cnt (nof r) now ∧ cntN r now = cntN (nof r) now := by
  have e : lf r.span (max r.top (cut now)) (lf r.span r.top r.l) = lf r.span (max r.top (cut now)) r.l := lf_lf _ _ _ (by omega) _
  constructor
  · unfold nof rcnt2 cnt; dsimp only; rw [e]
  · unfold cntN cnt nof; dsimp only; rw [e]
theorem nof_res (r : WN) : nof (rres2 r) = { nof r with l := [] } := rfl
def RA2 (r : WN) (at' : Int) (w : World) (e : Ending) (w' : World) : Prop :=
  ∃ A c, e = .returned (.tuple #[.agg (rwc (radd2 r at') A c), .int .i64 (addN (nof r) at' : Nat)]) ∧ Below w.heap.size w w' ∧ IR w' w.heap.size A (radd2 r at').l
/-- A window and the reference's one, in memory. -/
structure StP (W w : World) (g b : Nat) (r : WN) (k : Nat) : Prop where
  gb : g < b
  gW : W.heap.size ≤ g
  ow : OW w (b + 1) g (nof r)
  rb : ∃ A c, Blk w b 32 (rwc r A c) ∧ IR w (b + 1) A r.l
  ok : Ok r.l
  wf : WF (nof r)
  len : r.l.length ≤ k
  below : Below W.heap.size W w
  hB : b + 1 ≤ w.heap.size
theorem StP.flat {W w : World} {g b : Nat} {r : WN} {k : Nat} (h : StP W w g b r k) : WF ⟨r.span, r.top, []⟩ := ⟨h.wf.s1, h.wf.s2, h.wf.t1, h.wf.t2, by simp⟩
theorem StP.nlen {W w : World} {g b : Nat} {r : WN} {k : Nat} (h : StP W w g b r k) : (nof r).l.length ≤ k := Nat.le_trans (lf_le _ _ _) h.len
theorem StP.keep {W w w' : World} {g b : Nat} {r : WN} {k : Nat} (h : StP W w g b r k) (hb : Below w.heap.size w w') : StP W w' g b r k := by
  obtain ⟨A, c, h1, h2⟩ := h.rb
  exact ⟨h.gb, h.gW, h.ow.keep hb, ⟨A, c, h1.below hb h1.lt, h2.keep hb⟩, h.ok, h.wf, h.len, h.below.trans (hb.mono h.below.size), Nat.le_trans h.hB hb.size⟩
theorem StP.mono {W w : World} {g b : Nat} {r : WN} {k k' : Nat} (h : StP W w g b r k) (hk : k ≤ k') : StP W w g b r k' := ⟨h.gb, h.gW, h.ow, h.rb, h.ok, h.wf, Nat.le_trans h.len hk, h.below, h.hB⟩
theorem ok_tick {r : WN} (h : Ok r.l) (at' : Int) : Ok (radd2 r at').l := fun x hx => by
  have hc := cut_in at'
  have hn : Ok (nof r).l := ok_lf h _ _
  rcases List.mem_append.1 hx with hx | hx
  · exact hn x hx
  · simp at hx
    rw [hx]; unfold tick
    by_cases h0 : (nof r).l = []
    · rw [if_pos h0]; exact hc
    · rw [if_neg h0]
      cases hh : (nof r).l.getLast? with
      | none => exact absurd (List.getLast?_eq_none_iff.1 hh) h0
      | some v =>
        have := hn v (List.mem_of_getLast? hh)
        have e : (some v).getD 0 = v := rfl
        rw [e]; omega
theorem StP.start {W w : World} {g : Nat} (n : Int) (hb : Below W.heap.size W w) (hg : w.heap.size = g) (w2 : World) (hb2 : Below (w.alloc (.cells #[.int .i64 (long n), .int .i64 0, .slice none 0 0] 49)).heap.size (w.alloc (.cells #[.int .i64 (long n), .int .i64 0, .slice none 0 0] 49)) w2) :
    StP W (w2.alloc (.cells #[.int .i64 (long n), .slice none 0 0, .int .i64 0] 32)) g w2.heap.size ⟨long n, 0, []⟩ 0 := by
  subst hg
  have hs := hb2.size
  simp at hs
  have h1 := ((new_ow n w (w2.heap.size + 1) (by omega)).keep hb2).keep ((Below.refl w2.heap.size w2).alloc (Nat.le_refl _) (.cells #[.int .i64 (long n), .slice none 0 0, .int .i64 0] 32))
  refine ⟨by omega, hb.size, h1, ⟨none, 0, Blk.new w2 _ _, fun j hj => absurd hj (Nat.not_lt_zero _)⟩, (fun x hx => by cases hx), wf_new n, Nat.le_refl _, ?_, by simp⟩
  exact (((hb.alloc hb.size _).trans (hb2.mono (by have := hb.size; simp; omega))).alloc (by have := hb.size; omega) _)
end Go.Proofs.Ytgonoccacbbhjaa
