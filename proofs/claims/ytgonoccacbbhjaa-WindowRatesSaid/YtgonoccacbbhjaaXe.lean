/- A window's ticks as they are told, and the numbers that came in: over this seat's translation. -/
import Derived.Test.YtgonoccacbbhjaaXd
namespace Go.Proofs.Ytgonoccacbbhjaa
open Go.ChangeShapes Go.WideShapes Go.ChangeAt Go.RowKit
set_option linter.unusedVariables false
/-- A window's ticks as they are told: the numbers that don't fall; the greatest is told last. -/
structure Told (n : WN) (at' : Int) : Prop where
  f : WF n
  top : n.top = cut at'
  le : ∀ x ∈ n.l, x ≤ cut at'
  ge : ∀ x ∈ n.l, 0 ≤ x
theorem told_tick {n : WN} {a b : Int} (h : Told n a) (ha : 0 ≤ a) (hb : b ≤ 1099511627776) (hab : a ≤ b) : tick n b = b := by
  have hc : cut b = b := by unfold cut; omega
  have hca : cut a = a := by unfold cut; omega
  unfold tick
  by_cases h0 : n.l = []
  · rw [if_pos h0, hc]
  · rw [if_neg h0, hc]
    have hm : n.l.getLast?.getD 0 ≤ b := by
      obtain ⟨x, hx⟩ : ∃ x, n.l.getLast? = some x := by
        cases hh : n.l.getLast? with
        | none => exact absurd (List.getLast?_eq_none_iff.1 hh) h0
        | some x => exact ⟨x, rfl⟩
      rw [hx]
      have := h.le x (List.mem_of_getLast? hx)
      show x ≤ b
      omega
    omega
theorem told_add {n : WN} {a b : Int} (h : Told n a) (ha : 0 ≤ a) (hb : b ≤ 1099511627776) (hab : a ≤ b) :
    addw n b = ⟨n.span, b, lf n.span b (n.l ++ [b])⟩ ∧ addN n b = (lf n.span b (n.l ++ [b])).length ∧ 1 ≤ addN n b ∧ Told (addw n b) b := by
  have hc : cut b = b := by unfold cut; omega
  have hca : cut a = a := by unfold cut; omega
  have ht := told_tick h ha hb hab
  have hmx : max n.top b = b := by rw [h.top]; omega
  have e1 : addw n b = ⟨n.span, b, lf n.span b (n.l ++ [b])⟩ := by
    unfold addw cnt put; dsimp only; rw [ht, hc, hmx]
  have e2 : addN n b = (lf n.span b (n.l ++ [b])).length := by
    have e3 : addN n b = (lf n.span (cut (tick n b)) (addw n b).l).length := rfl
    rw [e3, e1, ht, hc]; dsimp only; rw [lf_lf _ _ _ (Int.le_refl _)]
  refine ⟨e1, e2, ?_, wf_add h.f b, by rw [e1, hc], ?_, ?_⟩
  · have := h.f.s1
    rw [e2, lf_app, List.length_append, lf_cons, if_pos (by omega)]; simp [lf]
  · rw [e1, hc]; intro x hx
    have hx := (lf_mem hx).1
    rcases List.mem_append.1 hx with hx | hx
    · have := h.le x hx; omega
    · simp at hx; omega
  · rw [e1]; intro x hx
    have hx := (lf_mem hx).1
    rcases List.mem_append.1 hx with hx | hx
    · exact h.ge x hx
    · simp at hx; omega
theorem told_new (n : Int) : Told ⟨long n, 0, []⟩ 0 := ⟨wf_new n, rfl, by simp, by simp⟩
theorem told_len {n : WN} {a b : Int} (h : Told n a) (ha : 0 ≤ a) (hb : b ≤ 1099511627776) (hab : a ≤ b) : (addw n b).l.length = addN n b := by
  obtain ⟨e1, e2, _, _⟩ := told_add h ha hb hab
  rw [e1, e2]
theorem told_cnt {n : WN} {a b : Int} (h : Told n a) (ha : 0 ≤ a) (hb : b ≤ 1099511627776) (hab : a ≤ b) :
    cnt n b = ⟨n.span, b, lf n.span b n.l⟩ ∧ cntN n b = (cnt n b).l.length ∧ Told (cnt n b) b := by
  have hc : cut b = b := by unfold cut; omega
  have hca : cut a = a := by unfold cut; omega
  have hmx : max n.top b = b := by rw [h.top]; omega
  have e1 : cnt n b = ⟨n.span, b, lf n.span b n.l⟩ := by unfold cnt; rw [hc, hmx]
  have e2 : cntN n b = (cnt n b).l.length := by unfold cntN; rw [e1, hc]; dsimp only; rw [lf_lf _ _ _ (Int.le_refl _)]
  refine ⟨e1, e2, wf_cnt h.f b, by rw [e1, hc], ?_, ?_⟩
  · rw [e1, hc]; intro x hx
    have := h.le x (lf_mem hx).1
    omega
  · rw [e1]; intro x hx
    exact h.ge x (lf_mem hx).1
theorem told_end {n : WN} {a : Int} (h : Told n a) (ha : 0 ≤ a) (hb : a + n.span ≤ 1099511627776) : cntN n (a + n.span) = 0 ∧ (cnt n (a + n.span)).l.length = 0 := by
  have s1 := h.f.s1
  have hca : cut a = a := by unfold cut; omega
  obtain ⟨e1, e2, _⟩ := told_cnt h ha hb (by omega : a ≤ a + n.span)
  have e3 : lf n.span (a + n.span) n.l = [] := by
    unfold lf; rw [List.filter_eq_nil_iff]
    intro x hx
    have := h.le x hx
    simp; omega
  rw [e2, e1]; dsimp only; rw [e3]; exact ⟨rfl, rfl⟩
/-- A number's rest by m. -/
def rst (m x : Int) : Int := (IntKind.u64.wrap x).tmod m
theorem rst_bd (m x : Int) (hm : 0 < m) : 0 ≤ rst m x ∧ rst m x < m := by
  have h0 : 0 ≤ IntKind.u64.wrap x := by rw [IntKind.wrap_u64]; omega
  exact ⟨Int.tmod_nonneg m h0, Int.tmod_lt_of_pos _ hm⟩
/-- A slice of numbers that came in. -/
structure Nums (w : World) (a : Option Addr) (len cap : Nat) (z : List Int) : Prop where
  lc : len ≤ cap
  lm : len ≤ 9223372036854775807
  at' : ∀ k, k < len → ∃ x, a = some x ∧ x.block < w.heap.size ∧ w.cell? (x.add k) = some (.int .i64 (z.getD k 0))
theorem nums_of {w : World} {a : Option Addr} {len cap : Nat} {z : List Int} (h : IsRow .i64 w a len cap z) : Nums w a len cap z := by
  rcases h with ⟨_, rfl, _, rfl⟩ | ⟨x, rfl, hl, hm, hz, hc, hw⟩
  · exact ⟨Nat.zero_le _, Nat.zero_le _, fun k hk => by omega⟩
  · refine ⟨hl, by unfold maxLen at hm; omega, fun k hk => ⟨x, rfl, ?_, hc k (by omega)⟩⟩
    have := cell_lt (hc k (by omega))
    rwa [block_add] at this
end Go.Proofs.Ytgonoccacbbhjaa
