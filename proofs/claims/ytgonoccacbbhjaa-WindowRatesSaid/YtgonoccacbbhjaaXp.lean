/- A window's numbers, plainly: what is of late in a row of ticks that don't fall. No function of the program. -/
import Derived.Test.YtgonoccacbbhjaaA
namespace Go.Proofs.Ytgonoccacbbhjaa
set_option linter.unusedVariables false
/-- The ticks of late at 'top'. -/
def lf (s top : Int) (l : List Int) : List Int := l.filter fun x => decide (top < x + s)
/-- How many are ahead of those of late. -/
def cb (s top : Int) (l : List Int) : Nat := l.countP fun x => decide (x < top - s + 1)
abbrev Up (l : List Int) : Prop := l.Pairwise (· ≤ ·)
theorem up_tail {x : Int} {l : List Int} (h : Up (x :: l)) : Up l := (List.pairwise_cons.1 h).2
theorem lf_cons (s top x : Int) (l : List Int) : lf s top (x :: l) = if top < x + s then x :: lf s top l else lf s top l := by
  unfold lf; rw [List.filter_cons]; by_cases h : top < x + s <;> simp [h]
theorem cb_cons (s top x : Int) (l : List Int) : cb s top (x :: l) = if top < x + s then cb s top l else cb s top l + 1 := by
  unfold cb; rw [List.countP_cons]
  by_cases h : top < x + s
  · rw [if_pos h, if_neg (by simp; omega)]; rfl
  · rw [if_neg h, if_pos (by simp; omega)]
theorem lf_all {s top : Int} : ∀ {l : List Int}, (∀ x ∈ l, top < x + s) → lf s top l = l
  | [], _ => rfl
  | x :: l, h => by rw [lf_cons, if_pos (h x (by simp)), lf_all fun y hy => h y (by simp [hy])]
theorem drop_cb (s top : Int) : ∀ (l : List Int), Up l → l.drop (cb s top l) = lf s top l
  | [], _ => rfl
  | x :: l, h => by
    rw [lf_cons, cb_cons]
    by_cases hx : top < x + s
    · have e : cb s top l = 0 := by
        unfold cb; rw [List.countP_eq_zero]
        intro y hy
        have := (List.pairwise_cons.1 h).1 y hy
        simp; omega
      have e2 : lf s top l = l := lf_all fun y hy => by have := (List.pairwise_cons.1 h).1 y hy; omega
      rw [if_pos hx, if_pos hx, e, e2]; rfl
    · rw [if_neg hx, if_neg hx]
      exact drop_cb s top l (up_tail h)
theorem cb_le (s top : Int) (l : List Int) : cb s top l ≤ l.length := List.countP_le_length
theorem lf_len (s top : Int) : ∀ l : List Int, (lf s top l).length = l.length - cb s top l
  | [] => rfl
  | x :: l => by
    have := lf_len s top l
    have := cb_le s top l
    rw [lf_cons, cb_cons]; split <;> simp only [List.length_cons] <;> omega
theorem lf_le (s top : Int) (l : List Int) : (lf s top l).length ≤ l.length := List.length_filter_le _ _
theorem lf_up {s top : Int} {l : List Int} (h : Up l) : Up (lf s top l) := h.filter _
theorem lf_app (s top : Int) (a b : List Int) : lf s top (a ++ b) = lf s top a ++ lf s top b := by unfold lf; rw [List.filter_append]
theorem lf_mem {s top x : Int} {l : List Int} (h : x ∈ lf s top l) : x ∈ l ∧ top < x + s := by
  unfold lf at h; rw [List.mem_filter] at h; exact ⟨h.1, by simpa using h.2⟩
theorem lf_lf (s t u : Int) (h : t ≤ u) (l : List Int) : lf s u (lf s t l) = lf s u l := by
  unfold lf; rw [List.filter_filter]
  congr 1; funext x
  by_cases hx : u < x + s
  · simp [hx]; omega
  · simp [hx]
/-- A later time, or a lesser length, leaves no more. -/
theorem lf_mono (s t s' t' : Int) (h : ∀ x : Int, t' < x + s' → t < x + s) (l : List Int) : (lf s' t' l).length ≤ (lf s t l).length := by
  induction l with
  | nil => exact Nat.le_refl _
  | cons x l ih =>
    rw [lf_cons, lf_cons]
    by_cases a : t' < x + s'
    · rw [if_pos a, if_pos (h x a)]; simpa using ih
    · rw [if_neg a]; split
      · simp only [List.length_cons]; omega
      · exact ih
theorem last_up : ∀ {l : List Int}, Up l → ∀ x ∈ l, x ≤ l.getLast?.getD 0
  | [], _, x, hx => by cases hx
  | [y], _, x, hx => by simp at hx; simp [hx]
  | y :: z :: l, h, x, hx => by
    rw [List.getLast?_cons_cons]
    rcases List.mem_cons.1 hx with rfl | hx
    · exact Int.le_trans ((List.pairwise_cons.1 h).1 z (by simp)) (last_up (up_tail h) z (by simp))
    · exact last_up (up_tail h) x hx
theorem up_snoc {l : List Int} (h : Up l) (x : Int) (hx : l.getLast?.getD 0 ≤ x) : Up (l ++ [x]) := by
  show List.Pairwise _ _
  rw [List.pairwise_append]
  exact ⟨h, by simp, fun a ha b hb => by simp at hb; subst hb; exact Int.le_trans (last_up h a ha) hx⟩
/-- A window's numbers: how long, the greatest tick, the ticks. -/
structure WN where
  span : Int
  top : Int
  l : List Int
def long (n : Int) : Int := min (max n 1) 1048576
structure WF (n : WN) : Prop where
  s1 : 1 ≤ n.span
  s2 : n.span ≤ 1048576
  t1 : 0 ≤ n.top
  t2 : n.top ≤ 1099511627776
  up : Up n.l
def cnt (n : WN) (now : Int) : WN := { n with top := max n.top (cut now), l := lf n.span (max n.top (cut now)) n.l }
def cntN (n : WN) (now : Int) : Nat := (lf n.span (cut now) (cnt n now).l).length
def tick (n : WN) (at' : Int) : Int := if n.l = [] then cut at' else max (cut at') (n.l.getLast?.getD 0)
def put (n : WN) (at' : Int) : WN := { n with l := n.l ++ [tick n at'] }
def addw (n : WN) (at' : Int) : WN := cnt (put n at') (tick n at')
def addN (n : WN) (at' : Int) : Nat := cntN (put n at') (tick n at')
theorem long_bd (n : Int) : 1 ≤ long n ∧ long n ≤ 1048576 := by unfold long; omega
theorem wf_new (n : Int) : WF ⟨long n, 0, []⟩ := ⟨(long_bd n).1, (long_bd n).2, by simp, by simp, by simp⟩
theorem cut_in (n : Int) : 0 ≤ cut n ∧ cut n ≤ 1099511627776 := by unfold cut; omega
theorem wf_cnt {n : WN} (h : WF n) (now : Int) : WF (cnt n now) := by
  obtain ⟨a, b, c, d, e⟩ := h
  have := cut_in now
  exact ⟨a, b, by unfold cnt; dsimp only; omega, by unfold cnt; dsimp only; omega, lf_up e⟩
theorem tick_ge {n : WN} (h : WF n) (at' : Int) : n.l ≠ [] → n.l.getLast?.getD 0 ≤ tick n at' := by
  intro hl; unfold tick; rw [if_neg hl]; omega
theorem wf_put {n : WN} (h : WF n) (at' : Int) : WF (put n at') := by
  have hg := tick_ge h at'
  obtain ⟨a, b, c, d, e⟩ := h
  refine ⟨a, b, c, d, ?_⟩
  by_cases hl : n.l = []
  · unfold put; dsimp only; rw [hl]; simp
  · exact up_snoc e _ (hg hl)
theorem wf_add {n : WN} (h : WF n) (at' : Int) : WF (addw n at') := wf_cnt (wf_put h at') _
theorem cnt_len (n : WN) (now : Int) : (cnt n now).l.length ≤ n.l.length := lf_le _ _ _
theorem add_len (n : WN) (at' : Int) : (addw n at').l.length ≤ n.l.length + 1 := by
  refine Nat.le_trans (cnt_len _ _) ?_
  unfold put; simp
end Go.Proofs.Ytgonoccacbbhjaa
