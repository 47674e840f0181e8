/- How the arguments of this seat's laws are opened: a slice of numbers, of texts, of structs, an array, a struct by value: what each of their cells holds. No function of the program. -/
import Derived.Test.YtghcgnahdeaofaaH
import Derived.SliceStrings
import Derived.Deep.Slices
import Derived.Deep.Fields
import Derived.Lib.SmallJoins
namespace Go.Proofs.Ytghcgnahdeaofaa
open Go.ChangeShapes Go.WideShapes Go.ChangeAt Go.RowKit Go.Deep Go.Joins

/-- A slice of numbers that came in: nil, or a row of its capacity's cells. -/
def IsRow (k : IntKind) (w : World) (a : Option Addr) (len cap : Nat) (zs : List Int) : Prop :=
  (a = none ∧ len = 0 ∧ cap = 0 ∧ zs = []) ∨
  ∃ x, a = some x ∧ len ≤ cap ∧ cap ≤ maxLen ∧ zs.length = cap ∧ (∀ i, i < zs.length → w.cell? (x.add i) = some (.int k (zs.getD i 0))) ∧ ∀ n ∈ zs, (Lit.int k n).wf = true
/-- A slice of texts that came in. -/
def IsStrs (w : World) (a : Option Addr) (len cap : Nat) (zs : List ByteArray) : Prop :=
  (a = none ∧ len = 0 ∧ cap = 0 ∧ zs = []) ∨
  ∃ x, a = some x ∧ len ≤ cap ∧ cap ≤ maxLen ∧ zs.length = cap ∧ (∀ i, i < zs.length → w.cell? (x.add i) = some (.string (zs.getD i ByteArray.empty))) ∧ ∀ s ∈ zs, s.size ≤ maxLen
/-- A slice of structs of three numbers. -/
def IsRecs_iii (w : World) (a : Option Addr) (len cap : Nat) (zs : List (Int × Int × Int)) : Prop :=
  (a = none ∧ len = 0 ∧ cap = 0 ∧ zs = []) ∨
  ∃ x, a = some x ∧ len ≤ cap ∧ cap ≤ maxLen ∧ zs.length = cap ∧
    (∀ i, i < zs.length → w.cell? (x.add (i * 3)) = some (.int .i64 (zs.getD i (0, 0, 0)).1) ∧ w.cell? (x.add (i * 3 + 1)) = some (.int .i64 (zs.getD i (0, 0, 0)).2.1) ∧ w.cell? (x.add (i * 3 + 2)) = some (.int .i64 (zs.getD i (0, 0, 0)).2.2)) ∧
    ∀ i, i < zs.length → (Lit.int .i64 (zs.getD i (0, 0, 0)).1).wf = true ∧ (Lit.int .i64 (zs.getD i (0, 0, 0)).2.1).wf = true ∧ (Lit.int .i64 (zs.getD i (0, 0, 0)).2.2).wf = true
/-- A slice of structs of two numbers. -/
def IsRecs_ii (w : World) (a : Option Addr) (len cap : Nat) (zs : List (Int × Int)) : Prop :=
  (a = none ∧ len = 0 ∧ cap = 0 ∧ zs = []) ∨
  ∃ x, a = some x ∧ len ≤ cap ∧ cap ≤ maxLen ∧ zs.length = cap ∧
    (∀ i, i < zs.length → w.cell? (x.add (i * 2)) = some (.int .i64 (zs.getD i (0, 0)).1) ∧ w.cell? (x.add (i * 2 + 1)) = some (.int .i64 (zs.getD i (0, 0)).2)) ∧
    ∀ i, i < zs.length → (Lit.int .i64 (zs.getD i (0, 0)).1).wf = true ∧ (Lit.int .i64 (zs.getD i (0, 0)).2).wf = true
/-- A slice of structs of a number and a text. -/
def IsRecs_is (w : World) (a : Option Addr) (len cap : Nat) (zs : List (Int × ByteArray)) : Prop :=
  (a = none ∧ len = 0 ∧ cap = 0 ∧ zs = []) ∨
  ∃ x, a = some x ∧ len ≤ cap ∧ cap ≤ maxLen ∧ zs.length = cap ∧
    (∀ i, i < zs.length → w.cell? (x.add (i * 2)) = some (.int .i64 (zs.getD i (0, ByteArray.empty)).1) ∧ w.cell? (x.add (i * 2 + 1)) = some (.string (zs.getD i (0, ByteArray.empty)).2)) ∧
    ∀ i, i < zs.length → (Lit.int .i64 (zs.getD i (0, ByteArray.empty)).1).wf = true ∧ (zs.getD i (0, ByteArray.empty)).2.size ≤ maxLen

section
variable {H : Type} {enc : TypeId × Value → H} {P : Program} {w : World} {held : Bool} {d : DataW H} {p : List MemPlace}
theorem open_row {t e : TypeId} {k : IntKind} {a : Option Addr} {len cap : Nat} (ht : P.underlying t = some (.slice e)) (he : P.underlying e = some (.int k)) (hc : P.cellsOf e = 1)
    (h : DataW.Trod enc P w 0 (fun _ => true) held t (.slice a len cap) d p) : ∃ zs, IsRow k w a len cap zs := by
  obtain ⟨fuel, hf⟩ := h
  rcases open_ints ht he hc hf with ⟨hcs, _⟩ | ⟨x, l, c, zs, hcs, _, hl, hm, hz, _, hcell, hwz⟩
  · simp [Value.cells] at hcs
    obtain ⟨rfl, rfl, rfl⟩ := hcs
    exact ⟨[], .inl ⟨rfl, rfl, rfl, rfl⟩⟩
  · simp [Value.cells] at hcs
    obtain ⟨rfl, rfl, rfl⟩ := hcs
    exact ⟨zs, .inr ⟨_, rfl, hl, hm, by simpa using hz, hcell, hwz⟩⟩
theorem open_strs_row {t e : TypeId} {a : Option Addr} {len cap : Nat} (ht : P.underlying t = some (.slice e)) (he : P.underlying e = some .string) (hc : P.cellsOf e = 1)
    (h : DataW.Trod enc P w 0 (fun _ => true) held t (.slice a len cap) d p) : ∃ zs, IsStrs w a len cap zs := by
  obtain ⟨fuel, hf⟩ := h
  rcases open_strings ht he hc hf with ⟨hcs, _⟩ | ⟨x, l, c, zs, hcs, _, hl, hm, hz, _, hcell, hwz⟩
  · simp [Value.cells] at hcs
    obtain ⟨rfl, rfl, rfl⟩ := hcs
    exact ⟨[], .inl ⟨rfl, rfl, rfl, rfl⟩⟩
  · simp [Value.cells] at hcs
    obtain ⟨rfl, rfl, rfl⟩ := hcs
    exact ⟨zs, .inr ⟨_, rfl, hl, hm, by simpa using hz, hcell, hwz⟩⟩
theorem add_of_add (a : Addr) (i j : Nat) : (a.add i).add j = a.add (i + j) := by
  unfold Addr.add
  by_cases hi : i = 0 <;> by_cases hj : j = 0 <;> simp [hi, hj, Nat.add_assoc]
theorem pick {α : Type} (n : Nat) (p : Nat → α → Prop) (h : ∀ i, i < n → ∃ x, p i x) (z : α) : ∃ l : List α, l.length = n ∧ ∀ i, i < n → p i (l.getD i z) := by
  induction n with
  | zero => exact ⟨[], rfl, fun i hi => absurd hi (by omega)⟩
  | succ n ih =>
    obtain ⟨l, hl, hp⟩ := ih fun i hi => h i (by omega)
    obtain ⟨x, hx⟩ := h n (by omega)
    refine ⟨l ++ [x], by simp [hl], fun i hi => ?_⟩
    by_cases e : i < n
    · have := hp i e
      simp only [List.getD_eq_getElem?_getD] at this ⊢
      rw [List.getElem?_append_left (by omega)]; exact this
    · obtain rfl : i = n := by omega
      simp only [List.getD_eq_getElem?_getD]
      rw [List.getElem?_append_right (by omega), hl]; simpa using hx
/-- The cells of one struct of the slice, field by field. -/
theorem open_fields {t e : TypeId} {fs : Array Field} {fuel : Nat} {cs : List Value} {x : DataW H × List MemPlace} (ht : P.underlying t = some (.slice e)) (he : P.underlying e = some (.struct fs))
    (hone : oneCellFields P fs = true) (hC : P.cellsOf e = fs.size) (h : DataW.trod enc P w 0 (fun _ => true) held fuel t cs = some x) :
    (cs = [.slice none 0 0]) ∨
    ∃ (a : Addr) (len cap : Nat), cs = [.slice (some a) len cap] ∧ len ≤ cap ∧ cap ≤ maxLen ∧
      ∀ i, i < cap → ∃ n : Nat, ∀ (j : Nat) (f : Field), fs[j]? = some f → ∃ (v : Value) (y : DataW H × List MemPlace), w.cell? (a.add (i * fs.size + j)) = some v ∧ DataW.trod enc P w 0 (fun _ => true) held n f.type [v] = some y := by
  rcases open_slice ht h with ⟨h0, _⟩ | ⟨a, len, cap, m, n, D, Pl, hcs, hb, hl, hm, hmm, hx, hi⟩
  · exact .inl h0
  · refine .inr ⟨a, len, cap, hcs, hl, hm, fun i hic => ?_⟩
    obtain ⟨cs', hc, ht'⟩ := hi i (by simpa [hmm] using hic)
    obtain ⟨_, hcl, hat⟩ := World.cells?_some hc
    obtain ⟨ys, n', _, _, _, hyl, hf⟩ := DataW.trod_struct he ht'
    refine ⟨n', fun j f hj => ?_⟩
    obtain ⟨ho, hk⟩ := hone_of hone j f hj
    have hjl : j < fs.size := (Array.getElem?_eq_some_iff.1 hj).1
    have hjc : j < cs'.length := by omega
    have h1 := hf j f hj
    rw [ho, hk, List.drop_eq_getElem_cons hjc] at h1
    have hy : ys[j]? = some (ys[j]'(by omega)) := List.getElem?_eq_getElem (by omega)
    refine ⟨cs'[j], _, ?_, h1.trans hy⟩
    have hcell := hat j (by omega)
    rw [add_of_add, hC] at hcell
    rw [hcell, List.getElem?_eq_getElem hjc]
theorem open_recs_iii {t e ta tb tc : TypeId} {fa fb fc : Field} {a : Option Addr} {len cap : Nat} (ht : P.underlying t = some (.slice e)) (he : P.underlying e = some (.struct #[fa, fb, fc]))
    (hone : oneCellFields P #[fa, fb, fc] = true) (hC : P.cellsOf e = 3) (ia : P.underlying ta = some (.int .i64)) (ib : P.underlying tb = some (.int .i64)) (ic : P.underlying tc = some (.int .i64))
    (h : DataW.Trod enc P w 0 (fun _ => true) held t (.slice a len cap) d p) (ea : fa.type = ta := by rfl) (eb : fb.type = tb := by rfl) (ec : fc.type = tc := by rfl) : ∃ zs, IsRecs_iii w a len cap zs := by
  subst ea eb ec
  obtain ⟨fuel, hf⟩ := h
  rcases open_fields ht he hone hC hf with hcs | ⟨x, l, c, hcs, hl, hm, hi⟩
  · simp [Value.cells] at hcs
    obtain ⟨rfl, rfl, rfl⟩ := hcs
    exact ⟨[], .inl ⟨rfl, rfl, rfl, rfl⟩⟩
  · simp [Value.cells] at hcs
    obtain ⟨rfl, rfl, rfl⟩ := hcs
    obtain ⟨zs, hz, hp⟩ := pick cap (fun i (z : Int × Int × Int) => (w.cell? (x.add (i * 3)) = some (.int .i64 z.1) ∧ w.cell? (x.add (i * 3 + 1)) = some (.int .i64 z.2.1) ∧ w.cell? (x.add (i * 3 + 2)) = some (.int .i64 z.2.2)) ∧ ((Lit.int .i64 z.1).wf = true ∧ (Lit.int .i64 z.2.1).wf = true ∧ (Lit.int .i64 z.2.2).wf = true)) (fun i hic => by
      obtain ⟨n, hn⟩ := hi i hic
      obtain ⟨v0, y0, c0, t0⟩ := hn 0 fa rfl
      obtain ⟨v1, y1, c1, t1⟩ := hn 1 fb rfl
      obtain ⟨v2, y2, c2, t2⟩ := hn 2 fc rfl
      obtain ⟨n0, e0, _, g0⟩ := DataW.trod_int ia t0
      obtain ⟨n1, e1, _, g1⟩ := DataW.trod_int ib t1
      obtain ⟨n2, e2, _, g2⟩ := DataW.trod_int ic t2
      obtain rfl : v0 = _ := by simpa using e0
      obtain rfl : v1 = _ := by simpa using e1
      obtain rfl : v2 = _ := by simpa using e2
      exact ⟨(n0, n1, n2), ⟨by simpa using c0, by simpa using c1, by simpa using c2⟩, g0, g1, g2⟩) (0, 0, 0)
    exact ⟨zs, .inr ⟨x, rfl, hl, hm, hz, fun i hlt => (hp i (by omega)).1, fun i hlt => (hp i (by omega)).2⟩⟩
theorem open_recs_ii {t e ta tb : TypeId} {fa fb : Field} {a : Option Addr} {len cap : Nat} (ht : P.underlying t = some (.slice e)) (he : P.underlying e = some (.struct #[fa, fb]))
    (hone : oneCellFields P #[fa, fb] = true) (hC : P.cellsOf e = 2) (ia : P.underlying ta = some (.int .i64)) (ib : P.underlying tb = some (.int .i64))
    (h : DataW.Trod enc P w 0 (fun _ => true) held t (.slice a len cap) d p) (ea : fa.type = ta := by rfl) (eb : fb.type = tb := by rfl) : ∃ zs, IsRecs_ii w a len cap zs := by
  subst ea eb
  obtain ⟨fuel, hf⟩ := h
  rcases open_fields ht he hone hC hf with hcs | ⟨x, l, c, hcs, hl, hm, hi⟩
  · simp [Value.cells] at hcs
    obtain ⟨rfl, rfl, rfl⟩ := hcs
    exact ⟨[], .inl ⟨rfl, rfl, rfl, rfl⟩⟩
  · simp [Value.cells] at hcs
    obtain ⟨rfl, rfl, rfl⟩ := hcs
    obtain ⟨zs, hz, hp⟩ := pick cap (fun i (z : Int × Int) => (w.cell? (x.add (i * 2)) = some (.int .i64 z.1) ∧ w.cell? (x.add (i * 2 + 1)) = some (.int .i64 z.2)) ∧ ((Lit.int .i64 z.1).wf = true ∧ (Lit.int .i64 z.2).wf = true)) (fun i hic => by
      obtain ⟨n, hn⟩ := hi i hic
      obtain ⟨v0, y0, c0, t0⟩ := hn 0 fa rfl
      obtain ⟨v1, y1, c1, t1⟩ := hn 1 fb rfl
      obtain ⟨n0, e0, _, g0⟩ := DataW.trod_int ia t0
      obtain ⟨n1, e1, _, g1⟩ := DataW.trod_int ib t1
      obtain rfl : v0 = _ := by simpa using e0
      obtain rfl : v1 = _ := by simpa using e1
      exact ⟨(n0, n1), ⟨by simpa using c0, by simpa using c1⟩, g0, g1⟩) (0, 0)
    exact ⟨zs, .inr ⟨x, rfl, hl, hm, hz, fun i hlt => (hp i (by omega)).1, fun i hlt => (hp i (by omega)).2⟩⟩
theorem open_recs_is {t e ta tb : TypeId} {fa fb : Field} {a : Option Addr} {len cap : Nat} (ht : P.underlying t = some (.slice e)) (he : P.underlying e = some (.struct #[fa, fb]))
    (hone : oneCellFields P #[fa, fb] = true) (hC : P.cellsOf e = 2) (ia : P.underlying ta = some (.int .i64)) (ib : P.underlying tb = some .string)
    (h : DataW.Trod enc P w 0 (fun _ => true) held t (.slice a len cap) d p) (ea : fa.type = ta := by rfl) (eb : fb.type = tb := by rfl) : ∃ zs, IsRecs_is w a len cap zs := by
  subst ea eb
  obtain ⟨fuel, hf⟩ := h
  rcases open_fields ht he hone hC hf with hcs | ⟨x, l, c, hcs, hl, hm, hi⟩
  · simp [Value.cells] at hcs
    obtain ⟨rfl, rfl, rfl⟩ := hcs
    exact ⟨[], .inl ⟨rfl, rfl, rfl, rfl⟩⟩
  · simp [Value.cells] at hcs
    obtain ⟨rfl, rfl, rfl⟩ := hcs
    obtain ⟨zs, hz, hp⟩ := pick cap (fun i (z : Int × ByteArray) => (w.cell? (x.add (i * 2)) = some (.int .i64 z.1) ∧ w.cell? (x.add (i * 2 + 1)) = some (.string z.2)) ∧ ((Lit.int .i64 z.1).wf = true ∧ z.2.size ≤ maxLen)) (fun i hic => by
      obtain ⟨n, hn⟩ := hi i hic
      obtain ⟨v0, y0, c0, t0⟩ := hn 0 fa rfl
      obtain ⟨v1, y1, c1, t1⟩ := hn 1 fb rfl
      obtain ⟨n0, e0, _, g0⟩ := DataW.trod_int ia t0
      obtain ⟨n1, e1, _, g1⟩ := DataW.trod_string ib t1
      obtain rfl : v0 = _ := by simpa using e0
      obtain rfl : v1 = _ := by simpa using e1
      exact ⟨(n0, n1), ⟨by simpa using c0, by simpa using c1⟩, g0, g1⟩) (0, ByteArray.empty)
    exact ⟨zs, .inr ⟨x, rfl, hl, hm, hz, fun i hlt => (hp i (by omega)).1, fun i hlt => (hp i (by omega)).2⟩⟩
variable {base : Nat} {spare : Nat → Bool}
theorem open_val_iii {r : Reach} {b0 : Nat} {t ta tb tc : TypeId} {fa fb fc : Field} {v : Value} (hs : P.underlying t = some (.struct #[fa, fb, fc])) (hone : oneCellFields P #[fa, fb, fc] = true) (hC : P.cellsOf t = 3)
    (ia : P.underlying ta = some (.int .i64)) (ib : P.underlying tb = some (.int .i64)) (ic : P.underlying tc = some (.int .i64))
    (hv : Value.okWide P w r b0 t v) (h : DataW.Trod enc P w base spare held t v d p) (ea : fa.type = ta := by rfl) (eb : fb.type = tb := by rfl) (ec : fc.type = tc := by rfl) :
    ∃ x y z : Int, v = .agg #[.int .i64 x, .int .i64 y, .int .i64 z] ∧ (Lit.int .i64 x).wf = true ∧ (Lit.int .i64 y).wf = true ∧ (Lit.int .i64 z).wf = true := by
  subst ea eb ec
  obtain ⟨v0, v1, v2, y0, y1, y2, n, rfl, _, _, t0, t1, t2⟩ := open_agg3 hs hone hC hv h
  obtain ⟨n0, e0, _, g0⟩ := DataW.trod_int ia t0
  obtain ⟨n1, e1, _, g1⟩ := DataW.trod_int ib t1
  obtain ⟨n2, e2, _, g2⟩ := DataW.trod_int ic t2
  obtain rfl : v0 = _ := by simpa using e0
  obtain rfl : v1 = _ := by simpa using e1
  obtain rfl : v2 = _ := by simpa using e2
  exact ⟨n0, n1, n2, rfl, g0, g1, g2⟩
theorem open_val_is {r : Reach} {b0 : Nat} {t ta tb : TypeId} {fa fb : Field} {v : Value} (hs : P.underlying t = some (.struct #[fa, fb])) (hone : oneCellFields P #[fa, fb] = true) (hC : P.cellsOf t = 2)
    (ia : P.underlying ta = some (.int .i64)) (ib : P.underlying tb = some .string)
    (hv : Value.okWide P w r b0 t v) (h : DataW.Trod enc P w base spare held t v d p) (ea : fa.type = ta := by rfl) (eb : fb.type = tb := by rfl) :
    ∃ (x : Int) (y : ByteArray), v = .agg #[.int .i64 x, .string y] ∧ (Lit.int .i64 x).wf = true ∧ y.size ≤ maxLen := by
  subst ea eb
  obtain ⟨v0, v1, y0, y1, n, rfl, _, _, t0, t1⟩ := open_agg2 hs hone hC hv h
  obtain ⟨n0, e0, _, g0⟩ := DataW.trod_int ia t0
  obtain ⟨n1, e1, _, g1⟩ := DataW.trod_string ib t1
  obtain rfl : v0 = _ := by simpa using e0
  obtain rfl : v1 = _ := by simpa using e1
  exact ⟨n0, n1, rfl, g0, g1⟩
theorem okWide_arr {r : Reach} {b0 n : Nat} {t e : TypeId} {v : Value} (ht : P.underlying t = some (.array n e)) (h : Value.okWide P w r b0 t v) : ∃ cs, v = .agg cs ∧ cs.size = P.cellsOf t := by
  simp only [Value.okWide, ht] at h
  obtain ⟨cs, h1, h2, _⟩ := h
  exact ⟨cs, h1, h2⟩
theorem arr_at {t e : TypeId} {n i : Nat} {cs : List Value} {fuel : Nat} {x : DataW H × List MemPlace} (ht : P.underlying t = some (.array n e)) (he : P.underlying e = some (.int .i64)) (hC : P.cellsOf e = 1)
    (h : DataW.trod enc P w base spare held fuel t cs = some x) (hi : i < n) (hl : i < cs.length) : ∃ k : Int, cs[i] = .int .i64 k ∧ (Lit.int .i64 k).wf = true := by
  obtain ⟨xs, m, _, _, _, hxl, hf⟩ := DataW.trod_array ht h
  have h1 := hf i hi
  rw [hC, Nat.mul_one, List.drop_eq_getElem_cons hl, List.getElem?_eq_getElem (by omega)] at h1
  obtain ⟨k, e1, _, g⟩ := DataW.trod_int he h1
  refine ⟨k, ?_, g⟩
  rw [List.take_succ_cons] at e1
  injection e1
theorem open_arr3 {r : Reach} {b0 : Nat} {t e : TypeId} {v : Value} (ht : P.underlying t = some (.array 3 e)) (he : P.underlying e = some (.int .i64)) (hC : P.cellsOf e = 1) (hT : P.cellsOf t = 3)
    (hv : Value.okWide P w r b0 t v) (h : DataW.Trod enc P w base spare held t v d p) :
    ∃ x y z : Int, v = .agg #[.int .i64 x, .int .i64 y, .int .i64 z] ∧ (Lit.int .i64 x).wf = true ∧ (Lit.int .i64 y).wf = true ∧ (Lit.int .i64 z).wf = true := by
  obtain ⟨cs, rfl, hsz⟩ := okWide_arr ht hv
  obtain ⟨l⟩ := cs
  match l, hsz.trans hT with
  | [c0, c1, c2], _ =>
    obtain ⟨fuel, hf⟩ := h
    obtain ⟨x, e0, g0⟩ := arr_at (i := 0) ht he hC hf (by omega) (by simp [Value.cells])
    obtain ⟨y, e1, g1⟩ := arr_at (i := 1) ht he hC hf (by omega) (by simp [Value.cells])
    obtain ⟨z, e2, g2⟩ := arr_at (i := 2) ht he hC hf (by omega) (by simp [Value.cells])
    simp [Value.cells] at e0 e1 e2
    subst e0 e1 e2
    exact ⟨x, y, z, rfl, g0, g1, g2⟩
theorem open_arr2 {r : Reach} {b0 : Nat} {t e : TypeId} {v : Value} (ht : P.underlying t = some (.array 2 e)) (he : P.underlying e = some (.int .i64)) (hC : P.cellsOf e = 1) (hT : P.cellsOf t = 2)
    (hv : Value.okWide P w r b0 t v) (h : DataW.Trod enc P w base spare held t v d p) :
    ∃ x y : Int, v = .agg #[.int .i64 x, .int .i64 y] ∧ (Lit.int .i64 x).wf = true ∧ (Lit.int .i64 y).wf = true := by
  obtain ⟨cs, rfl, hsz⟩ := okWide_arr ht hv
  obtain ⟨l⟩ := cs
  match l, hsz.trans hT with
  | [c0, c1], _ =>
    obtain ⟨fuel, hf⟩ := h
    obtain ⟨x, e0, g0⟩ := arr_at (i := 0) ht he hC hf (by omega) (by simp [Value.cells])
    obtain ⟨y, e1, g1⟩ := arr_at (i := 1) ht he hC hf (by omega) (by simp [Value.cells])
    simp [Value.cells] at e0 e1
    subst e0 e1
    exact ⟨x, y, rfl, g0, g1⟩
theorem wf_i64 {x : Int} (h : (Lit.int .i64 x).wf = true) : -9223372036854775808 ≤ x ∧ x ≤ 9223372036854775807 := by
  have e1 : IntKind.i64.signed = true := rfl
  have e2 : IntKind.i64.bits = 64 := rfl
  simp [Lit.wf, IntKind.min, IntKind.max, e1, e2] at h
  exact h
end
end Go.Proofs.Ytghcgnahdeaofaa
