/- Contracts of a step, of its kind and of 'early' over this seat's translation. -/
import Derived.Test.YthmbfmjchbcjlaaS
namespace Go.Proofs.Ythmbfmjchbcjlaa
open Go.ChangeShapes Go.WideShapes Go.ChangeAt Go.RowKit
set_option linter.unusedVariables false
def kd (k : Int) : Int := (IntKind.u64.wrap k).tmod 7
theorem kd_bd (k : Int) : 0 ≤ kd k ∧ kd k < 7 := by
  have h : 0 ≤ IntKind.u64.wrap k := by rw [IntKind.wrap_u64]; omega
  exact ⟨Int.tmod_nonneg _ h, Int.tmod_lt_of_pos _ (by omega)⟩
abbrev sc (k a c : Int) : Array Value := #[.int .i64 k, .int .i64 a, .int .i64 c]
theorem kind_c (k a c : Int) (w : World) : Calls Try.prog 13 #[.agg (sc k a c)] w fun e w' => e = .returned (.int .i64 (kd k)) ∧ w.alloc (.cells (sc k a c) 28) = w' := by
  have hb := kd_bd k
  have he : (IntKind.u64.wrap k).tmod 7 = kd k := rfl
  go_enter Try.func13, Try.ntmps13
  go_wp2
  go_ret
  exact ⟨rfl, rfl⟩
/-- One step: what becomes of the connection, and what is answered. -/
def stp (b : BK) (k a c : Int) : BK × Bool :=
  if k = 0 then (if b.state = 0 then (through b a c, true) else (b, false))
  else if k = 1 then (if b.state = 1 then (rest b a, true) else (b, false))
  else if k = 2 then (if b.state = 2 ∧ 0 < a then (bind b a, true) else (b, false))
  else if k = 3 then (if b.state = 3 then (sent b, true) else (b, false))
  else if k = 4 then (if b.state = 3 ∧ 0 < b.owes then (got b, true) else (b, false))
  else if k = 5 then (if b.state = 3 ∧ b.owes = 0 then (rest b a, true) else (b, false))
  else (if b.state ≠ 4 then (kill b, true) else (b, false))
def SP (r : BK × Bool) (g : Nat) (w : World) (e : Ending) (w' : World) : Prop := e = .returned (.bool r.2) ∧ Ob w' g r.1 ∧ Near g w w'
theorem sp_if {p : Prop} [Decidable p] {b1 b : BK} {g : Nat} {w w' : World} {e : Ending} (h : e = .returned (.bool (decide p)) ∧ Ob w' g (if p then b1 else b) ∧ Near g w w') : SP (if p then (b1, true) else (b, false)) g w e w' := by
  obtain ⟨he, ho, hn⟩ := h
  by_cases hp : p
  · rw [if_pos hp] at ho ⊢; exact ⟨by simpa [hp] using he, ho, hn⟩
  · rw [if_neg hp] at ho ⊢; exact ⟨by simpa [hp] using he, ho, hn⟩
theorem s0_c (g : Nat) (b : BK) (a c : Int) (w : World) (hb : Ob w g b) (h0 : 0 ≤ b.owes) (h1 : b.owes ≤ 1000) : Calls Try.prog 27 #[.pointer (some ⟨g, 0, none⟩), .int .i64 a, .int .i64 c] w (SP (stp b 0 a c) g w) :=
  (through_c g b a c w hb).mono fun e w' h => by
    have := sp_if h
    simpa [stp] using this
theorem s1_c (g : Nat) (b : BK) (a c : Int) (w : World) (hb : Ob w g b) (h0 : 0 ≤ b.owes) (h1 : b.owes ≤ 1000) : Calls Try.prog 28 #[.pointer (some ⟨g, 0, none⟩), .int .i64 a] w (SP (stp b 1 a c) g w) :=
  (greet_c g b a w hb).mono fun e w' h => by
    have := sp_if h
    simpa [stp] using this
theorem s2_c (g : Nat) (b : BK) (a c : Int) (w : World) (hb : Ob w g b) (h0 : 0 ≤ b.owes) (h1 : b.owes ≤ 1000) : Calls Try.prog 29 #[.pointer (some ⟨g, 0, none⟩), .int .i64 a] w (SP (stp b 2 a c) g w) :=
  (bind_c g b a w hb).mono fun e w' h => by
    have := sp_if h
    simpa [stp] using this
theorem s3_c (g : Nat) (b : BK) (a c : Int) (w : World) (hb : Ob w g b) (h0 : 0 ≤ b.owes) (h1 : b.owes ≤ 1000) : Calls Try.prog 30 #[.pointer (some ⟨g, 0, none⟩)] w (SP (stp b 3 a c) g w) :=
  (sent_c g b w hb (by omega) h1).mono fun e w' h => by
    have := sp_if h
    simpa [stp] using this
theorem s6_c (g : Nat) (b : BK) (a c : Int) (w : World) (hb : Ob w g b) (h0 : 0 ≤ b.owes) (h1 : b.owes ≤ 1000) : Calls Try.prog 33 #[.pointer (some ⟨g, 0, none⟩)] w (SP (stp b 6 a c) g w) :=
  (kill_c g b w hb).mono fun e w' h => by
    have := sp_if h
    simpa [stp] using this
theorem s4_c (g : Nat) (b : BK) (a c : Int) (w : World) (hb : Ob w g b) (h0 : 0 ≤ b.owes) (h1 : b.owes ≤ 1000) : Calls Try.prog 32 #[.pointer (some ⟨g, 0, none⟩)] w (SP (stp b 4 a c) g w) := by
  have e : stp b 4 a c = (if b.state = 3 ∧ 0 < b.owes then (got b, true) else (b, false)) := by simp [stp]
  rw [e]
  by_cases h : b.state = 3 ∧ 0 < b.owes
  · rw [if_pos h]; exact got_yes g b w hb h.1 h.2 h1
  · rw [if_neg h]; exact got_no g b w hb h
theorem s5_c (g : Nat) (b : BK) (a c : Int) (w : World) (hb : Ob w g b) (h0 : 0 ≤ b.owes) (h1 : b.owes ≤ 1000) : Calls Try.prog 31 #[.pointer (some ⟨g, 0, none⟩), .int .i64 a] w (SP (stp b 5 a c) g w) := by
  have e : stp b 5 a c = (if b.state = 3 ∧ b.owes = 0 then (rest b a, true) else (b, false)) := by simp [stp]
  rw [e]
  by_cases h : b.state = 3 ∧ b.owes = 0
  · rw [if_pos h]; exact free_yes g b a w hb h.1 h.2
  · rw [if_neg h]; exact free_no g b a w hb h
theorem step0_c (g : Nat) (b : BK) (k a c : Int) (w : World) (hb : Ob w g b) (h0 : 0 ≤ b.owes) (h1 : b.owes ≤ 1000) (hk : kd k = 0) :
    Calls Try.prog 12 #[.pointer (some ⟨g, 0, none⟩), .agg (sc k a c)] w (SP (stp b (kd k) a c) g w) := by
  have HK := Lib.hid (kind_c k a c (w.alloc (.cells (sc k a c) 28)))
  have HS := Lib.hid (s0_c g b a c ((w.alloc (.cells (sc k a c) 28)).alloc (.cells (sc k a c) 28)) ((hb.alloc _).alloc _) h0 h1)
  have HN := Lib.hid (((Near.refl g w).alloc (.cells (sc k a c) 28)).alloc (.cells (sc k a c) 28))
  have H0 := Lib.hid hk
  clear hb h0 h1
  go_enter Try.func12, Try.ntmps12
  go_wp2_with fail
  refine HK.out.mono ?_
  rintro e w' ⟨rfl, rfl⟩
  go_wp2_with fail
  refine HS.out.mono ?_
  rintro e w2 hsp
  obtain ⟨rfl, ho, hn⟩ := hsp
  have HO := Lib.hid ho
  have HNN := Lib.hid hn
  clear ho hn
  go_wp2_with fail
  go_ret
  rw [H0.out]
  exact ⟨rfl, HO.out, HN.out.trans HNN.out⟩
theorem step1_c (g : Nat) (b : BK) (k a c : Int) (w : World) (hb : Ob w g b) (h0 : 0 ≤ b.owes) (h1 : b.owes ≤ 1000) (hk : kd k = 1) :
    Calls Try.prog 12 #[.pointer (some ⟨g, 0, none⟩), .agg (sc k a c)] w (SP (stp b (kd k) a c) g w) := by
  have HK := Lib.hid (kind_c k a c (w.alloc (.cells (sc k a c) 28)))
  have HS := Lib.hid (s1_c g b a c ((w.alloc (.cells (sc k a c) 28)).alloc (.cells (sc k a c) 28)) ((hb.alloc _).alloc _) h0 h1)
  have HN := Lib.hid (((Near.refl g w).alloc (.cells (sc k a c) 28)).alloc (.cells (sc k a c) 28))
  have H0 := Lib.hid hk
  clear hb h0 h1
  go_enter Try.func12, Try.ntmps12
  go_wp2_with fail
  refine HK.out.mono ?_
  rintro e w' ⟨rfl, rfl⟩
  go_wp2_with fail
  refine HS.out.mono ?_
  rintro e w2 hsp
  obtain ⟨rfl, ho, hn⟩ := hsp
  have HO := Lib.hid ho
  have HNN := Lib.hid hn
  clear ho hn
  go_wp2_with fail
  go_ret
  rw [H0.out]
  exact ⟨rfl, HO.out, HN.out.trans HNN.out⟩
theorem step2_c (g : Nat) (b : BK) (k a c : Int) (w : World) (hb : Ob w g b) (h0 : 0 ≤ b.owes) (h1 : b.owes ≤ 1000) (hk : kd k = 2) :
    Calls Try.prog 12 #[.pointer (some ⟨g, 0, none⟩), .agg (sc k a c)] w (SP (stp b (kd k) a c) g w) := by
  have HK := Lib.hid (kind_c k a c (w.alloc (.cells (sc k a c) 28)))
  have HS := Lib.hid (s2_c g b a c ((w.alloc (.cells (sc k a c) 28)).alloc (.cells (sc k a c) 28)) ((hb.alloc _).alloc _) h0 h1)
  have HN := Lib.hid (((Near.refl g w).alloc (.cells (sc k a c) 28)).alloc (.cells (sc k a c) 28))
  have H0 := Lib.hid hk
  clear hb h0 h1
  go_enter Try.func12, Try.ntmps12
  go_wp2_with fail
  refine HK.out.mono ?_
  rintro e w' ⟨rfl, rfl⟩
  go_wp2_with fail
  refine HS.out.mono ?_
  rintro e w2 hsp
  obtain ⟨rfl, ho, hn⟩ := hsp
  have HO := Lib.hid ho
  have HNN := Lib.hid hn
  clear ho hn
  go_wp2_with fail
  go_ret
  rw [H0.out]
  exact ⟨rfl, HO.out, HN.out.trans HNN.out⟩
theorem step3_c (g : Nat) (b : BK) (k a c : Int) (w : World) (hb : Ob w g b) (h0 : 0 ≤ b.owes) (h1 : b.owes ≤ 1000) (hk : kd k = 3) :
    Calls Try.prog 12 #[.pointer (some ⟨g, 0, none⟩), .agg (sc k a c)] w (SP (stp b (kd k) a c) g w) := by
  have HK := Lib.hid (kind_c k a c (w.alloc (.cells (sc k a c) 28)))
  have HS := Lib.hid (s3_c g b a c ((w.alloc (.cells (sc k a c) 28)).alloc (.cells (sc k a c) 28)) ((hb.alloc _).alloc _) h0 h1)
  have HN := Lib.hid (((Near.refl g w).alloc (.cells (sc k a c) 28)).alloc (.cells (sc k a c) 28))
  have H0 := Lib.hid hk
  clear hb h0 h1
  go_enter Try.func12, Try.ntmps12
  go_wp2_with fail
  refine HK.out.mono ?_
  rintro e w' ⟨rfl, rfl⟩
  go_wp2_with fail
  refine HS.out.mono ?_
  rintro e w2 hsp
  obtain ⟨rfl, ho, hn⟩ := hsp
  have HO := Lib.hid ho
  have HNN := Lib.hid hn
  clear ho hn
  go_wp2_with fail
  go_ret
  rw [H0.out]
  exact ⟨rfl, HO.out, HN.out.trans HNN.out⟩
theorem step4_c (g : Nat) (b : BK) (k a c : Int) (w : World) (hb : Ob w g b) (h0 : 0 ≤ b.owes) (h1 : b.owes ≤ 1000) (hk : kd k = 4) :
    Calls Try.prog 12 #[.pointer (some ⟨g, 0, none⟩), .agg (sc k a c)] w (SP (stp b (kd k) a c) g w) := by
  have HK := Lib.hid (kind_c k a c (w.alloc (.cells (sc k a c) 28)))
  have HS := Lib.hid (s4_c g b a c ((w.alloc (.cells (sc k a c) 28)).alloc (.cells (sc k a c) 28)) ((hb.alloc _).alloc _) h0 h1)
  have HN := Lib.hid (((Near.refl g w).alloc (.cells (sc k a c) 28)).alloc (.cells (sc k a c) 28))
  have H0 := Lib.hid hk
  clear hb h0 h1
  go_enter Try.func12, Try.ntmps12
  go_wp2_with fail
  refine HK.out.mono ?_
  rintro e w' ⟨rfl, rfl⟩
  go_wp2_with fail
  refine HS.out.mono ?_
  rintro e w2 hsp
  obtain ⟨rfl, ho, hn⟩ := hsp
  have HO := Lib.hid ho
  have HNN := Lib.hid hn
  clear ho hn
  go_wp2_with fail
  go_ret
  rw [H0.out]
  exact ⟨rfl, HO.out, HN.out.trans HNN.out⟩
theorem step5_c (g : Nat) (b : BK) (k a c : Int) (w : World) (hb : Ob w g b) (h0 : 0 ≤ b.owes) (h1 : b.owes ≤ 1000) (hk : kd k = 5) :
    Calls Try.prog 12 #[.pointer (some ⟨g, 0, none⟩), .agg (sc k a c)] w (SP (stp b (kd k) a c) g w) := by
  have HK := Lib.hid (kind_c k a c (w.alloc (.cells (sc k a c) 28)))
  have HS := Lib.hid (s5_c g b a c ((w.alloc (.cells (sc k a c) 28)).alloc (.cells (sc k a c) 28)) ((hb.alloc _).alloc _) h0 h1)
  have HN := Lib.hid (((Near.refl g w).alloc (.cells (sc k a c) 28)).alloc (.cells (sc k a c) 28))
  have H0 := Lib.hid hk
  clear hb h0 h1
  go_enter Try.func12, Try.ntmps12
  go_wp2_with fail
  refine HK.out.mono ?_
  rintro e w' ⟨rfl, rfl⟩
  go_wp2_with fail
  refine HS.out.mono ?_
  rintro e w2 hsp
  obtain ⟨rfl, ho, hn⟩ := hsp
  have HO := Lib.hid ho
  have HNN := Lib.hid hn
  clear ho hn
  go_wp2_with fail
  go_ret
  rw [H0.out]
  exact ⟨rfl, HO.out, HN.out.trans HNN.out⟩
theorem step6_c (g : Nat) (b : BK) (k a c : Int) (w : World) (hb : Ob w g b) (h0 : 0 ≤ b.owes) (h1 : b.owes ≤ 1000) (hk : kd k = 6) :
    Calls Try.prog 12 #[.pointer (some ⟨g, 0, none⟩), .agg (sc k a c)] w (SP (stp b (kd k) a c) g w) := by
  have HK := Lib.hid (kind_c k a c (w.alloc (.cells (sc k a c) 28)))
  have HS := Lib.hid (s6_c g b a c ((w.alloc (.cells (sc k a c) 28)).alloc (.cells (sc k a c) 28)) ((hb.alloc _).alloc _) h0 h1)
  have HN := Lib.hid (((Near.refl g w).alloc (.cells (sc k a c) 28)).alloc (.cells (sc k a c) 28))
  have H0 := Lib.hid hk
  clear hb h0 h1
  go_enter Try.func12, Try.ntmps12
  go_wp2_with fail
  refine HK.out.mono ?_
  rintro e w' ⟨rfl, rfl⟩
  go_wp2_with fail
  refine HS.out.mono ?_
  rintro e w2 hsp
  obtain ⟨rfl, ho, hn⟩ := hsp
  have HO := Lib.hid ho
  have HNN := Lib.hid hn
  clear ho hn
  go_wp2_with fail
  go_ret
  rw [H0.out]
  exact ⟨rfl, HO.out, HN.out.trans HNN.out⟩
theorem step_c (g : Nat) (b : BK) (k a c : Int) (w : World) (hb : Ob w g b) (h0 : 0 ≤ b.owes) (h1 : b.owes ≤ 1000) :
    Calls Try.prog 12 #[.pointer (some ⟨g, 0, none⟩), .agg (sc k a c)] w (SP (stp b (kd k) a c) g w) := by
  have hb7 := kd_bd k
  rcases (by omega : kd k = 0 ∨ kd k = 1 ∨ kd k = 2 ∨ kd k = 3 ∨ kd k = 4 ∨ kd k = 5 ∨ kd k = 6) with h | h | h | h | h | h | h
  · exact step0_c g b k a c w hb h0 h1 h
  · exact step1_c g b k a c w hb h0 h1 h
  · exact step2_c g b k a c w hb h0 h1 h
  · exact step3_c g b k a c w hb h0 h1 h
  · exact step4_c g b k a c w hb h0 h1 h
  · exact step5_c g b k a c w hb h0 h1 h
  · exact step6_c g b k a c w hb h0 h1 h
theorem stepNil0_c (k a c : Int) (w : World) (hk : kd k = 0) :
    Calls Try.prog 12 #[.pointer none, .agg (sc k a c)] w fun e w' => e = .returned (.bool false) ∧ Below w.heap.size w w' := by
  have HK := Lib.hid (kind_c k a c (w.alloc (.cells (sc k a c) 28)))
  have HN := Lib.hid (show Below w.heap.size w ((w.alloc (.cells (sc k a c) 28)).alloc (.cells (sc k a c) 28)) from ((Below.refl _ w).alloc (Nat.le_refl _) _).alloc (by simp) _)
  go_enter Try.func12, Try.ntmps12
  go_wp2_with fail
  refine HK.out.mono ?_
  rintro e w' ⟨rfl, rfl⟩
  go_wp2_with fail
  refine (through_nil a c _).mono ?_
  rintro e w2 ⟨rfl, ho⟩
  have HO := Lib.hid (ho.mono (show w.heap.size ≤ _ by simp; omega))
  clear ho
  go_wp2_with fail
  go_ret
  exact ⟨rfl, HN.out.trans HO.out⟩
theorem stepNil1_c (k a c : Int) (w : World) (hk : kd k = 1) :
    Calls Try.prog 12 #[.pointer none, .agg (sc k a c)] w fun e w' => e = .returned (.bool false) ∧ Below w.heap.size w w' := by
  have HK := Lib.hid (kind_c k a c (w.alloc (.cells (sc k a c) 28)))
  have HN := Lib.hid (show Below w.heap.size w ((w.alloc (.cells (sc k a c) 28)).alloc (.cells (sc k a c) 28)) from ((Below.refl _ w).alloc (Nat.le_refl _) _).alloc (by simp) _)
  go_enter Try.func12, Try.ntmps12
  go_wp2_with fail
  refine HK.out.mono ?_
  rintro e w' ⟨rfl, rfl⟩
  go_wp2_with fail
  refine (greet_nil a _).mono ?_
  rintro e w2 ⟨rfl, ho⟩
  have HO := Lib.hid (ho.mono (show w.heap.size ≤ _ by simp; omega))
  clear ho
  go_wp2_with fail
  go_ret
  exact ⟨rfl, HN.out.trans HO.out⟩
theorem stepNil2_c (k a c : Int) (w : World) (hk : kd k = 2) :
    Calls Try.prog 12 #[.pointer none, .agg (sc k a c)] w fun e w' => e = .returned (.bool false) ∧ Below w.heap.size w w' := by
  have HK := Lib.hid (kind_c k a c (w.alloc (.cells (sc k a c) 28)))
  have HN := Lib.hid (show Below w.heap.size w ((w.alloc (.cells (sc k a c) 28)).alloc (.cells (sc k a c) 28)) from ((Below.refl _ w).alloc (Nat.le_refl _) _).alloc (by simp) _)
  go_enter Try.func12, Try.ntmps12
  go_wp2_with fail
  refine HK.out.mono ?_
  rintro e w' ⟨rfl, rfl⟩
  go_wp2_with fail
  refine (bind_nil a _).mono ?_
  rintro e w2 ⟨rfl, ho⟩
  have HO := Lib.hid (ho.mono (show w.heap.size ≤ _ by simp; omega))
  clear ho
  go_wp2_with fail
  go_ret
  exact ⟨rfl, HN.out.trans HO.out⟩
theorem stepNil3_c (k a c : Int) (w : World) (hk : kd k = 3) :
    Calls Try.prog 12 #[.pointer none, .agg (sc k a c)] w fun e w' => e = .returned (.bool false) ∧ Below w.heap.size w w' := by
  have HK := Lib.hid (kind_c k a c (w.alloc (.cells (sc k a c) 28)))
  have HN := Lib.hid (show Below w.heap.size w ((w.alloc (.cells (sc k a c) 28)).alloc (.cells (sc k a c) 28)) from ((Below.refl _ w).alloc (Nat.le_refl _) _).alloc (by simp) _)
  go_enter Try.func12, Try.ntmps12
  go_wp2_with fail
  refine HK.out.mono ?_
  rintro e w' ⟨rfl, rfl⟩
  go_wp2_with fail
  refine (sent_nil _).mono ?_
  rintro e w2 ⟨rfl, ho⟩
  have HO := Lib.hid (ho.mono (show w.heap.size ≤ _ by simp; omega))
  clear ho
  go_wp2_with fail
  go_ret
  exact ⟨rfl, HN.out.trans HO.out⟩
theorem stepNil4_c (k a c : Int) (w : World) (hk : kd k = 4) :
    Calls Try.prog 12 #[.pointer none, .agg (sc k a c)] w fun e w' => e = .returned (.bool false) ∧ Below w.heap.size w w' := by
  have HK := Lib.hid (kind_c k a c (w.alloc (.cells (sc k a c) 28)))
  have HN := Lib.hid (show Below w.heap.size w ((w.alloc (.cells (sc k a c) 28)).alloc (.cells (sc k a c) 28)) from ((Below.refl _ w).alloc (Nat.le_refl _) _).alloc (by simp) _)
  go_enter Try.func12, Try.ntmps12
  go_wp2_with fail
  refine HK.out.mono ?_
  rintro e w' ⟨rfl, rfl⟩
  go_wp2_with fail
  refine (got_nil _).mono ?_
  rintro e w2 ⟨rfl, ho⟩
  have HO := Lib.hid (ho.mono (show w.heap.size ≤ _ by simp; omega))
  clear ho
  go_wp2_with fail
  go_ret
  exact ⟨rfl, HN.out.trans HO.out⟩
theorem stepNil5_c (k a c : Int) (w : World) (hk : kd k = 5) :
    Calls Try.prog 12 #[.pointer none, .agg (sc k a c)] w fun e w' => e = .returned (.bool false) ∧ Below w.heap.size w w' := by
  have HK := Lib.hid (kind_c k a c (w.alloc (.cells (sc k a c) 28)))
  have HN := Lib.hid (show Below w.heap.size w ((w.alloc (.cells (sc k a c) 28)).alloc (.cells (sc k a c) 28)) from ((Below.refl _ w).alloc (Nat.le_refl _) _).alloc (by simp) _)
  go_enter Try.func12, Try.ntmps12
  go_wp2_with fail
  refine HK.out.mono ?_
  rintro e w' ⟨rfl, rfl⟩
  go_wp2_with fail
  refine (free_nil a _).mono ?_
  rintro e w2 ⟨rfl, ho⟩
  have HO := Lib.hid (ho.mono (show w.heap.size ≤ _ by simp; omega))
  clear ho
  go_wp2_with fail
  go_ret
  exact ⟨rfl, HN.out.trans HO.out⟩
theorem stepNil6_c (k a c : Int) (w : World) (hk : kd k = 6) :
    Calls Try.prog 12 #[.pointer none, .agg (sc k a c)] w fun e w' => e = .returned (.bool false) ∧ Below w.heap.size w w' := by
  have HK := Lib.hid (kind_c k a c (w.alloc (.cells (sc k a c) 28)))
  have HN := Lib.hid (show Below w.heap.size w ((w.alloc (.cells (sc k a c) 28)).alloc (.cells (sc k a c) 28)) from ((Below.refl _ w).alloc (Nat.le_refl _) _).alloc (by simp) _)
  go_enter Try.func12, Try.ntmps12
  go_wp2_with fail
  refine HK.out.mono ?_
  rintro e w' ⟨rfl, rfl⟩
  go_wp2_with fail
  refine (kill_nil _).mono ?_
  rintro e w2 ⟨rfl, rfl⟩
  have HO := Lib.hid (Below.refl w.heap.size ((w.alloc (.cells (sc k a c) 28)).alloc (.cells (sc k a c) 28)))
  go_wp2_with fail
  go_ret
  exact ⟨rfl, HN.out.trans HO.out⟩
theorem stepNil_c (k a c : Int) (w : World) :
    Calls Try.prog 12 #[.pointer none, .agg (sc k a c)] w fun e w' => e = .returned (.bool false) ∧ Below w.heap.size w w' := by
  have hb7 := kd_bd k
  rcases (by omega : kd k = 0 ∨ kd k = 1 ∨ kd k = 2 ∨ kd k = 3 ∨ kd k = 4 ∨ kd k = 5 ∨ kd k = 6) with h | h | h | h | h | h | h
  · exact stepNil0_c k a c w h
  · exact stepNil1_c k a c w h
  · exact stepNil2_c k a c w h
  · exact stepNil3_c k a c w h
  · exact stepNil4_c k a c w h
  · exact stepNil5_c k a c w h
  · exact stepNil6_c k a c w h
theorem early_c (a : Option Addr) (len cap n : Nat) (w : World) (hn : n = min len 100) (hcap : len ≤ cap) (hm : len ≤ 9223372036854775807) :
    Calls Try.prog 10 #[.slice a len cap] w fun e w' => e = .returned (.slice a n cap) ∧ w = w' := by
  by_cases h : len ≤ 100
  · obtain rfl : n = len := by omega
    clear hn
    go_enter Try.func10, Try.ntmps10
    go_wp2
    all_goals go_ret
    all_goals exact ⟨by first | rfl | (simp; omega), rfl⟩
  · obtain rfl : n = 100 := by omega
    have h1 : 100 < len := by omega
    clear hn h
    go_enter Try.func10, Try.ntmps10
    go_wp2
    all_goals go_ret
    all_goals exact ⟨by first | rfl | (simp; omega), rfl⟩
def hh : ByteArray := { data := #[104] }
theorem blives_c (w : World) : Calls Try.prog 8 #[] w fun e w' => e = .returned (.bool true) ∧ Below w.heap.size w w' := by
  have S0 := Lib.hid (fun W (h : Ob W w.heap.size ⟨hh, 0, 0, 0, 0, 0, 0⟩) => s0_c w.heap.size _ 1 9 W h (by simp) (by simp))
  have S1 := Lib.hid (fun W (h : Ob W w.heap.size ⟨hh, 1, 1, 9, 0, 0, 0⟩) => s1_c w.heap.size _ 2 0 W h (by simp) (by simp))
  have S2 := Lib.hid (fun W (h : Ob W w.heap.size ⟨hh, 2, 1, 9, 2, 0, 0⟩) => s2_c w.heap.size _ 7 0 W h (by simp) (by simp))
  have S3 := Lib.hid (fun W (h : Ob W w.heap.size ⟨hh, 3, 1, 9, 0, 7, 0⟩) => s3_c w.heap.size _ 0 0 W h (by simp) (by simp))
  have S4 := Lib.hid (fun W (h : Ob W w.heap.size ⟨hh, 3, 1, 9, 0, 7, 1⟩) => s5_c w.heap.size _ 3 0 W h (by simp) (by simp))
  have S5 := Lib.hid (fun W (h : Ob W w.heap.size ⟨hh, 3, 1, 9, 0, 7, 1⟩) => s4_c w.heap.size _ 0 0 W h (by simp) (by simp))
  have S6 := Lib.hid (fun W (h : Ob W w.heap.size ⟨hh, 3, 1, 9, 0, 7, 0⟩) => s5_c w.heap.size _ 4 0 W h (by simp) (by simp))
  have HB := Lib.hid (show Below w.heap.size w (w.alloc (.cells (bkc ⟨hh, 0, 0, 0, 0, 0, 0⟩) 47)) from (Below.refl _ _).alloc (Nat.le_refl _) _)
  have HO := Lib.hid (show Ob (w.alloc (.cells (bkc ⟨hh, 0, 0, 0, 0, 0, 0⟩) 47)) w.heap.size ⟨hh, 0, 0, 0, 0, 0, 0⟩ from Blk.new w _ _)
  have hz : cut 1 = 1 ∧ cut 9 = 9 ∧ cut 2 = 2 ∧ cut 4 = 4 := by decide
  have E0 := Lib.hid (show stp ⟨hh, 0, 0, 0, 0, 0, 0⟩ 0 1 9 = (⟨hh, 1, 1, 9, 0, 0, 0⟩, true) by simp [stp, through, hz])
  have E1 := Lib.hid (show stp ⟨hh, 1, 1, 9, 0, 0, 0⟩ 1 2 0 = (⟨hh, 2, 1, 9, 2, 0, 0⟩, true) by simp [stp, rest, hz])
  have E2 := Lib.hid (show stp ⟨hh, 2, 1, 9, 2, 0, 0⟩ 2 7 0 = (⟨hh, 3, 1, 9, 0, 7, 0⟩, true) by simp [stp, bind])
  have E3 := Lib.hid (show stp ⟨hh, 3, 1, 9, 0, 7, 0⟩ 3 0 0 = (⟨hh, 3, 1, 9, 0, 7, 1⟩, true) by simp [stp, sent])
  have E4 := Lib.hid (show stp ⟨hh, 3, 1, 9, 0, 7, 1⟩ 5 3 0 = (⟨hh, 3, 1, 9, 0, 7, 1⟩, false) by simp [stp])
  have E5 := Lib.hid (show stp ⟨hh, 3, 1, 9, 0, 7, 1⟩ 4 0 0 = (⟨hh, 3, 1, 9, 0, 7, 0⟩, true) by simp [stp, got])
  have E6 := Lib.hid (show stp ⟨hh, 3, 1, 9, 0, 7, 0⟩ 5 4 0 = (⟨hh, 2, 1, 9, 4, 0, 0⟩, true) by simp [stp, rest, hz])
  clear hz
  go_enter Try.func8, Try.ntmps8
  go_wp2_with fail
  refine (new_c hh w).mono ?_
  rintro e w' ⟨rfl, rfl⟩
  go_wp2_with fail
  refine (S0.out _ HO.out).mono ?_
  rintro e w1 ⟨he, ho, hn⟩
  rw [E0.out] at he ho
  subst he
  have HO0 := Lib.hid ho
  have HB0 := Lib.hid (hn.later HB.out HB.out.size (Nat.le_refl _))
  clear ho hn
  go_wp2_with fail
  refine (S1.out _ HO0.out).mono ?_
  rintro e w2 ⟨he, ho, hn⟩
  rw [E1.out] at he ho
  subst he
  have HO1 := Lib.hid ho
  have HB1 := Lib.hid (hn.later HB0.out HB0.out.size (Nat.le_refl _))
  clear ho hn
  go_wp2_with fail
  refine (S2.out _ HO1.out).mono ?_
  rintro e w3 ⟨he, ho, hn⟩
  rw [E2.out] at he ho
  subst he
  have HO2 := Lib.hid ho
  have HB2 := Lib.hid (hn.later HB1.out HB1.out.size (Nat.le_refl _))
  clear ho hn
  go_wp2_with fail
  refine (S3.out _ HO2.out).mono ?_
  rintro e w4 ⟨he, ho, hn⟩
  rw [E3.out] at he ho
  subst he
  have HO3 := Lib.hid ho
  have HB3 := Lib.hid (hn.later HB2.out HB2.out.size (Nat.le_refl _))
  clear ho hn
  go_wp2_with fail
  refine (S4.out _ HO3.out).mono ?_
  rintro e w5 ⟨he, ho, hn⟩
  rw [E4.out] at he ho
  subst he
  have HO4 := Lib.hid ho
  have HB4 := Lib.hid (hn.later HB3.out HB3.out.size (Nat.le_refl _))
  clear ho hn
  go_wp2_with fail
  refine (S5.out _ HO4.out).mono ?_
  rintro e w6 ⟨he, ho, hn⟩
  rw [E5.out] at he ho
  subst he
  have HO5 := Lib.hid ho
  have HB5 := Lib.hid (hn.later HB4.out HB4.out.size (Nat.le_refl _))
  clear ho hn
  go_wp2_with fail
  refine (S6.out _ HO5.out).mono ?_
  rintro e w7 ⟨he, ho, hn⟩
  rw [E6.out] at he ho
  subst he
  have HO6 := Lib.hid ho
  have HB6 := Lib.hid (hn.later HB5.out HB5.out.size (Nat.le_refl _))
  clear ho hn
  go_wp2_with fail
  refine (state_c _ _ _ HO6.out).mono ?_
  rintro e w' ⟨rfl, rfl⟩
  go_wp2_with fail
  refine (since_c _ _ _ HO6.out).mono ?_
  rintro e w' ⟨rfl, rfl⟩
  go_wp2_with fail
  refine (client_c _ _ _ (HO6.out.alloc _)).mono ?_
  rintro e w' ⟨rfl, rfl⟩
  go_wp2_with fail
  go_ret
  exact ⟨rfl, (HB6.out.alloc HB6.out.size _).alloc (by have := HB6.out.size; simp; omega) _⟩
end Go.Proofs.Ythmbfmjchbcjlaa
