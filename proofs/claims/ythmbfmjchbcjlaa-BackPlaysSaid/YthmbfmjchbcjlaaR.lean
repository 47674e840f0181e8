/- Contracts of the package back's functions that change a connection, over this seat's translation. -/
import Derived.Test.YthmbfmjchbcjlaaP
import Derived.Deep.RegionHeld3
import Derived.Deep.RegionWith
namespace Go.Proofs.Ythmbfmjchbcjlaa
open Go.ChangeShapes Go.WideShapes Go.ChangeAt Go.RowKit
theorem does_through : Does 52 := fun _ _ => by kernel_rfl
def through (b : BK) (n d : Int) : BK := { b with state := 1, born := cut n, deadline := cut d }
set_option maxHeartbeats 2000000 in
theorem through1_c (g q1 q2 q : Nat) (b : BK) (n d : Int) (w : World) (hb : Ob w g b) (h1 : w.cell? ⟨q1, 0, none⟩ = some (.int .i64 n)) (h2 : w.cell? ⟨q2, 0, none⟩ = some (.int .i64 d)) (h3 : w.cell? ⟨q, 0, none⟩ = some (.pointer (some ⟨g, 0, none⟩)))
    (n1 : g ≠ q1) (n2 : g ≠ q2) (n3 : g ≠ q) :
    Calls Try.prog 52 #[.pointer (some ⟨q1, 0, none⟩), .pointer (some ⟨q2, 0, none⟩), .pointer (some ⟨q, 0, none⟩)] w fun e w' => e = .returned (.tuple #[]) ∧ Ob w' g (through b n d) ∧ Near g w w' := by
  have c1 : w.cell? ⟨g, 1, none⟩ = some (.int .i64 b.state) := hb.cell 1
  have c2 : w.cell? ⟨g, 2, none⟩ = some (.int .i64 b.born) := hb.cell 2
  have c3 : w.cell? ⟨g, 3, none⟩ = some (.int .i64 b.deadline) := hb.cell 3
  have f1 := hb.free 1
  have f2 := hb.free 2
  have f3 := hb.free 3
  have HB := Lib.hid hb
  clear hb
  go_enter Try.func52, Try.ntmps52
  go_wp2_with fail
  go_region_held3 (fun w' => w'.cell? ⟨q1, 0, none⟩ = some (.int .i64 n) ∧ w'.cell? ⟨q2, 0, none⟩ = some (.int .i64 d) ∧ w'.cell? ⟨q, 0, none⟩ = some (.pointer (some ⟨g, 0, none⟩)))
    (go_keep)
    (first | (go_at_call 53; refine (cut_c _ _).mono ?_; rintro e w' ⟨rfl, rfl⟩))
  go_wp2
  go_end0
  exact ⟨rfl, (((HB.out.set 1 _).set 2 _).set 3 _), ((((Near.refl _ _).set 1 _).set 2 _).set 3 _).drew⟩
theorem in_go (g : Nat) (b b' : BK) (k : Int) (fid : FuncId) (cap : Array Value) (w : World) (hb : Ob w g b) (hk : b.state = k) (hd : Does fid)
    (H : Calls Try.prog fid cap w fun e w' => e = .returned (.tuple #[]) ∧ Ob w' g b' ∧ Near g w w') :
    Calls Try.prog 51 #[.pointer (some ⟨g, 0, none⟩), .int .i64 k, .bool true, .func (.func fid) #[] cap] w fun e w' => e = .returned (.bool true) ∧ Ob w' g b' ∧ Near g w w' := by
  subst hk; exact in_yes g b fid cap w hb _ hd H
theorem through_c (g : Nat) (b : BK) (n d : Int) (w : World) (hb : Ob w g b) :
    Calls Try.prog 27 #[.pointer (some ⟨g, 0, none⟩), .int .i64 n, .int .i64 d] w fun e w' => e = .returned (.bool (decide (b.state = 0))) ∧ Ob w' g (if b.state = 0 then through b n d else b) ∧ Near g w w' := by
  have hmf : ∀ (fn : Fn) (first cap : Array Value) (w : World), (Instr.makeFunc fn first cap).run Try.prog w = .ok (.func fn first cap) w := fun _ _ _ _ => rfl
  have hl := hb.lt
  have HB := Lib.hid (((hb.alloc (.cells #[.pointer (some ⟨g, 0, none⟩)] 24)).alloc (.cells #[.int .i64 n] 3)).alloc (.cells #[.int .i64 d] 3))
  have HN := Lib.hid ((((Near.refl g w).alloc (.cells #[.pointer (some ⟨g, 0, none⟩)] 24)).alloc (.cells #[.int .i64 n] 3)).alloc (.cells #[.int .i64 d] 3))
  have HQ := Lib.hid (((Blk.new w 24 #[.pointer (some ⟨g, 0, none⟩)]).alloc (.cells #[.int .i64 n] 3)).alloc (.cells #[.int .i64 d] 3))
  have HQ1 := Lib.hid ((Blk.new (w.alloc (.cells #[.pointer (some ⟨g, 0, none⟩)] 24)) 3 #[.int .i64 n]).alloc (.cells #[.int .i64 d] 3))
  have HQ2 := Lib.hid (Blk.new ((w.alloc (.cells #[.pointer (some ⟨g, 0, none⟩)] 24)).alloc (.cells #[.int .i64 n] 3)) 3 #[.int .i64 d])
  clear hb
  by_cases h : b.state = 0
  · have H0 := Lib.hid h
    clear h
    go_enter Try.func27, Try.ntmps27
    go_wp2_with fail
    refine (in_go g b (through b n d) 0 _ _ _ HB.out H0.out does_through (through1_c g (w.heap.size + 1) (w.heap.size + 1 + 1) w.heap.size b n d _ HB.out ?_ ?_ ?_ (by omega) (by omega) (by omega))).mono ?_
    · first | (simp; done) | simpa using HQ1.out.cell 0
    · first | (simp; done) | simpa using HQ2.out.cell 0
    · first | (simp; done) | simpa using HQ.out.cell 0
    rintro e w' ⟨rfl, hob, hn⟩
    have HO := Lib.hid hob
    have HNN := Lib.hid hn
    clear hob hn
    go_wp2_with fail
    go_ret
    have h := H0.out
    exact ⟨by first | rfl | exact ret_bool (by simp [h]), by first | exact HO.out | (rw [if_pos h]; exact HO.out), HN.out.trans HNN.out⟩
  · have H0 := Lib.hid h
    have h1 : (b.state != 0) = true := by simpa using h
    clear h
    go_enter Try.func27, Try.ntmps27
    go_wp2_with fail
    refine (in_no g b 0 true _ _ HB.out (.inl h1)).mono ?_
    rintro e w' ⟨rfl, rfl⟩
    go_wp2_with fail
    go_ret
    have h := H0.out
    exact ⟨by first | rfl | exact ret_bool (by simp [h]), by first | exact HB.out | (rw [if_neg h]; exact HB.out), HN.out⟩
theorem through_nil (n d : Int) (w : World) : Calls Try.prog 27 #[.pointer none, .int .i64 n, .int .i64 d] w fun e w' => e = .returned (.bool false) ∧ Below w.heap.size w w' := by
  have hmf : ∀ (fn : Fn) (first cap : Array Value) (w : World), (Instr.makeFunc fn first cap).run Try.prog w = .ok (.func fn first cap) w := fun _ _ _ _ => rfl
  have HN := Lib.hid ((((Below.refl _ w).alloc (Nat.le_refl _) (.cells #[.pointer none] 24)).alloc (by simp) (.cells #[.int .i64 n] 3)).alloc (by simp; omega) (.cells #[.int .i64 d] 3))
  go_enter Try.func27, Try.ntmps27
  go_wp2_with fail
  refine (in_nil _ _ _ _).mono ?_
  rintro e w' ⟨rfl, rfl⟩
  go_wp2_with fail
  go_ret
  exact ⟨rfl, HN.out⟩
def rest (b : BK) (n : Int) : BK := { b with state := 2, client := 0, since := cut n }
theorem rest_c (g : Nat) (b : BK) (n : Int) (w : World) (hb : Ob w g b) :
    Calls Try.prog 55 #[.pointer (some ⟨g, 0, none⟩), .int .i64 n] w fun e w' => e = .returned (.tuple #[]) ∧ Ob w' g (rest b n) ∧ Near g w w' := by
  have c1 : w.cell? ⟨g, 1, none⟩ = some (.int .i64 b.state) := hb.cell 1
  have c4 : w.cell? ⟨g, 4, none⟩ = some (.int .i64 b.since) := hb.cell 4
  have c5 : w.cell? ⟨g, 5, none⟩ = some (.int .i64 b.client) := hb.cell 5
  have f1 := hb.free 1
  have f4 := hb.free 4
  have f5 := hb.free 5
  have HB := Lib.hid hb
  clear hb
  go_enter Try.func55, Try.ntmps55
  go_wp2_with (first | (go_at_call 53; refine (cut_c _ _).mono ?_; rintro e w' ⟨rfl, rfl⟩))
  go_end0
  exact ⟨rfl, (((HB.out.set 1 _).set 5 _).set 4 _), (((Near.refl _ _).set 1 _).set 5 _).set 4 _⟩
theorem does_greet : Does 54 := fun _ _ => by kernel_rfl
theorem greet1_c (g q1 q : Nat) (b : BK) (n : Int) (w : World) (hb : Ob w g b) (h1 : w.cell? ⟨q1, 0, none⟩ = some (.int .i64 n)) (h3 : w.cell? ⟨q, 0, none⟩ = some (.pointer (some ⟨g, 0, none⟩))) :
    Calls Try.prog 54 #[.pointer (some ⟨q, 0, none⟩), .pointer (some ⟨q1, 0, none⟩)] w fun e w' => e = .returned (.tuple #[]) ∧ Ob w' g (rest b n) ∧ Near g w w' := by
  have HR := Lib.hid (rest_c g b n w hb)
  clear hb
  go_enter Try.func54, Try.ntmps54
  go_wp2_with fail
  refine HR.out.mono ?_
  rintro e w' ⟨rfl, hob, hn⟩
  have HO := Lib.hid hob
  have HNN := Lib.hid hn
  clear hob hn
  go_wp2_with fail
  go_end0
  exact ⟨rfl, HO.out, HNN.out⟩
theorem does_free : Does 58 := fun _ _ => by kernel_rfl
theorem free1_c (g q1 q : Nat) (b : BK) (n : Int) (w : World) (hb : Ob w g b) (h1 : w.cell? ⟨q1, 0, none⟩ = some (.int .i64 n)) (h3 : w.cell? ⟨q, 0, none⟩ = some (.pointer (some ⟨g, 0, none⟩))) :
    Calls Try.prog 58 #[.pointer (some ⟨q, 0, none⟩), .pointer (some ⟨q1, 0, none⟩)] w fun e w' => e = .returned (.tuple #[]) ∧ Ob w' g (rest b n) ∧ Near g w w' := by
  have HR := Lib.hid (rest_c g b n w hb)
  clear hb
  go_enter Try.func58, Try.ntmps58
  go_wp2_with fail
  refine HR.out.mono ?_
  rintro e w' ⟨rfl, hob, hn⟩
  have HO := Lib.hid hob
  have HNN := Lib.hid hn
  clear hob hn
  go_wp2_with fail
  go_end0
  exact ⟨rfl, HO.out, HNN.out⟩
theorem greet_c (g : Nat) (b : BK) (n : Int) (w : World) (hb : Ob w g b) :
    Calls Try.prog 28 #[.pointer (some ⟨g, 0, none⟩), .int .i64 n] w fun e w' => e = .returned (.bool (decide (b.state = 1))) ∧ Ob w' g (if b.state = 1 then rest b n else b) ∧ Near g w w' := by
  have hmf : ∀ (fn : Fn) (first cap : Array Value) (w : World), (Instr.makeFunc fn first cap).run Try.prog w = .ok (.func fn first cap) w := fun _ _ _ _ => rfl
  have HB := Lib.hid ((hb.alloc (.cells #[.pointer (some ⟨g, 0, none⟩)] 24)).alloc (.cells #[.int .i64 n] 3))
  have HN := Lib.hid (((Near.refl g w).alloc (.cells #[.pointer (some ⟨g, 0, none⟩)] 24)).alloc (.cells #[.int .i64 n] 3))
  have HQ := Lib.hid ((Blk.new w 24 #[.pointer (some ⟨g, 0, none⟩)]).alloc (.cells #[.int .i64 n] 3))
  have HQ1 := Lib.hid (Blk.new (w.alloc (.cells #[.pointer (some ⟨g, 0, none⟩)] 24)) 3 #[.int .i64 n])
  clear hb
  by_cases h : b.state = 1
  · have H0 := Lib.hid h
    clear h
    go_enter Try.func28, Try.ntmps28
    go_wp2_with fail
    refine (in_go g b (rest b n) 1 _ _ _ HB.out H0.out does_greet (greet1_c g (w.heap.size + 1) w.heap.size b n _ HB.out ?_ ?_)).mono ?_
    · first | (simp; done) | simpa using HQ1.out.cell 0
    · first | (simp; done) | simpa using HQ.out.cell 0
    rintro e w' ⟨rfl, hob, hn⟩
    have HO := Lib.hid hob
    have HNN := Lib.hid hn
    clear hob hn
    go_wp2_with fail
    go_ret
    have h := H0.out
    exact ⟨by first | rfl | exact ret_bool (by simp [h]), by first | exact HO.out | (rw [if_pos h]; exact HO.out), HN.out.trans HNN.out⟩
  · have H0 := Lib.hid h
    have h1 : (b.state != 1) = true := by simpa using h
    clear h
    go_enter Try.func28, Try.ntmps28
    go_wp2_with fail
    refine (in_no g b 1 true _ _ HB.out (.inl h1)).mono ?_
    rintro e w' ⟨rfl, rfl⟩
    go_wp2_with fail
    go_ret
    have h := H0.out
    exact ⟨by first | rfl | exact ret_bool (by simp [h]), by first | exact HB.out | (rw [if_neg h]; exact HB.out), HN.out⟩
theorem greet_nil (n : Int) (w : World) : Calls Try.prog 28 #[.pointer none, .int .i64 n] w fun e w' => e = .returned (.bool false) ∧ Below w.heap.size w w' := by
  have hmf : ∀ (fn : Fn) (first cap : Array Value) (w : World), (Instr.makeFunc fn first cap).run Try.prog w = .ok (.func fn first cap) w := fun _ _ _ _ => rfl
  have HN := Lib.hid (((Below.refl _ w).alloc (Nat.le_refl _) (.cells #[.pointer none] 24)).alloc (by simp) (.cells #[.int .i64 n] 3))
  go_enter Try.func28, Try.ntmps28
  go_wp2_with fail
  refine (in_nil _ _ _ _).mono ?_
  rintro e w' ⟨rfl, rfl⟩
  go_wp2_with fail
  go_ret
  exact ⟨rfl, HN.out⟩
theorem does_bind : Does 56 := fun _ _ => by kernel_rfl
def bind (b : BK) (c : Int) : BK := { b with state := 3, client := c, owes := 0, since := 0 }
set_option maxHeartbeats 2000000 in
theorem bind1_c (g q1 q : Nat) (b : BK) (n : Int) (w : World) (hb : Ob w g b) (h1 : w.cell? ⟨q1, 0, none⟩ = some (.int .i64 n)) (h3 : w.cell? ⟨q, 0, none⟩ = some (.pointer (some ⟨g, 0, none⟩)))
    (n1 : g ≠ q1) (n3 : g ≠ q) :
    Calls Try.prog 56 #[.pointer (some ⟨q1, 0, none⟩), .pointer (some ⟨q, 0, none⟩)] w fun e w' => e = .returned (.tuple #[]) ∧ Ob w' g (bind b n) ∧ Near g w w' := by
  have c1 : w.cell? ⟨g, 1, none⟩ = some (.int .i64 b.state) := hb.cell 1
  have c4 : w.cell? ⟨g, 4, none⟩ = some (.int .i64 b.since) := hb.cell 4
  have c5 : w.cell? ⟨g, 5, none⟩ = some (.int .i64 b.client) := hb.cell 5
  have c6 : w.cell? ⟨g, 6, none⟩ = some (.int .i64 b.owes) := hb.cell 6
  have f1 := hb.free 1
  have f4 := hb.free 4
  have f5 := hb.free 5
  have f6 := hb.free 6
  have HB := Lib.hid hb
  clear hb
  go_enter Try.func56, Try.ntmps56
  go_wp2_with fail
  go_region_held3 (fun w' => w'.cell? ⟨q1, 0, none⟩ = some (.int .i64 n) ∧ w'.cell? ⟨q, 0, none⟩ = some (.pointer (some ⟨g, 0, none⟩)))
    (go_keep)
    (first | (go_at_call 53; refine (cut_c _ _).mono ?_; rintro e w' ⟨rfl, rfl⟩))
  go_wp2
  go_end0
  exact ⟨rfl, ((((HB.out.set 1 _).set 5 _).set 6 _).set 4 _), (((((Near.refl _ _).set 1 _).set 5 _).set 6 _).set 4 _).drew⟩
theorem bind_c (g : Nat) (b : BK) (n : Int) (w : World) (hb : Ob w g b) :
    Calls Try.prog 29 #[.pointer (some ⟨g, 0, none⟩), .int .i64 n] w fun e w' => e = .returned (.bool (decide (b.state = 2 ∧ 0 < n))) ∧ Ob w' g (if b.state = 2 ∧ 0 < n then bind b n else b) ∧ Near g w w' := by
  have hmf : ∀ (fn : Fn) (first cap : Array Value) (w : World), (Instr.makeFunc fn first cap).run Try.prog w = .ok (.func fn first cap) w := fun _ _ _ _ => rfl
  have hl := hb.lt
  have HB := Lib.hid ((hb.alloc (.cells #[.pointer (some ⟨g, 0, none⟩)] 24)).alloc (.cells #[.int .i64 n] 3))
  have HN := Lib.hid (((Near.refl g w).alloc (.cells #[.pointer (some ⟨g, 0, none⟩)] 24)).alloc (.cells #[.int .i64 n] 3))
  have HQ := Lib.hid ((Blk.new w 24 #[.pointer (some ⟨g, 0, none⟩)]).alloc (.cells #[.int .i64 n] 3))
  have HQ1 := Lib.hid (Blk.new (w.alloc (.cells #[.pointer (some ⟨g, 0, none⟩)] 24)) 3 #[.int .i64 n])
  clear hb
  by_cases h : b.state = 2 ∧ 0 < n
  · have H0 := Lib.hid h
    have hd : decide (0 < n) = true := by simpa using h.2
    clear h
    go_enter Try.func29, Try.ntmps29
    go_wp2_with fail
    refine (in_go g b (bind b n) 2 _ _ _ HB.out H0.out.1 does_bind (bind1_c g (w.heap.size + 1) w.heap.size b n _ HB.out ?_ ?_ (by omega) (by omega))).mono ?_
    · first | (simp; done) | simpa using HQ1.out.cell 0
    · first | (simp; done) | simpa using HQ.out.cell 0
    rintro e w' ⟨rfl, hob, hn⟩
    have HO := Lib.hid hob
    have HNN := Lib.hid hn
    clear hob hn
    go_wp2_with fail
    go_ret
    have h := H0.out
    exact ⟨by first | rfl | exact ret_bool (by simp [h]), by first | exact HO.out | (rw [if_pos h]; exact HO.out), HN.out.trans HNN.out⟩
  · have H0 := Lib.hid h
    have h1 : (b.state != 2) = true ∨ decide (0 < n) = false := by
      by_cases e : b.state = 2
      · right; simp; omega
      · left; simpa using e
    have H1 := Lib.hid h1
    clear h h1
    go_enter Try.func29, Try.ntmps29
    go_wp2_with fail
    refine (in_no g b 2 _ _ _ HB.out H1.out).mono ?_
    rintro e w' ⟨rfl, rfl⟩
    go_wp2_with fail
    go_ret
    have h := H0.out
    exact ⟨by first | rfl | exact ret_bool (by simp [h]), by first | exact HB.out | (rw [if_neg h]; exact HB.out), HN.out⟩
theorem bind_nil (n : Int) (w : World) : Calls Try.prog 29 #[.pointer none, .int .i64 n] w fun e w' => e = .returned (.bool false) ∧ Below w.heap.size w w' := by
  have hmf : ∀ (fn : Fn) (first cap : Array Value) (w : World), (Instr.makeFunc fn first cap).run Try.prog w = .ok (.func fn first cap) w := fun _ _ _ _ => rfl
  have HN := Lib.hid (((Below.refl _ w).alloc (Nat.le_refl _) (.cells #[.pointer none] 24)).alloc (by simp) (.cells #[.int .i64 n] 3))
  go_enter Try.func29, Try.ntmps29
  go_wp2_with fail
  refine (in_nil _ _ _ _).mono ?_
  rintro e w' ⟨rfl, rfl⟩
  go_wp2_with fail
  go_ret
  exact ⟨rfl, HN.out⟩
theorem does_sent : Does 57 := fun _ _ => by kernel_rfl
def sent (b : BK) : BK := { b with owes := b.owes + 1 }
theorem sent1_c (g q : Nat) (b : BK) (w : World) (hb : Ob w g b) (h3 : w.cell? ⟨q, 0, none⟩ = some (.pointer (some ⟨g, 0, none⟩))) (b0 : -1000 ≤ b.owes) (b1 : b.owes ≤ 1000) :
    Calls Try.prog 57 #[.pointer (some ⟨q, 0, none⟩)] w fun e w' => e = .returned (.tuple #[]) ∧ Ob w' g (sent b) ∧ Near g w w' := by
  have c6 : w.cell? ⟨g, 6, none⟩ = some (.int .i64 b.owes) := hb.cell 6
  have f6 := hb.free 6
  have HB := Lib.hid hb
  clear hb
  go_enter Try.func57, Try.ntmps57
  go_wp2
  go_end0
  exact ⟨rfl, HB.out.set 6 _, (Near.refl _ _).set 6 _⟩
theorem does_got : Does 59 := fun _ _ => by kernel_rfl
def got (b : BK) : BK := { b with owes := b.owes - 1 }
theorem got1_c (g q : Nat) (b : BK) (w : World) (hb : Ob w g b) (h3 : w.cell? ⟨q, 0, none⟩ = some (.pointer (some ⟨g, 0, none⟩))) (b0 : -1000 ≤ b.owes) (b1 : b.owes ≤ 1000) :
    Calls Try.prog 59 #[.pointer (some ⟨q, 0, none⟩)] w fun e w' => e = .returned (.tuple #[]) ∧ Ob w' g (got b) ∧ Near g w w' := by
  have c6 : w.cell? ⟨g, 6, none⟩ = some (.int .i64 b.owes) := hb.cell 6
  have f6 := hb.free 6
  have HB := Lib.hid hb
  clear hb
  go_enter Try.func59, Try.ntmps59
  go_wp2
  go_end0
  exact ⟨rfl, HB.out.set 6 _, (Near.refl _ _).set 6 _⟩
theorem sent_c (g : Nat) (b : BK) (w : World) (hb : Ob w g b) (b0 : -1000 ≤ b.owes) (b1 : b.owes ≤ 1000) :
    Calls Try.prog 30 #[.pointer (some ⟨g, 0, none⟩)] w fun e w' => e = .returned (.bool (decide (b.state = 3))) ∧ Ob w' g (if b.state = 3 then sent b else b) ∧ Near g w w' := by
  have hmf : ∀ (fn : Fn) (first cap : Array Value) (w : World), (Instr.makeFunc fn first cap).run Try.prog w = .ok (.func fn first cap) w := fun _ _ _ _ => rfl
  have HB := Lib.hid (hb.alloc (.cells #[.pointer (some ⟨g, 0, none⟩)] 24))
  have HN := Lib.hid ((Near.refl g w).alloc (.cells #[.pointer (some ⟨g, 0, none⟩)] 24))
  have HQ := Lib.hid (Blk.new w 24 #[.pointer (some ⟨g, 0, none⟩)])
  clear hb
  by_cases h : b.state = 3
  · have H0 := Lib.hid h
    clear h
    go_enter Try.func30, Try.ntmps30
    go_wp2_with fail
    refine (in_go g b (sent b) 3 _ _ _ HB.out H0.out does_sent (sent1_c g w.heap.size b _ HB.out ?_ b0 b1)).mono ?_
    · first | (simp; done) | simpa using HQ.out.cell 0
    rintro e w' ⟨rfl, hob, hn⟩
    have HO := Lib.hid hob
    have HNN := Lib.hid hn
    clear hob hn
    go_wp2_with fail
    go_ret
    have h := H0.out
    exact ⟨by first | rfl | exact ret_bool (by simp [h]), by first | exact HO.out | (rw [if_pos h]; exact HO.out), HN.out.trans HNN.out⟩
  · have H0 := Lib.hid h
    have h1 : (b.state != 3) = true := by simpa using h
    clear h
    go_enter Try.func30, Try.ntmps30
    go_wp2_with fail
    refine (in_no g b 3 true _ _ HB.out (.inl h1)).mono ?_
    rintro e w' ⟨rfl, rfl⟩
    go_wp2_with fail
    go_ret
    have h := H0.out
    exact ⟨by first | rfl | exact ret_bool (by simp [h]), by first | exact HB.out | (rw [if_neg h]; exact HB.out), HN.out⟩
theorem sent_nil (w : World) : Calls Try.prog 30 #[.pointer none] w fun e w' => e = .returned (.bool false) ∧ Below w.heap.size w w' := by
  have hmf : ∀ (fn : Fn) (first cap : Array Value) (w : World), (Instr.makeFunc fn first cap).run Try.prog w = .ok (.func fn first cap) w := fun _ _ _ _ => rfl
  have HN := Lib.hid ((Below.refl _ w).alloc (Nat.le_refl _) (.cells #[.pointer none] 24))
  go_enter Try.func30, Try.ntmps30
  go_wp2_with fail
  refine (in_nil _ _ _ _).mono ?_
  rintro e w' ⟨rfl, rfl⟩
  go_wp2_with fail
  go_ret
  exact ⟨rfl, HN.out⟩
def kill (b : BK) : BK := { b with state := 4, client := 0, owes := 0, since := 0 }
theorem kill_c (g : Nat) (b : BK) (w : World) (hb : Ob w g b) :
    Calls Try.prog 33 #[.pointer (some ⟨g, 0, none⟩)] w fun e w' => e = .returned (.bool (decide (b.state ≠ 4))) ∧ Ob w' g (if b.state ≠ 4 then kill b else b) ∧ Near g w w' := by
  have HS := Lib.hid (state_c g b w hb)
  have c1 : w.cell? ⟨g, 1, none⟩ = some (.int .i64 b.state) := hb.cell 1
  have c4 : w.cell? ⟨g, 4, none⟩ = some (.int .i64 b.since) := hb.cell 4
  have c5 : w.cell? ⟨g, 5, none⟩ = some (.int .i64 b.client) := hb.cell 5
  have c6 : w.cell? ⟨g, 6, none⟩ = some (.int .i64 b.owes) := hb.cell 6
  have f1 := hb.free 1
  have f4 := hb.free 4
  have f5 := hb.free 5
  have f6 := hb.free 6
  have HB := Lib.hid hb
  clear hb
  by_cases h : b.state = 4
  · have H0 := Lib.hid h
    have h1 : (b.state == 4) = true := by simpa using h
    clear h
    go_enter Try.func33, Try.ntmps33
    go_wp2_with (go_at_call 11; refine HS.out.mono ?_; rintro e w' ⟨rfl, rfl⟩)
    go_ret
    have h := H0.out
    exact ⟨by first | rfl | exact ret_bool (by simp [h]), by first | exact HB.out | (rw [if_neg (by simpa using h)]; exact HB.out), Near.refl _ _⟩
  · have H0 := Lib.hid h
    have h1 : (b.state == 4) = false := by simpa using h
    clear h
    go_enter Try.func33, Try.ntmps33
    go_wp2_with (go_at_call 11; refine HS.out.mono ?_; rintro e w' ⟨rfl, rfl⟩)
    go_ret
    have h := H0.out
    exact ⟨by first | rfl | exact ret_bool (by simp [h]), by first | exact ((((HB.out.set 1 _).set 5 _).set 6 _).set 4 _) | (rw [if_pos (by simpa using h)]; exact ((((HB.out.set 1 _).set 5 _).set 6 _).set 4 _)), (((((Near.refl _ _).set 1 _).set 5 _).set 6 _).set 4 _)⟩
theorem kill_nil (w : World) : Calls Try.prog 33 #[.pointer none] w fun e w' => e = .returned (.bool false) ∧ w = w' := by
  go_enter Try.func33, Try.ntmps33
  go_wp2_with (go_at_call 11; refine (state_nil _).mono ?_; rintro e w' ⟨rfl, rfl⟩)
  go_ret
  exact ⟨rfl, rfl⟩
end Go.Proofs.Ythmbfmjchbcjlaa
