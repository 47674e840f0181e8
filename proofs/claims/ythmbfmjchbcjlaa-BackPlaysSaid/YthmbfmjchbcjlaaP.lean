/- Contracts of the package back's functions over this seat's translation. -/
import Derived.Test.YthmbfmjchbcjlaaA
import Derived.Test.YthmbfmjchbcjlaaQ
namespace Go.Proofs.Ythmbfmjchbcjlaa
open Go.ChangeShapes Go.WideShapes Go.ChangeAt Go.RowKit
/-- A connection's numbers. -/
structure BK where
  host : ByteArray
  state : Int
  born : Int
  deadline : Int
  since : Int
  client : Int
  owes : Int
def bkc (b : BK) : Array Value := #[.string b.host, .int .i64 b.state, .int .i64 b.born, .int .i64 b.deadline, .int .i64 b.since, .int .i64 b.client, .int .i64 b.owes]
def Ob (w : World) (g : Nat) (b : BK) : Prop := Blk w g 47 (bkc b)
def Does (fid : FuncId) : Prop := ∀ (cap : Array Value) (w : World), (callFunc fid cap).run Try.prog w = .ok (.enter fid cap) w
/-- The call through a function value that does something, if it is so. -/
theorem in_yes (g : Nat) (b : BK) (fid : FuncId) (cap : Array Value) (w : World) (hb : Ob w g b) (Q : World → Prop) (hd : Does fid)
    (H : Calls Try.prog fid cap w fun e w' => e = .returned (.tuple #[]) ∧ Q w') :
    Calls Try.prog 51 #[.pointer (some ⟨g, 0, none⟩), .int .i64 b.state, .bool true, .func (.func fid) #[] cap] w fun e w' => e = .returned (.bool true) ∧ Q w' := by
  have c1 : w.cell? ⟨g, 1, none⟩ = some (.int .i64 b.state) := hb.cell 1
  have HH := Lib.hid H
  have hen := hd cap w
  clear H hb
  go_enter Try.func51, Try.ntmps51
  go_wp2_with fail
  refine HH.out.mono ?_
  rintro e w' ⟨rfl, hq⟩
  have HQ := Lib.hid hq
  clear hq
  go_wp2_with fail
  go_ret
  exact ⟨rfl, HQ.out⟩
theorem in_no (g : Nat) (b : BK) (k : Int) (so : Bool) (f : Value) (w : World) (hb : Ob w g b) (h : (b.state != k) = true ∨ so = false) :
    Calls Try.prog 51 #[.pointer (some ⟨g, 0, none⟩), .int .i64 k, .bool so, f] w fun e w' => e = .returned (.bool false) ∧ w = w' := by
  have c1 : w.cell? ⟨g, 1, none⟩ = some (.int .i64 b.state) := hb.cell 1
  clear hb
  by_cases h1 : (b.state != k) = true
  · clear h
    go_enter Try.func51, Try.ntmps51
    go_wp2_with fail
    go_ret
    exact ⟨rfl, rfl⟩
  · obtain rfl : so = false := by simpa [h1] using h
    have h2 : (b.state != k) = false := by simpa using h1
    clear h h1
    go_enter Try.func51, Try.ntmps51
    go_wp2_with fail
    go_ret
    exact ⟨rfl, rfl⟩
theorem in_nil (k : Int) (so : Bool) (f : Value) (w : World) :
    Calls Try.prog 51 #[.pointer none, .int .i64 k, .bool so, f] w fun e w' => e = .returned (.bool false) ∧ w = w' := by
  go_enter Try.func51, Try.ntmps51
  go_wp2_with fail
  go_ret
  exact ⟨rfl, rfl⟩
theorem number_yes (g : Nat) (fid : FuncId) (cap : Array Value) (v : Int) (w : World) (hd : Does fid)
    (H : Calls Try.prog fid cap w fun e w' => e = .returned (.int .i64 v) ∧ w = w') :
    Calls Try.prog 34 #[.pointer (some ⟨g, 0, none⟩), .func (.func fid) #[] cap] w fun e w' => e = .returned (.int .i64 v) ∧ w = w' := by
  have HH := Lib.hid H
  have hen := hd cap w
  clear H
  go_enter Try.func34, Try.ntmps34
  go_wp2_with fail
  refine HH.out.mono ?_
  rintro e w' ⟨rfl, rfl⟩
  go_wp2_with fail
  go_ret
  exact ⟨rfl, rfl⟩
theorem number_nil (f : Value) (w : World) :
    Calls Try.prog 34 #[.pointer none, f] w fun e w' => e = .returned (.int .i64 0) ∧ w = w' := by
  go_enter Try.func34, Try.ntmps34
  go_wp2_with fail
  go_ret
  exact ⟨rfl, rfl⟩
theorem state_c (g : Nat) (b : BK) (w : World) (hb : Ob w g b) : Calls Try.prog 11 #[.pointer (some ⟨g, 0, none⟩)] w fun e w' => e = .returned (.int .i64 b.state) ∧ w = w' := by
  have c1 : w.cell? ⟨g, 1, none⟩ = some (.int .i64 b.state) := hb.cell 1
  clear hb
  go_enter Try.func11, Try.ntmps11
  go_wp2
  go_ret
  exact ⟨rfl, rfl⟩
theorem state_nil (w : World) : Calls Try.prog 11 #[.pointer none] w fun e w' => e = .returned (.int .i64 4) ∧ w = w' := by
  go_enter Try.func11, Try.ntmps11
  go_wp2
  go_ret
  exact ⟨rfl, rfl⟩
theorem host_c (g : Nat) (b : BK) (w : World) (hb : Ob w g b) : Calls Try.prog 18 #[.pointer (some ⟨g, 0, none⟩)] w fun e w' => e = .returned (.string b.host) ∧ w = w' := by
  have c1 : w.cell? ⟨g, 0, none⟩ = some (.string b.host) := hb.cell 0
  clear hb
  go_enter Try.func18, Try.ntmps18
  go_wp2
  go_ret
  exact ⟨rfl, rfl⟩
theorem host_nil (w : World) : Calls Try.prog 18 #[.pointer none] w fun e w' => e = .returned (.string ByteArray.empty) ∧ w = w' := by
  go_enter Try.func18, Try.ntmps18
  go_wp2
  go_ret
  exact ⟨rfl, rfl⟩
theorem new_c (h : ByteArray) (w : World) : Calls Try.prog 9 #[.string h] w fun e w' => e = .returned (.pointer (some ⟨w.heap.size, 0, none⟩)) ∧ w.alloc (.cells (bkc ⟨h, 0, 0, 0, 0, 0, 0⟩) 47) = w' := by
  go_enter Try.func9, Try.ntmps9
  go_wp2
  go_ret
  exact ⟨rfl, rfl⟩
theorem does_client : Does 35 := fun _ _ => by kernel_rfl
theorem client1_c (g q : Nat) (b : BK) (w : World) (hb : Ob w g b) (hq : w.cell? ⟨q, 0, none⟩ = some (.pointer (some ⟨g, 0, none⟩))) : Calls Try.prog 35 #[.pointer (some ⟨q, 0, none⟩)] w fun e w' => e = .returned (.int .i64 b.client) ∧ w = w' := by
  have c1 : w.cell? ⟨g, 5, none⟩ = some (.int .i64 b.client) := hb.cell 5
  clear hb
  go_enter Try.func35, Try.ntmps35
  go_wp2
  go_ret
  exact ⟨rfl, rfl⟩
theorem client_c (g : Nat) (b : BK) (w : World) (hb : Ob w g b) : Calls Try.prog 14 #[.pointer (some ⟨g, 0, none⟩)] w fun e w' => e = .returned (.int .i64 b.client) ∧ w.alloc (.cells #[.pointer (some ⟨g, 0, none⟩)] 24) = w' := by
  have hmf : ∀ (fn : Fn) (first cap : Array Value) (w : World), (Instr.makeFunc fn first cap).run Try.prog w = .ok (.func fn first cap) w := fun _ _ _ _ => rfl
  have HB := Lib.hid (hb.alloc (.cells #[.pointer (some ⟨g, 0, none⟩)] 24))
  clear hb
  go_enter Try.func14, Try.ntmps14
  go_wp2_with fail
  refine (number_yes g _ _ b.client _ does_client (client1_c g w.heap.size b _ HB.out ?_)).mono ?_
  · rw [World.cell?_alloc_at _ _ _ _ rfl]; rfl
  rintro e w' ⟨rfl, rfl⟩
  go_wp2_with fail
  go_ret
  exact ⟨rfl, rfl⟩
theorem client_nil (w : World) : Calls Try.prog 14 #[.pointer none] w fun e w' => e = .returned (.int .i64 0) ∧ w.alloc (.cells #[.pointer none] 24) = w' := by
  have hmf : ∀ (fn : Fn) (first cap : Array Value) (w : World), (Instr.makeFunc fn first cap).run Try.prog w = .ok (.func fn first cap) w := fun _ _ _ _ => rfl
  go_enter Try.func14, Try.ntmps14
  go_wp2_with fail
  refine (number_nil _ _).mono ?_
  rintro e w' ⟨rfl, rfl⟩
  go_wp2_with fail
  go_ret
  exact ⟨rfl, rfl⟩
theorem does_owes : Does 36 := fun _ _ => by kernel_rfl
theorem owes1_c (g q : Nat) (b : BK) (w : World) (hb : Ob w g b) (hq : w.cell? ⟨q, 0, none⟩ = some (.pointer (some ⟨g, 0, none⟩))) : Calls Try.prog 36 #[.pointer (some ⟨q, 0, none⟩)] w fun e w' => e = .returned (.int .i64 b.owes) ∧ w = w' := by
  have c1 : w.cell? ⟨g, 6, none⟩ = some (.int .i64 b.owes) := hb.cell 6
  clear hb
  go_enter Try.func36, Try.ntmps36
  go_wp2
  go_ret
  exact ⟨rfl, rfl⟩
theorem owes_c (g : Nat) (b : BK) (w : World) (hb : Ob w g b) : Calls Try.prog 15 #[.pointer (some ⟨g, 0, none⟩)] w fun e w' => e = .returned (.int .i64 b.owes) ∧ w.alloc (.cells #[.pointer (some ⟨g, 0, none⟩)] 24) = w' := by
  have hmf : ∀ (fn : Fn) (first cap : Array Value) (w : World), (Instr.makeFunc fn first cap).run Try.prog w = .ok (.func fn first cap) w := fun _ _ _ _ => rfl
  have HB := Lib.hid (hb.alloc (.cells #[.pointer (some ⟨g, 0, none⟩)] 24))
  clear hb
  go_enter Try.func15, Try.ntmps15
  go_wp2_with fail
  refine (number_yes g _ _ b.owes _ does_owes (owes1_c g w.heap.size b _ HB.out ?_)).mono ?_
  · rw [World.cell?_alloc_at _ _ _ _ rfl]; rfl
  rintro e w' ⟨rfl, rfl⟩
  go_wp2_with fail
  go_ret
  exact ⟨rfl, rfl⟩
theorem owes_nil (w : World) : Calls Try.prog 15 #[.pointer none] w fun e w' => e = .returned (.int .i64 0) ∧ w.alloc (.cells #[.pointer none] 24) = w' := by
  have hmf : ∀ (fn : Fn) (first cap : Array Value) (w : World), (Instr.makeFunc fn first cap).run Try.prog w = .ok (.func fn first cap) w := fun _ _ _ _ => rfl
  go_enter Try.func15, Try.ntmps15
  go_wp2_with fail
  refine (number_nil _ _).mono ?_
  rintro e w' ⟨rfl, rfl⟩
  go_wp2_with fail
  go_ret
  exact ⟨rfl, rfl⟩
theorem does_born : Does 39 := fun _ _ => by kernel_rfl
theorem born1_c (g q : Nat) (b : BK) (w : World) (hb : Ob w g b) (hq : w.cell? ⟨q, 0, none⟩ = some (.pointer (some ⟨g, 0, none⟩))) : Calls Try.prog 39 #[.pointer (some ⟨q, 0, none⟩)] w fun e w' => e = .returned (.int .i64 b.born) ∧ w = w' := by
  have c1 : w.cell? ⟨g, 2, none⟩ = some (.int .i64 b.born) := hb.cell 2
  clear hb
  go_enter Try.func39, Try.ntmps39
  go_wp2
  go_ret
  exact ⟨rfl, rfl⟩
theorem born_c (g : Nat) (b : BK) (w : World) (hb : Ob w g b) : Calls Try.prog 19 #[.pointer (some ⟨g, 0, none⟩)] w fun e w' => e = .returned (.int .i64 b.born) ∧ w.alloc (.cells #[.pointer (some ⟨g, 0, none⟩)] 24) = w' := by
  have hmf : ∀ (fn : Fn) (first cap : Array Value) (w : World), (Instr.makeFunc fn first cap).run Try.prog w = .ok (.func fn first cap) w := fun _ _ _ _ => rfl
  have HB := Lib.hid (hb.alloc (.cells #[.pointer (some ⟨g, 0, none⟩)] 24))
  clear hb
  go_enter Try.func19, Try.ntmps19
  go_wp2_with fail
  refine (number_yes g _ _ b.born _ does_born (born1_c g w.heap.size b _ HB.out ?_)).mono ?_
  · rw [World.cell?_alloc_at _ _ _ _ rfl]; rfl
  rintro e w' ⟨rfl, rfl⟩
  go_wp2_with fail
  go_ret
  exact ⟨rfl, rfl⟩
theorem born_nil (w : World) : Calls Try.prog 19 #[.pointer none] w fun e w' => e = .returned (.int .i64 0) ∧ w.alloc (.cells #[.pointer none] 24) = w' := by
  have hmf : ∀ (fn : Fn) (first cap : Array Value) (w : World), (Instr.makeFunc fn first cap).run Try.prog w = .ok (.func fn first cap) w := fun _ _ _ _ => rfl
  go_enter Try.func19, Try.ntmps19
  go_wp2_with fail
  refine (number_nil _ _).mono ?_
  rintro e w' ⟨rfl, rfl⟩
  go_wp2_with fail
  go_ret
  exact ⟨rfl, rfl⟩
theorem does_deadline : Does 40 := fun _ _ => by kernel_rfl
theorem deadline1_c (g q : Nat) (b : BK) (w : World) (hb : Ob w g b) (hq : w.cell? ⟨q, 0, none⟩ = some (.pointer (some ⟨g, 0, none⟩))) : Calls Try.prog 40 #[.pointer (some ⟨q, 0, none⟩)] w fun e w' => e = .returned (.int .i64 b.deadline) ∧ w = w' := by
  have c1 : w.cell? ⟨g, 3, none⟩ = some (.int .i64 b.deadline) := hb.cell 3
  clear hb
  go_enter Try.func40, Try.ntmps40
  go_wp2
  go_ret
  exact ⟨rfl, rfl⟩
theorem deadline_c (g : Nat) (b : BK) (w : World) (hb : Ob w g b) : Calls Try.prog 20 #[.pointer (some ⟨g, 0, none⟩)] w fun e w' => e = .returned (.int .i64 b.deadline) ∧ w.alloc (.cells #[.pointer (some ⟨g, 0, none⟩)] 24) = w' := by
  have hmf : ∀ (fn : Fn) (first cap : Array Value) (w : World), (Instr.makeFunc fn first cap).run Try.prog w = .ok (.func fn first cap) w := fun _ _ _ _ => rfl
  have HB := Lib.hid (hb.alloc (.cells #[.pointer (some ⟨g, 0, none⟩)] 24))
  clear hb
  go_enter Try.func20, Try.ntmps20
  go_wp2_with fail
  refine (number_yes g _ _ b.deadline _ does_deadline (deadline1_c g w.heap.size b _ HB.out ?_)).mono ?_
  · rw [World.cell?_alloc_at _ _ _ _ rfl]; rfl
  rintro e w' ⟨rfl, rfl⟩
  go_wp2_with fail
  go_ret
  exact ⟨rfl, rfl⟩
theorem deadline_nil (w : World) : Calls Try.prog 20 #[.pointer none] w fun e w' => e = .returned (.int .i64 0) ∧ w.alloc (.cells #[.pointer none] 24) = w' := by
  have hmf : ∀ (fn : Fn) (first cap : Array Value) (w : World), (Instr.makeFunc fn first cap).run Try.prog w = .ok (.func fn first cap) w := fun _ _ _ _ => rfl
  go_enter Try.func20, Try.ntmps20
  go_wp2_with fail
  refine (number_nil _ _).mono ?_
  rintro e w' ⟨rfl, rfl⟩
  go_wp2_with fail
  go_ret
  exact ⟨rfl, rfl⟩
theorem does_since : Does 41 := fun _ _ => by kernel_rfl
theorem since1_c (g q : Nat) (b : BK) (w : World) (hb : Ob w g b) (hq : w.cell? ⟨q, 0, none⟩ = some (.pointer (some ⟨g, 0, none⟩))) : Calls Try.prog 41 #[.pointer (some ⟨q, 0, none⟩)] w fun e w' => e = .returned (.int .i64 b.since) ∧ w = w' := by
  have c1 : w.cell? ⟨g, 4, none⟩ = some (.int .i64 b.since) := hb.cell 4
  clear hb
  go_enter Try.func41, Try.ntmps41
  go_wp2
  go_ret
  exact ⟨rfl, rfl⟩
theorem since_c (g : Nat) (b : BK) (w : World) (hb : Ob w g b) : Calls Try.prog 21 #[.pointer (some ⟨g, 0, none⟩)] w fun e w' => e = .returned (.int .i64 b.since) ∧ w.alloc (.cells #[.pointer (some ⟨g, 0, none⟩)] 24) = w' := by
  have hmf : ∀ (fn : Fn) (first cap : Array Value) (w : World), (Instr.makeFunc fn first cap).run Try.prog w = .ok (.func fn first cap) w := fun _ _ _ _ => rfl
  have HB := Lib.hid (hb.alloc (.cells #[.pointer (some ⟨g, 0, none⟩)] 24))
  clear hb
  go_enter Try.func21, Try.ntmps21
  go_wp2_with fail
  refine (number_yes g _ _ b.since _ does_since (since1_c g w.heap.size b _ HB.out ?_)).mono ?_
  · rw [World.cell?_alloc_at _ _ _ _ rfl]; rfl
  rintro e w' ⟨rfl, rfl⟩
  go_wp2_with fail
  go_ret
  exact ⟨rfl, rfl⟩
theorem since_nil (w : World) : Calls Try.prog 21 #[.pointer none] w fun e w' => e = .returned (.int .i64 0) ∧ w.alloc (.cells #[.pointer none] 24) = w' := by
  have hmf : ∀ (fn : Fn) (first cap : Array Value) (w : World), (Instr.makeFunc fn first cap).run Try.prog w = .ok (.func fn first cap) w := fun _ _ _ _ => rfl
  go_enter Try.func21, Try.ntmps21
  go_wp2_with fail
  refine (number_nil _ _).mono ?_
  rintro e w' ⟨rfl, rfl⟩
  go_wp2_with fail
  go_ret
  exact ⟨rfl, rfl⟩
end Go.Proofs.Ythmbfmjchbcjlaa
