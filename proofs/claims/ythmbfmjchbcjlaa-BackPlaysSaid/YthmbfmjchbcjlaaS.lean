/- Contracts of Got, Free, Old, Stale of the package back over this seat's translation. -/
import Derived.Test.YthmbfmjchbcjlaaR
namespace Go.Proofs.Ythmbfmjchbcjlaa
open Go.ChangeShapes Go.WideShapes Go.ChangeAt Go.RowKit
set_option maxHeartbeats 4000000 in
theorem got_yes (g : Nat) (b : BK) (w : World) (hb : Ob w g b) (h : b.state = 3) (h0 : 0 < b.owes) (b1 : b.owes ≤ 1000) :
    Calls Try.prog 32 #[.pointer (some ⟨g, 0, none⟩)] w fun e w' => e = .returned (.bool true) ∧ Ob w' g (got b) ∧ Near g w w' := by
  have hmf : ∀ (fn : Fn) (first cap : Array Value) (w : World), (Instr.makeFunc fn first cap).run Try.prog w = .ok (.func fn first cap) w := fun _ _ _ _ => rfl
  have hl := hb.lt
  have HB := Lib.hid (show Ob ((w.alloc (.cells #[.pointer (some ⟨g, 0, none⟩)] 24))) g b from hb.alloc _)
  have HNW := Lib.hid (show Near g w ((w.alloc (.cells #[.pointer (some ⟨g, 0, none⟩)] 24))) from (Near.refl g w).alloc _)
  have HIN := Lib.hid (fun W (hW : Ob W g b) (hc : W.cell? ⟨w.heap.size, 0, none⟩ = some (.pointer (some ⟨g, 0, none⟩))) => in_go g b (got b) 3 _ _ W hW h does_got (got1_c g w.heap.size b W hW hc (by omega) b1))
  have HOW := Lib.hid (fun W (hW : Ob W g b) => owes_c g b W hW)
  have hd : decide (0 < b.owes) = true := by simpa using h0
  have hq : (⟨w.heap.size, 0, none⟩ : Addr).block ≠ g := by show w.heap.size ≠ g; omega
  have HQ := Lib.hid (show Blk ((w.alloc (.cells #[.pointer (some ⟨g, 0, none⟩)] 24))) w.heap.size 24 #[.pointer (some ⟨g, 0, none⟩)] from Blk.new w 24 #[.pointer (some ⟨g, 0, none⟩)])
  clear hb h h0 b1
  go_enter Try.func32, Try.ntmps32
  go_wp2_with fail
  go_region_held3 (fun w' => w'.cell? ⟨w.heap.size, 0, none⟩ = some (.pointer (some ⟨g, 0, none⟩)))
    (first | go_keep | exact s1)
    (first | (go_at_call 15; (with_reducible refine (HOW.out _ ?_).mono ?_); exact HB.out; rintro e w' ⟨rfl, rfl⟩) | (go_at_call 51; (with_reducible refine (HIN.out _ ?_ ?_).mono ?_); exact HB.out.alloc _; exact (HQ.out.alloc _).cell 0; rintro e w2 ⟨rfl, hob, hnear⟩; have s1 := near_cell (p := ⟨w.heap.size, 0, none⟩) hnear hq ((HQ.out.alloc _).cell 0)))
  all_goals
    go_wp2_with fail
    go_ret
    exact ⟨rfl, hob, ((HNW.out.alloc _).drew).trans hnear⟩
set_option maxHeartbeats 4000000 in
theorem got_no (g : Nat) (b : BK) (w : World) (hb : Ob w g b) (h : ¬ (b.state = 3 ∧ 0 < b.owes)) :
    Calls Try.prog 32 #[.pointer (some ⟨g, 0, none⟩)] w fun e w' => e = .returned (.bool false) ∧ Ob w' g b ∧ Near g w w' := by
  have hmf : ∀ (fn : Fn) (first cap : Array Value) (w : World), (Instr.makeFunc fn first cap).run Try.prog w = .ok (.func fn first cap) w := fun _ _ _ _ => rfl
  have HB := Lib.hid (show Ob ((w.alloc (.cells #[.pointer (some ⟨g, 0, none⟩)] 24))) g b from hb.alloc _)
  have HNW := Lib.hid (show Near g w ((w.alloc (.cells #[.pointer (some ⟨g, 0, none⟩)] 24))) from (Near.refl g w).alloc _)
  have HOW := Lib.hid (fun W (hW : Ob W g b) => owes_c g b W hW)
  have HQ := Lib.hid (show Blk ((w.alloc (.cells #[.pointer (some ⟨g, 0, none⟩)] 24))) w.heap.size 24 #[.pointer (some ⟨g, 0, none⟩)] from Blk.new w 24 #[.pointer (some ⟨g, 0, none⟩)])
  have hl := hb.lt
  rcases (show ((b.state != 3) = true) ∨ (decide (0 < b.owes) = false) by
      by_cases e : b.state = 3
      · right; simp; omega
      · left; simpa using e) with hx | hx
  all_goals
    clear hb h
    go_enter Try.func32, Try.ntmps32
    go_wp2_with fail
    go_region_held3 (fun w' => w'.cell? ⟨w.heap.size, 0, none⟩ = some (.pointer (some ⟨g, 0, none⟩)))
      (go_keep)
      (first | (go_at_call 15; (with_reducible refine (HOW.out _ ?_).mono ?_); exact HB.out; rintro e w' ⟨rfl, rfl⟩) | (go_at_call 51; (with_reducible refine (in_no g b 3 _ _ _ ?_ ?_).mono ?_); exact HB.out.alloc _; (first | exact .inl hx | exact .inr rfl | exact .inr hx); rintro e w2 ⟨rfl, rfl⟩))
    all_goals
      go_wp2_with fail
      go_ret
      exact ⟨rfl, HB.out.alloc _, (HNW.out.alloc _).drew⟩
set_option maxHeartbeats 4000000 in
theorem got_nil (w : World) : Calls Try.prog 32 #[.pointer none] w fun e w' => e = .returned (.bool false) ∧ Below w.heap.size w w' := by
  have hmf : ∀ (fn : Fn) (first cap : Array Value) (w : World), (Instr.makeFunc fn first cap).run Try.prog w = .ok (.func fn first cap) w := fun _ _ _ _ => rfl
  have HNW := Lib.hid (show Below w.heap.size w ((w.alloc (.cells #[.pointer none] 24))) from (Below.refl _ w).alloc (Nat.le_refl _) _)
  go_enter Try.func32, Try.ntmps32
  go_wp2_with fail
  go_region_held3 (fun w' => w'.cell? ⟨w.heap.size, 0, none⟩ = some (.pointer none))
    (go_keep)
    (first | (go_at_call 15; (with_reducible refine (owes_nil _).mono ?_); rintro e w' ⟨rfl, rfl⟩) | (go_at_call 51; (with_reducible refine (in_nil 3 _ _ _).mono ?_); rintro e w2 ⟨rfl, rfl⟩))
  all_goals
    go_wp2_with fail
    go_ret
    exact ⟨rfl, (HNW.out.alloc HNW.out.size _).drew⟩
set_option maxHeartbeats 4000000 in
theorem free_yes (g : Nat) (b : BK) (n : Int) (w : World) (hb : Ob w g b) (h : b.state = 3) (h0 : b.owes = 0) :
    Calls Try.prog 31 #[.pointer (some ⟨g, 0, none⟩), .int .i64 n] w fun e w' => e = .returned (.bool true) ∧ Ob w' g (rest b n) ∧ Near g w w' := by
  have hmf : ∀ (fn : Fn) (first cap : Array Value) (w : World), (Instr.makeFunc fn first cap).run Try.prog w = .ok (.func fn first cap) w := fun _ _ _ _ => rfl
  have hl := hb.lt
  have HB := Lib.hid (show Ob ((w.alloc (.cells #[.pointer (some ⟨g, 0, none⟩)] 24)).alloc (.cells #[.int .i64 n] 3)) g b from (hb.alloc _).alloc _)
  have HNW := Lib.hid (show Near g w ((w.alloc (.cells #[.pointer (some ⟨g, 0, none⟩)] 24)).alloc (.cells #[.int .i64 n] 3)) from ((Near.refl g w).alloc _).alloc _)
  have HIN := Lib.hid (fun W (hW : Ob W g b) (hc : W.cell? ⟨w.heap.size, 0, none⟩ = some (.pointer (some ⟨g, 0, none⟩))) (hc2 : W.cell? ⟨w.heap.size + 1, 0, none⟩ = some (.int .i64 n)) => in_go g b (rest b n) 3 _ _ W hW h does_free (free1_c g (w.heap.size + 1) w.heap.size b n W hW hc2 hc))
  have HOW := Lib.hid (fun W (hW : Ob W g b) => owes_c g b W hW)
  have hd : (b.owes == 0) = true := by simpa using h0
  have hq : (⟨w.heap.size, 0, none⟩ : Addr).block ≠ g := by show w.heap.size ≠ g; omega
  have HQ := Lib.hid (show Blk ((w.alloc (.cells #[.pointer (some ⟨g, 0, none⟩)] 24)).alloc (.cells #[.int .i64 n] 3)) w.heap.size 24 #[.pointer (some ⟨g, 0, none⟩)] from (Blk.new w 24 #[.pointer (some ⟨g, 0, none⟩)]).alloc _)
  have HQ1 := Lib.hid (show Blk ((w.alloc (.cells #[.pointer (some ⟨g, 0, none⟩)] 24)).alloc (.cells #[.int .i64 n] 3)) (w.heap.size + 1) 3 #[.int .i64 n] from by simpa using Blk.new (w.alloc (.cells #[.pointer (some ⟨g, 0, none⟩)] 24)) 3 #[.int .i64 n])
  have hq1 : (⟨w.heap.size + 1, 0, none⟩ : Addr).block ≠ g := by show w.heap.size + 1 ≠ g; omega
  clear hb h h0 
  go_enter Try.func31, Try.ntmps31
  go_wp2_with fail
  go_region_held3 (fun w' => w'.cell? ⟨w.heap.size, 0, none⟩ = some (.pointer (some ⟨g, 0, none⟩)) ∧ w'.cell? ⟨w.heap.size + 1, 0, none⟩ = some (.int .i64 n))
    (first | go_keep | exact ⟨s1, s2⟩)
    (first | (go_at_call 15; (with_reducible refine (HOW.out _ ?_).mono ?_); exact HB.out; rintro e w' ⟨rfl, rfl⟩) | (go_at_call 51; (with_reducible refine (HIN.out _ ?_ ?_ ?_).mono ?_); exact HB.out.alloc _; exact (HQ.out.alloc _).cell 0; exact (HQ1.out.alloc _).cell 0; rintro e w2 ⟨rfl, hob, hnear⟩; have s1 := near_cell (p := ⟨w.heap.size, 0, none⟩) hnear hq ((HQ.out.alloc _).cell 0); have s2 := near_cell (p := ⟨w.heap.size + 1, 0, none⟩) hnear hq1 ((HQ1.out.alloc _).cell 0)))
  all_goals
    go_wp2_with fail
    go_ret
    exact ⟨rfl, hob, ((HNW.out.alloc _).drew).trans hnear⟩
set_option maxHeartbeats 4000000 in
theorem free_no (g : Nat) (b : BK) (n : Int) (w : World) (hb : Ob w g b) (h : ¬ (b.state = 3 ∧ b.owes = 0)) :
    Calls Try.prog 31 #[.pointer (some ⟨g, 0, none⟩), .int .i64 n] w fun e w' => e = .returned (.bool false) ∧ Ob w' g b ∧ Near g w w' := by
  have hmf : ∀ (fn : Fn) (first cap : Array Value) (w : World), (Instr.makeFunc fn first cap).run Try.prog w = .ok (.func fn first cap) w := fun _ _ _ _ => rfl
  have HB := Lib.hid (show Ob ((w.alloc (.cells #[.pointer (some ⟨g, 0, none⟩)] 24)).alloc (.cells #[.int .i64 n] 3)) g b from (hb.alloc _).alloc _)
  have HNW := Lib.hid (show Near g w ((w.alloc (.cells #[.pointer (some ⟨g, 0, none⟩)] 24)).alloc (.cells #[.int .i64 n] 3)) from ((Near.refl g w).alloc _).alloc _)
  have HOW := Lib.hid (fun W (hW : Ob W g b) => owes_c g b W hW)
  have HQ := Lib.hid (show Blk ((w.alloc (.cells #[.pointer (some ⟨g, 0, none⟩)] 24)).alloc (.cells #[.int .i64 n] 3)) w.heap.size 24 #[.pointer (some ⟨g, 0, none⟩)] from (Blk.new w 24 #[.pointer (some ⟨g, 0, none⟩)]).alloc _)
  have hl := hb.lt
  have HQ1 := Lib.hid (show Blk ((w.alloc (.cells #[.pointer (some ⟨g, 0, none⟩)] 24)).alloc (.cells #[.int .i64 n] 3)) (w.heap.size + 1) 3 #[.int .i64 n] from by simpa using Blk.new (w.alloc (.cells #[.pointer (some ⟨g, 0, none⟩)] 24)) 3 #[.int .i64 n])
  have hq1 : (⟨w.heap.size + 1, 0, none⟩ : Addr).block ≠ g := by show w.heap.size + 1 ≠ g; omega
  rcases (show ((b.state != 3) = true) ∨ ((b.owes == 0) = false) by
      by_cases e : b.state = 3
      · right; simp; omega
      · left; simpa using e) with hx | hx
  all_goals
    clear hb h
    go_enter Try.func31, Try.ntmps31
    go_wp2_with fail
    go_region_held3 (fun w' => w'.cell? ⟨w.heap.size, 0, none⟩ = some (.pointer (some ⟨g, 0, none⟩)) ∧ w'.cell? ⟨w.heap.size + 1, 0, none⟩ = some (.int .i64 n))
      (go_keep)
      (first | (go_at_call 15; (with_reducible refine (HOW.out _ ?_).mono ?_); exact HB.out; rintro e w' ⟨rfl, rfl⟩) | (go_at_call 51; (with_reducible refine (in_no g b 3 _ _ _ ?_ ?_).mono ?_); exact HB.out.alloc _; (first | exact .inl hx | exact .inr rfl | exact .inr hx); rintro e w2 ⟨rfl, rfl⟩))
    all_goals
      go_wp2_with fail
      go_ret
      exact ⟨rfl, HB.out.alloc _, (HNW.out.alloc _).drew⟩
set_option maxHeartbeats 4000000 in
theorem free_nil (n : Int) (w : World) : Calls Try.prog 31 #[.pointer none, .int .i64 n] w fun e w' => e = .returned (.bool false) ∧ Below w.heap.size w w' := by
  have hmf : ∀ (fn : Fn) (first cap : Array Value) (w : World), (Instr.makeFunc fn first cap).run Try.prog w = .ok (.func fn first cap) w := fun _ _ _ _ => rfl
  have HNW := Lib.hid (show Below w.heap.size w ((w.alloc (.cells #[.pointer none] 24)).alloc (.cells #[.int .i64 n] 3)) from ((Below.refl _ w).alloc (Nat.le_refl _) _).alloc (by simp) _)
  go_enter Try.func31, Try.ntmps31
  go_wp2_with fail
  go_region_held3 (fun w' => w'.cell? ⟨w.heap.size, 0, none⟩ = some (.pointer none) ∧ w'.cell? ⟨w.heap.size + 1, 0, none⟩ = some (.int .i64 n))
    (go_keep)
    (first | (go_at_call 15; (with_reducible refine (owes_nil _).mono ?_); rintro e w' ⟨rfl, rfl⟩) | (go_at_call 51; (with_reducible refine (in_nil 3 _ _ _).mono ?_); rintro e w2 ⟨rfl, rfl⟩))
  all_goals
    go_wp2_with fail
    go_ret
    exact ⟨rfl, (HNW.out.alloc HNW.out.size _).drew⟩
def old (b : BK) (now : Int) : Bool := b.state != 0 && (b.state != 4 && past now b.deadline)
def stale (b : BK) (now idle : Int) : Bool := b.state == 2 && past now (add b.since idle)
theorem old_c (g : Nat) (b : BK) (now : Int) (w : World) (hb : Ob w g b) : Calls Try.prog 16 #[.pointer (some ⟨g, 0, none⟩), .int .i64 now] w fun e w' => e = .returned (.bool (old b now)) ∧ w = w' := by
  have HS := Lib.hid (state_c g b w hb)
  have c3 : w.cell? ⟨g, 3, none⟩ = some (.int .i64 b.deadline) := hb.cell 3
  clear hb
  unfold old
  cases h1 : (b.state != 0)
  · go_enter Try.func16, Try.ntmps16
    go_wp2_with (first | (go_at_call 11; refine HS.out.mono ?_; rintro e w' ⟨rfl, rfl⟩) | (first | (go_at_call 37; refine (past_c _ _ _).mono ?_; rintro e w' ⟨rfl, rfl⟩)))
    go_ret
    exact ⟨rfl, rfl⟩
  · cases h2 : (b.state != 4)
    · go_enter Try.func16, Try.ntmps16
      go_wp2_with (first | (go_at_call 11; refine HS.out.mono ?_; rintro e w' ⟨rfl, rfl⟩) | (first | (go_at_call 37; refine (past_c _ _ _).mono ?_; rintro e w' ⟨rfl, rfl⟩)))
      go_ret
      exact ⟨rfl, rfl⟩
    · go_enter Try.func16, Try.ntmps16
      go_wp2_with (first | (go_at_call 11; refine HS.out.mono ?_; rintro e w' ⟨rfl, rfl⟩) | (first | (go_at_call 37; refine (past_c _ _ _).mono ?_; rintro e w' ⟨rfl, rfl⟩)))
      go_ret
      exact ⟨rfl, rfl⟩
theorem old_nil (now : Int) (w : World) : Calls Try.prog 16 #[.pointer none, .int .i64 now] w fun e w' => e = .returned (.bool false) ∧ w = w' := by
  go_enter Try.func16, Try.ntmps16
  go_wp2_with (go_at_call 11; refine (state_nil _).mono ?_; rintro e w' ⟨rfl, rfl⟩)
  go_ret
  exact ⟨rfl, rfl⟩
theorem stale_c (g : Nat) (b : BK) (now idle : Int) (w : World) (hb : Ob w g b) : Calls Try.prog 17 #[.pointer (some ⟨g, 0, none⟩), .int .i64 now, .int .i64 idle] w fun e w' => e = .returned (.bool (stale b now idle)) ∧ w = w' := by
  have HS := Lib.hid (state_c g b w hb)
  have c4 : w.cell? ⟨g, 4, none⟩ = some (.int .i64 b.since) := hb.cell 4
  clear hb
  unfold stale
  cases h1 : (b.state == 2)
  · go_enter Try.func17, Try.ntmps17
    go_wp2_with (first | (go_at_call 11; refine HS.out.mono ?_; rintro e w' ⟨rfl, rfl⟩) | (first | (go_at_call 37; refine (past_c _ _ _).mono ?_; rintro e w' ⟨rfl, rfl⟩) | (go_at_call 38; refine (add_c _ _ _).mono ?_; rintro e w' ⟨rfl, rfl⟩)))
    go_ret
    exact ⟨rfl, rfl⟩
  · go_enter Try.func17, Try.ntmps17
    go_wp2_with (first | (go_at_call 11; refine HS.out.mono ?_; rintro e w' ⟨rfl, rfl⟩) | (first | (go_at_call 37; refine (past_c _ _ _).mono ?_; rintro e w' ⟨rfl, rfl⟩) | (go_at_call 38; refine (add_c _ _ _).mono ?_; rintro e w' ⟨rfl, rfl⟩)))
    go_ret
    exact ⟨rfl, rfl⟩
theorem stale_nil (now idle : Int) (w : World) : Calls Try.prog 17 #[.pointer none, .int .i64 now, .int .i64 idle] w fun e w' => e = .returned (.bool false) ∧ w = w' := by
  go_enter Try.func17, Try.ntmps17
  go_wp2_with (go_at_call 11; refine (state_nil _).mono ?_; rintro e w' ⟨rfl, rfl⟩)
  go_ret
  exact ⟨rfl, rfl⟩
end Go.Proofs.Ythmbfmjchbcjlaa
