/- Contracts of the library's binary search at a slice of numbers, and of a window's small functions, over this seat's translation. -/
import Derived.Test.YtgonoccacbbhjaaXp
import Derived.Test.YtgonoccacbbhjaaQ
import Derived.Lib.SlicesSearch
import Derived.Deep.LoopGhost
import Derived.ArgAppend
import Derived.IntWalk
import Derived.BigRegion
namespace Go.Proofs.Ytgonoccacbbhjaa
open Go.ChangeShapes Go.WideShapes Go.ChangeAt Go.RowKit
set_option linter.unusedVariables false
/-- The slice value's first cells are the numbers, in blocks from B on. -/
def IR (w : World) (B : Nat) (A : Option Addr) (l : List Int) : Prop := ∀ j (hj : j < l.length), ∃ x, A = some x ∧ B ≤ x.block ∧ w.cell? (x.add j) = some (.int .i64 l[j])
theorem isNaN_c (x : Int) (w : World) : Calls Try.prog 32 #[.int .i64 x] w fun e w' => e = .returned (.bool false) ∧ w = w' := by
  go_enter Try.func32, Try.ntmps32
  go_wp2
  go_ret
  exact ⟨by simp, rfl⟩
theorem cisNaN_c (x : Int) (w : World) : Calls Try.prog 33 #[.int .i64 x] w fun e w' => e = .returned (.bool false) ∧ w = w' := by
  go_enter Try.func33, Try.ntmps33
  go_wp2
  go_ret
  exact ⟨by simp, rfl⟩
theorem less_c (x y : Int) (w : World) : Calls Try.prog 31 #[.int .i64 x, .int .i64 y] w fun e w' => e = .returned (.bool (decide (x < y))) ∧ w = w' := by
  go_enter Try.func31, Try.ntmps31
  go_wp2_with (go_at_call 33; refine (cisNaN_c _ _).mono ?_; rintro e w' ⟨rfl, rfl⟩)
  go_ret
  exact ⟨rfl, rfl⟩
def Found (n : Int) (b : Bool) (w : World) (e : Ending) (w' : World) : Prop := e = .returned (.tuple #[.int .i64 n, .bool b]) ∧ ∃ q, w.drewN q = w'
theorem found_mk {n m q : Nat} {w : World} {b c : Bool} (h : n = m) (hb : c = b) : Found (n : Int) c w (.returned (.tuple #[.int .i64 (m : Int), .bool b])) (w.drewN q) := ⟨by rw [h, hb], q, rfl⟩
set_option maxHeartbeats 4000000 in
set_option maxRecDepth 100000 in
theorem bs_c (A : Option Addr) (c B : Nat) (zs : List Int) (x : Int) (w : World) (hc : IR w B A zs) (hbig : zs.length ≤ 1000000) (hs : Up zs) :
    Calls Try.prog 30 #[.slice A zs.length c, .int .i64 x] w (Found (zs.countP fun y => decide (y < x) : Nat) (zs.contains x) w) := by
  have HC := Lib.hid hc
  have S := Lib.hid (Lib.sorted_at zs zs.length (Nat.le_refl _) (by rw [List.take_length]; exact hs))
  obtain ⟨n, hn⟩ : ∃ n, n = zs.length := ⟨_, rfl⟩
  have HN := Lib.hid hn
  rw [← hn] at hbig ⊢
  clear hs hc hn
  go_enter Try.func30, Try.ntmps30
  go_wp2
  go_loopg [7, 8] n (fun g s7 s8 wr => ∃ lo hi q : Nat, s7 = .int .i64 lo ∧ s8 = .int .i64 hi ∧ lo ≤ hi ∧ hi ≤ n ∧ hi - lo ≤ g ∧ wr = w.drewN q ∧ (∀ t, t < lo → zs.getD t 0 < x) ∧ (∀ t, hi ≤ t → t < n → x ≤ zs.getD t 0))
  case atStart => exact ⟨0, n, 0, rfl, rfl, Nat.zero_le _, Nat.le_refl _, by omega, rfl, fun t ht => absurd ht (Nat.not_lt_zero _), fun t h1 h2 => by omega⟩
  case round =>
    obtain ⟨lo, hi, q, rfl, rfl, hlh, hin, hg, rfl, h1, h2⟩ := hrel
    have I := Lib.hid (show (∀ t, t < lo → zs.getD t 0 < x) ∧ (∀ t, hi ≤ t → t < n → x ≤ zs.getD t 0) from ⟨h1, h2⟩)
    clear h1 h2
    by_cases hlt : lo < hi
    · obtain ⟨a, rfl, _, cm⟩ := HC.out ((lo + hi) / 2) (by rw [← HN.out]; omega)
      have hget : zs[(lo + hi) / 2]'(by rw [← HN.out]; omega) = zs.getD ((lo + hi) / 2) 0 := by rw [List.getD_eq_getElem?_getD, List.getElem?_eq_getElem]; rfl
      rw [hget] at cm
      clear hget
      generalize hy : zs.getD ((lo + hi) / 2) 0 = y at cm
      have Y := Lib.hid hy
      clear hy
      by_cases hyx : y < x
      · go_wp2_with (first | (go_at_call 31; refine (less_c _ _ _).mono ?_; rintro e w' ⟨rfl, rfl⟩) | (go_at_call 32; refine (isNaN_c _ _).mono ?_; rintro e w' ⟨rfl, rfl⟩))
        go_roundg (hi - ((lo + hi) / 2 + 1))
        case measure => omega
        case rel =>
          refine ⟨(lo + hi) / 2 + 1, hi, _, by rw [show ((lo : Int) + (hi : Int)) / 2 + 1 = (((lo + hi) / 2 + 1 : Nat) : Int) by omega], rfl, by omega, hin, Nat.le_refl _, rfl, fun t ht => ?_, I.out.2⟩
          have := S.out t ((lo + hi) / 2) (by omega) (by rw [← HN.out]; omega)
          rw [Y.out] at this
          omega
      · go_wp2_with (first | (go_at_call 31; refine (less_c _ _ _).mono ?_; rintro e w' ⟨rfl, rfl⟩) | (go_at_call 32; refine (isNaN_c _ _).mono ?_; rintro e w' ⟨rfl, rfl⟩))
        go_roundg ((lo + hi) / 2 - lo)
        case measure => omega
        case rel =>
          refine ⟨lo, (lo + hi) / 2, _, rfl, by rw [show ((lo : Int) + (hi : Int)) / 2 = (((lo + hi) / 2 : Nat) : Int) by omega], by omega, by omega, Nat.le_refl _, rfl, I.out.1, fun t ht htn => ?_⟩
          have := S.out ((lo + hi) / 2) t ht (by rw [← HN.out]; exact htn)
          rw [Y.out] at this
          omega
    · obtain rfl : hi = lo := by omega
      obtain ⟨e1, e2⟩ := Lib.search_end zs zs.length hi x (Nat.le_refl _) (by rw [← HN.out]; exact hin) I.out.1 (fun t h1 h2 => I.out.2 t h1 (by rw [HN.out]; exact h2)) S.out
      rw [List.take_length] at e1 e2
      rw [← HN.out] at e2
      have E := Lib.hid e1
      have E2 := Lib.hid e2
      clear e1 e2
      by_cases hn : hi < n
      · obtain ⟨a, rfl, _, cl⟩ := HC.out hi (by rw [← HN.out]; exact hn)
        have hget : zs[hi]'(by rw [← HN.out]; exact hn) = zs.getD hi 0 := by rw [List.getD_eq_getElem?_getD, List.getElem?_eq_getElem]; rfl
        rw [hget] at cl
        clear hget
        generalize hy : zs.getD hi 0 = y at cl
        have Y := Lib.hid hy
        clear hy
        by_cases hyx : y = x
        · subst hyx
          go_wp2_with (first | (go_at_call 31; refine (less_c _ _ _).mono ?_; rintro e w' ⟨rfl, rfl⟩) | (go_at_call 32; refine (isNaN_c _ _).mono ?_; rintro e w' ⟨rfl, rfl⟩))
          go_ret2
          exact found_mk E.out (by rw [E2.out, Y.out]; simp [hn])
        · have h1 : (y == x) = false := by simpa using hyx
          go_wp2_with (first | (go_at_call 31; refine (less_c _ _ _).mono ?_; rintro e w' ⟨rfl, rfl⟩) | (go_at_call 32; refine (isNaN_c _ _).mono ?_; rintro e w' ⟨rfl, rfl⟩))
          go_ret2
          exact found_mk E.out (by rw [E2.out, Y.out]; simp [hyx])
      · go_wp2_with (first | (go_at_call 31; refine (less_c _ _ _).mono ?_; rintro e w' ⟨rfl, rfl⟩) | (go_at_call 32; refine (isNaN_c _ _).mono ?_; rintro e w' ⟨rfl, rfl⟩))
        go_ret2
        exact found_mk E.out (by rw [E2.out]; simp [hn])
/-- A window: its numbers, and where its ticks lie. -/
def WC (w : World) (B g : Nat) (n : WN) (A : Option Addr) (c : Nat) : Prop := Blk w g 49 #[.int .i64 n.span, .int .i64 n.top, .slice A n.l.length c] ∧ IR w B A n.l ∧ (A = none → n.l.length = 0 ∧ c = 0)
def OW (w : World) (B g : Nat) (n : WN) : Prop := g < B ∧ ∃ A, WC w B g n A n.l.length
/-- .. with some capacity. -/
def OWc (w : World) (B g : Nat) (n : WN) : Prop := g < B ∧ ∃ A c, n.l.length ≤ c ∧ WC w B g n A c
set_option maxHeartbeats 2000000 in
theorem from_c (B g : Nat) (n : WN) (A : Option Addr) (c : Nat) (now : Int) (w : World) (h : WC w B g n A c) (hf : WF n) (hl : n.l.length ≤ 1000000) (b0 : 0 ≤ now) (b1 : now ≤ 1099511627776) :
    Calls Try.prog 26 #[.pointer (some ⟨g, 0, none⟩), .int .i64 now] w fun e w' => e = .returned (.int .i64 (cb n.span now n.l : Nat)) ∧ ∃ q, w' = w.drewN q := by
  obtain ⟨hb, hi, _⟩ := h
  have c0 : w.cell? ⟨g, 0, none⟩ = some (.int .i64 n.span) := hb.cell 0
  have c2 : w.cell? ⟨g, 2, none⟩ = some (.slice A n.l.length c) := hb.cell 2
  have s1 := hf.s1
  have s2 := hf.s2
  have HB := Lib.hid (fun q => show Calls Try.prog 30 #[.slice A n.l.length c, .int .i64 (now - n.span + 1)] (w.drewN q) fun e w' => e = .returned (.tuple #[.int .i64 (cb n.span now n.l : Nat), .bool (n.l.contains (now - n.span + 1))]) ∧ ∃ m, w' = (w.drewN q).drewN m from (bs_c A c B n.l (now - n.span + 1) (w.drewN q) hi hl hf.up).mono fun _ _ ⟨he, m, hm⟩ => ⟨he, m, hm.symm⟩)
  have hw1 : IntKind.i64.wrap (now - n.span) = now - n.span := IntWalk.i64_in _ (by omega)
  have hw2 : IntKind.i64.wrap (now - n.span + 1) = now - n.span + 1 := IntWalk.i64_in _ (by omega)
  clear hb hi hf
  go_enter Try.func26, Try.ntmps26
  go_wp2_with fail
  go_quiet ((go_at_call 30; exact Calls.quiet_of (HB.out _)))
  go_wp2_with fail
  go_ret
  exact ⟨rfl, _, rfl⟩
theorem IR.near {w w' : World} {B g : Nat} {A : Option Addr} {l : List Int} (h : IR w B A l) (hn : Near g w w') (hg : g < B) : IR w' B A l := fun j hj => by
  obtain ⟨x, rfl, hb, hc⟩ := h j hj
  exact ⟨x, rfl, hb, near_cell hn (by rw [block_add]; omega) hc⟩
theorem IR.keep {w w' : World} {B : Nat} {A : Option Addr} {l : List Int} (h : IR w B A l) (hb : Below w.heap.size w w') : IR w' B A l := fun j hj => by
  obtain ⟨x, rfl, hx, hc⟩ := h j hj
  exact ⟨x, rfl, hx, by rw [hb.cell (cell_lt hc)]; exact hc⟩
theorem IR.drop {w : World} {B : Nat} {x : Addr} {l : List Int} (h : IR w B (some x) l) (n : Nat) : IR w B (some (x.add n)) (l.drop n) := fun j hj => by
  have hj2 : n + j < l.length := by rw [List.length_drop] at hj; omega
  obtain ⟨y, hy, hb, c1⟩ := h (n + j) hj2
  cases hy
  refine ⟨_, rfl, by rw [block_add]; exact hb, ?_⟩
  rw [add_of_add, c1, List.getElem_drop]
theorem WC.near {w w' : World} {B g k : Nat} {n : WN} {A : Option Addr} {c : Nat} (h : WC w B g n A c) (hn : Near k w w') (hk : k < B) (hg : g ≠ k) : WC w' B g n A c := ⟨h.1.near hn hg, h.2.1.near hn hk, h.2.2⟩
theorem WC.keep {w w' : World} {B g : Nat} {n : WN} {A : Option Addr} {c : Nat} (h : WC w B g n A c) (hb : Below w.heap.size w w') : WC w' B g n A c := ⟨h.1.below hb h.1.lt, h.2.1.keep hb, h.2.2⟩
/-- What a call answers of a window, and what becomes of it. -/
def CP (n : WN) (r : Nat) (B g : Nat) (w : World) (e : Ending) (w' : World) : Prop := e = .returned (.int .i64 (r : Int)) ∧ OW w' B g n ∧ Near g w w'
theorem WC.sliced {W : World} {B g k c : Nat} {n : WN} {A A' : Option Addr} (h : WC W B g n A c) (hg : g < B) (hA : (A = none ∧ A' = none) ∨ (n.l.length = k ∧ A' = A) ∨ (∃ x, A = some x ∧ A' = some (x.add k))) :
    WC (W.setCell ⟨g, 2, none⟩ (.slice A' (n.l.length - k) (n.l.length - k))) B g ⟨n.span, n.top, n.l.drop k⟩ A' (n.l.length - k) := by
  have hl : (n.l.drop k).length = n.l.length - k := List.length_drop
  refine ⟨?_, ?_, ?_⟩
  · have := h.1.set 2 (.slice A' (n.l.length - k) (n.l.length - k))
    show Blk _ _ _ #[.int .i64 n.span, .int .i64 n.top, .slice A' (n.l.drop k).length (n.l.length - k)]
    rw [hl]; exact this
  · refine IR.near (w := W) ?_ ((Near.refl g W).set 2 _) hg
    rcases hA with ⟨h1, h2⟩ | ⟨h1, h2⟩ | ⟨x, h1, h2⟩
    · intro j hj; have := (h.2.2 h1).1; dsimp only at hj; omega
    · intro j hj; dsimp only at hj; omega
    · rw [h2]; have := h.2.1; rw [h1] at this; exact this.drop k
  · intro h0
    dsimp only
    rw [hl]
    rcases hA with ⟨h1, h2⟩ | ⟨h1, h2⟩ | ⟨x, h1, h2⟩
    · have := (h.2.2 h1).1; omega
    · omega
    · rw [h2] at h0; cases h0
theorem WC.drewN {W : World} {B g c : Nat} {n : WN} {A : Option Addr} (h : WC W B g n A c) (q : Nat) : WC (W.drewN q) B g n A c := h
set_option maxRecDepth 100000 in
set_option maxHeartbeats 8000000 in
theorem count_c (B g : Nat) (n : WN) (now : Int) (w : World) (h : OWc w B g n) (hf : WF n) (hl : n.l.length ≤ 1000000) :
    Calls Try.prog 12 #[.pointer (some ⟨g, 0, none⟩), .int .i64 now] w (CP (cnt n now) (cntN n now) B g w) := by
  obtain ⟨hg, A, c, hlc, hwc⟩ := h
  have c1 : w.cell? ⟨g, 1, none⟩ = some (.int .i64 n.top) := hwc.1.cell 1
  have q1 : w.frozen? ⟨g, 1, none⟩ = false := hwc.1.free 1
  have t1 := hf.t1
  have t2 := hf.t2
  have hc := cut_in now
  have hc0 := hc.1
  have hc1 := hc.2
  obtain ⟨T, hT⟩ : ∃ T, T = max n.top (cut now) := ⟨_, rfl⟩
  have hT0 : 0 ≤ T := by omega
  have hT1 : T ≤ 1099511627776 := by omega
  obtain ⟨k, hk⟩ : ∃ k, k = cb n.span T n.l := ⟨_, rfl⟩
  have hkl := cb_le n.span T n.l
  rw [← hk] at hkl
  have hN2 : cnt n now = ⟨n.span, T, n.l.drop k⟩ := by unfold cnt; rw [← hT, hk, drop_cb n.span T n.l hf.up]
  have hC2 : (cntN n now : Int) = ((n.l.length - k : Nat) : Int) - (cb n.span (cut now) (n.l.drop k) : Nat) := by
    have h1 := lf_len n.span (cut now) (n.l.drop k)
    have h2 := cb_le n.span (cut now) (n.l.drop k)
    have h3 : (n.l.drop k).length = n.l.length - k := List.length_drop
    unfold cntN; rw [hN2]; dsimp only; rw [h1]; omega
  have hf2 := wf_cnt hf now
  rw [hN2] at hf2
  have hwc1 : WC (w.setCell ⟨g, 1, none⟩ (.int .i64 T)) B g ⟨n.span, T, n.l⟩ A c := ⟨hwc.1.set 1 _, hwc.2.1.near ((Near.refl g w).set 1 _) hg, hwc.2.2⟩
  have hfr := from_c B g ⟨n.span, T, n.l⟩ A c T _ hwc1 ⟨hf.s1, hf.s2, hT0, hT1, hf.up⟩ hl hT0 hT1
  rw [show cb (WN.mk n.span T n.l).span T (WN.mk n.span T n.l).l = k from hk.symm] at hfr
  have HFR := Lib.hid hfr
  have HW := Lib.hid hwc1
  have HN := Lib.hid ((Near.refl g w).set 1 (.int .i64 T))
  have HFR2 := Lib.hid (fun (W2 : World) (A' : Option Addr) (q : Nat) (h : WC W2 B g ⟨n.span, T, n.l.drop k⟩ A' (n.l.length - k)) =>
    from_c B g ⟨n.span, T, n.l.drop k⟩ A' (n.l.length - k) (cut now) (W2.drewN q) (h.drewN q) hf2 (by dsimp only; rw [List.length_drop]; omega) hc0 hc1)
  have HSL := Lib.hid (fun (W : World) (A' : Option Addr) (h : WC W B g ⟨n.span, T, n.l⟩ A c) (hA : (A = none ∧ A' = none) ∨ (n.l.length = k ∧ A' = A) ∨ (∃ x, A = some x ∧ A' = some (x.add k))) => h.sliced hg hA)
  have HE := Lib.hid (fun (W2 : World) (A' : Option Addr) (q : Nat) (h : WC W2 B g ⟨n.span, T, n.l.drop k⟩ A' (n.l.length - k)) (hN : Near g w W2) (v : Int) (hv : v = ((n.l.length - k : Nat) : Int) - (cb n.span (cut now) (n.l.drop k) : Nat)) =>
    show CP (cnt n now) (cntN n now) B g w (.returned (.int .i64 v)) (W2.drewN q) from
      ⟨by rw [hC2, hv], by rw [hN2]; exact ⟨hg, A', by dsimp only; rw [List.length_drop]; exact h⟩, hN.drewN q⟩)
  generalize cb n.span (cut now) (n.l.drop k) = k' at *
  have hk' : k' ≤ n.l.length - k := by omega
  clear hC2 hN2 hf2 hfr
  rcases (by omega : (cut now ≤ n.top ∧ T = n.top) ∨ (n.top < cut now ∧ T = cut now)) with ⟨hm, ht⟩ | ⟨hm, ht⟩
  all_goals
    clear hT hk hc hwc hwc1 hf
    subst ht
    go_enter Try.func12, Try.ntmps12
    go_wp2_with (go_at_call 25; refine (cut_c _ _).mono ?_; rintro e w' ⟨rfl, rfl⟩)
    refine HFR.out.mono ?_
    rintro e w1 ⟨rfl, q, rfl⟩
  · obtain ⟨W, hW⟩ : ∃ W, (w.setCell ⟨g, 1, none⟩ (.int .i64 (n.top))).drewN q = W := ⟨_, rfl⟩
    have HW1 := Lib.hid (show WC W B g ⟨n.span, n.top, n.l⟩ A c from by rw [← hW]; exact HW.out)
    have HN1 := Lib.hid (show Near g w W from by rw [← hW]; exact HN.out.drewN q)
    have k2 : W.cell? ⟨g, 2, none⟩ = some (.slice A n.l.length c) := HW1.out.1.cell 2
    have f2 : W.frozen? ⟨g, 2, none⟩ = false := HW1.out.1.free 2
    rw [hW]
    clear hW HFR HW HN c1 q1
    rcases (by rcases A with _ | x; exact .inl rfl; exact .inr ⟨x, rfl⟩ : A = none ∨ ∃ x, A = some x) with rfl | ⟨x, rfl⟩
    · have HA := Lib.hid (HSL.out W none HW1.out (.inl ⟨rfl, rfl⟩))
      go_wp2_with fail
      go_region
      go_wp2_with fail
      clear k2 f2
      have HW2 := Lib.hid (show WC (W.setCell ⟨g, 2, none⟩ (.slice (none) (n.l.length - k) (n.l.length - k))).drew B g ⟨n.span, n.top, n.l.drop k⟩ (none) (n.l.length - k) from HA.out)
      have HN2 := Lib.hid (show Near g w (W.setCell ⟨g, 2, none⟩ (.slice (none) (n.l.length - k) (n.l.length - k))).drew from (HN1.out.set 2 _).drew)
      have j2 : (W.setCell ⟨g, 2, none⟩ (.slice (none) (n.l.length - k) (n.l.length - k))).drew.cell? ⟨g, 2, none⟩ = some (.slice (none) (n.l.length - k) (n.l.length - k)) := by
        have h := HW2.out.1.cell 2
        rw [h]; show some (Value.slice _ (n.l.drop k).length _) = _; rw [List.length_drop]
      clear HA HSL
      generalize (W.setCell ⟨g, 2, none⟩ (.slice (none) (n.l.length - k) (n.l.length - k))).drew = W2 at *
      go_quiet ((go_at_call 26; exact Calls.quiet_of (HFR2.out W2 (none) _ HW2.out)))
      go_wp2_with fail
      go_ret
      exact HE.out W2 (none) _ HW2.out HN2.out _ (by first | rfl | omega)
    · by_cases hlk : n.l.length = k
      · have HA := Lib.hid (HSL.out W (some x) HW1.out (.inr (.inl ⟨hlk, rfl⟩)))
        have hz : n.l.length - k = 0 := by omega
        simp only [hz] at HA HE HFR2 hk'
        clear hz
        go_wp2_with fail
        go_region
        go_wp2_with fail
        clear k2 f2
        have HW2 := Lib.hid (show WC (W.setCell ⟨g, 2, none⟩ (.slice (some x) (0) (0))).drew B g ⟨n.span, n.top, n.l.drop k⟩ (some x) (0) from HA.out)
        have HN2 := Lib.hid (show Near g w (W.setCell ⟨g, 2, none⟩ (.slice (some x) (0) (0))).drew from (HN1.out.set 2 _).drew)
        have j2 : (W.setCell ⟨g, 2, none⟩ (.slice (some x) (0) (0))).drew.cell? ⟨g, 2, none⟩ = some (.slice (some x) (0) (0)) := by
          have h := HW2.out.1.cell 2
          rw [h]; show some (Value.slice _ (n.l.drop k).length _) = _; rw [List.length_drop, Nat.sub_eq_zero_of_le (Nat.le_of_eq hlk)]
        clear HA HSL
        generalize (W.setCell ⟨g, 2, none⟩ (.slice (some x) (0) (0))).drew = W2 at *
        go_quiet ((go_at_call 26; exact Calls.quiet_of (HFR2.out W2 (some x) _ HW2.out)))
        go_wp2_with fail
        go_ret
        exact HE.out W2 (some x) _ HW2.out HN2.out _ (by first | rfl | omega)
      · have HA := Lib.hid (HSL.out W (some (x.add k)) HW1.out (.inr (.inr ⟨x, rfl, rfl⟩)))
        go_wp2_with fail
        go_region
        go_wp2_with fail
        clear k2 f2
        have HW2 := Lib.hid (show WC (W.setCell ⟨g, 2, none⟩ (.slice (some (x.add k)) (n.l.length - k) (n.l.length - k))).drew B g ⟨n.span, n.top, n.l.drop k⟩ (some (x.add k)) (n.l.length - k) from HA.out)
        have HN2 := Lib.hid (show Near g w (W.setCell ⟨g, 2, none⟩ (.slice (some (x.add k)) (n.l.length - k) (n.l.length - k))).drew from (HN1.out.set 2 _).drew)
        have j2 : (W.setCell ⟨g, 2, none⟩ (.slice (some (x.add k)) (n.l.length - k) (n.l.length - k))).drew.cell? ⟨g, 2, none⟩ = some (.slice (some (x.add k)) (n.l.length - k) (n.l.length - k)) := by
          have h := HW2.out.1.cell 2
          rw [h]; show some (Value.slice _ (n.l.drop k).length _) = _; rw [List.length_drop]
        clear HA HSL
        generalize (W.setCell ⟨g, 2, none⟩ (.slice (some (x.add k)) (n.l.length - k) (n.l.length - k))).drew = W2 at *
        go_quiet ((go_at_call 26; exact Calls.quiet_of (HFR2.out W2 (some (x.add k)) _ HW2.out)))
        go_wp2_with fail
        go_ret
        exact HE.out W2 (some (x.add k)) _ HW2.out HN2.out _ (by first | rfl | omega)
  · obtain ⟨W, hW⟩ : ∃ W, (w.setCell ⟨g, 1, none⟩ (.int .i64 (cut now))).drewN q = W := ⟨_, rfl⟩
    have HW1 := Lib.hid (show WC W B g ⟨n.span, cut now, n.l⟩ A c from by rw [← hW]; exact HW.out)
    have HN1 := Lib.hid (show Near g w W from by rw [← hW]; exact HN.out.drewN q)
    have k2 : W.cell? ⟨g, 2, none⟩ = some (.slice A n.l.length c) := HW1.out.1.cell 2
    have f2 : W.frozen? ⟨g, 2, none⟩ = false := HW1.out.1.free 2
    rw [hW]
    clear hW HFR HW HN c1 q1
    rcases (by rcases A with _ | x; exact .inl rfl; exact .inr ⟨x, rfl⟩ : A = none ∨ ∃ x, A = some x) with rfl | ⟨x, rfl⟩
    · have HA := Lib.hid (HSL.out W none HW1.out (.inl ⟨rfl, rfl⟩))
      go_wp2_with fail
      go_region
      go_wp2_with fail
      clear k2 f2
      have HW2 := Lib.hid (show WC (W.setCell ⟨g, 2, none⟩ (.slice (none) (n.l.length - k) (n.l.length - k))).drew B g ⟨n.span, cut now, n.l.drop k⟩ (none) (n.l.length - k) from HA.out)
      have HN2 := Lib.hid (show Near g w (W.setCell ⟨g, 2, none⟩ (.slice (none) (n.l.length - k) (n.l.length - k))).drew from (HN1.out.set 2 _).drew)
      have j2 : (W.setCell ⟨g, 2, none⟩ (.slice (none) (n.l.length - k) (n.l.length - k))).drew.cell? ⟨g, 2, none⟩ = some (.slice (none) (n.l.length - k) (n.l.length - k)) := by
        have h := HW2.out.1.cell 2
        rw [h]; show some (Value.slice _ (n.l.drop k).length _) = _; rw [List.length_drop]
      clear HA HSL
      generalize (W.setCell ⟨g, 2, none⟩ (.slice (none) (n.l.length - k) (n.l.length - k))).drew = W2 at *
      go_quiet ((go_at_call 26; exact Calls.quiet_of (HFR2.out W2 (none) _ HW2.out)))
      go_wp2_with fail
      go_ret
      exact HE.out W2 (none) _ HW2.out HN2.out _ (by first | rfl | omega)
    · by_cases hlk : n.l.length = k
      · have HA := Lib.hid (HSL.out W (some x) HW1.out (.inr (.inl ⟨hlk, rfl⟩)))
        have hz : n.l.length - k = 0 := by omega
        simp only [hz] at HA HE HFR2 hk'
        clear hz
        go_wp2_with fail
        go_region
        go_wp2_with fail
        clear k2 f2
        have HW2 := Lib.hid (show WC (W.setCell ⟨g, 2, none⟩ (.slice (some x) (0) (0))).drew B g ⟨n.span, cut now, n.l.drop k⟩ (some x) (0) from HA.out)
        have HN2 := Lib.hid (show Near g w (W.setCell ⟨g, 2, none⟩ (.slice (some x) (0) (0))).drew from (HN1.out.set 2 _).drew)
        have j2 : (W.setCell ⟨g, 2, none⟩ (.slice (some x) (0) (0))).drew.cell? ⟨g, 2, none⟩ = some (.slice (some x) (0) (0)) := by
          have h := HW2.out.1.cell 2
          rw [h]; show some (Value.slice _ (n.l.drop k).length _) = _; rw [List.length_drop, Nat.sub_eq_zero_of_le (Nat.le_of_eq hlk)]
        clear HA HSL
        generalize (W.setCell ⟨g, 2, none⟩ (.slice (some x) (0) (0))).drew = W2 at *
        go_quiet ((go_at_call 26; exact Calls.quiet_of (HFR2.out W2 (some x) _ HW2.out)))
        go_wp2_with fail
        go_ret
        exact HE.out W2 (some x) _ HW2.out HN2.out _ (by first | rfl | omega)
      · have HA := Lib.hid (HSL.out W (some (x.add k)) HW1.out (.inr (.inr ⟨x, rfl, rfl⟩)))
        go_wp2_with fail
        go_region
        go_wp2_with fail
        clear k2 f2
        have HW2 := Lib.hid (show WC (W.setCell ⟨g, 2, none⟩ (.slice (some (x.add k)) (n.l.length - k) (n.l.length - k))).drew B g ⟨n.span, cut now, n.l.drop k⟩ (some (x.add k)) (n.l.length - k) from HA.out)
        have HN2 := Lib.hid (show Near g w (W.setCell ⟨g, 2, none⟩ (.slice (some (x.add k)) (n.l.length - k) (n.l.length - k))).drew from (HN1.out.set 2 _).drew)
        have j2 : (W.setCell ⟨g, 2, none⟩ (.slice (some (x.add k)) (n.l.length - k) (n.l.length - k))).drew.cell? ⟨g, 2, none⟩ = some (.slice (some (x.add k)) (n.l.length - k) (n.l.length - k)) := by
          have h := HW2.out.1.cell 2
          rw [h]; show some (Value.slice _ (n.l.drop k).length _) = _; rw [List.length_drop]
        clear HA HSL
        generalize (W.setCell ⟨g, 2, none⟩ (.slice (some (x.add k)) (n.l.length - k) (n.l.length - k))).drew = W2 at *
        go_quiet ((go_at_call 26; exact Calls.quiet_of (HFR2.out W2 (some (x.add k)) _ HW2.out)))
        go_wp2_with fail
        go_ret
        exact HE.out W2 (some (x.add k)) _ HW2.out HN2.out _ (by first | rfl | omega)
end Go.Proofs.Ytgonoccacbbhjaa
