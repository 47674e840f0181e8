/- Contracts of a window's other functions over this seat's translation. -/
import Derived.Test.YtgonoccacbbhjaaXb
namespace Go.Proofs.Ytgonoccacbbhjaa
open Go.ChangeShapes Go.WideShapes Go.ChangeAt Go.RowKit
set_option linter.unusedVariables false
theorem OW.near {w w' : World} {B g k : Nat} {n : WN} (h : OW w B g n) (hn : Near k w w') (hk : k < B) (hg : g ≠ k) : OW w' B g n := by
  obtain ⟨h1, A, h2⟩ := h
  exact ⟨h1, A, h2.near hn hk hg⟩
theorem OW.keep {w w' : World} {B g : Nat} {n : WN} (h : OW w B g n) (hb : Below w.heap.size w w') : OW w' B g n := by
  obtain ⟨h1, A, h2⟩ := h
  exact ⟨h1, A, h2.keep hb⟩
theorem OW.drewN {w : World} {B g : Nat} {n : WN} (h : OW w B g n) (q : Nat) : OW (w.drewN q) B g n := by
  obtain ⟨h1, A, h2⟩ := h
  exact ⟨h1, A, h2.drewN q⟩
theorem OW.lt {w : World} {B g : Nat} {n : WN} (h : OW w B g n) : g < w.heap.size := by obtain ⟨h1, A, h2⟩ := h; exact h2.1.lt
theorem OW.mono {w : World} {B B' g : Nat} {n : WN} (h : OW w B g n) (hB : B' ≤ B) (hg : g < B') : OW w B' g n := by
  obtain ⟨h1, A, h2, h3, h4⟩ := h
  exact ⟨hg, A, h2, fun j hj => by obtain ⟨x, e, hx, hc⟩ := h3 j hj; exact ⟨x, e, by omega, hc⟩, h4⟩
theorem long_c (n : Int) (w : World) : Calls Try.prog 24 #[.int .i64 n] w fun e w' => e = .returned (.int .i64 (long n)) ∧ w = w' := by
  go_enter Try.func24, Try.ntmps24
  go_wp2
  all_goals (go_ret; exact ⟨ret_int (by unfold long; omega), rfl⟩)
theorem new_c (n : Int) (w : World) : Calls Try.prog 9 #[.int .i64 n] w fun e w' => e = .returned (.pointer (some ⟨w.heap.size, 0, none⟩)) ∧ w.alloc (.cells #[.int .i64 (long n), .int .i64 0, .slice none 0 0] 49) = w' := by
  go_enter Try.func9, Try.ntmps9
  go_wp2_with (go_at_call 24; refine (long_c _ _).mono ?_; rintro e w' ⟨rfl, rfl⟩)
  go_ret
  exact ⟨rfl, rfl⟩
theorem new_ow (n : Int) (w : World) (B : Nat) (hB : w.heap.size < B) : OW (w.alloc (.cells #[.int .i64 (long n), .int .i64 0, .slice none 0 0] 49)) B w.heap.size ⟨long n, 0, []⟩ :=
  ⟨hB, none, Blk.new _ _ _, fun j hj => absurd hj (Nat.not_lt_zero _), fun _ => ⟨rfl, rfl⟩⟩
theorem wlen_c (B g : Nat) (n : WN) (w : World) (h : OW w B g n) : Calls Try.prog 11 #[.pointer (some ⟨g, 0, none⟩)] w fun e w' => e = .returned (.int .i64 (n.l.length : Nat)) ∧ w = w' := by
  obtain ⟨hg, A, hb, _, _⟩ := h
  have c2 : w.cell? ⟨g, 2, none⟩ = some (.slice A n.l.length n.l.length) := hb.cell 2
  clear hb
  go_enter Try.func11, Try.ntmps11
  go_wp2
  go_ret
  exact ⟨rfl, rfl⟩
theorem wlen_nil (w : World) : Calls Try.prog 11 #[.pointer none] w fun e w' => e = .returned (.int .i64 0) ∧ w = w' := by
  go_enter Try.func11, Try.ntmps11
  go_wp2
  go_ret
  exact ⟨rfl, rfl⟩
theorem count_nil (n : Int) (w : World) : Calls Try.prog 12 #[.pointer none, .int .i64 n] w fun e w' => e = .returned (.int .i64 0) ∧ w = w' := by
  go_enter Try.func12, Try.ntmps12
  go_wp2_with fail
  go_ret
  exact ⟨rfl, rfl⟩
theorem add_nil (n : Int) (w : World) : Calls Try.prog 10 #[.pointer none, .int .i64 n] w fun e w' => e = .returned (.int .i64 0) ∧ w = w' := by
  go_enter Try.func10, Try.ntmps10
  go_wp2_with fail
  go_ret
  exact ⟨rfl, rfl⟩
theorem reset_nil (w : World) : Calls Try.prog 18 #[.pointer none] w fun e w' => e = .returned (.tuple #[]) ∧ w = w' := by
  go_enter Try.func18, Try.ntmps18
  go_wp2_with fail
  go_end0
  exact ⟨rfl, rfl⟩
theorem last_nil (w : World) : Calls Try.prog 20 #[.pointer none] w fun e w' => e = .returned (.tuple #[.int .i64 0, .bool false]) ∧ w = w' := by
  go_enter Try.func20, Try.ntmps20
  go_wp2_with (go_at_call 11; refine (wlen_nil _).mono ?_; rintro e w' ⟨rfl, rfl⟩)
  go_ret2
  exact ⟨rfl, rfl⟩
theorem reset_c (B g : Nat) (n : WN) (w : World) (h : OW w B g n) : Calls Try.prog 18 #[.pointer (some ⟨g, 0, none⟩)] w fun e w' => e = .returned (.tuple #[]) ∧ OW w' B g { n with l := [] } ∧ Near g w w' := by
  obtain ⟨hg, A, hb, _, _⟩ := h
  have c2 : w.cell? ⟨g, 2, none⟩ = some (.slice A n.l.length n.l.length) := hb.cell 2
  have q2 : w.frozen? ⟨g, 2, none⟩ = false := hb.free 2
  have HO := Lib.hid (show OW (w.setCell ⟨g, 2, none⟩ (.slice none 0 0)) B g { n with l := [] } from ⟨hg, none, hb.set 2 _, fun j hj => absurd hj (Nat.not_lt_zero _), fun _ => ⟨rfl, rfl⟩⟩)
  clear hb
  go_enter Try.func18, Try.ntmps18
  go_wp2_with fail
  go_end0
  exact ⟨rfl, HO.out, (Near.refl g w).set 2 _⟩
/-- The last tick, and whether there is one. -/
def lastv (l : List Int) : Array Value := #[.int .i64 (l.getLast?.getD 0), .bool (!l.isEmpty)]
set_option maxHeartbeats 4000000 in
theorem last_c (B g : Nat) (n : WN) (w : World) (h : OW w B g n) (hl : n.l.length ≤ 1000000) : Calls Try.prog 20 #[.pointer (some ⟨g, 0, none⟩)] w fun e w' => e = .returned (.tuple (lastv n.l)) ∧ ∃ q, w.drewN q = w' := by
  have HL := Lib.hid (wlen_c B g n w h)
  obtain ⟨hg, A, hb, hi, _⟩ := h
  have c2 : w.cell? ⟨g, 2, none⟩ = some (.slice A n.l.length n.l.length) := hb.cell 2
  by_cases h0 : n.l = []
  · have e : n.l.length = 0 := by rw [h0]; rfl
    have HV := Lib.hid (show lastv n.l = #[.int .i64 0, .bool false] by rw [h0]; rfl)
    rw [e] at c2 HL
    clear hb hi h0 e
    go_enter Try.func20, Try.ntmps20
    go_wp2_with fail
    refine HL.out.mono ?_
    rintro e w' ⟨rfl, rfl⟩
    go_wp2_with fail
    go_ret2
    exact ⟨by rw [HV.out]; rfl, 0, rfl⟩
  · have hp : 0 < n.l.length := List.length_pos_iff.2 h0
    obtain ⟨m, hm⟩ : ∃ m, n.l.length = m + 1 := ⟨n.l.length - 1, by omega⟩
    obtain ⟨x, rfl, _, cx⟩ := hi m (by omega)
    have e : n.l.getLast?.getD 0 = n.l[m]'(by omega) := by
      have h1 : n.l.length - 1 = m := by omega
      rw [List.getLast?_eq_getElem?, h1, List.getElem?_eq_getElem]; rfl
    have HV := Lib.hid (show lastv n.l = #[.int .i64 (n.l[m]'(by omega)), .bool true] by
      have he : n.l.isEmpty = false := by simpa using h0
      unfold lastv; rw [e, he]; rfl)
    generalize n.l[m]'(by omega) = v at cx HV
    have hm6 : m + 1 ≤ 1000000 := by omega
    rw [hm] at c2 HL
    clear hb hi h0 e hp hm hl
    have hb1 : ((m : Int) + 1 == 0) = false := by simp; omega
    go_enter Try.func20, Try.ntmps20
    go_wp2_with fail
    refine HL.out.mono ?_
    rintro e w' ⟨rfl, rfl⟩
    go_wp2_with fail
    go_quiet (fail)
    go_wp2_with fail
    go_ret2
    exact ⟨by rw [HV.out]; rfl, _, rfl⟩
/-- The cells of numbers. -/
def ic (l : List Int) : List Value := l.map fun x => .int .i64 x
theorem ic_len (l : List Int) : (ic l).length = l.length := by simp [ic]
theorem ic_one (l : List Int) : ∀ u ∈ ic l, u.oneCell' = true := by
  unfold ic; intro u hu
  obtain ⟨b, _, rfl⟩ := List.mem_map.1 hu
  rfl
theorem ic_app (a b : List Int) : ic a ++ ic b = ic (a ++ b) := by simp [ic]
theorem ic_at {w : World} {B : Nat} {A : Option Addr} {l : List Int} (h : IR w B A l) : ∀ x, A = some x → ∀ j u, (ic l)[j]? = some u → w.cell? (x.add j) = some u := fun x hx j u hu => by
  have hj : j < l.length := by
    rcases Nat.lt_or_ge j l.length with q | q
    · exact q
    · rw [List.getElem?_eq_none (by rw [ic_len]; exact q)] at hu; cases hu
  obtain ⟨y, hy, _, hc⟩ := h j hj
  rw [hx] at hy; cases hy
  rw [hc]; simp [ic, hj] at hu; rw [hu]
theorem IR.of_own {w : World} {base n : Nat} {v : Value} {l : List Int} (h : w.ownsRow base 3 1 v n (ic l)) : ∃ A cap, v = .slice A n cap ∧ IR w base A l ∧ n = l.length ∧ n ≤ cap ∧ cap ≤ maxLen ∧ (A = none → n = 0 ∧ cap = 0) := by
  have hl : (ic l).length = n * 1 := h.1
  rw [ic_len] at hl
  rcases h.2 with ⟨rfl, hn⟩ | ⟨g, cap, cur, rfl, hg, hb, hc, hm, _⟩
  · exact ⟨none, 0, by rw [hn], fun j hj => by omega, by omega, by omega, by omega, fun _ => ⟨hn, rfl⟩⟩
  · refine ⟨_, cap, rfl, fun j hj => ⟨_, rfl, hg, ?_⟩, by omega, hc, hm, fun h => by cases h⟩
    exact h.cells (g := g) rfl j _ (by simp [ic, hj])
theorem one_at (w : World) (x : Int) (t : TypeId) : ∀ (j : Nat) (u : Value), (ic [x])[j]? = some u → (w.alloc (.cells #[.int .i64 x] t)).cell? ((⟨w.heap.size, 0, none⟩ : Addr).add j) = some u
  | 0, u, h => by rw [show (⟨w.heap.size, 0, none⟩ : Addr).add 0 = ⟨w.heap.size, 0, none⟩ from rfl, (Blk.new w t #[.int .i64 x]).cell 0]; exact h
  | j + 1, u, h => by simp [ic] at h
theorem infoI : (Try.prog.info? 3).map (fun i => (i.zero, i.size, i.bytes)) = some (some (.int .i64 0), 1, 8) := by kernel_rfl
set_option maxRecDepth 100000 in
set_option maxHeartbeats 8000000 in
theorem addw_c (B g : Nat) (n : WN) (at' : Int) (w : World) (h : OW w B g n) (hf : WF n) (hl : n.l.length ≤ 100000) (hB : B ≤ w.heap.size) :
    Calls Try.prog 10 #[.pointer (some ⟨g, 0, none⟩), .int .i64 at'] w (CP (addw n at') (addN n at') B g w) := by
  obtain ⟨i0, hi, hz0, hz1, hz2⟩ := info_parts infoI
  have HLA := Lib.hid (last_c B g n w h (by omega))
  have hfp := wf_put hf at'
  obtain ⟨hg, A, hwc⟩ := h
  have c2 : w.cell? ⟨g, 2, none⟩ = some (.slice A n.l.length n.l.length) := hwc.1.cell 2
  have HWC := Lib.hid hwc
  have HC := Lib.hid (fun (W : World) (hN : Near g w W) (h : OWc W B g (put n at')) => show Calls Try.prog 12 #[.pointer (some ⟨g, 0, none⟩), .int .i64 (tick n at')] W (CP (addw n at') (addN n at') B g w) from
    (count_c B g (put n at') (tick n at') W h hfp (by unfold put; simp; omega)).mono fun _ _ ⟨a, b, c⟩ => ⟨a, b, hN.trans c⟩)
  have HAFT := Lib.hid (fun (W' : World) (hb0 : Below w.heap.size w W') (b : Nat) (hbb : w.heap.size ≤ b) (v' : Value) (w2 : World) (ho : w2.ownsRow b 3 1 v' (n.l.length + 1) (ic n.l ++ ic [tick n at'])) (hgr : W'.grownBy w2 none) =>
    show OWc (w2.setCell ⟨g, 2, none⟩ v') B g (put n at') ∧ Near g w (w2.setCell ⟨g, 2, none⟩ v') ∧ w2.cell? ⟨g, 2, none⟩ = some (.slice A n.l.length n.l.length) ∧ w2.frozen? ⟨g, 2, none⟩ = false ∧ ∃ A' c', v' = .slice A' (n.l.length + 1) c' from by
      rw [ic_app] at ho
      have hb : Below w.heap.size w w2 := hb0.grown hgr hb0.size (fun j hj => by simp at hj)
      have hblk := hwc.1.below hb hwc.1.lt
      obtain ⟨A', c', rfl, hir, hnn, hcc, _, hnone⟩ := IR.of_own ho
      refine ⟨⟨hg, A', c', ?_, ?_, ?_, ?_⟩, (Near.of_below hb).set 2 _, hblk.cell 2, hblk.free 2, A', c', rfl⟩
      · unfold put; simp; omega
      · have := hblk.set 2 (.slice A' (n.l.length + 1) c')
        show Blk _ _ _ #[.int .i64 n.span, .int .i64 n.top, .slice A' (n.l ++ [tick n at']).length c']
        rw [List.length_append]; exact this
      · refine IR.near (w := w2) (fun j hj => ?_) ((Near.refl g w2).set 2 _) hg
        obtain ⟨x, hx, hxb, hxc⟩ := hir j hj
        refine ⟨x, hx, ?_, hxc⟩
        omega
      · intro h0; have := (hnone h0).1; omega)
  have C3 := Lib.hid (show n.l.length + 1 ≤ maxLen by unfold maxLen; omega)
  have C4 := Lib.hid (show (n.l.length + 1) * 8 ≤ 140737488355328 by omega)
  have CL := Lib.hid (show (ic n.l).length = n.l.length * 1 by rw [ic_len]; omega)
  have HAT := Lib.hid (fun (W' : World) (hb0 : Below w.heap.size w W') => ic_at (hwc.2.1.keep hb0))
  have HBL := Lib.hid (fun (x : Int) (q : Nat) => bel_drewN ((Below.refl w.heap.size w).alloc (Nat.le_refl _) (.cells #[.int .i64 x] 3)) q)
  have HON := Lib.hid (fun (x : Int) (q : Nat) => show ∀ (j : Nat) (u : Value), (ic [x])[j]? = some u → ((w.alloc (.cells #[.int .i64 x] 3)).drewN q).cell? ((⟨w.heap.size, 0, none⟩ : Addr).add j) = some u from one_at w x 3)
  have HAN := Lib.hid hwc.2.2
  have hcut := cut_in at'
  obtain ⟨T, hT⟩ : ∃ T, T = tick n at' := ⟨_, rfl⟩
  have hT2 := hT
  unfold tick at hT2
  rw [← hT] at HC HAFT
  by_cases h0 : n.l = []
  · rw [if_pos h0] at hT2
    have HV := Lib.hid (show lastv n.l = #[.int .i64 0, .bool false] by rw [h0]; rfl)
    rw [HV.out] at HLA
    clear hwc h0 hf hfp hcut hT
    subst hT2
    go_enter Try.func10, Try.ntmps10
    go_wp2_with (go_at_call 25; refine (cut_c _ _).mono ?_; rintro e w' ⟨rfl, rfl⟩)
    refine HLA.out.mono ?_
    rintro e w1 ⟨rfl, q, rfl⟩
    go_wp2_with (at_builtin; refine wpList_append_grows _ rfl _ _ 22 rfl 3 i0 (.int .i64 0) 1 8 Try.underlying22 hi hz0 hz1 hz2 rfl (by decide) A n.l.length n.l.length (ic n.l) rfl HAN.out CL.out (HAT.out _ (HBL.out _ _)) ⟨w.heap.size, 0, none⟩ 1 1 (ic [(cut at')]) rfl rfl (HON.out _ _) (ic_one _) (Nat.lt_succ_self _) C3.out C4.out ?_)
    intro v' w2 hown hgr
    obtain ⟨ho, hn, hc, hq, A', c', rfl⟩ := HAFT.out _ (HBL.out (cut at') q) (w.heap.size + 1) (Nat.le_succ _) v' w2 hown hgr
    have HO := Lib.hid ho
    have HN := Lib.hid hn
    clear ho hn hown hgr HAFT
    go_wp2_with fail
    refine (HC.out _ HN.out HO.out).mono ?_
    rintro e w3 ⟨rfl, ho3, hn3⟩
    have HO3 := Lib.hid ho3
    have HN3 := Lib.hid hn3
    clear ho3 hn3
    go_wp2_with fail
    go_ret
    exact ⟨rfl, HO3.out, HN3.out⟩
  · rw [if_neg h0] at hT2
    have HV := Lib.hid (show lastv n.l = #[.int .i64 (n.l.getLast?.getD 0), .bool true] by
      have he : n.l.isEmpty = false := by simpa using h0
      unfold lastv; rw [he]; rfl)
    rw [HV.out] at HLA
    generalize n.l.getLast?.getD 0 = v at *
    rcases (by omega : (v ≤ cut at' ∧ T = cut at') ∨ (cut at' < v ∧ T = v)) with ⟨hm, ht⟩ | ⟨hm, ht⟩
    · clear hwc h0 hf hfp hcut hT hT2
      subst ht
      go_enter Try.func10, Try.ntmps10
      go_wp2_with (go_at_call 25; refine (cut_c _ _).mono ?_; rintro e w' ⟨rfl, rfl⟩)
      refine HLA.out.mono ?_
      rintro e w1 ⟨rfl, q, rfl⟩
      go_wp2_with (at_builtin; refine wpList_append_grows _ rfl _ _ 22 rfl 3 i0 (.int .i64 0) 1 8 Try.underlying22 hi hz0 hz1 hz2 rfl (by decide) A n.l.length n.l.length (ic n.l) rfl HAN.out CL.out (HAT.out _ (HBL.out _ _)) ⟨w.heap.size, 0, none⟩ 1 1 (ic [(cut at')]) rfl rfl (HON.out _ _) (ic_one _) (Nat.lt_succ_self _) C3.out C4.out ?_)
      intro v' w2 hown hgr
      obtain ⟨ho, hn, hc, hq, A', c', rfl⟩ := HAFT.out _ (HBL.out (cut at') q) (w.heap.size + 1) (Nat.le_succ _) v' w2 hown hgr
      have HO := Lib.hid ho
      have HN := Lib.hid hn
      clear ho hn hown hgr HAFT
      go_wp2_with fail
      refine (HC.out _ HN.out HO.out).mono ?_
      rintro e w3 ⟨rfl, ho3, hn3⟩
      have HO3 := Lib.hid ho3
      have HN3 := Lib.hid hn3
      clear ho3 hn3
      go_wp2_with fail
      go_ret
      exact ⟨rfl, HO3.out, HN3.out⟩
    · clear hwc h0 hf hfp hcut hT hT2
      subst ht
      go_enter Try.func10, Try.ntmps10
      go_wp2_with (go_at_call 25; refine (cut_c _ _).mono ?_; rintro e w' ⟨rfl, rfl⟩)
      refine HLA.out.mono ?_
      rintro e w1 ⟨rfl, q, rfl⟩
      go_wp2_with (at_builtin; refine wpList_append_grows _ rfl _ _ 22 rfl 3 i0 (.int .i64 0) 1 8 Try.underlying22 hi hz0 hz1 hz2 rfl (by decide) A n.l.length n.l.length (ic n.l) rfl HAN.out CL.out (HAT.out _ (HBL.out _ _)) ⟨w.heap.size, 0, none⟩ 1 1 (ic [T]) rfl rfl (HON.out _ _) (ic_one _) (Nat.lt_succ_self _) C3.out C4.out ?_)
      intro v' w2 hown hgr
      obtain ⟨ho, hn, hc, hq, A', c', rfl⟩ := HAFT.out _ (HBL.out T q) (w.heap.size + 1) (Nat.le_succ _) v' w2 hown hgr
      have HO := Lib.hid ho
      have HN := Lib.hid hn
      clear ho hn hown hgr HAFT
      go_wp2_with fail
      refine (HC.out _ HN.out HO.out).mono ?_
      rintro e w3 ⟨rfl, ho3, hn3⟩
      have HO3 := Lib.hid ho3
      have HN3 := Lib.hid hn3
      clear ho3 hn3
      go_wp2_with fail
      go_ret
      exact ⟨rfl, HO3.out, HN3.out⟩
end Go.Proofs.Ytgonoccacbbhjaa
