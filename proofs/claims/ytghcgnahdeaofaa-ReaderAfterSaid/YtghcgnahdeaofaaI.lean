/- Contracts of Read of the package frame and of its reference over this seat's translation. -/
import Derived.Test.YtghcgnahdeaofaaG
namespace Go.Proofs.Ytghcgnahdeaofaa
open Go.ChangeShapes Go.WideShapes Go.ChangeAt Go.RowKit
set_option linter.unusedVariables false
def byt (l : List UInt8) (i : Nat) : Int := ((l[i]?.getD 0).toNat : Int)
theorem byt_bd (l : List UInt8) (i : Nat) : 0 ≤ byt l i ∧ byt l i < 256 := by unfold byt; have := (l[i]?.getD 0).toNat_lt; omega
theorem h3_of {w : World} {A : Option Addr} {l : List UInt8} (h : BR w A l) : H3 w A l.length (byt l 0) (byt l 1) (byt l 2) := by
  refine ⟨(byt_bd l 0).1, (byt_bd l 0).2, (byt_bd l 1).1, (byt_bd l 1).2, (byt_bd l 2).1, (byt_bd l 2).2, fun h3 => ?_⟩
  obtain ⟨x, rfl, c0⟩ := h 0 (by omega)
  obtain ⟨x1, e1, c1⟩ := h 1 (by omega)
  obtain ⟨x2, e2, c2⟩ := h 2 (by omega)
  cases e1; cases e2
  refine ⟨x, rfl, ?_, ?_, ?_⟩
  · rw [show (x.add 0) = x from rfl] at c0; rw [c0]; unfold byt; simp [show 0 < l.length by omega]
  · rw [c1]; unfold byt; simp [show 1 < l.length by omega]
  · rw [c2]; unfold byt; simp [show 2 < l.length by omega]
def hd (l : List UInt8) (most : Int) : Int × Int × Int := hdS l.length (byt l 0) (byt l 1) (byt l 2) most
theorem hd_bd (l : List UInt8) (most : Int) : 0 ≤ (hd l most).2.1 ∧ (hd l most).2.1 ≤ 1024 ∧ ((hd l most).2.2 = 0 → 3 ≤ l.length) := by
  have c := capn_bd most
  have b1 := byt_bd l 1
  have b2 := byt_bd l 2
  unfold hd hdS
  by_cases h3 : l.length < 3
  · rw [if_pos h3]; simp
  · rw [if_neg h3]; unfold hd3
    split
    · simp
    · split
      · simp
      · refine ⟨?_, ?_, fun _ => by omega⟩ <;> dsimp only <;> omega
/-- The frame at the beginning: its kind, its data; how many bytes; the error. -/
def rd (l : List UInt8) (most : Int) : (Int × ByteArray) × Int × Int :=
  if (hd l most).2.2 ≠ 0 then ((0, { data := #[] }), 0, (hd l most).2.2)
  else if (l.length : Int) < 3 + (hd l most).2.1 then ((0, { data := #[] }), 0, 2)
  else (((hd l most).1, ⟨((l.drop 3).take (hd l most).2.1.toNat).toArray⟩), 3 + (hd l most).2.1, 0)
def Read3 (r : (Int × ByteArray) × Int × Int) (w : World) (e : Ending) (w' : World) : Prop := e = .returned (.tuple #[.agg #[.int .i64 r.1.1, .string r.1.2], .int .i64 r.2.1, .int .i64 r.2.2]) ∧ Below w.heap.size w w'
theorem BR.sub {w : World} {x : Addr} {l : List UInt8} (h : BR w (some x) l) (i n : Nat) (hn : i + n ≤ l.length) : BR w (some (x.add i)) ((l.drop i).take n) := fun j hj => by
  have hl : j < n := by rw [List.length_take] at hj; omega
  obtain ⟨y, hy, hc⟩ := h (i + j) (by omega)
  cases hy
  refine ⟨_, rfl, ?_⟩
  rw [add_of_add, hc]; simp
theorem sub_len (l : List UInt8) (i n : Nat) (hn : i + n ≤ l.length) : ((l.drop i).take n).length = n := by rw [List.length_take, List.length_drop]; omega
set_option maxHeartbeats 4000000 in
theorem read_no (A : Option Addr) (cap : Nat) (l : List UInt8) (most : Int) (w : World) (hB : BR w A l) (hl : l.length ≤ 1000000) (hr : (hd l most).2.2 ≠ 0) :
    Calls Try.prog 24 #[.slice A l.length cap, .int .i64 most] w (Read3 ((0, { data := #[] }), 0, (hd l most).2.2) w) := by
  have HW := Lib.hid (show Below w.heap.size w (w.alloc (.cells #[.int .i64 0, .string ByteArray.empty] 33)) from (Below.refl _ _).alloc (Nat.le_refl _) _)
  have hBR1 := hB.keep HW.out
  have HH := Lib.hid (show Calls Try.prog 22 #[.slice A l.length cap, .int .i64 most] (w.alloc (.cells #[.int .i64 0, .string ByteArray.empty] 33)) (Told (hd l most) (w.alloc (.cells #[.int .i64 0, .string ByteArray.empty] 33))) from head_c A l.length cap (byt l 0) (byt l 1) (byt l 2) most (w.alloc (.cells #[.int .i64 0, .string ByteArray.empty] 33)) (h3_of hBR1) hl)
  have HB1 := Lib.hid hBR1
  have hr' : ((hd l most).2.2 != 0) = true := by simpa using hr
  clear hB hBR1 hr
  go_enter Try.func24, Try.ntmps24
  go_wp2_with fail
  refine HH.out.mono ?_
  rintro e w1 ⟨rfl, hb1⟩
  have hcell := (Blk.new w 33 #[.int .i64 0, .string ByteArray.empty]).below hb1 (by simp)
  have c0 : w1.cell? ⟨w.heap.size, 0, none⟩ = some (.int .i64 0) := hcell.cell 0
  have c1 : w1.cell? ⟨w.heap.size, 1, none⟩ = some (.string ByteArray.empty) := hcell.cell 1
  have q0 : w1.frozen? ⟨w.heap.size, 0, none⟩ = false := hcell.free 0
  have q1 : w1.frozen? ⟨w.heap.size, 1, none⟩ = false := hcell.free 1
  have hlt := hcell.lt
  have HBL := Lib.hid (HW.out.trans (hb1.mono (by simp)))
  clear hb1 hcell
  go_wp2_with fail
  exact bodyPost_ret (v := .tuple #[.agg #[.int .i64 0, .string { data := #[] }], .int .i64 0, .int .i64 (hd l most).2.2]) (by simp [results, Try.results24, go_sem, c0, c1]) rfl ⟨rfl, (HBL.out.setCell (p := ⟨w.heap.size, 0, none⟩) (Nat.le_refl _) _).setCell (p := ⟨w.heap.size, 1, none⟩) (Nat.le_refl _) _⟩
set_option maxHeartbeats 4000000 in
theorem read_short (A : Option Addr) (cap : Nat) (l : List UInt8) (most : Int) (w : World) (hB : BR w A l) (hl : l.length ≤ 1000000) (hr : (hd l most).2.2 = 0) (hsh : (l.length : Int) < 3 + (hd l most).2.1) :
    Calls Try.prog 24 #[.slice A l.length cap, .int .i64 most] w (Read3 ((0, { data := #[] }), 0, 2) w) := by
  have HW := Lib.hid (show Below w.heap.size w (w.alloc (.cells #[.int .i64 0, .string ByteArray.empty] 33)) from (Below.refl _ _).alloc (Nat.le_refl _) _)
  have hBR1 := hB.keep HW.out
  have HH := Lib.hid (show Calls Try.prog 22 #[.slice A l.length cap, .int .i64 most] (w.alloc (.cells #[.int .i64 0, .string ByteArray.empty] 33)) (Told (hd l most) (w.alloc (.cells #[.int .i64 0, .string ByteArray.empty] 33))) from head_c A l.length cap (byt l 0) (byt l 1) (byt l 2) most (w.alloc (.cells #[.int .i64 0, .string ByteArray.empty] 33)) (h3_of hBR1) hl)
  have HB1 := Lib.hid hBR1
  have hr' : ((hd l most).2.2 != 0) = false := by simpa using hr
  have hbd := hd_bd l most
  have d1 := hbd.1
  have d2 := hbd.2.1
  clear hB hBR1 hr hbd
  go_enter Try.func24, Try.ntmps24
  go_wp2_with fail
  refine HH.out.mono ?_
  rintro e w1 ⟨rfl, hb1⟩
  have hcell := (Blk.new w 33 #[.int .i64 0, .string ByteArray.empty]).below hb1 (by simp)
  have c0 : w1.cell? ⟨w.heap.size, 0, none⟩ = some (.int .i64 0) := hcell.cell 0
  have c1 : w1.cell? ⟨w.heap.size, 1, none⟩ = some (.string ByteArray.empty) := hcell.cell 1
  have q0 : w1.frozen? ⟨w.heap.size, 0, none⟩ = false := hcell.free 0
  have q1 : w1.frozen? ⟨w.heap.size, 1, none⟩ = false := hcell.free 1
  have hlt := hcell.lt
  have HBL := Lib.hid (HW.out.trans (hb1.mono (by simp)))
  clear hb1 hcell
  go_wp2_with fail
  exact bodyPost_ret (v := .tuple #[.agg #[.int .i64 0, .string { data := #[] }], .int .i64 0, .int .i64 2]) (by simp [results, Try.results24, go_sem, c0, c1]) rfl ⟨rfl, (HBL.out.setCell (p := ⟨w.heap.size, 0, none⟩) (Nat.le_refl _) _).setCell (p := ⟨w.heap.size, 1, none⟩) (Nat.le_refl _) _⟩
set_option maxHeartbeats 4000000 in
theorem read_yes (x : Addr) (cap : Nat) (l : List UInt8) (most k : Int) (m : Nat) (w : World) (hB : BR w (some x) l) (hl : l.length ≤ 1000000) (hr : hd l most = (k, (m : Int), 0)) (hsh : 3 + m ≤ l.length) (hcap : l.length ≤ cap) :
    Calls Try.prog 24 #[.slice (some x) l.length cap, .int .i64 most] w (Read3 ((k, ⟨((l.drop 3).take m).toArray⟩), 3 + (m : Int), 0) w) := by
  obtain ⟨A, hA⟩ : ∃ A, A = some x := ⟨_, rfl⟩
  rw [← hA] at hB
  have HW := Lib.hid (show Below w.heap.size w (w.alloc (.cells #[.int .i64 0, .string ByteArray.empty] 33)) from (Below.refl _ _).alloc (Nat.le_refl _) _)
  have hBR1 := hB.keep HW.out
  have HH := Lib.hid (show Calls Try.prog 22 #[.slice A l.length cap, .int .i64 most] (w.alloc (.cells #[.int .i64 0, .string ByteArray.empty] 33)) (Told (hd l most) (w.alloc (.cells #[.int .i64 0, .string ByteArray.empty] 33))) from head_c A l.length cap (byt l 0) (byt l 1) (byt l 2) most (w.alloc (.cells #[.int .i64 0, .string ByteArray.empty] 33)) (h3_of hBR1) hl)
  have HB1 := Lib.hid hBR1
  rw [hr] at HH
  rw [hA] at HH HB1
  have hm : m ≤ 1000000 := by omega
  clear hBR1
  by_cases hc3 : cap = 3
  · obtain rfl : m = 0 := by omega
    have hl3 : l.length = 3 := by omega
    have HL3 := Lib.hid hl3
    subst hc3
    rw [hl3] at HH ⊢
    have hcv : ∀ w, (convert 36 9 (.slice (some x) 0 0)).run Try.prog w = .ok (.string ⟨((l.drop 3).take 0).toArray⟩) w := fun w => by
      have := str_of (w := w) (A := some x) (l := []) (fun j hj => absurd hj (by simp)) 0
      simpa using this
    have HCV := Lib.hid hcv
    clear hl3 hcv hsh hcap hr hB
    go_enter Try.func24, Try.ntmps24
    go_wp2_with fail
    refine HH.out.mono ?_
    rintro e w1 ⟨rfl, hb1⟩
    have hcell := (Blk.new w 33 #[.int .i64 0, .string ByteArray.empty]).below hb1 (by simp)
    have c0 : w1.cell? ⟨w.heap.size, 0, none⟩ = some (.int .i64 0) := hcell.cell 0
    have c1 : w1.cell? ⟨w.heap.size, 1, none⟩ = some (.string ByteArray.empty) := hcell.cell 1
    have q0 : w1.frozen? ⟨w.heap.size, 0, none⟩ = false := hcell.free 0
    have q1 : w1.frozen? ⟨w.heap.size, 1, none⟩ = false := hcell.free 1
    have hlt := hcell.lt
    have HBL := Lib.hid (HW.out.trans (hb1.mono (by simp)))
    have hcv := HCV.out w1
    clear hb1 hcell
    go_wp2_with fail
    exact bodyPost_ret (v := .tuple #[.agg #[.int .i64 k, .string ⟨((l.drop 3).take 0).toArray⟩], .int .i64 3, .int .i64 0]) (by simp [results, Try.results24, go_sem, c0, c1]) rfl ⟨rfl, (HBL.out.setCell (p := ⟨w.heap.size, 0, none⟩) (Nat.le_refl _) _).setCell (p := ⟨w.heap.size, 1, none⟩) (Nat.le_refl _) _⟩
  · have hcap3 : 3 < cap := by omega
    have hsl := sub_len l 3 m hsh
    clear hr
    go_enter Try.func24, Try.ntmps24
    go_wp2_with fail
    refine HH.out.mono ?_
    rintro e w1 ⟨rfl, hb1⟩
    have hcell := (Blk.new w 33 #[.int .i64 0, .string ByteArray.empty]).below hb1 (by simp)
    have c0 : w1.cell? ⟨w.heap.size, 0, none⟩ = some (.int .i64 0) := hcell.cell 0
    have c1 : w1.cell? ⟨w.heap.size, 1, none⟩ = some (.string ByteArray.empty) := hcell.cell 1
    have q0 : w1.frozen? ⟨w.heap.size, 0, none⟩ = false := hcell.free 0
    have q1 : w1.frozen? ⟨w.heap.size, 1, none⟩ = false := hcell.free 1
    have hlt := hcell.lt
    have HBL := Lib.hid (HW.out.trans (hb1.mono (by simp)))
    have hcv : (convert 36 9 (.slice (some ⟨x.block, x.off + 3, none⟩) m (cap - 3))).run Try.prog w1 = .ok (.string ⟨((l.drop 3).take m).toArray⟩) w1 := by
      have h := str_of ((HB1.out.keep hb1).sub 3 m hsh) (cap - 3)
      rw [hsl] at h
      exact h
    clear hb1 hcell hB hA hsl
    go_wp2_with fail
    exact bodyPost_ret (v := .tuple #[.agg #[.int .i64 k, .string ⟨((l.drop 3).take m).toArray⟩], .int .i64 (3 + (m : Int)), .int .i64 0]) (by simp [results, Try.results24, go_sem, c0, c1]) rfl ⟨rfl, (HBL.out.setCell (p := ⟨w.heap.size, 0, none⟩) (Nat.le_refl _) _).setCell (p := ⟨w.heap.size, 1, none⟩) (Nat.le_refl _) _⟩
theorem read_c (A : Option Addr) (cap : Nat) (l : List UInt8) (most : Int) (w : World) (hB : BR w A l) (hl : l.length ≤ 1000000) (hcap : l.length ≤ cap) :
    Calls Try.prog 24 #[.slice A l.length cap, .int .i64 most] w (Read3 (rd l most) w) := by
  have hbd := hd_bd l most
  by_cases h1 : (hd l most).2.2 = 0
  · by_cases h2 : (l.length : Int) < 3 + (hd l most).2.1
    · have e : rd l most = ((0, { data := #[] }), 0, 2) := by unfold rd; rw [if_neg (by simpa using h1), if_pos h2]
      rw [e]; exact read_short A cap l most w hB hl h1 h2
    · obtain ⟨m, hm⟩ : ∃ m : Nat, (hd l most).2.1 = m := ⟨(hd l most).2.1.toNat, by omega⟩
      have e0 : hd l most = ((hd l most).1, (m : Int), 0) := by rw [← hm, ← h1]
      have e : rd l most = (((hd l most).1, ⟨((l.drop 3).take m).toArray⟩), 3 + (m : Int), 0) := by unfold rd; rw [if_neg (by simpa using h1), if_neg h2, hm]; simp
      rw [e]
      have h3 := hbd.2.2 h1
      obtain ⟨x, hx, _⟩ := hB 0 (by omega)
      subst hx
      exact read_yes x cap l most _ m w hB hl e0 (by omega) hcap
  · have e : rd l most = ((0, { data := #[] }), 0, (hd l most).2.2) := by unfold rd; rw [if_pos h1]
    rw [e]; exact read_no A cap l most w hB hl h1
end Go.Proofs.Ytghcgnahdeaofaa
