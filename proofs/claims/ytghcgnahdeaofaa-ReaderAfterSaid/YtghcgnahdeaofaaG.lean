/- Contracts of Write, Head and Read of the package frame over this seat's translation. -/
import Derived.Test.YtghcgnahdeaofaaF
namespace Go.Proofs.Ytghcgnahdeaofaa
open Go.ChangeShapes Go.WideShapes Go.ChangeAt Go.RowKit
set_option linter.unusedVariables false
/-- The cells of bytes. -/
def bc (l : List UInt8) : List Value := l.map fun b => .int .u8 (b.toNat : Int)
theorem bc_len (l : List UInt8) : (bc l).length = l.length := by simp [bc]
/-- The slice value's first cells are the bytes. -/
def BR (w : World) (A : Option Addr) (l : List UInt8) : Prop := ∀ j (hj : j < l.length), ∃ x, A = some x ∧ w.cell? (x.add j) = some (.int .u8 (l[j].toNat : Int))
theorem BR.of_own {w : World} {base n : Nat} {v : Value} {l : List UInt8} (h : w.ownsRow base 5 1 v n (bc l)) : ∃ A cap, v = .slice A n cap ∧ BR w A l ∧ n = l.length ∧ n ≤ cap := by
  have hl : (bc l).length = n * 1 := h.1
  rw [bc_len] at hl
  rcases h.2 with ⟨rfl, hn⟩ | ⟨g, cap, cur, rfl, _, hb, hc, _⟩
  · exact ⟨none, 0, by rw [hn], fun j hj => by omega, by omega, by omega⟩
  · refine ⟨_, cap, rfl, fun j hj => ⟨_, rfl, ?_⟩, by omega, hc⟩
    refine h.cells (g := g) rfl j _ ?_
    simp [bc, hj]
theorem BR.keep {w w' : World} {A : Option Addr} {l : List UInt8} (h : BR w A l) (hb : Below w.heap.size w w') : BR w' A l := fun j hj => by
  obtain ⟨x, rfl, hc⟩ := h j hj
  exact ⟨x, rfl, by rw [hb.cell (cell_lt hc)]; exact hc⟩
theorem str_of {w : World} {A : Option Addr} {l : List UInt8} (h : BR w A l) (cap : Nat) : (convert 36 9 (.slice A l.length cap)).run Try.prog w = .ok (.string ⟨l.toArray⟩) w := by
  cases A with
  | some a => exact run_convert_bytes_back w 36 9 5 a cap l Try.underlying36 Try.underlying5 Try.underlying9 (fun j hj => by obtain ⟨x, hx, hc⟩ := h j hj; cases hx; exact hc)
  | none =>
    have hl : l = [] := by
      cases l with
      | nil => rfl
      | cons b l => obtain ⟨x, hx, _⟩ := h 0 (by simp); cases hx
    subst hl
    exact run_convert_bytes_nil w 36 5 Try.underlying36 Try.underlying5 _ _ 9 Try.underlying9
theorem info5 : (Try.prog.info? 5).map (fun i => (i.zero, i.size, i.bytes)) = some (some (.int .u8 0), 1, 1) := by kernel_rfl
/-- A frame's bytes. -/
def fb (k : Int) (s : ByteArray) : List UInt8 := [UInt8.ofNat k.toNat, UInt8.ofNat (s.size / 256), UInt8.ofNat (s.size % 256)] ++ s.data.toList
def Wrote (w : World) (k : Int) (s : ByteArray) (r : Int) (e : Ending) (w' : World) : Prop :=
  ∃ v, e = .returned (.tuple #[v, .int .i64 r]) ∧ Below w.heap.size w w' ∧ (r ≠ 0 → v = .slice none 0 0) ∧ (r = 0 → w'.ownsRow w.heap.size 5 1 v (s.size + 3) (bc (fb k s)))
theorem rt_zero {k : Int} {n : Nat} {most : Int} (h : rt k n most = 0) : 1 ≤ k ∧ k ≤ 8 ∧ n ≤ 1024 := by
  have c := capn_bd most
  unfold rt kindB at h
  by_cases hk : 1 ≤ k ∧ k ≤ 8
  · rw [if_pos (by simpa using hk)] at h
    by_cases h2 : capn most < (n : Int)
    · rw [if_pos h2] at h; omega
    · omega
  · rw [if_neg (by simpa using hk)] at h; omega
theorem u8_lit (n : Nat) (h : n < 256) : ((UInt8.ofNat n).toNat : Int) = (n : Int) := by rw [UInt8.toNat_ofNat']; omega
theorem head_eq (k : Int) (s : ByteArray) (k1 : 1 ≤ k) (k8 : k ≤ 8) (hs : s.size ≤ 1024) : (Value.int .u8 k :: Value.int .u8 (((s.size : Nat) : Int) / 256) :: Value.int .u8 (((s.size : Nat) : Int) % 256) :: Lib.strCells s) = bc (fb k s) := by
  unfold bc fb Lib.strCells
  simp only [List.map_cons, List.cons_append, List.nil_append]
  rw [u8_lit k.toNat (by omega), u8_lit (s.size / 256) (by omega), u8_lit (s.size % 256) (by omega)]
  have e1 : ((k.toNat : Nat) : Int) = k := by omega
  have e2 : ((s.size / 256 : Nat) : Int) = (s.size : Int) / 256 := by omega
  have e3 : ((s.size % 256 : Nat) : Int) = (s.size : Int) % 256 := by omega
  rw [e1, e2, e3]
theorem or_add (x y : Int) (x0 : 0 ≤ x) (x1 : x < 256) (y0 : 0 ≤ y) (y1 : y < 256) : bits .or .i64 (x * 256) y = x * 256 + y := by
  obtain ⟨a, rfl⟩ : ∃ a : Nat, x = a := ⟨x.toNat, by omega⟩
  obtain ⟨b, rfl⟩ : ∃ b : Nat, y = b := ⟨y.toNat, by omega⟩
  have h1 : (BitVec.ofInt 64 ((a : Int) * 256)).toNat = 2 ^ 8 * a := by
    rw [show (a : Int) * 256 = ((2 ^ 8 * a : Nat) : Int) by omega, BitVec.ofInt_natCast, BitVec.toNat_ofNat]; exact Nat.mod_eq_of_lt (by omega)
  have h2 : (BitVec.ofInt 64 (b : Int)).toNat = b := by
    rw [BitVec.ofInt_natCast, BitVec.toNat_ofNat]; exact Nat.mod_eq_of_lt (by omega)
  show IntKind.i64.wrap ((BitVec.ofInt 64 ((a : Int) * 256) ||| BitVec.ofInt 64 (b : Int)).toNat : Int) = _
  rw [BitVec.toNat_or, h1, h2, ← Nat.two_pow_add_eq_or_of_lt (by omega) a]
  have e1 : IntKind.i64.signed = true := rfl
  have e2 : IntKind.i64.bits = 64 := rfl
  simp only [IntKind.wrap, e1, e2]
  simp
  omega
/-- What the head tells: the kind, how many bytes follow, the error. -/
def hd3 (b0 b1 b2 : Int) (most : Int) : Int × Int × Int :=
  if kindB b0 = false then (0, 0, 4) else if capn most < b1 * 256 + b2 then (0, 0, 3) else (b0, b1 * 256 + b2, 0)
def hdS (len : Nat) (b0 b1 b2 : Int) (most : Int) : Int × Int × Int := if len < 3 then (0, 0, 2) else hd3 b0 b1 b2 most
/-- The first three bytes. -/
structure H3 (w : World) (A : Option Addr) (len : Nat) (b0 b1 b2 : Int) : Prop where
  x0 : 0 ≤ b0
  x1 : b0 < 256
  y0 : 0 ≤ b1
  y1 : b1 < 256
  z0 : 0 ≤ b2
  z1 : b2 < 256
  cells : 3 ≤ len → ∃ x, A = some x ∧ w.cell? x = some (.int .u8 b0) ∧ w.cell? (x.add 1) = some (.int .u8 b1) ∧ w.cell? (x.add 2) = some (.int .u8 b2)
def Told (r : Int × Int × Int) (w : World) (e : Ending) (w' : World) : Prop := e = .returned (.tuple #[.int .i64 r.1, .int .i64 r.2.1, .int .i64 r.2.2]) ∧ Below w.heap.size w w'
set_option maxHeartbeats 2000000 in
theorem head_c (A : Option Addr) (len cap : Nat) (b0 b1 b2 most : Int) (w : World) (h : H3 w A len b0 b1 b2) (hm : len ≤ 1000000) :
    Calls Try.prog 22 #[.slice A len cap, .int .i64 most] w (Told (hdS len b0 b1 b2 most) w) := by
  have hc := capn_bd most
  by_cases h3 : len < 3
  · unfold hdS; rw [if_pos h3]
    clear h
    go_enter Try.func22, Try.ntmps22
    go_wp2
    go_ret3
    exact ⟨rfl, Below.refl _ _⟩
  · have h3' : 3 ≤ len := by omega
    obtain ⟨x0, x1, y0, y1, z0, z1, hcells⟩ := h
    obtain ⟨x, rfl, c0, c1, c2⟩ := hcells h3'
    have HOR := Lib.hid (or_add b1 b2 y0 y1 z0 z1)
    unfold hdS; rw [if_neg h3]
    have d1 : w.cell? ⟨x.block, x.off + 1, none⟩ = some (.int .u8 b1) := c1
    have d2 : w.cell? ⟨x.block, x.off + 2, none⟩ = some (.int .u8 b2) := c2
    clear hcells h3
    have g1 : (0 : Int) < (len : Int) := by omega
    have g2 : (1 : Int) < (len : Int) := by omega
    have g3 : (2 : Int) < (len : Int) := by omega
    cases hk : kindB b0
    · have e : hd3 b0 b1 b2 most = (0, 0, 4) := by unfold hd3; rw [if_pos hk]
      rw [e]
      have hor := HOR.out
      go_enter Try.func22, Try.ntmps22
      go_wp2_with (first | (go_at_call 25; refine (kind_c _ _).mono ?_; rintro e w' ⟨rfl, rfl⟩) | (go_at_call 26; refine (capped_c _ _).mono ?_; rintro e w' ⟨rfl, rfl⟩))
      go_region
      go_wp2_with (first | (go_at_call 25; refine (kind_c _ _).mono ?_; rintro e w' ⟨rfl, rfl⟩) | (go_at_call 26; refine (capped_c _ _).mono ?_; rintro e w' ⟨rfl, rfl⟩))
      go_ret3
      exact ⟨rfl, bel_drewN (Below.refl _ _) _⟩
    · by_cases hb : capn most < b1 * 256 + b2
      · have e : hd3 b0 b1 b2 most = (0, 0, 3) := by unfold hd3; rw [hk, if_neg (by simp), if_pos hb]
        rw [e]
        have hor := HOR.out
        have k1 : decide (b0 < 1) = false := by unfold kindB at hk; simp at hk; simp; omega
        have k8 : decide (8 < b0) = false := by unfold kindB at hk; simp at hk; simp; omega
        go_enter Try.func22, Try.ntmps22
        go_wp2_with (first | (go_at_call 25; refine (kind_c _ _).mono ?_; rintro e w' ⟨rfl, rfl⟩) | (go_at_call 26; refine (capped_c _ _).mono ?_; rintro e w' ⟨rfl, rfl⟩))
        go_region
        go_wp2_with (first | (go_at_call 25; refine (kind_c _ _).mono ?_; rintro e w' ⟨rfl, rfl⟩) | (go_at_call 26; refine (capped_c _ _).mono ?_; rintro e w' ⟨rfl, rfl⟩))
        go_ret3
        exact ⟨rfl, bel_drewN (Below.refl _ _) _⟩
      · have e : hd3 b0 b1 b2 most = (b0, b1 * 256 + b2, 0) := by unfold hd3; rw [hk, if_neg (by simp), if_neg hb]
        have hb' : b1 * 256 + b2 ≤ capn most := by omega
        rw [e]
        have hor := HOR.out
        have k1 : decide (b0 < 1) = false := by unfold kindB at hk; simp at hk; simp; omega
        have k8 : decide (8 < b0) = false := by unfold kindB at hk; simp at hk; simp; omega
        go_enter Try.func22, Try.ntmps22
        go_wp2_with (first | (go_at_call 25; refine (kind_c _ _).mono ?_; rintro e w' ⟨rfl, rfl⟩) | (go_at_call 26; refine (capped_c _ _).mono ?_; rintro e w' ⟨rfl, rfl⟩))
        go_region
        go_wp2_with (first | (go_at_call 25; refine (kind_c _ _).mono ?_; rintro e w' ⟨rfl, rfl⟩) | (go_at_call 26; refine (capped_c _ _).mono ?_; rintro e w' ⟨rfl, rfl⟩))
        go_ret3
        exact ⟨rfl, bel_drewN (Below.refl _ _) _⟩
end Go.Proofs.Ytghcgnahdeaofaa
