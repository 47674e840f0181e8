/- Contracts of Feed and Want, whole, over this seat's translation. -/
import Derived.Test.YtghcgnahdeaofaaRq
namespace Go.Proofs.Ytghcgnahdeaofaa
open Go.ChangeShapes Go.WideShapes Go.ChangeAt Go.RowKit
set_option linter.unusedVariables false
theorem feed_c (B g : Nat) (r : RD) (s : ByteArray) (w : World) (h : OR w B g r) (hB : B ≤ w.heap.size) (hl : r.b.length + s.size ≤ 100000) :
    Calls Try.prog 9 #[.pointer (some ⟨g, 0, none⟩), .string s] w (FD r s.data.toList B g w) := by
  by_cases he : r.e = 0
  · obtain ⟨most, b, e⟩ := r
    dsimp only at he
    subst he
    exact feed_ok B g most b s w h hB hl
  · exact feed_err B g r s w h he
/-- How many more bytes it takes. -/
def wantN (r : RD) : Int := if r.e ≠ 0 then 0 else if r.b.length < 3 then 3 - (r.b.length : Int) else 3 + (hd r.b r.most).2.1 - (r.b.length : Int)
set_option maxHeartbeats 4000000 in
theorem want_c (B g : Nat) (r : RD) (w : World) (h : OR w B g r) (hl : r.b.length ≤ 100000) :
    Calls Try.prog 11 #[.pointer (some ⟨g, 0, none⟩)] w fun e w' => e = .returned (.int .i64 (wantN r)) ∧ Below w.heap.size w w' := by
  obtain ⟨most, b, e⟩ := r
  obtain ⟨v, hb, hown⟩ := h.obj
  dsimp only at hb hown hl
  obtain ⟨A, cap, rfl, hbr, hlc, hcm, hno, hxb⟩ := BR.own' hown
  have c0 : w.cell? ⟨g, 0, none⟩ = some (.int .i64 most) := hb.cell 0
  have c1 : w.cell? ⟨g, 1, none⟩ = some (.slice A b.length cap) := hb.cell 1
  have c2 : w.cell? ⟨g, 2, none⟩ = some (.int .i64 e) := hb.cell 2
  have HBK := Lib.hid hb
  have HBR := Lib.hid hbr
  obtain ⟨p, hp⟩ : ∃ p, p = b.length := ⟨_, rfl⟩
  rw [← hp] at c1 hl HBK
  have HP := Lib.hid hp
  clear h hb hown hbr hlc hcm hno hxb hp
  by_cases he : e = 0
  · subst he
    by_cases h3 : p < 3
    · have HV := Lib.hid (show wantN ⟨most, b, 0⟩ = 3 - (p : Int) by unfold wantN; dsimp only; rw [if_neg (by simp), if_pos (by rw [← HP.out]; exact h3), HP.out])
      have h3' : (p : Int) < 3 := by omega
      go_enter Try.func11, Try.ntmps11
      go_wp2_with fail
      go_ret
      exact ⟨ret_int HV.out.symm, Below.refl _ _⟩
    · have HV := Lib.hid (show wantN ⟨most, b, 0⟩ = 3 + (hd b most).2.1 - (p : Int) by unfold wantN; dsimp only; rw [if_neg (by simp), if_neg (by rw [← HP.out]; exact h3), HP.out])
      have h3' : (3 : Int) ≤ (p : Int) := by omega
      have hbd := hd_bd b most
      have hb1 := hbd.1
      have hb2 := hbd.2.1
      have KH := Lib.hid (show Calls Try.prog 22 #[.slice A p cap, .int .i64 most] w.drew (Told (hd b most) w.drew) from by
        have := head_c A b.length cap _ _ _ most w.drew (h3_of (HBR.out.keep ((Below.refl _ _).drew))) (by rw [← HP.out]; omega)
        rw [← HP.out] at this; unfold hd; rw [← HP.out]; exact this)
      have HSS := Lib.hid (show ∀ w', Below w.heap.size w w' → (fun w' => w'.cell? ⟨g, 1, none⟩ = some (.slice A p cap) ∧ w'.cell? ⟨g, 0, none⟩ = some (.int .i64 most)) w' from fun w' hb => by
        have a := HBK.out.below hb HBK.out.lt
        exact ⟨a.cell 1, a.cell 0⟩)
      have pd := HSS.out w.drew ((Below.refl _ _).drew)
      clear hbd h3
      generalize hd b most = r at *
      obtain ⟨r1, r2, r3⟩ := r
      dsimp only at hb1 hb2
      go_enter Try.func11, Try.ntmps11
      go_wp2_with fail
      go_region_held3 (fun w' => w'.cell? ⟨g, 1, none⟩ = some (.slice A p cap) ∧ w'.cell? ⟨g, 0, none⟩ = some (.int .i64 most))
        (first | go_keep | exact p4 | exact pd)
        (first | (go_at_call 22; (with_reducible refine KH.out.mono ?_); rintro e w4 ⟨rfl, hb4⟩; have b4 : Below w.heap.size w w4 := ⟨hb4.os, hb4.tape, hb4.output, hb4.size, hb4.block⟩; have p4 := HSS.out w4 b4))
      all_goals
        have HB4 := Lib.hid b4
        obtain ⟨k1, k0⟩ := p4
        clear hb4 b4 pd
        go_wp2_with fail
        go_ret
        exact ⟨ret_int HV.out.symm, HB4.out⟩
  · have HV := Lib.hid (show wantN ⟨most, b, e⟩ = 0 by unfold wantN; rw [if_pos he])
    have he1 : (e != 0) = true := by simpa using he
    clear he
    go_enter Try.func11, Try.ntmps11
    go_wp2_with fail
    go_ret
    exact ⟨ret_int HV.out.symm, Below.refl _ _⟩
end Go.Proofs.Ytghcgnahdeaofaa
