/- What a reader is fed in pieces is what it is fed at once, plainly. -/
import Derived.Test.YtghcgnahdeaofaaRu
namespace Go.Proofs.Ytghcgnahdeaofaa
set_option linter.unusedVariables false
theorem byt_app (l y : List UInt8) (i : Nat) (h : i < l.length) : byt (l ++ y) i = byt l i := by
  unfold byt; rw [List.getElem?_append_left h]
theorem hd_app (l y : List UInt8) (most : Int) (h : 3 ≤ l.length) : hd (l ++ y) most = hd l most := by
  unfold hd hdS
  rw [if_neg (by rw [List.length_append]; omega), if_neg (by omega), byt_app l y 0 (by omega), byt_app l y 1 (by omega), byt_app l y 2 (by omega)]
theorem hd_short (l : List UInt8) (most : Int) (h : l.length < 3) : hd l most = (0, 0, 2) := by
  unfold hd hdS; rw [if_pos h]
theorem rd_app (l y : List UInt8) (most : Int) (h : (rd l most).2.2 ≠ 2) : rd (l ++ y) most = rd l most := by
  by_cases h3 : 3 ≤ l.length
  · have e := hd_app l y most h3
    have hb := hd_bd l most
    unfold rd at h ⊢
    rw [e]
    by_cases h0 : (hd l most).2.2 = 0
    · have hz : ¬ ((hd l most).2.2 ≠ 0) := fun k => k h0
      rw [if_neg hz] at h
      rw [if_neg hz, if_neg hz]
      by_cases h2 : (l.length : Int) < 3 + (hd l most).2.1
      · rw [if_pos h2] at h; exact absurd rfl h
      · rw [if_neg h2, if_neg (show ¬ (((l ++ y).length : Nat) : Int) < 3 + (hd l most).2.1 by rw [List.length_append]; omega)]
        have e2 : ((l ++ y).drop 3).take (hd l most).2.1.toNat = (l.drop 3).take (hd l most).2.1.toNat := by
          rw [List.drop_append_of_le_length h3, List.take_append_of_le_length (by rw [List.length_drop]; omega)]
        rw [e2]
    · rw [if_pos h0, if_pos h0]
  · exfalso
    apply h
    unfold rd
    rw [hd_short l most (by omega)]; simp
theorem al_app (l y : List UInt8) (most : Int) : al (l ++ y) most =
    if (al l most).2.2 = 0 then ((al l most).1 ++ (al (l.drop (al l most).2.1 ++ y) most).1, (al l most).2.1 + (al (l.drop (al l most).2.1 ++ y) most).2.1, (al (l.drop (al l most).2.1 ++ y) most).2.2) else al l most := by
  by_cases h : (rd l most).2.2 = 0
  · have ok := rd_ok l most h
    have e := rd_app l y most (by rw [h]; decide)
    have ih := al_app (l.drop (rd l most).2.1.toNat) y most
    obtain ⟨f, n, hn⟩ : ∃ (f : Fr) (n : Nat), rd l most = (f, (n : Int), 0) := ⟨(rd l most).1, (rd l most).2.1.toNat, by
      rw [show (((rd l most).2.1.toNat : Nat) : Int) = (rd l most).2.1 by omega, ← h]⟩
    rw [hn] at e ok ih
    dsimp only at ok
    rw [show ((f, (n : Int), (0 : Int)).2.1).toNat = n by simp] at ih
    rw [al_ok l most f n hn, al_ok (l ++ y) most f n e, List.drop_append_of_le_length (by omega), ih]
    dsimp only
    generalize al (l.drop n) most = a at *
    obtain ⟨a1, a2, a3⟩ := a
    dsimp only
    by_cases ha : a3 = 0
    · rw [if_pos ha, if_pos ha]
      rw [List.drop_drop]
      simp [Nat.add_assoc]
    · rw [if_neg ha, if_neg ha]
  · by_cases h2 : (rd l most).2.2 = 2
    · rw [al_form l most h2]; simp
    · have e := rd_app l y most h2
      rw [al_err l most h h2, al_err (l ++ y) most (by rw [e]; exact h) (by rw [e]; exact h2), e]
      dsimp only
      rw [if_neg h]
termination_by l.length
decreasing_by
  have := rd_ok l most h
  rw [List.length_drop]; omega
theorem fed_z (m : Int) (b x : List UInt8) : fed ⟨m, b, 0⟩ x = if (al (b ++ x) m).2.2 = 0 then ⟨m, (b ++ x).drop (al (b ++ x) m).2.1, 0⟩ else ⟨m, [], (al (b ++ x) m).2.2⟩ := by
  unfold fed; dsimp only
  rw [if_neg (show ¬ ((0 : Int) ≠ 0) from fun h => h rfl)]
theorem fed_app (r : RD) (x y : List UInt8) : fed (fed r x) y = fed r (x ++ y) := by
  obtain ⟨m, b, e⟩ := r
  by_cases he : e = 0
  · subst he
    have ha := al_app (b ++ x) y m
    have hl := al_len (b ++ x) m
    rw [List.append_assoc] at ha
    by_cases h0 : (al (b ++ x) m).2.2 = 0
    · rw [if_pos h0] at ha
      have e1 : fed ⟨m, b, 0⟩ x = ⟨m, (b ++ x).drop (al (b ++ x) m).2.1, 0⟩ := by unfold fed; simp [h0]
      rw [e1, fed_z, fed_z, ha]
      dsimp only
      rw [← List.append_assoc, ← List.drop_drop, List.drop_append_of_le_length hl.2]
    · rw [if_neg h0] at ha
      have e1 : fed ⟨m, b, 0⟩ x = ⟨m, [], (al (b ++ x) m).2.2⟩ := by unfold fed; simp [h0]
      have e2 : fed ⟨m, b, 0⟩ (x ++ y) = ⟨m, [], (al (b ++ x) m).2.2⟩ := by unfold fed; simp [ha, h0]
      rw [e1, e2]; unfold fed; simp [h0]
  · have e1 : ∀ z, fed ⟨m, b, e⟩ z = ⟨m, b, e⟩ := fun z => by unfold fed; simp [he]
    rw [e1, e1, e1]
theorem told_app (r : RD) (x y : List UInt8) : told r (x ++ y) = told r x ++ told (fed r x) y := by
  obtain ⟨m, b, e⟩ := r
  by_cases he : e = 0
  · subst he
    have ha := al_app (b ++ x) y m
    rw [List.append_assoc] at ha
    by_cases h0 : (al (b ++ x) m).2.2 = 0
    · rw [if_pos h0] at ha
      have e1 : fed ⟨m, b, 0⟩ x = ⟨m, (b ++ x).drop (al (b ++ x) m).2.1, 0⟩ := by unfold fed; simp [h0]
      rw [e1]
      unfold told
      simp [ha]
    · rw [if_neg h0] at ha
      have e1 : fed ⟨m, b, 0⟩ x = ⟨m, [], (al (b ++ x) m).2.2⟩ := by unfold fed; simp [h0]
      rw [e1]
      unfold told
      simp [ha, h0]
  · have e1 : ∀ z, fed ⟨m, b, e⟩ z = ⟨m, b, e⟩ := fun z => by unfold fed; simp [he]
    have t1 : ∀ z, told ⟨m, b, e⟩ z = [] := fun z => by unfold told; simp [he]
    rw [e1, t1, t1, t1]; rfl
theorem told_len (r : RD) (x : List UInt8) : (told r x).length ≤ r.b.length + x.length := by
  have := al_len (r.b ++ x) r.most
  rw [List.length_append] at this
  unfold told; split
  · simp
  · omega
theorem fed_len (r : RD) (x : List UInt8) : (fed r x).b.length ≤ r.b.length + x.length := by
  unfold fed; split
  · omega
  · split
    · dsimp only; rw [List.length_drop, List.length_append]; omega
    · simp
theorem fed_most (r : RD) (x : List UInt8) : (fed r x).most = r.most := by
  unfold fed; split
  · rfl
  · split <;> rfl
theorem fed_nil (m : Int) : fed ⟨m, [], 0⟩ [] = ⟨m, [], 0⟩ := by unfold fed; simp [al_nil]
theorem told_nil (m : Int) : told ⟨m, [], 0⟩ [] = [] := by unfold told; simp [al_nil]
theorem flat_snoc (l : List ByteArray) (k : Nat) (h : k < l.length) : flat (l.take (k + 1)) = flat (l.take k) ++ l[k].data.toList := by
  unfold flat
  rw [List.take_succ_eq_append_getElem h, List.flatMap_append]; simp
end Go.Proofs.Ytghcgnahdeaofaa
