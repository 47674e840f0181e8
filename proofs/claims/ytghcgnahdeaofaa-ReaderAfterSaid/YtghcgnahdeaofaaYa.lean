/- Frames that may be, one behind the other: their bytes, and how they are read again, plainly. -/
import Derived.Test.YtghcgnahdeaofaaN
namespace Go.Proofs.Ytghcgnahdeaofaa
set_option linter.unusedVariables false
theorem al_len (l : List UInt8) (most : Int) : (al l most).1.length ≤ (al l most).2.1 ∧ (al l most).2.1 ≤ l.length := by
  by_cases h : (rd l most).2.2 = 0
  · have ok := rd_ok l most h
    have ih := al_len (l.drop (rd l most).2.1.toNat) most
    rw [al, dif_pos h]
    rw [List.length_drop] at ih
    dsimp only
    rw [List.length_cons]
    omega
  · rw [al, dif_neg h]; split <;> simp
termination_by l.length
decreasing_by
  have := rd_ok l most h
  rw [List.length_drop]; omega
/-- The frames' bytes. -/
def fbs : List Fr → List UInt8
  | [] => []
  | f :: fs => fb f.1 f.2 ++ fbs fs
theorem fbs_app : ∀ a b : List Fr, fbs (a ++ b) = fbs a ++ fbs b
  | [], b => rfl
  | f :: fs, b => by simp only [fbs, List.cons_append, fbs_app fs b, List.append_assoc]
/-- Frames that may be, of 40 bytes at most. -/
def FO (fs : List Fr) : Prop := ∀ f ∈ fs, 1 ≤ f.1 ∧ f.1 ≤ 8 ∧ f.2.size ≤ 40
theorem FO.cons {f : Fr} {fs : List Fr} (h : FO (f :: fs)) : (1 ≤ f.1 ∧ f.1 ≤ 8 ∧ f.2.size ≤ 40) ∧ FO fs := ⟨h f (by simp), fun g hg => h g (by simp [hg])⟩
theorem FO.snoc {f : Fr} {fs : List Fr} (h : FO fs) (k : 1 ≤ f.1 ∧ f.1 ≤ 8 ∧ f.2.size ≤ 40) : FO (fs ++ [f]) := fun g hg => by
  rcases List.mem_append.1 hg with hg | hg
  · exact h g hg
  · simp at hg; subst hg; exact k
theorem FO.take {fs : List Fr} (h : FO fs) (n : Nat) : FO (fs.take n) := fun g hg => h g (List.mem_of_mem_take hg)
theorem FO.drop {fs : List Fr} (h : FO fs) (n : Nat) : FO (fs.drop n) := fun g hg => h g (List.mem_of_mem_drop hg)
theorem fbs_le : ∀ {fs : List Fr}, FO fs → (fbs fs).length ≤ fs.length * 43
  | [], _ => by simp [fbs]
  | f :: fs, h => by
    have := fbs_le h.cons.2
    have := h.cons.1
    simp only [fbs, List.length_append, fb_len, List.length_cons]; omega
theorem al_fbs : ∀ {fs : List Fr}, FO fs → ∀ m : List UInt8, al (fbs fs ++ m) 40 = (fs ++ (al m 40).1, (fbs fs).length + (al m 40).2.1, (al m 40).2.2)
  | [], _, m => by simp [fbs]
  | f :: fs, h, m => by
    obtain ⟨⟨k1, k8, hs⟩, hf⟩ := h.cons
    have ih := al_fbs hf m
    have hr := rd_fb f.1 f.2 (fbs fs ++ m) 40 k1 k8 (by omega) (by unfold capn; omega)
    have hd : (fb f.1 f.2 ++ (fbs fs ++ m)).drop (3 + f.2.size) = fbs fs ++ m := by
      rw [show 3 + f.2.size = (fb f.1 f.2).length by rw [fb_len]; omega, List.drop_left]
    show al ((fb f.1 f.2 ++ fbs fs) ++ m) 40 = _
    rw [List.append_assoc, al_ok _ _ f (3 + f.2.size) (by rw [hr]; simp), hd, ih]
    simp only [fbs, List.length_append, fb_len, List.cons_append]
    have e : 3 + f.2.size + ((fbs fs).length + (al m 40).2.1) = f.2.size + 3 + (fbs fs).length + (al m 40).2.1 := by omega
    rw [e]
theorem al_nil (most : Int) : al [] most = ([], 0, 0) := al_form [] most (by unfold rd hd hdS; simp)
theorem al_all {fs : List Fr} (h : FO fs) : al (fbs fs) 40 = (fs, (fbs fs).length, 0) := by
  have := al_fbs h []
  rw [List.append_nil, al_nil] at this
  simpa using this
/-- A frame's bytes that are cut are no frame yet. -/
theorem rd_cut (k : Int) (s : ByteArray) (n : Nat) (k1 : 1 ≤ k) (k8 : k ≤ 8) (hs : s.size ≤ 40) (hn : n < s.size + 3) : (rd ((fb k s).take n) 40).2.2 = 2 := by
  have hl : ((fb k s).take n).length = n := by rw [List.length_take, fb_len]; omega
  by_cases h3 : n < 3
  · have e : hd ((fb k s).take n) 40 = (0, 0, 2) := by unfold hd hdS; rw [hl, if_pos h3]
    unfold rd
    rw [e]; simp
  · have hb : ∀ i, i < 3 → byt ((fb k s).take n) i = byt (fb k s) i := fun i hi => by
      unfold byt; rw [List.getElem?_take, if_pos (by omega)]
    have e : hd ((fb k s).take n) 40 = (k, (s.size : Int), 0) := by
      have h0 := hd_fb k s [] 40 k1 k8 (by omega) (by unfold capn; omega)
      rw [List.append_nil] at h0
      rw [← h0]
      unfold hd hdS
      rw [hl, if_neg h3, if_neg (by rw [fb_len]; omega), hb 0 (by omega), hb 1 (by omega), hb 2 (by omega)]
    unfold rd
    rw [e, hl, if_neg (by simp), if_pos (by dsimp only; omega)]
theorem al_take : ∀ {fs : List Fr}, FO fs → ∀ k : Nat, ∃ j, j ≤ fs.length ∧ al ((fbs fs).take k) 40 = (fs.take j, (fbs (fs.take j)).length, 0) ∧ (fbs (fs.take j)).length ≤ k
  | [], _, k => ⟨0, Nat.le_refl _, by simp [fbs, al_nil], by simp [fbs]⟩
  | f :: fs, h, k => by
    obtain ⟨⟨k1, k8, hs⟩, hf⟩ := h.cons
    by_cases hk : k < f.2.size + 3
    · refine ⟨0, Nat.zero_le _, ?_, by simp [fbs]⟩
      have e : (fbs (f :: fs)).take k = (fb f.1 f.2).take k := by
        show (fb f.1 f.2 ++ fbs fs).take k = _
        rw [List.take_append_of_le_length (by rw [fb_len]; omega)]
      rw [e, al_form _ _ (rd_cut f.1 f.2 k k1 k8 hs hk)]; simp [fbs]
    · obtain ⟨j, hj, ha, hle⟩ := al_take hf (k - (f.2.size + 3))
      have e : (fbs (f :: fs)).take k = fb f.1 f.2 ++ (fbs fs).take (k - (f.2.size + 3)) := by
        show (fb f.1 f.2 ++ fbs fs).take k = _
        rw [List.take_append, fb_len, List.take_of_length_le (by rw [fb_len]; omega)]
      have hr := rd_fb f.1 f.2 ((fbs fs).take (k - (f.2.size + 3))) 40 k1 k8 (by omega) (by unfold capn; omega)
      have hd : (fb f.1 f.2 ++ (fbs fs).take (k - (f.2.size + 3))).drop (3 + f.2.size) = (fbs fs).take (k - (f.2.size + 3)) := by
        rw [show 3 + f.2.size = (fb f.1 f.2).length by rw [fb_len]; omega, List.drop_left]
      refine ⟨j + 1, by simpa using hj, ?_, ?_⟩
      · rw [e, al_ok _ _ f (3 + f.2.size) (by rw [hr]; simp), hd, ha]
        simp only [fbs, List.length_append, fb_len, List.take_succ_cons]
        rw [Nat.add_comm 3]
      · simp only [fbs, List.length_append, fb_len, List.take_succ_cons]; omega
theorem fbs_drop (fs : List Fr) (j : Nat) : (fbs fs).drop (fbs (fs.take j)).length = fbs (fs.drop j) := by
  have h : fbs fs = fbs (fs.take j) ++ fbs (fs.drop j) := by rw [← fbs_app, List.take_append_drop]
  rw [h, List.drop_left]
theorem fbs_split (fs : List Fr) (j : Nat) : (fbs fs).length = (fbs (fs.take j)).length + (fbs (fs.drop j)).length := by
  have h : fbs fs = fbs (fs.take j) ++ fbs (fs.drop j) := by rw [← fbs_app, List.take_append_drop]
  rw [h, List.length_append]
end Go.Proofs.Ytghcgnahdeaofaa
