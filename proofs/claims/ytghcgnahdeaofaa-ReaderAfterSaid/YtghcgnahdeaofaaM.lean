/- The law's argument of bytes, and what is read of a frame's bytes: over this seat's translation. -/
import Derived.Test.YtghcgnahdeaofaaJ
import Derived.Laws.AppendOwnNone
namespace Go.Proofs.Ytghcgnahdeaofaa
open Go.ChangeShapes Go.WideShapes Go.ChangeAt Go.RowKit
set_option linter.unusedVariables false
/-- The first 300 bytes of what came in. -/
def cutB (zs : List Int) (len : Nat) : List UInt8 := ((zs.map fun n => UInt8.ofNat n.toNat).take (min len 300))
theorem cutB_len {w : World} {a : Option Addr} {len cap : Nat} {zs : List Int} (h : IsRow .u8 w a len cap zs) : (cutB zs len).length = min len 300 := by
  unfold cutB
  rw [List.length_take, List.length_map]
  rcases h with ⟨_, rfl, _, rfl⟩ | ⟨x, _, hl, _, hz, _⟩
  · rfl
  · omega
theorem cutB_BR {w : World} {a : Option Addr} {len cap : Nat} {zs : List Int} (h : IsRow .u8 w a len cap zs) : BR w a (cutB zs len) := fun j hj => by
  rw [cutB_len h] at hj
  rcases h with ⟨_, rfl, _, rfl⟩ | ⟨x, rfl, hl, _, hz, hc, hw⟩
  · exfalso; omega
  · refine ⟨x, rfl, ?_⟩
    have hjz : j < zs.length := by omega
    rw [hc j hjz]
    have hm := hw (zs.getD j 0) (by rw [List.getD_eq_getElem?_getD, List.getElem?_eq_getElem hjz]; exact List.getElem_mem hjz)
    have e : ∀ (hj : j < (cutB zs len).length), (cutB zs len)[j] = UInt8.ofNat (zs.getD j 0).toNat := fun hj => by
      have q : (cutB zs len)[j]? = some (UInt8.ofNat (zs.getD j 0).toNat) := by
        unfold cutB; rw [List.getElem?_take, if_pos (by assumption), List.getElem?_map, List.getD_eq_getElem?_getD, List.getElem?_eq_getElem hjz]; rfl
      rw [List.getElem?_eq_getElem hj] at q; injection q
    rw [e]
    generalize zs.getD j 0 = z at hm ⊢
    have hb : 0 ≤ z ∧ z < 256 := by
      have := hm; simp [Lit.wf, IntKind.min, IntKind.max, IntKind.signed, IntKind.bits] at this; omega
    rw [u8_lit _ (by omega)]
    congr 2; omega
theorem cutB_cap {w : World} {a : Option Addr} {len cap : Nat} {zs : List Int} (h : IsRow .u8 w a len cap zs) : len ≤ cap ∧ cap ≤ maxLen := by
  rcases h with ⟨_, rfl, rfl, rfl⟩ | ⟨x, rfl, hl, hm, hz, hc, hw⟩
  · exact ⟨Nat.le_refl _, Nat.zero_le _⟩
  · exact ⟨hl, hm⟩
theorem fb_len (k : Int) (s : ByteArray) : (fb k s).length = s.size + 3 := by
  unfold fb; rw [List.length_append, Array.length_toList]; exact Nat.add_comm 3 s.data.size
theorem hd_fb (k : Int) (s : ByteArray) (m : List UInt8) (most : Int) (k1 : 1 ≤ k) (k8 : k ≤ 8) (hs : s.size ≤ 1024) (hc : (s.size : Int) ≤ capn most) : hd (fb k s ++ m) most = (k, (s.size : Int), 0) := by
  have hl : 3 ≤ (fb k s ++ m).length := by rw [List.length_append, fb_len]; omega
  have e0 : byt (fb k s ++ m) 0 = k := by
    show ((UInt8.ofNat k.toNat).toNat : Int) = k
    rw [u8_lit _ (by omega)]; omega
  have e1 : byt (fb k s ++ m) 1 = ((s.size / 256 : Nat) : Int) := by
    show ((UInt8.ofNat (s.size / 256)).toNat : Int) = _
    rw [u8_lit _ (by omega)]
  have e2 : byt (fb k s ++ m) 2 = ((s.size % 256 : Nat) : Int) := by
    show ((UInt8.ofNat (s.size % 256)).toNat : Int) = _
    rw [u8_lit _ (by omega)]
  have hk : kindB k = true := by unfold kindB; simp; omega
  unfold hd hdS hd3
  rw [if_neg (by omega), e0, e1, e2, hk, if_neg (by decide), if_neg (by omega)]
  congr 2; omega
theorem rd_fb (k : Int) (s : ByteArray) (m : List UInt8) (most : Int) (k1 : 1 ≤ k) (k8 : k ≤ 8) (hs : s.size ≤ 1024) (hc : (s.size : Int) ≤ capn most) : rd (fb k s ++ m) most = ((k, s), 3 + (s.size : Int), 0) := by
  have hl : (fb k s ++ m).length = s.size + 3 + m.length := by rw [List.length_append, fb_len]
  unfold rd
  rw [hd_fb k s m most k1 k8 hs hc, if_neg (by simp), if_neg (by dsimp only; omega)]
  have e : (fb k s ++ m).drop 3 = s.data.toList ++ m := by unfold fb; simp
  dsimp only
  rw [e, show ((s.size : Int)).toNat = s.data.toList.length from (Int.toNat_natCast _).trans Array.length_toList.symm, List.take_left]
end Go.Proofs.Ytghcgnahdeaofaa
