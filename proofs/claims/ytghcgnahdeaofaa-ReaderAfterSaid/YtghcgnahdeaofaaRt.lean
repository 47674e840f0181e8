/- Bytes that are cut, plainly; contracts of Split, of its reference and of the reference's comparison, over this seat's translation. -/
import Derived.Test.YtghcgnahdeaofaaRs
namespace Go.Proofs.Ytghcgnahdeaofaa
open Go.ChangeShapes Go.WideShapes Go.ChangeAt Go.RowKit
set_option linter.unusedVariables false
/-- The cells of texts. -/
def sc (l : List ByteArray) : List Value := l.map fun x => .string x
theorem sc_len (l : List ByteArray) : (sc l).length = l.length := by simp [sc]
theorem sc_one (l : List ByteArray) : ∀ u ∈ sc l, u.oneCell' = true := by
  unfold sc; intro u hu
  obtain ⟨b, _, rfl⟩ := List.mem_map.1 hu
  rfl
theorem sc_app (a b : List ByteArray) : sc a ++ sc b = sc (a ++ b) := by simp [sc]
/-- The slice value's first cells are the texts. -/
def SR (w : World) (A : Option Addr) (l : List ByteArray) : Prop := ∀ j (hj : j < l.length), ∃ x, A = some x ∧ w.cell? (x.add j) = some (.string l[j])
theorem SR.keep {w w' : World} {A : Option Addr} {l : List ByteArray} (h : SR w A l) (hb : Below w.heap.size w w') : SR w' A l := fun j hj => by
  obtain ⟨x, rfl, hc⟩ := h j hj
  exact ⟨x, rfl, by rw [hb.cell (cell_lt hc)]; exact hc⟩
theorem SR.of_own {w : World} {base n : Nat} {v : Value} {l : List ByteArray} (h : w.ownsRow base 9 1 v n (sc l)) : ∃ A cap, v = .slice A n cap ∧ SR w A l ∧ n = l.length ∧ n ≤ cap ∧ cap ≤ maxLen := by
  have hl : (sc l).length = n * 1 := h.1
  rw [sc_len] at hl
  rcases h.2 with ⟨rfl, hn⟩ | ⟨g, cap, cur, rfl, hg, hb, hc, hm, _⟩
  · exact ⟨none, 0, by rw [hn], fun j hj => by omega, by omega, by omega, by omega⟩
  · refine ⟨_, cap, rfl, fun j hj => ⟨_, rfl, ?_⟩, by omega, hc, hm⟩
    exact h.cells (g := g) rfl j _ (by simp [sc, hj])
theorem sone_at (w : World) (x : ByteArray) (t : TypeId) : ∀ (j : Nat) (u : Value), (sc [x])[j]? = some u → (w.alloc (.cells #[.string x] t)).cell? ((⟨w.heap.size, 0, none⟩ : Addr).add j) = some u
  | 0, u, h => by rw [show (⟨w.heap.size, 0, none⟩ : Addr).add 0 = ⟨w.heap.size, 0, none⟩ from rfl, (Blk.new w t #[.string x]).cell 0]; exact h
  | j + 1, u, h => by simp [sc] at h
theorem infoS : (Try.prog.info? 9).map (fun i => (i.zero, i.size, i.bytes)) = some (some (.string ByteArray.empty), 1, 16) := by kernel_rfl
/-- What is cut so far, and where the next piece begins. -/
def stepp (b : ByteArray) (p : List ByteArray × Nat) (k : Int) : List ByteArray × Nat := if (p.2 : Int) < k ∧ k < b.size then (p.1 ++ [b.extract p.2 k.toNat], k.toNat) else p
def goes (b : ByteArray) (at' : List Int) : List ByteArray × Nat := at'.foldl (stepp b) ([], 0)
def pieces (b : ByteArray) (at' : List Int) : List ByteArray := (goes b at').1 ++ [b.extract (goes b at').2 b.size]
theorem goes_snoc (b : ByteArray) (at' : List Int) (k : Nat) (h : k < at'.length) : goes b (at'.take (k + 1)) = stepp b (goes b (at'.take k)) at'[k] := by
  unfold goes
  rw [List.take_succ_eq_append_getElem h, List.foldl_append]; rfl
/-- All bytes of texts. -/
def flat (l : List ByteArray) : List UInt8 := l.flatMap fun x => x.data.toList
theorem goes_inv (b : ByteArray) (at' : List Int) : (goes b at').2 ≤ b.size ∧ (goes b at').1.length ≤ at'.length ∧ flat (goes b at').1 = b.data.toList.take (goes b at').2 := by
  have h : ∀ (at' : List Int) (p : List ByteArray × Nat), p.2 ≤ b.size → flat p.1 = b.data.toList.take p.2 → (at'.foldl (stepp b) p).2 ≤ b.size ∧ (at'.foldl (stepp b) p).1.length ≤ p.1.length + at'.length ∧ flat (at'.foldl (stepp b) p).1 = b.data.toList.take (at'.foldl (stepp b) p).2 := by
    intro at'
    induction at' with
    | nil => intro p h1 h2; exact ⟨h1, Nat.le_refl _, h2⟩
    | cons k ks ih =>
      intro p h1 h2
      have h3 : (stepp b p k).2 ≤ b.size ∧ (stepp b p k).1.length ≤ p.1.length + 1 ∧ flat (stepp b p k).1 = b.data.toList.take (stepp b p k).2 := by
        unfold stepp
        by_cases hk : (p.2 : Int) < k ∧ k < b.size
        · rw [if_pos hk]
          refine ⟨by dsimp only; omega, by simp, ?_⟩
          dsimp only
          unfold flat at h2 ⊢
          rw [List.flatMap_append, h2]
          simp only [List.flatMap_cons, List.flatMap_nil, List.append_nil]
          have e : (b.extract p.2 k.toNat).data.toList = (b.data.toList.drop p.2).take (k.toNat - p.2) := by
            simp [ByteArray.data_extract, Array.toList_extract]
          rw [e, ← List.take_add]; congr 1; omega
        · rw [if_neg hk]; exact ⟨h1, Nat.le_succ _, h2⟩
      obtain ⟨i1, i2, i3⟩ := ih (stepp b p k) h3.1 h3.2.2
      exact ⟨i1, by simp only [List.foldl_cons, List.length_cons]; have := h3.2.1; omega, i3⟩
  have := h at' ([], 0) (Nat.zero_le _) (by simp [flat])
  simpa [goes] using this
theorem pieces_flat (b : ByteArray) (at' : List Int) : flat (pieces b at') = b.data.toList := by
  obtain ⟨h1, _, h3⟩ := goes_inv b at'
  unfold pieces
  have hs : b.data.toList.length = b.size := Array.length_toList
  have e : (b.extract (goes b at').2 b.size).data.toList = b.data.toList.drop (goes b at').2 := by
    simp [ByteArray.data_extract, Array.toList_extract]
    exact List.take_of_length_le (by rw [List.length_drop, hs]; exact Nat.le_refl _)
  unfold flat at h3 ⊢
  rw [List.flatMap_append, h3]
  simp only [List.flatMap_cons, List.flatMap_nil, List.append_nil]
  rw [e, List.take_append_drop]
/-- The slice value's first cells are the numbers. -/
def NR (w : World) (A : Option Addr) (l : List Int) : Prop := ∀ j (hj : j < l.length), ∃ x, A = some x ∧ w.cell? (x.add j) = some (.int .i64 l[j])
theorem NR.keep {w w' : World} {A : Option Addr} {l : List Int} (h : NR w A l) (hb : Below w.heap.size w w') : NR w' A l := fun j hj => by
  obtain ⟨x, rfl, hc⟩ := h j hj
  exact ⟨x, rfl, by rw [hb.cell (cell_lt hc)]; exact hc⟩
structure RelS (W w : World) (b : ByteArray) (l : List Int) (v f i : Value) (k : Nat) : Prop where
  hi : i = .int .i64 k
  hk : k ≤ l.length
  hf : f = .int .i64 ((goes b (l.take k)).2 : Nat)
  own : w.ownsRow W.heap.size 9 1 v (goes b (l.take k)).1.length (sc (goes b (l.take k)).1)
  below : Below W.heap.size W w
theorem RelS.start (W : World) (b : ByteArray) (l : List Int) : RelS W W b l (.slice none 0 0) (.int .i64 0) (.int .i64 0) 0 :=
  ⟨rfl, Nat.zero_le _, rfl, World.ownsRow_nil _ _ _ _, Below.refl _ _⟩
def Texts (l : List ByteArray) (w : World) (e : Ending) (w' : World) : Prop := ∃ v, e = .returned v ∧ Below w.heap.size w w' ∧ w'.ownsRow w.heap.size 9 1 v l.length (sc l)
set_option maxRecDepth 100000 in
set_option maxHeartbeats 16000000 in
theorem split_c (b : ByteArray) (A : Option Addr) (c : Nat) (l : List Int) (w : World) (h : NR w A l) (hl : l.length ≤ 10000) (hb : b.size ≤ 100000) :
    Calls Try.prog 18 #[.string b, .slice A l.length c] w (Texts (pieces b l) w) := by
  obtain ⟨i0, hi0, hz0, hz1, hz2⟩ := info_parts infoS
  have HR := Lib.hid h
  have HR0 := Lib.hid (RelS.start w b l)
  obtain ⟨m, hm⟩ : ∃ m, m = l.length := ⟨_, rfl⟩
  have HM := Lib.hid hm
  rw [← hm] at hl ⊢
  clear h hm
  go_enter Try.func18, Try.ntmps18
  go_wp2_with fail
  go_loopw [5, 6, 11] (fun v f i wr => ∃ k, RelS w wr b l v f i k) (fun _ _ i _ => m - (intOf i).toNat)
  case atStart => exact ⟨0, HR0.out⟩
  case round =>
    clear HR0
    obtain ⟨k, hrel⟩ := hrel
    obtain rfl := hrel.hi
    obtain rfl := hrel.hf
    have hk := hrel.hk
    rw [← HM.out] at hk
    have HREL := Lib.hid hrel
    obtain ⟨g1, g2, g9⟩ := goes_inv b (l.take k)
    clear g9
    rw [List.length_take] at g2
    have HO := Lib.hid hrel.own
    clear hrel
    by_cases hlt : k < m
    · have hlt2 : k < l.length := by rw [← HM.out]; exact hlt
      obtain ⟨x, rfl, cx0⟩ := HR.out k hlt2
      have hxl := cell_lt cx0
      have cx : wr.cell? (x.add k) = some (.int .i64 l[k]) := by rw [HREL.out.below.cell hxl]; exact cx0
      clear cx0
      have HSN := Lib.hid (goes_snoc b l k hlt2)
      have g3 : (goes b (l.take k)).1.length ≤ 10000 := by omega
      generalize l[k] = y at cx HSN
      have HBW := Lib.hid HREL.out.below
      clear g2
      generalize goes b (l.take k) = p at *
      obtain ⟨p1, p2⟩ := p
      dsimp only at g1 g3 HO ⊢
      by_cases hy1 : (p2 : Int) < y
      · by_cases hy2 : y < (b.size : Int)
        · obtain ⟨t, rfl⟩ : ∃ t : Nat, y = t := ⟨y.toNat, by omega⟩
          have HS := Lib.hid (show goes b (l.take (k + 1)) = (p1 ++ [b.extract p2 t], t) by rw [HSN.out]; unfold stepp; dsimp only; rw [if_pos ⟨hy1, hy2⟩]; simp)
          have ht1 : p2 < t := by omega
          have ht2 : t < b.size := by omega
          have ht3 : (p2 : Int) ≤ (t : Int) := by omega
          have ht4 : (t : Int) ≤ (b.size : Int) := by omega
          have ht5 : p2 ≤ t := by omega
          have ht6 : t ≤ b.size := by omega
          have HO1 := Lib.hid (HO.out.alloc (.cells #[.string (b.extract p2 t)] 9))
          have HB1 := Lib.hid (HBW.out.alloc HBW.out.size (.cells #[.string (b.extract p2 t)] 9))
          have HC1 := Lib.hid (sone_at wr (b.extract p2 t) 9)
          have C5 := Lib.hid HB1.out.size
          have C3 := Lib.hid (show p1.length + 1 ≤ maxLen by unfold maxLen; omega)
          have C4 := Lib.hid (show (p1.length + 1) * 16 ≤ 140737488355328 by omega)
          clear HREL
          go_wp2_with (at_builtin; refine wpList_append_own _ rfl _ _ 31 rfl w.heap.size 9 i0 (.string ByteArray.empty) 1 16 Try.underlying31 hi0 hz0 hz1 hz2 rfl (by decide) _ _ _ rfl HO1.out ⟨wr.heap.size, 0, none⟩ 1 1 (sc [b.extract p2 t]) rfl rfl HC1.out (sc_one _) C3.out C4.out C5.out ?_)
          intro v' w2 hown' hgrow _
          rw [sc_app] at hown'
          have HB2 := Lib.hid (HB1.out.grown hgrow HB1.out.size (fun j hj => (HO1.out.lt j hj).1))
          have HO2 := Lib.hid hown'
          have cx2 : w2.cell? (x.add k) = some (.int .i64 (t : Int)) := by rw [HB2.out.cell hxl, ← HBW.out.cell hxl]; exact cx
          clear hown' hgrow
          go_wp2_with fail
          go_roundw
          case rel => exact ⟨k + 1, by go_num, by rw [← HM.out]; exact hlt, by rw [HS.out], by rw [HS.out]; dsimp only; rw [List.length_append]; exact HO2.out, HB2.out⟩
          case measure => simp [intOf]; omega
        · have HS := Lib.hid (show goes b (l.take (k + 1)) = (p1, p2) by rw [HSN.out]; unfold stepp; dsimp only; rw [if_neg (fun h => hy2 h.2)])
          have hd1 : decide (y < (b.size : Int)) = false := by simpa using hy2
          clear HREL hy2
          go_wp2_with fail
          go_roundw
          case rel => exact ⟨k + 1, by go_num, by rw [← HM.out]; exact hlt, by rw [HS.out], by rw [HS.out]; exact HO.out, HBW.out⟩
          case measure => simp [intOf]; omega
      · have HS := Lib.hid (show goes b (l.take (k + 1)) = (p1, p2) by rw [HSN.out]; unfold stepp; dsimp only; rw [if_neg (fun h => hy1 h.1)])
        have hd1 : decide ((p2 : Int) < y) = false := by simpa using hy1
        clear HREL hy1
        go_wp2_with fail
        go_roundw
        case rel => exact ⟨k + 1, by go_num, by rw [← HM.out]; exact hlt, by rw [HS.out], by rw [HS.out]; exact HO.out, HBW.out⟩
        case measure => simp [intOf]; omega
    · obtain rfl : k = m := by omega
      have HT := Lib.hid (show l.take k = l from by rw [HM.out, List.take_length])
      have HBW := Lib.hid HREL.out.below
      have HPC := Lib.hid (show pieces b l = (goes b (l.take k)).1 ++ [b.extract (goes b (l.take k)).2 b.size] by rw [HT.out]; rfl)
      have g3 : (goes b (l.take k)).1.length ≤ 10000 := by omega
      clear HREL g2 hlt
      generalize goes b (l.take k) = p at *
      obtain ⟨p1, p2⟩ := p
      dsimp only at g1 g3 HO HPC ⊢
      have HO1 := Lib.hid (HO.out.alloc (.cells #[.string (b.extract p2 b.size)] 9))
      have HB1 := Lib.hid (HBW.out.alloc HBW.out.size (.cells #[.string (b.extract p2 b.size)] 9))
      have HC1 := Lib.hid (sone_at wr (b.extract p2 b.size) 9)
      have C5 := Lib.hid HB1.out.size
      have C3 := Lib.hid (show p1.length + 1 ≤ maxLen by unfold maxLen; omega)
      have C4 := Lib.hid (show (p1.length + 1) * 16 ≤ 140737488355328 by omega)
      go_wp2_with (at_builtin; refine wpList_append_own _ rfl _ _ 31 rfl w.heap.size 9 i0 (.string ByteArray.empty) 1 16 Try.underlying31 hi0 hz0 hz1 hz2 rfl (by decide) _ _ _ rfl HO1.out ⟨wr.heap.size, 0, none⟩ 1 1 (sc [b.extract p2 b.size]) rfl rfl HC1.out (sc_one _) C3.out C4.out C5.out ?_)
      intro v' w2 hown' hgrow _
      rw [sc_app] at hown'
      have HB2 := Lib.hid (HB1.out.grown hgrow HB1.out.size (fun j hj => (HO1.out.lt j hj).1))
      have HO2 := Lib.hid hown'
      clear hown' hgrow
      go_wp2_with fail
      go_ret
      exact ⟨v', rfl, HB2.out, by rw [HPC.out, List.length_append]; exact HO2.out⟩
set_option maxRecDepth 100000 in
set_option maxHeartbeats 16000000 in
theorem rsplit_c (b : ByteArray) (A : Option Addr) (c : Nat) (l : List Int) (w : World) (h : NR w A l) (hl : l.length ≤ 10000) (hb : b.size ≤ 100000) :
    Calls Try.prog 20 #[.string b, .slice A l.length c] w (Texts (pieces b l) w) := by
  obtain ⟨i0, hi0, hz0, hz1, hz2⟩ := info_parts infoS
  have HR := Lib.hid h
  have HR0 := Lib.hid (RelS.start w b l)
  obtain ⟨m, hm⟩ : ∃ m, m = l.length := ⟨_, rfl⟩
  have HM := Lib.hid hm
  rw [← hm] at hl ⊢
  clear h hm
  go_enter Try.func20, Try.ntmps20
  go_wp2_with fail
  go_loopw [5, 6, 7] (fun v f i wr => ∃ k, RelS w wr b l v f i k) (fun _ _ i _ => m - (intOf i).toNat)
  case atStart => exact ⟨0, HR0.out⟩
  case round =>
    clear HR0
    obtain ⟨k, hrel⟩ := hrel
    obtain rfl := hrel.hi
    obtain rfl := hrel.hf
    have hk := hrel.hk
    rw [← HM.out] at hk
    have HREL := Lib.hid hrel
    obtain ⟨g1, g2, g9⟩ := goes_inv b (l.take k)
    clear g9
    rw [List.length_take] at g2
    have HO := Lib.hid hrel.own
    clear hrel
    by_cases hlt : k < m
    · have hlt2 : k < l.length := by rw [← HM.out]; exact hlt
      obtain ⟨x, rfl, cx0⟩ := HR.out k hlt2
      have hxl := cell_lt cx0
      have cx : wr.cell? (x.add k) = some (.int .i64 l[k]) := by rw [HREL.out.below.cell hxl]; exact cx0
      clear cx0
      have HSN := Lib.hid (goes_snoc b l k hlt2)
      have g3 : (goes b (l.take k)).1.length ≤ 10000 := by omega
      generalize l[k] = y at cx HSN
      have HBW := Lib.hid HREL.out.below
      clear g2
      generalize goes b (l.take k) = p at *
      obtain ⟨p1, p2⟩ := p
      dsimp only at g1 g3 HO ⊢
      by_cases hy1 : (p2 : Int) < y
      · by_cases hy2 : y < (b.size : Int)
        · obtain ⟨t, rfl⟩ : ∃ t : Nat, y = t := ⟨y.toNat, by omega⟩
          have HS := Lib.hid (show goes b (l.take (k + 1)) = (p1 ++ [b.extract p2 t], t) by rw [HSN.out]; unfold stepp; dsimp only; rw [if_pos ⟨hy1, hy2⟩]; simp)
          have ht1 : p2 < t := by omega
          have ht2 : t < b.size := by omega
          have ht3 : (p2 : Int) ≤ (t : Int) := by omega
          have ht4 : (t : Int) ≤ (b.size : Int) := by omega
          have ht5 : p2 ≤ t := by omega
          have ht6 : t ≤ b.size := by omega
          have HO1 := Lib.hid (HO.out.alloc (.cells #[.string (b.extract p2 t)] 9))
          have HB1 := Lib.hid (HBW.out.alloc HBW.out.size (.cells #[.string (b.extract p2 t)] 9))
          have HC1 := Lib.hid (sone_at wr (b.extract p2 t) 9)
          have C5 := Lib.hid HB1.out.size
          have C3 := Lib.hid (show p1.length + 1 ≤ maxLen by unfold maxLen; omega)
          have C4 := Lib.hid (show (p1.length + 1) * 16 ≤ 140737488355328 by omega)
          clear HREL
          go_wp2_with (at_builtin; refine wpList_append_own _ rfl _ _ 31 rfl w.heap.size 9 i0 (.string ByteArray.empty) 1 16 Try.underlying31 hi0 hz0 hz1 hz2 rfl (by decide) _ _ _ rfl HO1.out ⟨wr.heap.size, 0, none⟩ 1 1 (sc [b.extract p2 t]) rfl rfl HC1.out (sc_one _) C3.out C4.out C5.out ?_)
          intro v' w2 hown' hgrow _
          rw [sc_app] at hown'
          have HB2 := Lib.hid (HB1.out.grown hgrow HB1.out.size (fun j hj => (HO1.out.lt j hj).1))
          have HO2 := Lib.hid hown'
          have cx2 : w2.cell? (x.add k) = some (.int .i64 (t : Int)) := by rw [HB2.out.cell hxl, ← HBW.out.cell hxl]; exact cx
          clear hown' hgrow
          go_wp2_with fail
          go_roundw
          case rel => exact ⟨k + 1, by go_num, by rw [← HM.out]; exact hlt, by rw [HS.out], by rw [HS.out]; dsimp only; rw [List.length_append]; exact HO2.out, HB2.out⟩
          case measure => simp [intOf]; omega
        · have HS := Lib.hid (show goes b (l.take (k + 1)) = (p1, p2) by rw [HSN.out]; unfold stepp; dsimp only; rw [if_neg (fun h => hy2 h.2)])
          have hd1 : decide (y < (b.size : Int)) = false := by simpa using hy2
          clear HREL hy2
          go_wp2_with fail
          go_roundw
          case rel => exact ⟨k + 1, by go_num, by rw [← HM.out]; exact hlt, by rw [HS.out], by rw [HS.out]; exact HO.out, HBW.out⟩
          case measure => simp [intOf]; omega
      · have HS := Lib.hid (show goes b (l.take (k + 1)) = (p1, p2) by rw [HSN.out]; unfold stepp; dsimp only; rw [if_neg (fun h => hy1 h.1)])
        have hd1 : decide ((p2 : Int) < y) = false := by simpa using hy1
        clear HREL hy1
        go_wp2_with fail
        go_roundw
        case rel => exact ⟨k + 1, by go_num, by rw [← HM.out]; exact hlt, by rw [HS.out], by rw [HS.out]; exact HO.out, HBW.out⟩
        case measure => simp [intOf]; omega
    · obtain rfl : k = m := by omega
      have HT := Lib.hid (show l.take k = l from by rw [HM.out, List.take_length])
      have HBW := Lib.hid HREL.out.below
      have HPC := Lib.hid (show pieces b l = (goes b (l.take k)).1 ++ [b.extract (goes b (l.take k)).2 b.size] by rw [HT.out]; rfl)
      have g3 : (goes b (l.take k)).1.length ≤ 10000 := by omega
      clear HREL g2 hlt
      generalize goes b (l.take k) = p at *
      obtain ⟨p1, p2⟩ := p
      dsimp only at g1 g3 HO HPC ⊢
      have HO1 := Lib.hid (HO.out.alloc (.cells #[.string (b.extract p2 b.size)] 9))
      have HB1 := Lib.hid (HBW.out.alloc HBW.out.size (.cells #[.string (b.extract p2 b.size)] 9))
      have HC1 := Lib.hid (sone_at wr (b.extract p2 b.size) 9)
      have C5 := Lib.hid HB1.out.size
      have C3 := Lib.hid (show p1.length + 1 ≤ maxLen by unfold maxLen; omega)
      have C4 := Lib.hid (show (p1.length + 1) * 16 ≤ 140737488355328 by omega)
      go_wp2_with (at_builtin; refine wpList_append_own _ rfl _ _ 31 rfl w.heap.size 9 i0 (.string ByteArray.empty) 1 16 Try.underlying31 hi0 hz0 hz1 hz2 rfl (by decide) _ _ _ rfl HO1.out ⟨wr.heap.size, 0, none⟩ 1 1 (sc [b.extract p2 b.size]) rfl rfl HC1.out (sc_one _) C3.out C4.out C5.out ?_)
      intro v' w2 hown' hgrow _
      rw [sc_app] at hown'
      have HB2 := Lib.hid (HB1.out.grown hgrow HB1.out.size (fun j hj => (HO1.out.lt j hj).1))
      have HO2 := Lib.hid hown'
      clear hown' hgrow
      go_wp2_with fail
      go_ret
      exact ⟨v', rfl, HB2.out, by rw [HPC.out, List.length_append]; exact HO2.out⟩
end Go.Proofs.Ytghcgnahdeaofaa
