/- Contract of Feed over this seat's translation. -/
import Derived.Test.YtghcgnahdeaofaaRp
import Derived.Deep.RegionHeld3
namespace Go.Proofs.Ytghcgnahdeaofaa
open Go.ChangeShapes Go.WideShapes Go.ChangeAt Go.RowKit
set_option linter.unusedVariables false
theorem strc (s : ByteArray) : Lib.strCells s = bc s.data.toList := by unfold Lib.strCells bc; rfl
theorem BR.own' {w : World} {base n : Nat} {v : Value} {l : List UInt8} (h : w.ownsRow base 5 1 v n (bc l)) : ∃ A cap, v = .slice A n cap ∧ BR w A l ∧ n ≤ cap ∧ cap ≤ maxLen ∧ (A = none → n = 0 ∧ cap = 0) ∧ (∀ x, A = some x → base ≤ x.block) := by
  have hl : (bc l).length = n * 1 := h.1
  rw [bc_len] at hl
  rcases h.2 with ⟨rfl, hn⟩ | ⟨g, cap, cur, rfl, hg, hb, hc, hm, _⟩
  · exact ⟨none, 0, by rw [hn], fun j hj => by omega, by omega, by omega, (fun _ => ⟨hn, rfl⟩), (fun x hx => by cases hx)⟩
  · refine ⟨_, cap, rfl, fun j hj => ⟨_, rfl, ?_⟩, hc, hm, (fun h => by cases h), (fun x hx => by cases hx; exact hg)⟩
    refine h.cells (g := g) rfl j _ ?_
    simp [bc, hj]
theorem blk_grown {w w' : World} {g : Nat} {t : TypeId} {cs : Array Value} {row : Option Nat} (h : Blk w g t cs) (hg : w.grownBy w' row) (hr : ∀ j, row = some j → g < j) : Blk w' g t cs :=
  (hg.block g h.lt (fun e => by have := hr g e.symm; omega)).trans h
theorem own_near {w w' : World} {g base size n : Nat} {e : TypeId} {v : Value} {xs : List Value} (h : w.ownsRow base e size v n xs) (hn : Near g w w') (hg : g < base) : w'.ownsRow base e size v n xs := by
  refine ⟨h.1, ?_⟩
  rcases h.2 with hv | ⟨k, cap, cur, rfl, hbg, hgg, rest⟩
  · exact .inl hv
  · exact .inr ⟨k, cap, cur, rfl, hbg, (hn.block k (Array.getElem?_eq_some_iff.1 hgg).1 (by omega)).trans hgg, rest⟩
theorem Upto.below {w w' w2 : World} {B g : Nat} (h : Upto B g w w') (hn : Below w'.heap.size w' w2) (hB : B ≤ w'.heap.size) : Upto B g w w2 :=
  ⟨hn.os.trans h.os, hn.tape.trans h.tape, hn.output.trans h.output, Nat.le_trans h.size hn.size, fun k hk hg => (hn.block k (by omega)).trans (h.block k hk hg), fun k hk hg ho => (hn.block k (Nat.lt_of_lt_of_le hk h.size)).trans (h.other k hk hg ho)⟩
theorem own_mono {w : World} {base base' size n : Nat} {e : TypeId} {v : Value} {xs : List Value} (h : w.ownsRow base e size v n xs) (hb : base' ≤ base) : w.ownsRow base' e size v n xs := by
  refine ⟨h.1, ?_⟩
  rcases h.2 with hn | ⟨g, cap, cur, rfl, hbg, rest⟩
  · exact .inl hn
  · exact .inr ⟨g, cap, cur, rfl, by omega, rest⟩
theorem Upto.of_grown {w w' : World} {B g : Nat} {row : Option Nat} (hg : w.grownBy w' row) (hB : B ≤ w.heap.size) (hr : ∀ j, row = some j → B ≤ j) (hr5 : ∀ j, row = some j → ∃ cur, w.heap[j]? = some (.cells cur 5 (0, 0))) : Upto B g w w' :=
  ⟨hg.os, hg.tape, hg.output, hg.size, fun k hk _ => hg.block k (by omega) (fun e => by have := hr k e.symm; omega), fun k hk _ ho => hg.block k hk (fun e => by obtain ⟨cur, hc⟩ := hr5 k e.symm; exact ho cur hc)⟩
theorem own_typ {w : World} {base size n : Nat} {e : TypeId} {v : Value} {xs : List Value} (h : w.ownsRow base e size v n xs) : ∀ j, v.ownBlock = some j → ∃ cur, w.heap[j]? = some (.cells cur e (0, 0)) := by
  intro j hj
  rcases h.2 with ⟨rfl, _⟩ | ⟨g, cap, cur, rfl, _, hg, _⟩
  · simp [Value.ownBlock] at hj
  · simp [Value.ownBlock] at hj; subst hj; exact ⟨cur, hg⟩
theorem own_upto {w w' : World} {B g base size n : Nat} {e : TypeId} {v : Value} {xs : List Value} (h : w.ownsRow base e size v n xs) (hu : Upto B g w w') (hg : g < base) (he : e ≠ 5) : w'.ownsRow base e size v n xs := by
  refine ⟨h.1, ?_⟩
  rcases h.2 with hn | ⟨k, cap, cur, rfl, hb, hgg, rest⟩
  · exact .inl hn
  · refine .inr ⟨k, cap, cur, rfl, hb, (hu.other k (Array.getElem?_eq_some_iff.1 hgg).1 (by omega) (fun c hc => ?_)).trans hgg, rest⟩
    rw [hgg] at hc
    injection hc with hc
    injection hc with _ h2
    exact he h2
theorem Upto.near {w w' w2 : World} {B g : Nat} (h : Upto B g w w') (hn : Near g w' w2) (hB : B ≤ w'.heap.size) : Upto B g w w2 :=
  ⟨hn.os.trans h.os, hn.tape.trans h.tape, hn.output.trans h.output, Nat.le_trans h.size hn.size, fun k hk hg => (hn.block k (by omega) hg).trans (h.block k hk hg), fun k hk hg ho => (hn.block k (Nat.lt_of_lt_of_le hk h.size) hg).trans (h.other k hk hg ho)⟩
set_option maxRecDepth 100000 in
set_option maxHeartbeats 16000000 in
theorem feed_ok (B g : Nat) (most : Int) (b : List UInt8) (s : ByteArray) (w : World) (h : OR w B g ⟨most, b, 0⟩) (hB : B ≤ w.heap.size) (hl : b.length + s.size ≤ 100000) :
    Calls Try.prog 9 #[.pointer (some ⟨g, 0, none⟩), .string s] w (FD ⟨most, b, 0⟩ s.data.toList B g w) := by
  obtain ⟨i0, hi0, hz0, hz1, hz2⟩ := info_parts info5
  have hgB := h.hg
  obtain ⟨v, hb, hown⟩ := h.obj
  dsimp only at hb hown
  obtain ⟨A, cap, rfl, hbr, hlc, hcm, hno, hxb⟩ := BR.own' hown
  obtain ⟨p, hp⟩ : ∃ p, p = b.length := ⟨_, rfl⟩
  have HP := Lib.hid hp
  rw [← hp] at hb hown hl
  have c0 : w.cell? ⟨g, 0, none⟩ = some (.int .i64 most) := hb.cell 0
  have c1 : w.cell? ⟨g, 1, none⟩ = some (.slice A p cap) := hb.cell 1
  have c2 : w.cell? ⟨g, 2, none⟩ = some (.int .i64 0) := hb.cell 2
  have HBK := Lib.hid hb
  have HO := Lib.hid hown
  have C3 := Lib.hid (show p + s.size ≤ maxLen by unfold maxLen; omega)
  have C4 := Lib.hid (show p + s.size ≤ 140737488355328 by omega)
  have HLT := Lib.hid hb.lt
  clear h hb hown hbr hlc hcm hno hxb hp
  go_enter Try.func9, Try.ntmps9
  go_wp2_with (at_builtin; refine Lib.wpList_append_own_string _ rfl _ _ 36 9 rfl B 5 i0 Try.underlying36 Try.underlying9 hi0 hz0 hz1 hz2 _ _ _ rfl HO.out s rfl C3.out C4.out hB ?_)
  intro v' w2 hown' hgrow _
  rw [strc, bc_app] at hown'
  have hrow := HO.out.lt
  obtain ⟨L, hL⟩ : ∃ L, L = b ++ s.data.toList := ⟨_, rfl⟩
  rw [← hL] at hown'
  obtain ⟨q, hq⟩ : ∃ q, q = p + s.size := ⟨_, rfl⟩
  have hqL : L.length = q := by
    have e : s.data.toList.length = s.size := Array.length_toList
    rw [hL, List.length_append, ← HP.out, hq, e]
  rw [← hq] at hown' hl C3 C4
  obtain ⟨A2, cap2, rfl, hbr, hlc, hcm, hno, hxb⟩ := BR.own' hown'
  have HU2 := Lib.hid (Upto.of_grown (g := g) hgrow hB (fun j hj => (hrow j hj).1) (own_typ HO.out))
  have hb2 := blk_grown HBK.out hgrow (fun j hj => by have := (hrow j hj).1; omega)
  have x0 : w2.cell? ⟨g, 0, none⟩ = some (.int .i64 most) := hb2.cell 0
  have x1 : w2.cell? ⟨g, 1, none⟩ = some (.slice A p cap) := hb2.cell 1
  have f1 := hb2.free 1
  have hn3 := (Near.refl g w2).set 1 (.slice A2 q cap2)
  have HB3 := Lib.hid (hb2.set 1 (.slice A2 q cap2))
  have HU3 := Lib.hid (HU2.out.near hn3 (Nat.le_trans hB HU2.out.size))
  have hown3 := own_near hown' hn3 hgB
  have hs2 : w2.heap.size ≤ (w2.setCell ⟨g, 1, none⟩ (.slice A2 q cap2)).heap.size := hn3.size
  obtain ⟨A2', cap2', hv', hbr3, _, _, _, _⟩ := BR.own' hown3
  injection hv' with e1 e2 e3
  subst e1 e3
  have KA := Lib.hid (fun (W : World) (hb : Below (w2.setCell ⟨g, 1, none⟩ (.slice A2 q cap2)).heap.size (w2.setCell ⟨g, 1, none⟩ (.slice A2 q cap2)) W) => show Calls Try.prog 21 #[.slice A2 q cap2, .int .i64 most] W (All3 (al L most) W) from by
    have := all_c A2 cap2 L most W (hbr3.keep hb) (by omega) (by omega) hcm (fun h => (hno h).2)
    rwa [hqL] at this)
  have HBR3 := Lib.hid hbr3
  have HLen := Lib.hid (al_len L most)
  have HQL := Lib.hid hqL
  have HLe := Lib.hid hL
  have HNO := Lib.hid hno
  clear hown' hgrow hrow hL hq hqL hbr hcm hno hxb hb2 hown3 hbr3 e2 hn3 hs2 c0 c1 c2
  obtain ⟨⟨fs, n, er⟩, ha⟩ : ∃ r, al L most = r := ⟨_, rfl⟩
  rw [ha] at KA HLen
  have HA := Lib.hid ha
  have hL1 := HLen.out
  dsimp only at hL1
  obtain ⟨hfs, hnL⟩ := hL1
  rw [HQL.out] at hnL
  clear ha
  go_wp2_with fail
  have HB3' := Lib.hid (show Blk (w2.setCell ⟨g, 1, none⟩ (.slice A2 q cap2)) g 49 #[.int .i64 most, .slice A2 q cap2, .int .i64 0] from HB3.out)
  have hB3s : B ≤ (w2.setCell ⟨g, 1, none⟩ (.slice A2 q cap2)).heap.size := Nat.le_trans hB HU3.out.size
  clear HB3 x0 x1 f1
  generalize (w2.setCell ⟨g, 1, none⟩ (.slice A2 q cap2)) = w3 at *
  have HSS := Lib.hid (show ∀ w', Below w3.heap.size w3 w' → (fun w' => w'.cell? ⟨g, 1, none⟩ = some (.slice A2 q cap2) ∧ w'.cell? ⟨g, 0, none⟩ = some (.int .i64 most)) w' from fun w' hb => by
    have a := HB3'.out.below hb HB3'.out.lt
    exact ⟨a.cell 1, a.cell 0⟩)
  have hbd : Below w3.heap.size w3 w3.drew := (Below.refl _ _).drew
  have pd := HSS.out w3.drew hbd
  have KAd := Lib.hid (KA.out w3.drew hbd)
  clear hbd KA
  go_region_held3 (fun w' => w'.cell? ⟨g, 1, none⟩ = some (.slice A2 q cap2) ∧ w'.cell? ⟨g, 0, none⟩ = some (.int .i64 most))
    (first | go_keep | exact p4 | exact pd)
    (first | (go_at_call 21; (with_reducible refine KAd.out.mono ?_); rintro e w4 ⟨v4, rfl, hb4, hown4⟩; have b4 : Below w3.heap.size w3 w4 := (show Below w3.heap.size w3.drew w4 from hb4).trans (Below.refl _ _) |> fun h => ⟨h.os, h.tape, h.output, h.size, h.block⟩; have p4 := HSS.out w4 b4))
  have HU4 := Lib.hid (HU3.out.below b4 hB3s)
  have HB4 := Lib.hid (HB3'.out.below b4 HB3'.out.lt)
  have hs34 : w.heap.size ≤ w3.heap.size := HU3.out.size
  have HO4 := Lib.hid (own_mono hown4 (show w.heap.size ≤ w3.heap.size from hs34))
  have HBR4 := Lib.hid (HBR3.out.keep b4)
  have hs4 : w.heap.size ≤ w4.heap.size := Nat.le_trans hs34 b4.size
  have HSRC := Lib.hid (show ∀ A5, (∃ x, A2 = some x ∧ ((cap2 = n ∧ A5 = x) ∨ A5 = x.add n)) → ∀ j u, (bc (L.drop n))[j]? = some u → w4.cell? (A5.add j) = some u from by
    rintro A5 ⟨x, hx, hA5⟩ j u hu
    rcases hA5 with ⟨h1, h2⟩ | h2
    · exfalso
      have hl0 : (L.drop n).length = 0 := by rw [List.length_drop, HQL.out]; omega
      rw [List.getElem?_eq_none (by rw [bc_len, hl0]; exact Nat.zero_le _)] at hu; cases hu
    · have hd : BR w4 (some (x.add n)) (L.drop n) := by
        have h0 := HBR4.out
        rw [hx] at h0
        have := h0.sub n (L.length - n) (by rw [HQL.out]; omega)
        rwa [List.take_of_length_le (by rw [List.length_drop]; omega)] at this
      rw [h2]; exact bc_at hd j u hu)
  have k1 : w4.cell? ⟨g, 1, none⟩ = some (.slice A2 q cap2) := HB4.out.cell 1
  have D3 := Lib.hid (show 0 + (q - n) ≤ maxLen by unfold maxLen; omega)
  have D4 := Lib.hid (show (0 + (q - n)) * 1 ≤ 140737488355328 by omega)
  have DL := Lib.hid (show (bc (L.drop n)).length = (q - n) * 1 by rw [bc_len, List.length_drop, HQL.out]; omega)
  have HEND := Lib.hid (show ∀ (w5 : World) (v5 : Value), Below w4.heap.size w4 w5 → w5.ownsRow w4.heap.size 5 1 v5 (q - n) (bc (L.drop n)) →
      (er = 0 → FD ⟨most, b, 0⟩ s.data.toList B g w (.returned (.tuple #[v4, .int .i64 er])) ((w5.setCell ⟨g, 1, none⟩ v5).setCell ⟨g, 2, none⟩ (.int .i64 er))) ∧
      (er ≠ 0 → FD ⟨most, b, 0⟩ s.data.toList B g w (.returned (.tuple #[v4, .int .i64 er])) (((w5.setCell ⟨g, 1, none⟩ v5).setCell ⟨g, 2, none⟩ (.int .i64 er)).setCell ⟨g, 1, none⟩ (.slice none 0 0))) from by
    intro w5 v5 hb5 ho5
    have hal : al (b ++ s.data.toList) most = (fs, n, er) := by rw [← HLe.out]; exact HA.out
    have htd : told ⟨most, b, 0⟩ s.data.toList = fs := by unfold told; simp [hal]
    have hu5 := HU4.out.below hb5 (Nat.le_trans hB hs4)
    have hk5 := HB4.out.below hb5 HB4.out.lt
    have ho4 := own_keep HO4.out hb5
    have hn6 := ((Near.refl g w5).set 1 v5).set 2 (.int .i64 er)
    have hk6 : Blk ((w5.setCell ⟨g, 1, none⟩ v5).setCell ⟨g, 2, none⟩ (.int .i64 er)) g 49 #[.int .i64 most, v5, .int .i64 er] := (hk5.set 1 v5).set 2 (.int .i64 er)
    have hB5 : B ≤ w5.heap.size := Nat.le_trans (Nat.le_trans hB hs4) hb5.size
    constructor
    · intro h0
      have hfd : fed ⟨most, b, 0⟩ s.data.toList = ⟨most, L.drop n, 0⟩ := by unfold fed; simp [hal, h0, HLe.out]
      refine ⟨v4, by rw [hfd, h0], by rw [htd]; exact own_near ho4 hn6 HLT.out, hu5.near hn6 hB5, .inl ⟨rfl, ?_⟩⟩
      rw [hfd]
      refine ⟨HLT.out, v5, by rw [h0] at hk6 ⊢; exact hk6, ?_⟩
      dsimp only
      rw [List.length_drop, HQL.out]
      exact own_near (own_mono ho5 hs4) hn6 HLT.out
    · intro h0
      have hfd : fed ⟨most, b, 0⟩ s.data.toList = ⟨most, [], er⟩ := by unfold fed; simp [hal, h0]
      have hn7 := hn6.set 1 (.slice none 0 0)
      refine ⟨v4, by rw [hfd], by rw [htd]; exact own_near ho4 hn7 HLT.out, hu5.near hn7 hB5, .inl ⟨rfl, ?_⟩⟩
      rw [hfd]
      exact ⟨HLT.out, .slice none 0 0, hk6.set 1 _, World.ownsRow_nil _ _ _ _⟩)
  have k0 : w4.cell? ⟨g, 0, none⟩ = some (.int .i64 most) := HB4.out.cell 0
  have HBK4 := Lib.hid HB4.out
  have hs4g := HB4.out.lt
  clear hb4 hown4 b4 p4 pd HBR3 HSS KAd HB3' HU3
  have hX : ∀ x, A2 = some x → True := fun _ _ => trivial
  clear hX
  rcases (by rcases A2 with _ | x; exact .inl rfl; exact .inr ⟨x, rfl⟩ : A2 = none ∨ ∃ x, A2 = some x) with rfl | ⟨x, rfl⟩
  · have hno := HNO.out rfl
    obtain ⟨hq0, hc0⟩ := hno
    obtain rfl : n = 0 := by omega
    subst hq0 hc0
    have hL0 : L = [] := List.eq_nil_of_length_eq_zero HQL.out
    have HE5 := Lib.hid (HEND.out w4 (.slice none 0 0) (Below.refl _ _) (by rw [hL0]; exact World.ownsRow_nil _ _ _ _))
    have y2 : w4.cell? ⟨g, 2, none⟩ = some (.int .i64 0) := HBK4.out.cell 2
    have f1 := HBK4.out.free 1
    have f2 := HBK4.out.free 2
    clear hL0
    by_cases h0 : er = 0
    · have HH := Lib.hid (HE5.out.1 h0)
      subst h0
      go_wp2_with (at_builtin; refine wpList_append_own_none rfl _ _ 36 rfl w4.heap.size 5 i0 1 Try.underlying36 hi0 (.slice none 0 0) 0 [] rfl (World.ownsRow_nil _ _ _ _) rfl ?_)
      go_ret2
      exact HH.out
    · have HH := Lib.hid (HE5.out.2 h0)
      have g0 : (er != 0) = true := by simpa using h0
      clear h0
      go_wp2_with (at_builtin; refine wpList_append_own_none rfl _ _ 36 rfl w4.heap.size 5 i0 1 Try.underlying36 hi0 (.slice none 0 0) 0 [] rfl (World.ownsRow_nil _ _ _ _) rfl ?_)
      go_ret2
      exact HH.out
  · by_cases hcn : cap2 = n
    · obtain rfl : n = cap2 := hcn.symm
      obtain rfl : n = q := by omega
      have HDR := Lib.hid (show L.drop n = [] from List.eq_nil_of_length_eq_zero (by rw [List.length_drop, HQL.out]; omega))
      have E3 := Lib.hid (show 0 + 0 ≤ maxLen by unfold maxLen; omega)
      have E4 := Lib.hid (show (0 + 0) * 1 ≤ 140737488355328 by omega)
      go_wp2_with (at_builtin; refine wpList_append_own _ rfl _ _ 36 rfl w4.heap.size 5 i0 (.int .u8 0) 1 1 Try.underlying36 hi0 hz0 hz1 hz2 rfl (by decide) (.slice none 0 0) 0 [] rfl (World.ownsRow_nil _ _ _ _) (x) 0 0 [] rfl rfl (fun j u h => by cases h) (fun u h => by cases h) E3.out E4.out (Nat.le_refl _) ?_)
      intro v5 w5 hown5 hgrow5 _
      try rw [List.nil_append, Nat.zero_add] at hown5
      have hb5 : Below w4.heap.size w4 w5 := (Below.refl _ _).grown hgrow5 (Nat.le_refl _) (fun j hj => by simp [Value.ownBlock] at hj)
      obtain ⟨A5, c5, rfl, _, _, _, _, _⟩ := BR.own' (l := []) hown5
      have HE5 := Lib.hid (HEND.out w5 _ hb5 (by rw [Nat.sub_self, HDR.out]; exact hown5))
      have hk5 := HBK4.out.below hb5 hs4g
      have y1 : w5.cell? ⟨g, 1, none⟩ = some (.slice (some x) n n) := hk5.cell 1
      have y2 : w5.cell? ⟨g, 2, none⟩ = some (.int .i64 0) := hk5.cell 2
      have f1 := hk5.free 1
      have f2 := hk5.free 2
      have hgl := hk5.lt
      clear hown5 hgrow5 hb5 hk5
      by_cases h0 : er = 0
      · have HH := Lib.hid (HE5.out.1 h0)
        subst h0
        go_wp2_with fail
        go_ret2
        exact HH.out
      · have HH := Lib.hid (HE5.out.2 h0)
        have g0 : (er != 0) = true := by simpa using h0
        clear h0
        go_wp2_with fail
        go_ret2
        exact HH.out
    · go_wp2_with (at_builtin; refine wpList_append_own _ rfl _ _ 36 rfl w4.heap.size 5 i0 (.int .u8 0) 1 1 Try.underlying36 hi0 hz0 hz1 hz2 rfl (by decide) (.slice none 0 0) 0 [] rfl (World.ownsRow_nil _ _ _ _) (x.add n) (q - n) (cap2 - n) (bc (L.drop n)) rfl DL.out (HSRC.out _ ⟨x, rfl, .inr rfl⟩) (bc_one _) D3.out D4.out (Nat.le_refl _) ?_)
      intro v5 w5 hown5 hgrow5 _
      try rw [List.nil_append, Nat.zero_add] at hown5
      have hb5 : Below w4.heap.size w4 w5 := (Below.refl _ _).grown hgrow5 (Nat.le_refl _) (fun j hj => by simp [Value.ownBlock] at hj)
      obtain ⟨A5, c5, rfl, _, _, _, _, _⟩ := BR.own' hown5
      have HE5 := Lib.hid (HEND.out w5 _ hb5 hown5)
      have hk5 := HBK4.out.below hb5 hs4g
      have y1 : w5.cell? ⟨g, 1, none⟩ = some (.slice (some x) q cap2) := hk5.cell 1
      have y2 : w5.cell? ⟨g, 2, none⟩ = some (.int .i64 0) := hk5.cell 2
      have f1 := hk5.free 1
      have f2 := hk5.free 2
      have hgl := hk5.lt
      clear hown5 hgrow5 hb5 hk5
      by_cases h0 : er = 0
      · have HH := Lib.hid (HE5.out.1 h0)
        subst h0
        go_wp2_with fail
        go_ret2
        exact HH.out
      · have HH := Lib.hid (HE5.out.2 h0)
        have g0 : (er != 0) = true := by simpa using h0
        clear h0
        go_wp2_with fail
        go_ret2
        exact HH.out
end Go.Proofs.Ytghcgnahdeaofaa
