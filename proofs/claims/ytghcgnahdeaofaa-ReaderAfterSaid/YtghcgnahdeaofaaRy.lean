/- Contracts of 'few', and of what a reader that has an error answers, over this seat's translation. -/
import Derived.Test.YtghcgnahdeaofaaRx
import Derived.Deep.RegionHeld3
namespace Go.Proofs.Ytghcgnahdeaofaa
open Go.ChangeShapes Go.WideShapes Go.ChangeAt Go.RowKit
set_option linter.unusedVariables false
/-- append to a row of the call's own, at a step of a region that draws. -/
theorem step_append_own {P : Program} (w : World) {ops : Array Oper} {o : Oper} {a : Act} {K : Act → World → Prop} {Q : Exit → Act → World → Prop} {E : Prop} (hgd : o.guard = none) (s x : Operand) (t : TypeId)
    (ho : o.op = .call { callee := .builtin .append, args := #[s, x], argTypes := #[t, t] })
    (base : Nat) (e : TypeId) (i : TypeInfo) (z : Value) (size bytes : Nat) (ht : P.underlying t = some (.slice e)) (hi : P.info? e = some i) (hz : i.zero = some z)
    (hsize : i.size = size) (hby : i.bytes = bytes) (hzs : z.cells.size = size) (hsz : 0 < size)
    (v : Value) (n : Nat) (xs : List Value) (hs : a.eval s = v) (hown : w.ownsRow base e size v n xs)
    (ad : Addr) (m c : Nat) (news : List Value) (hx : a.eval x = .slice (some ad) m c) (hl : news.length = m * size) (hnews : ∀ j u, news[j]? = some u → w.cell? (ad.add j) = some u) (h1 : ∀ u ∈ news, u.oneCell' = true)
    (h63 : n + m ≤ maxLen) (hbytes : (n + m) * bytes ≤ 140737488355328) (hbase : base ≤ w.heap.size)
    (h : ∀ v' w', w'.ownsRow base e size v' (n + m) (xs ++ news) → w.grownBy w' v.ownBlock → K (a.put o.dst v') w') :
    if Region.wanted o (yielded ops a.tmps) = true then Oper.wp P o a w K Q else E := by
  have hw : Region.wanted o (yielded ops a.tmps) = true := by simp [Region.wanted, hgd]
  rw [if_pos hw]
  exact wp_append_own w s x t ho base e i z size bytes ht hi hz hsize hby hzs hsz v n xs hs hown ad m c news hx hl hnews h1 h63 hbytes hbase fun v' w' a b _ => h v' w' a b
/-- The first 60 bytes of the first so many texts. -/
def cuts (zs : List ByteArray) (k : Nat) : List ByteArray := (zs.take k).map (upto 60)
theorem cuts_len {zs : List ByteArray} {k : Nat} (h : k ≤ zs.length) : (cuts zs k).length = k := by unfold cuts; rw [List.length_map, List.length_take]; omega
theorem cuts_snoc (zs : List ByteArray) (k : Nat) (h : k < zs.length) : cuts zs (k + 1) = cuts zs k ++ [upto 60 (zs.getD k ByteArray.empty)] := by
  unfold cuts
  rw [List.take_succ_eq_append_getElem h, List.map_append, List.getD_eq_getElem?_getD, List.getElem?_eq_getElem h]; rfl
/-- The slice of texts that came in, text by text. -/
structure CameS (w : World) (a : Option Addr) (len cap : Nat) (z : List ByteArray) : Prop where
  lc : len ≤ cap
  lm : len ≤ maxLen
  zl : len ≤ z.length
  at' : ∀ k, k < len → ∃ x, a = some x ∧ x.block < w.heap.size ∧ w.cell? (x.add k) = some (.string (z.getD k ByteArray.empty)) ∧ (z.getD k ByteArray.empty).size ≤ maxLen
theorem cameS_of {w : World} {a : Option Addr} {len cap : Nat} {z : List ByteArray} (h : IsStrs w a len cap z) : CameS w a len cap z := by
  rcases h with ⟨_, rfl, _, rfl⟩ | ⟨x, rfl, hl, hm, hz, hc, hw⟩
  · exact ⟨Nat.zero_le _, Nat.zero_le _, Nat.zero_le _, fun k hk => by omega⟩
  · refine ⟨hl, Nat.le_trans hl hm, by omega, fun k hk => ⟨x, rfl, ?_, hc k (by omega), ?_⟩⟩
    · have := cell_lt (hc k (by omega))
      rwa [block_add] at this
    · refine hw _ ?_
      rw [List.getD_eq_getElem?_getD, List.getElem?_eq_getElem (show k < z.length by omega)]
      exact List.getElem_mem _
theorem CameS.keep {w w' : World} {a : Option Addr} {len cap : Nat} {z : List ByteArray} (h : CameS w a len cap z) (hb : Below w.heap.size w w') : CameS w' a len cap z :=
  ⟨h.lc, h.lm, h.zl, fun k hk => by
    obtain ⟨x, hx, hl, hc, hs⟩ := h.at' k hk
    exact ⟨x, hx, Nat.lt_of_lt_of_le hl hb.size, by rw [hb.cell (cell_lt hc)]; exact hc, hs⟩⟩
structure RelF (W w : World) (v i : Value) (z : List ByteArray) (n k : Nat) : Prop where
  hi : i = .int .i64 (k : Int)
  hk : k ≤ n
  own : w.ownsRow W.heap.size 9 1 v k (sc (cuts z k))
  below : Below W.heap.size W w
theorem RelF.start (w : World) (z : List ByteArray) (n : Nat) : RelF w w (.slice none 0 0) (.int .i64 0) z n 0 :=
  ⟨rfl, Nat.zero_le _, World.ownsRow_nil w w.heap.size 9 1, Below.refl _ _⟩
set_option maxRecDepth 100000 in
set_option maxHeartbeats 16000000 in
theorem few3_c (a : Option Addr) (len cap : Nat) (z : List ByteArray) (w : World) (h : CameS w a len cap z) :
    Calls Try.prog 17 #[.slice a len cap] w (Texts (cuts z (min len 30)) w) := by
  obtain ⟨i0, hi, hz0, hz1, hz2⟩ := info_parts infoS
  have HC := Lib.hid h
  have hlm := h.lm
  unfold maxLen at hlm
  clear h
  obtain ⟨n, hn⟩ : ∃ n, n = min len 30 := ⟨_, rfl⟩
  rw [← hn]
  have hn1 : n ≤ len := by omega
  have hn30 : n ≤ 30 := by omega
  have HN := Lib.hid hn
  clear hn
  go_enter Try.func17, Try.ntmps17
  go_wp2_with fail
  go_loopw [3, 4] (fun v i wr => ∃ k, RelF w wr v i z n k) (fun _ i _ => n - (intOf i).toNat)
  case atStart => exact ⟨0, RelF.start w z n⟩
  case round =>
    obtain ⟨k, hrel⟩ := hrel
    have hk := hrel.hk
    obtain rfl := hrel.hi
    have HREL := Lib.hid hrel
    clear hrel
    by_cases hlt : k < n
    · have hlt0 : k < len := by omega
      have hlt30 : (k : Int) < 30 := by omega
      obtain ⟨x, rfl, hxb, k0, hsz⟩ := HC.out.at' k hlt0
      have GA := Lib.hid (cuts_snoc z k (by have := HC.out.zl; omega))
      have KW := k0
      replace k0 : wr.cell? (x.add k) = some (.string (z.getD k ByteArray.empty)) := by rw [HREL.out.below.cell (cell_lt k0)]; exact k0
      generalize z.getD k ByteArray.empty = y at *
      unfold maxLen at hsz
      have HB := Lib.hid HREL.out.below
      have HO := Lib.hid HREL.out.own
      have HK0 := Lib.hid k0
      have HKW := Lib.hid KW
      clear HREL
      have HOD := Lib.hid (own_keep HO.out (Below.refl wr.heap.size wr).drew)
      have HSS := Lib.hid (fun (w' : World) (hb : Below wr.heap.size wr w') => show w'.cell? (x.add k) = some (.string y) from by rw [hb.cell (cell_lt HK0.out)]; exact HK0.out)
      have pd := HSS.out wr.drew (Below.refl _ _).drew
      have C3 := Lib.hid (show k + 1 ≤ maxLen by unfold maxLen; omega)
      have C4 := Lib.hid (show (k + 1) * 16 ≤ 140737488355328 by omega)
      clear HO k0 KW
      by_cases h60 : y.size ≤ 60
      · have h61 : (y.size : Int) ≤ 60 := by omega
        have HU := Lib.hid (upto_small 60 y h60)
        have HOA := Lib.hid (HOD.out.alloc (.cells #[.string y] 9))
        have HSA := Lib.hid (sone_at wr.drew y 9)
        have HBA := Lib.hid (HB.out.drew.alloc HB.out.drew.size (.cells #[.string y] 9))
        have C5 := Lib.hid HBA.out.size
        have pa := HSS.out (wr.drew.alloc (.cells #[.string y] 9)) ((Below.refl wr.heap.size wr).drew.alloc (Nat.le_refl _) _)
        clear h60
        go_wp2_with fail
        have h62 : ¬ (60 : Int) < (y.size : Int) := by omega
        go_region_held3 (fun w' => w'.cell? (x.add k) = some (.string y))
          (first | exact pb | exact pa | exact pd)
          (first | ((refine step_append_own _ rfl _ _ 31 rfl w.heap.size 9 i0 (.string ByteArray.empty) 1 16 Try.underlying31 hi hz0 hz1 hz2 rfl (by decide) _ _ _ rfl HOA.out ⟨wr.heap.size, 0, none⟩ 1 1 (sc [y]) rfl rfl HSA.out (sc_one _) C3.out C4.out C5.out ?_); intro v' w3 hown' hgrow; have hb3 := HBA.out.grown hgrow HBA.out.size (fun j hj => (HOA.out.lt j hj).1); have pb : w3.cell? (x.add k) = some (.string y) := by (rw [hb3.cell (cell_lt HKW.out)]; exact HKW.out)))
        have HO3 := Lib.hid (show w3.ownsRow w.heap.size 9 1 v' (k + 1) (sc (cuts z (k + 1))) from by rw [GA.out, HU.out, ← sc_app]; exact hown')
        have HB3 := Lib.hid hb3
        clear hown' hgrow hb3
        go_wp2_with fail
        go_roundw
        case rel => exact ⟨k + 1, by go_num, by omega, HO3.out, HB3.out⟩
        case measure => simp [intOf]; omega
      · have h61 : (60 : Int) < (y.size : Int) := by omega
        have HU := Lib.hid (upto_large 60 y (by omega))
        have h64 : (60 : Int) ≤ (y.size : Int) := by omega
        have HOA := Lib.hid (HOD.out.alloc (.cells #[.string (y.extract 0 60)] 9))
        have HSA := Lib.hid (sone_at wr.drew (y.extract 0 60) 9)
        have HBA := Lib.hid (HB.out.drew.alloc HB.out.drew.size (.cells #[.string (y.extract 0 60)] 9))
        have C5 := Lib.hid HBA.out.size
        have pa := HSS.out (wr.drew.alloc (.cells #[.string (y.extract 0 60)] 9)) ((Below.refl wr.heap.size wr).drew.alloc (Nat.le_refl _) _)
        clear h60
        go_wp2_with fail
        go_region_held3 (fun w' => w'.cell? (x.add k) = some (.string y))
          (first | exact pb | exact pa | exact pd)
          (first | ((refine step_append_own _ rfl _ _ 31 rfl w.heap.size 9 i0 (.string ByteArray.empty) 1 16 Try.underlying31 hi hz0 hz1 hz2 rfl (by decide) _ _ _ rfl HOA.out ⟨wr.heap.size, 0, none⟩ 1 1 (sc [(y.extract 0 60)]) rfl rfl HSA.out (sc_one _) C3.out C4.out C5.out ?_); intro v' w3 hown' hgrow; have hb3 := HBA.out.grown hgrow HBA.out.size (fun j hj => (HOA.out.lt j hj).1); have pb : w3.cell? (x.add k) = some (.string y) := by (rw [hb3.cell (cell_lt HKW.out)]; exact HKW.out)))
        have HO3 := Lib.hid (show w3.ownsRow w.heap.size 9 1 v' (k + 1) (sc (cuts z (k + 1))) from by rw [GA.out, HU.out, ← sc_app]; exact hown')
        have HB3 := Lib.hid hb3
        clear hown' hgrow hb3
        go_wp2_with fail
        go_roundw
        case rel => exact ⟨k + 1, by go_num, by omega, HO3.out, HB3.out⟩
        case measure => simp [intOf]; omega
    · obtain rfl : n = k := by omega
      have hgd : (n < len ∧ decide ((n : Int) < 30) = false) ∨ decide (n < len) = false := by
        have := HN.out
        by_cases hq : n < len
        · exact .inl ⟨hq, by simp; omega⟩
        · exact .inr (by simpa using hq)
      have HOW := Lib.hid HREL.out.own
      have HB := Lib.hid HREL.out.below
      have HLN := Lib.hid (cuts_len (show n ≤ z.length by have := HC.out.zl; omega))
      clear HREL HN hlt
      rcases hgd with ⟨hg1, hg2⟩ | hg1
      all_goals
        go_wp2_with fail
        go_ret
        exact ⟨_, rfl, HB.out, by rw [HLN.out]; exact HOW.out⟩
/-- Feed of a reader that has an error: nothing is told, nothing is written. -/
theorem feed_err2 (B g : Nat) (r : RD) (s : ByteArray) (w : World) (h : OR w B g r) (he : r.e ≠ 0) : Calls Try.prog 9 #[.pointer (some ⟨g, 0, none⟩), .string s] w fun e w' => e = .returned (.tuple #[.slice none 0 0, .int .i64 r.e]) ∧ Below w.heap.size w w' := by
  obtain ⟨v, hb, hown⟩ := h.obj
  have c2 : w.cell? ⟨g, 2, none⟩ = some (.int .i64 r.e) := hb.cell 2
  have he1 : (r.e != 0) = true := by simpa using he
  clear h hb hown he
  go_enter Try.func9, Try.ntmps9
  go_wp2_with fail
  go_quiet (fail)
  go_wp2_with fail
  go_ret2
  exact ⟨rfl, bel_drewN (Below.refl _ _) _⟩
theorem al_nine : al [9, 0, 0] 40 = ([], 0, 4) := by
  rw [al_err [9, 0, 0] 40 (by decide) (by decide)]; decide
theorem fed_after {fs : List Fr} (h : FO fs) : fed ⟨40, [], 0⟩ (fbs fs ++ [9, 0, 0]) = ⟨40, [], 4⟩ := by
  unfold fed; simp [al_fbs h [9, 0, 0], al_nine]
theorem told_after {fs : List Fr} (h : FO fs) : told ⟨40, [], 0⟩ (fbs fs ++ [9, 0, 0]) = fs := by
  unfold told; simp [al_fbs h [9, 0, 0], al_nine]
theorem wantN_err (m : Int) (b : List UInt8) : wantN ⟨m, b, 4⟩ = 0 := by unfold wantN; simp
end Go.Proofs.Ytghcgnahdeaofaa
