/-
  Proved: of every text, every script of steps and every number 'hostlerlaw14.BackPlays' returns true: no condition.
  The frame is written by this session's frame.py, after the kit's proof-skeleton.mjs.
-/
import Derived.Test.YthmbfmjchbcjlaaXs
import Derived.Deep.DeepCutAuto
namespace Go.Proofs.Ythmbfmjchbcjlaa.backPlays
open Go.ChangeShapes Go.WideShapes Go.ChangeAt Go.RowKit Go.ChangeMaps
set_option linter.unusedVariables false
theorem own : ownKnob Try.prog.godebug = none := by kernel_rfl
theorem laidOut : laidOutB Try.prog = true := by kernel_rfl

/-- The first 20 bytes. -/
def h20 (s : ByteArray) : ByteArray := s.extract 0 (min s.size 20)
theorem h20_small (s : ByteArray) (h : s.size ≤ 20) : h20 s = s := by
  unfold h20; rw [Nat.min_eq_left h]; exact ByteArray.extract_zero_size
theorem h20_large (s : ByteArray) (h : 20 < s.size) : h20 s = s.extract 0 20 := by unfold h20; rw [Nat.min_eq_right (by omega)]
structure Rel (W w : World) (g r : Nat) (i : Value) (n k : Nat) : Prop where
  hi : i = .int .i64 k
  hk : k ≤ n
  obj : ∃ b : BK, Ob w g b ∧ Blk w r 39 (rbv b) ∧ Fine b k
  below : Below W.heap.size W w

/-! ### STEP 1 -/
set_option maxRecDepth 100000 in
set_option maxHeartbeats 16000000 in
theorem walk (a0 : ByteArray) (a1 : Option Addr) (len1 cap1 : Nat) (z1 : List (Int × Int × Int)) (a2 : Int) (w : World) (w0 : a0.size ≤ maxLen) (w1 : IsRecs_iii w a1 len1 cap1 z1) (w2 : (Lit.int .i64 a2).wf = true) :
    Calls Try.prog 7 #[.string a0, .slice a1 len1 cap1, .int .i64 a2] w fun e w' => e = .returned (.bool true) ∧ Below w.heap.size w w' := by
  obtain ⟨hs, hc, hm⟩ := script_of w1
  obtain ⟨n, hn⟩ : ∃ n, n = min len1 100 := ⟨_, rfl⟩
  have HS := Lib.hid hs
  have HE := Lib.hid (fun W => early_c a1 len1 cap1 n W hn hc hm)
  have hn1 : n ≤ 100 := by omega
  have hn2 : n ≤ len1 := by omega
  have hm0 := w0
  unfold maxLen at hm0
  obtain ⟨H, hH⟩ : ∃ H, H = h20 a0 := ⟨_, rfl⟩
  have h20s := h20_small a0
  have h20l := h20_large a0
  rw [← hH] at h20s h20l
  clear w0 w1 w2 hs hn hc hm hH
  have HSM := Lib.hid h20s
  have HLA := Lib.hid h20l
  clear h20s h20l
  go_enter Try.func7, Try.ntmps7
  go_wp2_with fail
  refine (blives_c _).mono ?_
  rintro e w1 ⟨rfl, hl1⟩
  have HL := Lib.hid hl1
  clear hl1
  go_upto_region 3 with fail
  go_cut [0] (fun s0 wx => s0 = .string H ∧ w1 = wx)
  case first =>
    rcases (by omega : a0.size ≤ 20 ∨ 20 < a0.size) with hsz | hsz
    · have e20 := HSM.out hsz
      have hsz2 : (a0.size : Int) ≤ 20 := by omega
      subst e20
      go_wp2_with fail
      go_meet
      case rel => exact ⟨rfl, rfl⟩
    · have e20 := HLA.out hsz
      have hsz2 : (20 : Int) < (a0.size : Int) := by omega
      subst e20
      go_wp2_with fail
      go_meet
      case rel => exact ⟨rfl, rfl⟩
  case rest =>
    obtain ⟨rfl, rfl⟩ := hcut
    clear HSM HLA hm0
    have hgs := HL.out.size
    obtain ⟨g, hg⟩ : ∃ g, w1.heap.size = g := ⟨_, rfl⟩
    have hob0 := (Blk.new w1 47 (bkc ⟨H, 0, 0, 0, 0, 0, 0⟩)).alloc (.cells (rbv ⟨H, 0, 0, 0, 0, 0, 0⟩) 39)
    have hrb0 := Blk.new (w1.alloc (.cells (bkc ⟨H, 0, 0, 0, 0, 0, 0⟩) 47)) 39 (rbv ⟨H, 0, 0, 0, 0, 0, 0⟩)
    rw [show (w1.alloc (.cells (bkc ⟨H, 0, 0, 0, 0, 0, 0⟩) 47)).heap.size = w1.heap.size + 1 from by simp] at hrb0
    rw [hg] at hob0 hrb0
    have HR0 := Lib.hid (show Rel w ((w1.alloc (.cells (bkc ⟨H, 0, 0, 0, 0, 0, 0⟩) 47)).alloc (.cells (rbv ⟨H, 0, 0, 0, 0, 0, 0⟩) 39)) g (g + 1) (.int .i64 0) n 0 from ⟨rfl, Nat.zero_le _, ⟨_, hob0, hrb0, fine_new H⟩, (HL.out.alloc hgs _).alloc (by simp; omega) _⟩)
    have hge : w.heap.size ≤ g := by omega
    clear hob0 hrb0
    go_wp2_with (first | (go_at_call 9; refine (new_c _ _).mono ?_; rintro e w' ⟨rfl, rfl⟩) | (go_at_call 10; (with_reducible refine (HE.out _).mono ?_); rintro e w' ⟨rfl, rfl⟩))
    go_loopw [9] (fun i wr => ∃ k, Rel w wr g (g + 1) i n k) (fun i _ => n - (intOf i).toNat)
    case atStart => exact ⟨0, HR0.out⟩
    case round =>
      clear hg hgs HL HR0
      obtain ⟨k, hrel⟩ := hrel
      obtain rfl := hrel.hi
      have hk := hrel.hk
      obtain ⟨b, hob, hrb, hf⟩ := hrel.obj
      have HB := Lib.hid hrel.below
      have HO := Lib.hid hob
      have HR := Lib.hid hrb
      have HF := Lib.hid hf
      clear hrel hob hrb hf
      by_cases hlt : k < n
      · obtain ⟨x, rfl, hxb, k0, k1, k2⟩ := HS.out k (by omega)
        generalize (z1.getD k (0, 0, 0)).1 = ki at k0
        generalize (z1.getD k (0, 0, 0)).2.1 = ka at k1
        generalize (z1.getD k (0, 0, 0)).2.2 = kb at k2
        replace k0 : wr.cell? (x.add (k * 3)) = some (.int .i64 ki) := by rw [HB.out.cell (cell_lt k0)]; exact k0
        replace k1 : wr.cell? ⟨(x.add (k * 3)).block, (x.add (k * 3)).off + 1, none⟩ = some (.int .i64 ka) := by rw [HB.out.cell (cell_lt k1)]; exact k1
        replace k2 : wr.cell? ⟨(x.add (k * 3)).block, (x.add (k * 3)).off + 2, none⟩ = some (.int .i64 kb) := by rw [HB.out.cell (cell_lt k2)]; exact k2
        have HSR := Lib.hid (fun W => stepRef_c b ki ka kb k HF.out (by omega) W)
        have HF2 := Lib.hid (fine_step HF.out (kd ki) ka kb)
        have o1 := early_steps k (by omega) HF.out
        have o0 := HF.out.o0
        have HST := Lib.hid (fun W hW => step_c g b ki ka kb W hW o0 o1)
        clear o0 o1
        have y0 : wr.cell? ⟨g + 1, 0, none⟩ = some (.int .i64 b.state) := HR.out.cell 0
        have y1 : wr.cell? ⟨g + 1, 1, none⟩ = some (.string b.host) := HR.out.cell 1
        have y2 : wr.cell? ⟨g + 1, 2, none⟩ = some (.int .i64 b.born) := HR.out.cell 2
        have y3 : wr.cell? ⟨g + 1, 3, none⟩ = some (.int .i64 b.deadline) := HR.out.cell 3
        have y4 : wr.cell? ⟨g + 1, 4, none⟩ = some (.int .i64 b.since) := HR.out.cell 4
        have y5 : wr.cell? ⟨g + 1, 5, none⟩ = some (.int .i64 b.client) := HR.out.cell 5
        have y6 : wr.cell? ⟨g + 1, 6, none⟩ = some (.int .i64 b.owes) := HR.out.cell 6
        have yl := HR.out.lt
        generalize stp b (kd ki) ka kb = r at *
        obtain ⟨b', did⟩ := r
        go_wp2_with fail
        refine (HSR.out _).mono ?_
        rintro e w2 ⟨rfl, hb2⟩
        dsimp only
        obtain ⟨host, state, born, deadline, since, client, owes⟩ := b'
        dsimp only [rbv]
        have hr2 := (HR.out.alloc (.cells #[.int .i64 ki, .int .i64 ka, .int .i64 kb] 28)).below hb2 (by simp; omega)
        have hs2 := (Blk.new wr 28 #[.int .i64 ki, .int .i64 ka, .int .i64 kb]).below hb2 (by simp)
        have ho2 := (HO.out.alloc (.cells #[.int .i64 ki, .int .i64 ka, .int .i64 kb] 28)).below hb2 (by have := HO.out.lt; simp; omega)
        have HB2 := Lib.hid ((HB.out.alloc HB.out.size (.cells #[.int .i64 ki, .int .i64 ka, .int .i64 kb] 28)).trans (hb2.mono (by have := HB.out.size; simp; omega)))
        clear y0 y1 y2 y3 y4 y5 y6
        have y0 : w2.cell? ⟨g + 1, 0, none⟩ = some (.int .i64 b.state) := hr2.cell 0
        have y1 : w2.cell? ⟨g + 1, 1, none⟩ = some (.string b.host) := hr2.cell 1
        have y2 : w2.cell? ⟨g + 1, 2, none⟩ = some (.int .i64 b.born) := hr2.cell 2
        have y3 : w2.cell? ⟨g + 1, 3, none⟩ = some (.int .i64 b.deadline) := hr2.cell 3
        have y4 : w2.cell? ⟨g + 1, 4, none⟩ = some (.int .i64 b.since) := hr2.cell 4
        have y5 : w2.cell? ⟨g + 1, 5, none⟩ = some (.int .i64 b.client) := hr2.cell 5
        have y6 : w2.cell? ⟨g + 1, 6, none⟩ = some (.int .i64 b.owes) := hr2.cell 6
        have q0 := hr2.free 0
        have q1 := hr2.free 1
        have q2 := hr2.free 2
        have q3 := hr2.free 3
        have q4 := hr2.free 4
        have q5 := hr2.free 5
        have q6 := hr2.free 6
        have rl := hr2.lt
        have s0 : w2.cell? ⟨wr.heap.size, 0, none⟩ = some (.int .i64 ki) := hs2.cell 0
        have s1 : w2.cell? ⟨wr.heap.size, 1, none⟩ = some (.int .i64 ka) := hs2.cell 1
        have s2 : w2.cell? ⟨wr.heap.size, 2, none⟩ = some (.int .i64 kb) := hs2.cell 2
        have sl := hs2.lt
        have HS2 := Lib.hid hs2
        have HO2 := Lib.hid ho2
        have HR2 := Lib.hid hr2
        have hN : Near (g + 1) w2 ((((((((w2.setCell ⟨g + 1, 0, none⟩ (.int .i64 state)).setCell ⟨g + 1, 1, none⟩ (.string host)).setCell ⟨g + 1, 2, none⟩ (.int .i64 born)).setCell ⟨g + 1, 3, none⟩ (.int .i64 deadline)).setCell ⟨g + 1, 4, none⟩ (.int .i64 since)).setCell ⟨g + 1, 5, none⟩ (.int .i64 client)).setCell ⟨g + 1, 6, none⟩ (.int .i64 owes)).alloc (.cells #[.int .i64 state, .string host, .int .i64 born, .int .i64 deadline, .int .i64 since, .int .i64 client, .int .i64 owes] 39)) := (((((((((Near.refl (g + 1) w2).set 0 (.int .i64 state)).set 1 (.string host)).set 2 (.int .i64 born)).set 3 (.int .i64 deadline)).set 4 (.int .i64 since)).set 5 (.int .i64 client)).set 6 (.int .i64 owes)).alloc (.cells #[.int .i64 state, .string host, .int .i64 born, .int .i64 deadline, .int .i64 since, .int .i64 client, .int .i64 owes] 39))
        have hr4 : Blk ((((((((w2.setCell ⟨g + 1, 0, none⟩ (.int .i64 state)).setCell ⟨g + 1, 1, none⟩ (.string host)).setCell ⟨g + 1, 2, none⟩ (.int .i64 born)).setCell ⟨g + 1, 3, none⟩ (.int .i64 deadline)).setCell ⟨g + 1, 4, none⟩ (.int .i64 since)).setCell ⟨g + 1, 5, none⟩ (.int .i64 client)).setCell ⟨g + 1, 6, none⟩ (.int .i64 owes)).alloc (.cells #[.int .i64 state, .string host, .int .i64 born, .int .i64 deadline, .int .i64 since, .int .i64 client, .int .i64 owes] 39)) (g + 1) 39 #[.int .i64 state, .string host, .int .i64 born, .int .i64 deadline, .int .i64 since, .int .i64 client, .int .i64 owes] := (((((((((hr2).set 0 (.int .i64 state)).set 1 (.string host)).set 2 (.int .i64 born)).set 3 (.int .i64 deadline)).set 4 (.int .i64 since)).set 5 (.int .i64 client)).set 6 (.int .i64 owes)).alloc (.cells #[.int .i64 state, .string host, .int .i64 born, .int .i64 deadline, .int .i64 since, .int .i64 client, .int .i64 owes] 39))
        have ho4 : Ob ((((((((w2.setCell ⟨g + 1, 0, none⟩ (.int .i64 state)).setCell ⟨g + 1, 1, none⟩ (.string host)).setCell ⟨g + 1, 2, none⟩ (.int .i64 born)).setCell ⟨g + 1, 3, none⟩ (.int .i64 deadline)).setCell ⟨g + 1, 4, none⟩ (.int .i64 since)).setCell ⟨g + 1, 5, none⟩ (.int .i64 client)).setCell ⟨g + 1, 6, none⟩ (.int .i64 owes)).alloc (.cells #[.int .i64 state, .string host, .int .i64 born, .int .i64 deadline, .int .i64 since, .int .i64 client, .int .i64 owes] 39)) g b := Blk.near ho2 hN (by omega)
        have hs4 : Blk ((((((((w2.setCell ⟨g + 1, 0, none⟩ (.int .i64 state)).setCell ⟨g + 1, 1, none⟩ (.string host)).setCell ⟨g + 1, 2, none⟩ (.int .i64 born)).setCell ⟨g + 1, 3, none⟩ (.int .i64 deadline)).setCell ⟨g + 1, 4, none⟩ (.int .i64 since)).setCell ⟨g + 1, 5, none⟩ (.int .i64 client)).setCell ⟨g + 1, 6, none⟩ (.int .i64 owes)).alloc (.cells #[.int .i64 state, .string host, .int .i64 born, .int .i64 deadline, .int .i64 since, .int .i64 client, .int .i64 owes] 39)) wr.heap.size 28 (sc ki ka kb) := hs2.near hN (by omega)
        have HB4 := Lib.hid (hN.later HB2.out HB2.out.size (by omega))
        have HO4 := Lib.hid ho4
        have HR4 := Lib.hid hr4
        have HS4 := Lib.hid hs4
        clear hb2 hr2 hs2 ho2 hN hr4 ho4 hs4
        go_wp2_with fail
        generalize ((((((((w2.setCell ⟨g + 1, 0, none⟩ (.int .i64 state)).setCell ⟨g + 1, 1, none⟩ (.string host)).setCell ⟨g + 1, 2, none⟩ (.int .i64 born)).setCell ⟨g + 1, 3, none⟩ (.int .i64 deadline)).setCell ⟨g + 1, 4, none⟩ (.int .i64 since)).setCell ⟨g + 1, 5, none⟩ (.int .i64 client)).setCell ⟨g + 1, 6, none⟩ (.int .i64 owes)).alloc (.cells #[.int .i64 state, .string host, .int .i64 born, .int .i64 deadline, .int .i64 since, .int .i64 client, .int .i64 owes] 39)) = w4 at *
        clear y0 y1 y2 y3 y4 y5 y6 q0 q1 q2 q3 q4 q5 q6 rl s0 s1 s2 sl
        have hs0 : wr.heap.size ≠ g := by omega
        clear HSR k0 k1 k2 hxb
        have HSS := Lib.hid (show ∀ w', Near g w4 w' → (fun w' => (w'.cell? ⟨g + 1, 0, none⟩ = some (.int .i64 state) ∧ w'.cell? ⟨g + 1, 1, none⟩ = some (.string host) ∧ w'.cell? ⟨g + 1, 2, none⟩ = some (.int .i64 born) ∧ w'.cell? ⟨g + 1, 3, none⟩ = some (.int .i64 deadline) ∧ w'.cell? ⟨g + 1, 4, none⟩ = some (.int .i64 since) ∧ w'.cell? ⟨g + 1, 5, none⟩ = some (.int .i64 client) ∧ w'.cell? ⟨g + 1, 6, none⟩ = some (.int .i64 owes) ∧ w'.cell? ⟨wr.heap.size, 0, none⟩ = some (.int .i64 ki) ∧ w'.cell? ⟨wr.heap.size, 1, none⟩ = some (.int .i64 ka) ∧ w'.cell? ⟨wr.heap.size, 2, none⟩ = some (.int .i64 kb))) w' from fun w' hn => by
          have a := HR4.out.near hn (by omega)
          have c := HS4.out.near hn hs0
          exact ⟨a.cell 0, a.cell 1, a.cell 2, a.cell 3, a.cell 4, a.cell 5, a.cell 6, c.cell 0, c.cell 1, c.cell 2⟩)
        have HST4 := Lib.hid (HST.out w4.drew (show Ob w4.drew g b from HO4.out))
        have f0 := HF2.out.s0
        have f4 := HF2.out.s4
        dsimp only at f0 f4
        have pd := HSS.out w4.drew ((Near.refl g w4).drew)
        have p4 := HSS.out w4 (Near.refl g w4)
        clear hs0 HST HS2 HO2 HR2 HB2 HE HS HB HO HR HF yl
        simp only [List.append_eq, List.cons_append, List.nil_append]
        go_region_held3 (fun w' => (w'.cell? ⟨g + 1, 0, none⟩ = some (.int .i64 state) ∧ w'.cell? ⟨g + 1, 1, none⟩ = some (.string host) ∧ w'.cell? ⟨g + 1, 2, none⟩ = some (.int .i64 born) ∧ w'.cell? ⟨g + 1, 3, none⟩ = some (.int .i64 deadline) ∧ w'.cell? ⟨g + 1, 4, none⟩ = some (.int .i64 since) ∧ w'.cell? ⟨g + 1, 5, none⟩ = some (.int .i64 client) ∧ w'.cell? ⟨g + 1, 6, none⟩ = some (.int .i64 owes) ∧ w'.cell? ⟨wr.heap.size, 0, none⟩ = some (.int .i64 ki) ∧ w'.cell? ⟨wr.heap.size, 1, none⟩ = some (.int .i64 ka) ∧ w'.cell? ⟨wr.heap.size, 2, none⟩ = some (.int .i64 kb)))
          (first | go_keep | exact p14 | exact p13 | exact p12 | exact p11 | exact p10 | exact p9 | exact p8 | exact p7 | exact p6 | exact p5 | exact pd)
          (first | (go_at_call 12; (with_reducible refine HST4.out.mono ?_); rintro e w5 ⟨rfl, ho5, hn5⟩; have b5 : Near g w4 w5 := Near.of_drew hn5; have p5 := HSS.out w5 b5) | (go_at_call 11; (with_reducible refine (state_c g ⟨host, state, born, deadline, since, client, owes⟩ _ ho5).mono ?_); rintro e w' ⟨rfl, rfl⟩) | (go_at_call 18; (with_reducible refine (host_c g ⟨host, state, born, deadline, since, client, owes⟩ _ ho5).mono ?_); rintro e w' ⟨rfl, rfl⟩) | (go_at_call 14; (with_reducible refine (client_c g ⟨host, state, born, deadline, since, client, owes⟩ _ ho5).mono ?_); rintro e w6 ⟨rfl, hw6⟩; have b6 : Near g w4 w6 := (by rw [← hw6]; exact b5.alloc _); have ho6 : Ob w6 g ⟨host, state, born, deadline, since, client, owes⟩ := (by rw [← hw6]; exact Blk.alloc ho5 _); have p6 := HSS.out w6 b6; clear hw6) | (go_at_call 15; (with_reducible refine (owes_c g ⟨host, state, born, deadline, since, client, owes⟩ _ ho6).mono ?_); rintro e w7 ⟨rfl, hw7⟩; have b7 : Near g w4 w7 := (by rw [← hw7]; exact b6.alloc _); have ho7 : Ob w7 g ⟨host, state, born, deadline, since, client, owes⟩ := (by rw [← hw7]; exact Blk.alloc ho6 _); have p7 := HSS.out w7 b7; clear hw7) | (go_at_call 19; (with_reducible refine (born_c g ⟨host, state, born, deadline, since, client, owes⟩ _ ho7).mono ?_); rintro e w8 ⟨rfl, hw8⟩; have b8 : Near g w4 w8 := (by rw [← hw8]; exact b7.alloc _); have ho8 : Ob w8 g ⟨host, state, born, deadline, since, client, owes⟩ := (by rw [← hw8]; exact Blk.alloc ho7 _); have p8 := HSS.out w8 b8; clear hw8) | (go_at_call 20; (with_reducible refine (deadline_c g ⟨host, state, born, deadline, since, client, owes⟩ _ ho8).mono ?_); rintro e w9 ⟨rfl, hw9⟩; have b9 : Near g w4 w9 := (by rw [← hw9]; exact b8.alloc _); have ho9 : Ob w9 g ⟨host, state, born, deadline, since, client, owes⟩ := (by rw [← hw9]; exact Blk.alloc ho8 _); have p9 := HSS.out w9 b9; clear hw9) | (go_at_call 21; (with_reducible refine (since_c g ⟨host, state, born, deadline, since, client, owes⟩ _ ho9).mono ?_); rintro e w10 ⟨rfl, hw10⟩; have b10 : Near g w4 w10 := (by rw [← hw10]; exact b9.alloc _); have ho10 : Ob w10 g ⟨host, state, born, deadline, since, client, owes⟩ := (by rw [← hw10]; exact Blk.alloc ho9 _); have p10 := HSS.out w10 b10; clear hw10) | (go_at_call 16; (with_reducible refine (old_c g ⟨host, state, born, deadline, since, client, owes⟩ _ _ ho10).mono ?_); rintro e w' ⟨rfl, rfl⟩) | (go_at_call 23; (with_reducible refine (rold_c ⟨host, state, born, deadline, since, client, owes⟩ _ f0 f4 _).mono ?_); rintro e w11 ⟨rfl, hw11⟩; have b11 : Near g w4 w11 := (by rw [← hw11]; exact b10.alloc _); have ho11 : Ob w11 g ⟨host, state, born, deadline, since, client, owes⟩ := (by rw [← hw11]; exact Blk.alloc ho10 _); have p11 := HSS.out w11 b11; clear hw11) | (go_at_call 17; (with_reducible refine (stale_c g ⟨host, state, born, deadline, since, client, owes⟩ _ _ _ ho11).mono ?_); rintro e w' ⟨rfl, rfl⟩) | (go_at_call 24; (with_reducible refine (rstale_c ⟨host, state, born, deadline, since, client, owes⟩ _ _ _).mono ?_); rintro e w12 ⟨rfl, hw12⟩; have b12 : Near g w4 w12 := (by rw [← hw12]; exact b11.alloc _); have ho12 : Ob w12 g ⟨host, state, born, deadline, since, client, owes⟩ := (by rw [← hw12]; exact Blk.alloc ho11 _); have p12 := HSS.out w12 b12; clear hw12) | (go_at_call 25; (with_reducible refine (bname_c _ _).mono ?_); rintro e w13 ⟨rfl, hw13⟩; have b13 : Near g w4 w13 := b12.trans (Near.of_below hw13); have ho13 : Ob w13 g ⟨host, state, born, deadline, since, client, owes⟩ := Blk.below ho12 hw13 (Blk.lt ho12); have p13 := HSS.out w13 b13; clear hw13) | (go_at_call 26; (with_reducible refine (rbname_c _ _).mono ?_); rintro e w14 ⟨rfl, hw14⟩; have b14 : Near g w4 w14 := b13.trans (Near.of_below hw14); have ho14 : Ob w14 g ⟨host, state, born, deadline, since, client, owes⟩ := Blk.below ho13 hw14 (Blk.lt ho13); have p14 := HSS.out w14 b14; clear hw14))
        all_goals
          have HE4 := Lib.hid (b14.later HB4.out HB4.out.size hge)
          have HRE := Lib.hid (HR4.out.near b14 (by omega))
          have HOE := Lib.hid ho14
          clear p5 p6 p7 p8 p9 p10 p11 p12 p13 p14 b5 b6 b7 b8 b9 b10 b11 b12 b13 b14 ho5 ho6 ho7 ho8 ho9 ho10 ho11 ho12 ho13 ho14
          go_wp2_with fail
          go_roundw
          case rel => exact ⟨k + 1, by go_num, by omega, ⟨⟨host, state, born, deadline, since, client, owes⟩, HOE.out, HRE.out, HF2.out⟩, HE4.out⟩
          case measure => simp [intOf]; omega
      · go_wp2
        go_ret
        exact ⟨rfl, HB.out⟩

/-! ### THE ROW -/
set_option maxRecDepth 100000 in
theorem lifted (os : Os) (started : os.Started) (H : Type) (enc : TypeId × Value → H) :
    ReturnsInHanded {} Try.checked os 7 .any (Rows.backPlaysSpec.pre6 enc Try.prog Try.f7 Rows.backPlaysRow.domain false) (Rows.backPlaysSpec.post enc Try.prog Try.f7 false true false false) := by
  refine returnsInHanded_of_change (C := Try.checked) own started (by kernel_rfl) Try.func7
    (ChangeSpec.witness6 (enc := enc) (C := Try.checked) false ⟨#[], #[.string ByteArray.empty, .slice none 0 0, .int .i64 0], []⟩ 8 (by kernel_rfl) (by kernel_rfl) (by kernel_rfl) (by kernel_rfl)) ?_
  intro W base args ds gs before hval0 hW hcnd _
  have hval : ∀ (j : Nat) t v, Try.f7.params[j]? = some t → args[j]? = some v → Value.okWide Try.prog W .any base t v := hval0
  have hW' := hW
  obtain ⟨p, q, hA0, hV, rfl, hfz, hnd⟩ := hW
  have hA : DataW.TrodAll enc Try.prog W 0 (fun _ => true) true Try.f7.params.toList args.toList ds p := hA0
  rw [Try.params7] at hA hval
  obtain ⟨v0, vs0, d0, ds0, p0, q0, hargs, rfl, rfl, h0, r0⟩ := trodAll_cons hA
  obtain ⟨v1, vs1, d1, ds1, p1, q1, rfl, rfl, rfl, h1, r1⟩ := trodAll_cons r0
  obtain ⟨v2, vs2, d2, ds2, p2, q2, rfl, rfl, rfl, h2, r2⟩ := trodAll_cons r1
  obtain ⟨rfl, rfl, rfl⟩ := trodAll_nil r2
  obtain rfl : args = #[v0, v1, v2] := by cases args; simp_all
  obtain ⟨rfl, rfl⟩ := trodVars_none hV
  obtain ⟨a0, rfl, rfl, rfl, w0⟩ := open_string Try.underlying9 (hval 0 9 v0 rfl rfl) h0
  obtain ⟨a1, len1, cap1, rfl⟩ := okWide_slice Try.underlying22 (hval 1 22 v1 rfl rfl)
  have k1 := h1
  have lt1 : ∀ x ∈ p1, x.block < W.heap.size := by obtain ⟨m, hm⟩ := k1; exact DataW.trod_lt m _ _ _ hm
  obtain ⟨z1, w1⟩ : ∃ zs, IsRecs_iii W a1 len1 cap1 zs := open_recs_iii Try.underlying22 Try.underlying28 (by kernel_rfl) (by kernel_rfl) Try.underlying3 Try.underlying3 Try.underlying3 h1
  obtain ⟨a2, rfl, rfl, rfl, w2⟩ := open_int Try.underlying3 (hval 2 3 v2 rfl rfl) h2
  clear hA0 hval0
  refine (walk a0 a1 len1 cap1 z1 a2 W w0 w1 w2).mono fun e W' ⟨he, bel⟩ => ?_
  subst he
  exact ⟨_, rfl, _, _, _, [], _, [], hW', trodAll_mk1 (shut_bool Try.underlying4 _), (trodAll_cons_mk (shut_string Try.underlying9 w0) (trodAll_cons_mk (Below.trod laidOut (by kernel_rfl) (of_decide_eq_true (by kernel_rfl)) k1 bel lt1) (trodAll_cons_mk (shut_int Try.underlying3 w2) trodAll_mk0))), rfl, bel.frame _, fun h => by cases h⟩

theorem over : Rows.backPlaysRow.holds Try.pinned (OpenSpec.ofChange Rows.backPlaysSpec) :=
  OpenClaim.holds_of_wide 7 Try.f7 rfl rfl rfl rfl rfl rfl rfl ⟨rfl, rfl, rfl, rfl, rfl⟩ rfl rfl rfl rfl rfl (by kernel_rfl) Try.func7 (by kernel_rfl)
    (of_decide_eq_true (by kernel_rfl)) (by unfold Func.isWrapper; first | (rw [if_pos (by decide +kernel)]; kernel_rfl) | (rw [if_neg (by decide +kernel)]; exact ⟨rfl, rfl⟩))
    (fun os started H enc _ => lifted os started H enc)

theorem proved : Rows.BackPlaysSaid := over
#print axioms proved
end Go.Proofs.Ythmbfmjchbcjlaa.backPlays
