/- Contracts of the reference's step, and of what is asked of a connection, over this seat's translation. -/
import Derived.Test.YthmbfmjchbcjlaaXr
namespace Go.Proofs.Ythmbfmjchbcjlaa
open Go.ChangeShapes Go.WideShapes Go.ChangeAt Go.RowKit
set_option linter.unusedVariables false
abbrev zbv : Array Value := #[.int .i64 0, .string ByteArray.empty, .int .i64 0, .int .i64 0, .int .i64 0, .int .i64 0, .int .i64 0]

set_option maxRecDepth 100000 in
set_option maxHeartbeats 8000000 in
theorem stepRef0_c (b : BK) (q a c : Int) (k : Nat) (hf : Fine b k) (hk : k ≤ 1000) (w : World) (h : kd q = 0) :
    Calls Try.prog 22 #[.agg (rbv b), .agg (sc q a c)] w (RP (stp b (kd q) a c) w) := by
  have HK := Lib.hid (fun W => kind_c q a c W)
  have HR := Lib.hid (fun W => r0_c b a c k hf hk W)
  have H0 := Lib.hid h
  have HB := Lib.hid (Blk.new ((w.alloc (.cells (rbv b) 39)).alloc (.cells (sc q a c) 28)) 39 zbv)
  have HW := Lib.hid ((((Below.refl w.heap.size w).alloc (Nat.le_refl _) (.cells (rbv b) 39)).alloc (by simp) (.cells (sc q a c) 28)).alloc (by simp; omega) (.cells zbv 39))
  clear hf
  obtain ⟨r, hr⟩ : ∃ r, stp b 0 a c = r := ⟨_, rfl⟩
  rw [hr] at HR
  have HRS := Lib.hid hr
  clear hr
  go_enter Try.func22, Try.ntmps22
  go_wp2_with fail
  refine (HK.out _).mono ?_
  rintro e w' ⟨rfl, rfl⟩
  go_wp2_with fail
  refine (HR.out _).mono ?_
  rintro e w2 ⟨rfl, hb2⟩
  have hblk := (HB.out.alloc (.cells (sc q a c) 28)).below hb2 (by simp)
  have hsz : ((w.alloc (.cells (rbv b) 39)).alloc (.cells (sc q a c) 28)).heap.size = w.heap.size + 1 + 1 := by simp
  rw [hsz] at hblk
  obtain ⟨⟨host, state, born, deadline, since, client, owes⟩, did⟩ := r
  have c0 := hblk.cell 0
  have c1 := hblk.cell 1
  have c2 := hblk.cell 2
  have c3 := hblk.cell 3
  have c4 := hblk.cell 4
  have c5 := hblk.cell 5
  have c6 := hblk.cell 6
  have q0 := hblk.free 0
  have q1 := hblk.free 1
  have q2 := hblk.free 2
  have q3 := hblk.free 3
  have q4 := hblk.free 4
  have q5 := hblk.free 5
  have q6 := hblk.free 6
  have hlt := hblk.lt
  have HL := Lib.hid ((HW.out.alloc (by simp; omega) (.cells (sc q a c) 28)).trans (hb2.mono (by simp; omega)))
  clear hb2 hblk hsz
  simp only [zbv] at c0 c1 c2 c3 c4 c5 c6
  dsimp only [rbv]
  go_wp2_with fail
  refine bodyPost_ret (v := .tuple #[.agg (rbv ⟨host, state, born, deadline, since, client, owes⟩), .bool did]) (by simp [results, Try.results22, go_sem, c0, c1, c2, c3, c4, c5, c6]) rfl ?_
  rw [H0.out, HRS.out]
  refine ⟨rfl, ?_⟩
  repeat (refine Below.setCell ?_ (by simp; omega) _)
  exact HL.out

set_option maxRecDepth 100000 in
set_option maxHeartbeats 8000000 in
theorem stepRef1_c (b : BK) (q a c : Int) (k : Nat) (hf : Fine b k) (hk : k ≤ 1000) (w : World) (h : kd q = 1) :
    Calls Try.prog 22 #[.agg (rbv b), .agg (sc q a c)] w (RP (stp b (kd q) a c) w) := by
  have HK := Lib.hid (fun W => kind_c q a c W)
  have HR := Lib.hid (fun W => r1_c b a c k hf hk W)
  have H0 := Lib.hid h
  have HB := Lib.hid (Blk.new ((w.alloc (.cells (rbv b) 39)).alloc (.cells (sc q a c) 28)) 39 zbv)
  have HW := Lib.hid ((((Below.refl w.heap.size w).alloc (Nat.le_refl _) (.cells (rbv b) 39)).alloc (by simp) (.cells (sc q a c) 28)).alloc (by simp; omega) (.cells zbv 39))
  clear hf
  obtain ⟨r, hr⟩ : ∃ r, stp b 1 a c = r := ⟨_, rfl⟩
  rw [hr] at HR
  have HRS := Lib.hid hr
  clear hr
  go_enter Try.func22, Try.ntmps22
  go_wp2_with fail
  refine (HK.out _).mono ?_
  rintro e w' ⟨rfl, rfl⟩
  go_wp2_with fail
  refine (HR.out _).mono ?_
  rintro e w2 ⟨rfl, hb2⟩
  have hblk := (HB.out.alloc (.cells (sc q a c) 28)).below hb2 (by simp)
  have hsz : ((w.alloc (.cells (rbv b) 39)).alloc (.cells (sc q a c) 28)).heap.size = w.heap.size + 1 + 1 := by simp
  rw [hsz] at hblk
  obtain ⟨⟨host, state, born, deadline, since, client, owes⟩, did⟩ := r
  have c0 := hblk.cell 0
  have c1 := hblk.cell 1
  have c2 := hblk.cell 2
  have c3 := hblk.cell 3
  have c4 := hblk.cell 4
  have c5 := hblk.cell 5
  have c6 := hblk.cell 6
  have q0 := hblk.free 0
  have q1 := hblk.free 1
  have q2 := hblk.free 2
  have q3 := hblk.free 3
  have q4 := hblk.free 4
  have q5 := hblk.free 5
  have q6 := hblk.free 6
  have hlt := hblk.lt
  have HL := Lib.hid ((HW.out.alloc (by simp; omega) (.cells (sc q a c) 28)).trans (hb2.mono (by simp; omega)))
  clear hb2 hblk hsz
  simp only [zbv] at c0 c1 c2 c3 c4 c5 c6
  dsimp only [rbv]
  go_wp2_with fail
  refine bodyPost_ret (v := .tuple #[.agg (rbv ⟨host, state, born, deadline, since, client, owes⟩), .bool did]) (by simp [results, Try.results22, go_sem, c0, c1, c2, c3, c4, c5, c6]) rfl ?_
  rw [H0.out, HRS.out]
  refine ⟨rfl, ?_⟩
  repeat (refine Below.setCell ?_ (by simp; omega) _)
  exact HL.out

set_option maxRecDepth 100000 in
set_option maxHeartbeats 8000000 in
theorem stepRef2_c (b : BK) (q a c : Int) (k : Nat) (hf : Fine b k) (hk : k ≤ 1000) (w : World) (h : kd q = 2) :
    Calls Try.prog 22 #[.agg (rbv b), .agg (sc q a c)] w (RP (stp b (kd q) a c) w) := by
  have HK := Lib.hid (fun W => kind_c q a c W)
  have HR := Lib.hid (fun W => r2_c b a c k hf hk W)
  have H0 := Lib.hid h
  have HB := Lib.hid (Blk.new ((w.alloc (.cells (rbv b) 39)).alloc (.cells (sc q a c) 28)) 39 zbv)
  have HW := Lib.hid ((((Below.refl w.heap.size w).alloc (Nat.le_refl _) (.cells (rbv b) 39)).alloc (by simp) (.cells (sc q a c) 28)).alloc (by simp; omega) (.cells zbv 39))
  clear hf
  obtain ⟨r, hr⟩ : ∃ r, stp b 2 a c = r := ⟨_, rfl⟩
  rw [hr] at HR
  have HRS := Lib.hid hr
  clear hr
  go_enter Try.func22, Try.ntmps22
  go_wp2_with fail
  refine (HK.out _).mono ?_
  rintro e w' ⟨rfl, rfl⟩
  go_wp2_with fail
  refine (HR.out _).mono ?_
  rintro e w2 ⟨rfl, hb2⟩
  have hblk := (HB.out.alloc (.cells (sc q a c) 28)).below hb2 (by simp)
  have hsz : ((w.alloc (.cells (rbv b) 39)).alloc (.cells (sc q a c) 28)).heap.size = w.heap.size + 1 + 1 := by simp
  rw [hsz] at hblk
  obtain ⟨⟨host, state, born, deadline, since, client, owes⟩, did⟩ := r
  have c0 := hblk.cell 0
  have c1 := hblk.cell 1
  have c2 := hblk.cell 2
  have c3 := hblk.cell 3
  have c4 := hblk.cell 4
  have c5 := hblk.cell 5
  have c6 := hblk.cell 6
  have q0 := hblk.free 0
  have q1 := hblk.free 1
  have q2 := hblk.free 2
  have q3 := hblk.free 3
  have q4 := hblk.free 4
  have q5 := hblk.free 5
  have q6 := hblk.free 6
  have hlt := hblk.lt
  have HL := Lib.hid ((HW.out.alloc (by simp; omega) (.cells (sc q a c) 28)).trans (hb2.mono (by simp; omega)))
  clear hb2 hblk hsz
  simp only [zbv] at c0 c1 c2 c3 c4 c5 c6
  dsimp only [rbv]
  go_wp2_with fail
  refine bodyPost_ret (v := .tuple #[.agg (rbv ⟨host, state, born, deadline, since, client, owes⟩), .bool did]) (by simp [results, Try.results22, go_sem, c0, c1, c2, c3, c4, c5, c6]) rfl ?_
  rw [H0.out, HRS.out]
  refine ⟨rfl, ?_⟩
  repeat (refine Below.setCell ?_ (by simp; omega) _)
  exact HL.out

set_option maxRecDepth 100000 in
set_option maxHeartbeats 8000000 in
theorem stepRef3_c (b : BK) (q a c : Int) (k : Nat) (hf : Fine b k) (hk : k ≤ 1000) (w : World) (h : kd q = 3) :
    Calls Try.prog 22 #[.agg (rbv b), .agg (sc q a c)] w (RP (stp b (kd q) a c) w) := by
  have HK := Lib.hid (fun W => kind_c q a c W)
  have HR := Lib.hid (fun W => r3_c b a c k hf hk W)
  have H0 := Lib.hid h
  have HB := Lib.hid (Blk.new ((w.alloc (.cells (rbv b) 39)).alloc (.cells (sc q a c) 28)) 39 zbv)
  have HW := Lib.hid ((((Below.refl w.heap.size w).alloc (Nat.le_refl _) (.cells (rbv b) 39)).alloc (by simp) (.cells (sc q a c) 28)).alloc (by simp; omega) (.cells zbv 39))
  clear hf
  obtain ⟨r, hr⟩ : ∃ r, stp b 3 a c = r := ⟨_, rfl⟩
  rw [hr] at HR
  have HRS := Lib.hid hr
  clear hr
  go_enter Try.func22, Try.ntmps22
  go_wp2_with fail
  refine (HK.out _).mono ?_
  rintro e w' ⟨rfl, rfl⟩
  go_wp2_with fail
  refine (HR.out _).mono ?_
  rintro e w2 ⟨rfl, hb2⟩
  have hblk := (HB.out.alloc (.cells (sc q a c) 28)).below hb2 (by simp)
  have hsz : ((w.alloc (.cells (rbv b) 39)).alloc (.cells (sc q a c) 28)).heap.size = w.heap.size + 1 + 1 := by simp
  rw [hsz] at hblk
  obtain ⟨⟨host, state, born, deadline, since, client, owes⟩, did⟩ := r
  have c0 := hblk.cell 0
  have c1 := hblk.cell 1
  have c2 := hblk.cell 2
  have c3 := hblk.cell 3
  have c4 := hblk.cell 4
  have c5 := hblk.cell 5
  have c6 := hblk.cell 6
  have q0 := hblk.free 0
  have q1 := hblk.free 1
  have q2 := hblk.free 2
  have q3 := hblk.free 3
  have q4 := hblk.free 4
  have q5 := hblk.free 5
  have q6 := hblk.free 6
  have hlt := hblk.lt
  have HL := Lib.hid ((HW.out.alloc (by simp; omega) (.cells (sc q a c) 28)).trans (hb2.mono (by simp; omega)))
  clear hb2 hblk hsz
  simp only [zbv] at c0 c1 c2 c3 c4 c5 c6
  dsimp only [rbv]
  go_wp2_with fail
  refine bodyPost_ret (v := .tuple #[.agg (rbv ⟨host, state, born, deadline, since, client, owes⟩), .bool did]) (by simp [results, Try.results22, go_sem, c0, c1, c2, c3, c4, c5, c6]) rfl ?_
  rw [H0.out, HRS.out]
  refine ⟨rfl, ?_⟩
  repeat (refine Below.setCell ?_ (by simp; omega) _)
  exact HL.out

set_option maxRecDepth 100000 in
set_option maxHeartbeats 8000000 in
theorem stepRef4_c (b : BK) (q a c : Int) (k : Nat) (hf : Fine b k) (hk : k ≤ 1000) (w : World) (h : kd q = 4) :
    Calls Try.prog 22 #[.agg (rbv b), .agg (sc q a c)] w (RP (stp b (kd q) a c) w) := by
  have HK := Lib.hid (fun W => kind_c q a c W)
  have HR := Lib.hid (fun W => r4_c b a c k hf hk W)
  have H0 := Lib.hid h
  have HB := Lib.hid (Blk.new ((w.alloc (.cells (rbv b) 39)).alloc (.cells (sc q a c) 28)) 39 zbv)
  have HW := Lib.hid ((((Below.refl w.heap.size w).alloc (Nat.le_refl _) (.cells (rbv b) 39)).alloc (by simp) (.cells (sc q a c) 28)).alloc (by simp; omega) (.cells zbv 39))
  clear hf
  obtain ⟨r, hr⟩ : ∃ r, stp b 4 a c = r := ⟨_, rfl⟩
  rw [hr] at HR
  have HRS := Lib.hid hr
  clear hr
  go_enter Try.func22, Try.ntmps22
  go_wp2_with fail
  refine (HK.out _).mono ?_
  rintro e w' ⟨rfl, rfl⟩
  go_wp2_with fail
  refine (HR.out _).mono ?_
  rintro e w2 ⟨rfl, hb2⟩
  have hblk := (HB.out.alloc (.cells (sc q a c) 28)).below hb2 (by simp)
  have hsz : ((w.alloc (.cells (rbv b) 39)).alloc (.cells (sc q a c) 28)).heap.size = w.heap.size + 1 + 1 := by simp
  rw [hsz] at hblk
  obtain ⟨⟨host, state, born, deadline, since, client, owes⟩, did⟩ := r
  have c0 := hblk.cell 0
  have c1 := hblk.cell 1
  have c2 := hblk.cell 2
  have c3 := hblk.cell 3
  have c4 := hblk.cell 4
  have c5 := hblk.cell 5
  have c6 := hblk.cell 6
  have q0 := hblk.free 0
  have q1 := hblk.free 1
  have q2 := hblk.free 2
  have q3 := hblk.free 3
  have q4 := hblk.free 4
  have q5 := hblk.free 5
  have q6 := hblk.free 6
  have hlt := hblk.lt
  have HL := Lib.hid ((HW.out.alloc (by simp; omega) (.cells (sc q a c) 28)).trans (hb2.mono (by simp; omega)))
  clear hb2 hblk hsz
  simp only [zbv] at c0 c1 c2 c3 c4 c5 c6
  dsimp only [rbv]
  go_wp2_with fail
  refine bodyPost_ret (v := .tuple #[.agg (rbv ⟨host, state, born, deadline, since, client, owes⟩), .bool did]) (by simp [results, Try.results22, go_sem, c0, c1, c2, c3, c4, c5, c6]) rfl ?_
  rw [H0.out, HRS.out]
  refine ⟨rfl, ?_⟩
  repeat (refine Below.setCell ?_ (by simp; omega) _)
  exact HL.out

set_option maxRecDepth 100000 in
set_option maxHeartbeats 8000000 in
theorem stepRef5_c (b : BK) (q a c : Int) (k : Nat) (hf : Fine b k) (hk : k ≤ 1000) (w : World) (h : kd q = 5) :
    Calls Try.prog 22 #[.agg (rbv b), .agg (sc q a c)] w (RP (stp b (kd q) a c) w) := by
  have HK := Lib.hid (fun W => kind_c q a c W)
  have HR := Lib.hid (fun W => r5_c b a c k hf hk W)
  have H0 := Lib.hid h
  have HB := Lib.hid (Blk.new ((w.alloc (.cells (rbv b) 39)).alloc (.cells (sc q a c) 28)) 39 zbv)
  have HW := Lib.hid ((((Below.refl w.heap.size w).alloc (Nat.le_refl _) (.cells (rbv b) 39)).alloc (by simp) (.cells (sc q a c) 28)).alloc (by simp; omega) (.cells zbv 39))
  clear hf
  obtain ⟨r, hr⟩ : ∃ r, stp b 5 a c = r := ⟨_, rfl⟩
  rw [hr] at HR
  have HRS := Lib.hid hr
  clear hr
  go_enter Try.func22, Try.ntmps22
  go_wp2_with fail
  refine (HK.out _).mono ?_
  rintro e w' ⟨rfl, rfl⟩
  go_wp2_with fail
  refine (HR.out _).mono ?_
  rintro e w2 ⟨rfl, hb2⟩
  have hblk := (HB.out.alloc (.cells (sc q a c) 28)).below hb2 (by simp)
  have hsz : ((w.alloc (.cells (rbv b) 39)).alloc (.cells (sc q a c) 28)).heap.size = w.heap.size + 1 + 1 := by simp
  rw [hsz] at hblk
  obtain ⟨⟨host, state, born, deadline, since, client, owes⟩, did⟩ := r
  have c0 := hblk.cell 0
  have c1 := hblk.cell 1
  have c2 := hblk.cell 2
  have c3 := hblk.cell 3
  have c4 := hblk.cell 4
  have c5 := hblk.cell 5
  have c6 := hblk.cell 6
  have q0 := hblk.free 0
  have q1 := hblk.free 1
  have q2 := hblk.free 2
  have q3 := hblk.free 3
  have q4 := hblk.free 4
  have q5 := hblk.free 5
  have q6 := hblk.free 6
  have hlt := hblk.lt
  have HL := Lib.hid ((HW.out.alloc (by simp; omega) (.cells (sc q a c) 28)).trans (hb2.mono (by simp; omega)))
  clear hb2 hblk hsz
  simp only [zbv] at c0 c1 c2 c3 c4 c5 c6
  dsimp only [rbv]
  go_wp2_with fail
  refine bodyPost_ret (v := .tuple #[.agg (rbv ⟨host, state, born, deadline, since, client, owes⟩), .bool did]) (by simp [results, Try.results22, go_sem, c0, c1, c2, c3, c4, c5, c6]) rfl ?_
  rw [H0.out, HRS.out]
  refine ⟨rfl, ?_⟩
  repeat (refine Below.setCell ?_ (by simp; omega) _)
  exact HL.out

set_option maxRecDepth 100000 in
set_option maxHeartbeats 8000000 in
theorem stepRef6_c (b : BK) (q a c : Int) (k : Nat) (hf : Fine b k) (hk : k ≤ 1000) (w : World) (h : kd q = 6) :
    Calls Try.prog 22 #[.agg (rbv b), .agg (sc q a c)] w (RP (stp b (kd q) a c) w) := by
  have HK := Lib.hid (fun W => kind_c q a c W)
  have HR := Lib.hid (fun W => r6_c b a c k hf hk W)
  have H0 := Lib.hid h
  have HB := Lib.hid (Blk.new ((w.alloc (.cells (rbv b) 39)).alloc (.cells (sc q a c) 28)) 39 zbv)
  have HW := Lib.hid ((((Below.refl w.heap.size w).alloc (Nat.le_refl _) (.cells (rbv b) 39)).alloc (by simp) (.cells (sc q a c) 28)).alloc (by simp; omega) (.cells zbv 39))
  clear hf
  obtain ⟨r, hr⟩ : ∃ r, stp b 6 a c = r := ⟨_, rfl⟩
  rw [hr] at HR
  have HRS := Lib.hid hr
  clear hr
  go_enter Try.func22, Try.ntmps22
  go_wp2_with fail
  refine (HK.out _).mono ?_
  rintro e w' ⟨rfl, rfl⟩
  go_wp2_with fail
  refine (HR.out _).mono ?_
  rintro e w2 ⟨rfl, hb2⟩
  have hblk := (HB.out.alloc (.cells (sc q a c) 28)).below hb2 (by simp)
  have hsz : ((w.alloc (.cells (rbv b) 39)).alloc (.cells (sc q a c) 28)).heap.size = w.heap.size + 1 + 1 := by simp
  rw [hsz] at hblk
  obtain ⟨⟨host, state, born, deadline, since, client, owes⟩, did⟩ := r
  have c0 := hblk.cell 0
  have c1 := hblk.cell 1
  have c2 := hblk.cell 2
  have c3 := hblk.cell 3
  have c4 := hblk.cell 4
  have c5 := hblk.cell 5
  have c6 := hblk.cell 6
  have q0 := hblk.free 0
  have q1 := hblk.free 1
  have q2 := hblk.free 2
  have q3 := hblk.free 3
  have q4 := hblk.free 4
  have q5 := hblk.free 5
  have q6 := hblk.free 6
  have hlt := hblk.lt
  have HL := Lib.hid ((HW.out.alloc (by simp; omega) (.cells (sc q a c) 28)).trans (hb2.mono (by simp; omega)))
  clear hb2 hblk hsz
  simp only [zbv] at c0 c1 c2 c3 c4 c5 c6
  dsimp only [rbv]
  go_wp2_with fail
  refine bodyPost_ret (v := .tuple #[.agg (rbv ⟨host, state, born, deadline, since, client, owes⟩), .bool did]) (by simp [results, Try.results22, go_sem, c0, c1, c2, c3, c4, c5, c6]) rfl ?_
  rw [H0.out, HRS.out]
  refine ⟨rfl, ?_⟩
  repeat (refine Below.setCell ?_ (by simp; omega) _)
  exact HL.out

theorem stepRef_c (b : BK) (q a c : Int) (k : Nat) (hf : Fine b k) (hk : k ≤ 1000) (w : World) :
    Calls Try.prog 22 #[.agg (rbv b), .agg (sc q a c)] w (RP (stp b (kd q) a c) w) := by
  have hb7 := kd_bd q
  rcases (by omega : kd q = 0 ∨ kd q = 1 ∨ kd q = 2 ∨ kd q = 3 ∨ kd q = 4 ∨ kd q = 5 ∨ kd q = 6) with h | h | h | h | h | h | h
  · exact stepRef0_c b q a c k hf hk w h
  · exact stepRef1_c b q a c k hf hk w h
  · exact stepRef2_c b q a c k hf hk w h
  · exact stepRef3_c b q a c k hf hk w h
  · exact stepRef4_c b q a c k hf hk w h
  · exact stepRef5_c b q a c k hf hk w h
  · exact stepRef6_c b q a c k hf hk w h

set_option maxHeartbeats 2000000 in
theorem rold_c (b : BK) (now : Int) (s0 : 0 ≤ b.state) (s4 : b.state ≤ 4) (w : World) : Calls Try.prog 23 #[.agg (rbv b), .int .i64 now] w fun e w' => e = .returned (.bool (old b now)) ∧ w.alloc (.cells (rbv b) 39) = w' := by
  obtain ⟨host, state, born, deadline, since, client, owes⟩ := b
  dsimp only at s0 s4
  by_cases h : state = 0
  · subst h
    go_enter Try.func23, Try.ntmps23
    go_wp2_with fail
    go_ret
    exact ⟨rfl, rfl⟩
  · by_cases h4 : state = 4
    · subst h4
      go_enter Try.func23, Try.ntmps23
      go_wp2_with fail
      go_ret
      exact ⟨rfl, rfl⟩
    · have g1 : 1 ≤ state := by omega
      have g3 : state ≤ 3 := by omega
      have HO := Lib.hid (show old ⟨host, state, born, deadline, since, client, owes⟩ now = past now deadline by
        have e1 : (state != 0) = true := by simpa using h
        have e2 : (state != 4) = true := by simpa using h4
        show (state != 0 && (state != 4 && past now deadline)) = _
        rw [e1, e2]; rfl)
      clear h h4
      go_enter Try.func23, Try.ntmps23
      go_wp2_with (go_at_call 49; refine (rpast_c _ _ _).mono ?_; rintro e w' ⟨rfl, rfl⟩)
      go_ret
      exact ⟨ret_bool HO.out.symm, rfl⟩
set_option maxHeartbeats 2000000 in
theorem rstale_c (b : BK) (now idle : Int) (w : World) : Calls Try.prog 24 #[.agg (rbv b), .int .i64 now, .int .i64 idle] w fun e w' => e = .returned (.bool (stale b now idle)) ∧ w.alloc (.cells (rbv b) 39) = w' := by
  obtain ⟨host, state, born, deadline, since, client, owes⟩ := b
  by_cases h : state = 2
  · subst h
    have HO := Lib.hid (show stale ⟨host, 2, born, deadline, since, client, owes⟩ now idle = past now (add since idle) by unfold stale; simp)
    go_enter Try.func24, Try.ntmps24
    go_wp2_with (first | (go_at_call 49; refine (rpast_c _ _ _).mono ?_; rintro e w' ⟨rfl, rfl⟩) | (go_at_call 50; refine (radd_c _ _ _).mono ?_; rintro e w' ⟨rfl, rfl⟩))
    go_ret
    exact ⟨ret_bool HO.out.symm, rfl⟩
  · have h1 : (state == 2) = false := by simpa using h
    have HO := Lib.hid (show stale ⟨host, state, born, deadline, since, client, owes⟩ now idle = false by unfold stale; simp [h])
    go_enter Try.func24, Try.ntmps24
    go_wp2_with fail
    go_ret
    exact ⟨ret_bool HO.out.symm, rfl⟩
def bnm (k : Int) : ByteArray :=
  if k = 0 then ⟨#[100, 105, 97, 108, 105, 110, 103]⟩ else if k = 1 then ⟨#[103, 114, 101, 101, 116, 105, 110, 103]⟩ else if k = 2 then ⟨#[105, 100, 108, 101]⟩ else if k = 3 then ⟨#[98, 117, 115, 121]⟩ else if k = 4 then ⟨#[100, 101, 97, 100]⟩ else ⟨#[]⟩
theorem bnm_no (k : Int) (h : k < 0 ∨ 4 < k) : bnm k = ⟨#[]⟩ := by
  unfold bnm; rw [if_neg (by omega), if_neg (by omega), if_neg (by omega), if_neg (by omega), if_neg (by omega)]

set_option maxHeartbeats 4000000 in
theorem bname_c (k : Int) (w : World) : Calls Try.prog 25 #[.int .i64 k] w fun e w' => e = .returned (.string (bnm k)) ∧ Below w.heap.size w w' := by
  have HB := Lib.hid (fun o => show Below w.heap.size w (w.alloc o) from (Below.refl _ _).alloc (Nat.le_refl _) _)
  have HE := Lib.hid (bnm_no k)
  rcases (by omega : k < 0 ∨ k = 0 ∨ k = 1 ∨ k = 2 ∨ k = 3 ∨ k = 4 ∨ 4 < k) with h | h | h | h | h | h | h
  · have h1 : decide (k < 0) = true := by simpa using h
    go_enter Try.func25, Try.ntmps25
    go_wp2_with fail
    go_ret
    exact ⟨by rw [HE.out (.inl h)]; rfl, by first | exact Below.refl _ _ | exact HB.out _⟩
  iterate 5
    · subst h
      go_enter Try.func25, Try.ntmps25
      go_wp2_with fail
      go_ret
      exact ⟨rfl, HB.out _⟩
  · have h1 : decide (k < 0) = false := by simp; omega
    have h2 : decide (4 < k) = true := by simpa using h
    have h3 : (5 : Int) ≤ k := by omega
    go_enter Try.func25, Try.ntmps25
    go_wp2_with fail
    go_ret
    exact ⟨by rw [HE.out (.inr h)]; rfl, by first | exact Below.refl _ _ | exact HB.out _⟩

set_option maxHeartbeats 4000000 in
theorem rbname_c (k : Int) (w : World) : Calls Try.prog 26 #[.int .i64 k] w fun e w' => e = .returned (.string (bnm k)) ∧ Below w.heap.size w w' := by
  have HB := Lib.hid (fun o => show Below w.heap.size w (w.alloc o) from (Below.refl _ _).alloc (Nat.le_refl _) _)
  have HE := Lib.hid (bnm_no k)
  rcases (by omega : k < 0 ∨ k = 0 ∨ k = 1 ∨ k = 2 ∨ k = 3 ∨ k = 4 ∨ 4 < k) with h | h | h | h | h | h | h
  · have h1 : decide (k < 0) = true := by simpa using h
    go_enter Try.func26, Try.ntmps26
    go_wp2_with fail
    go_ret
    exact ⟨by rw [HE.out (.inl h)]; rfl, by first | exact Below.refl _ _ | exact HB.out _⟩
  iterate 5
    · subst h
      go_enter Try.func26, Try.ntmps26
      go_wp2_with fail
      go_ret
      exact ⟨rfl, HB.out _⟩
  · have h1 : decide (k < 0) = false := by simp; omega
    have h2 : decide (4 < k) = true := by simpa using h
    have h3 : (5 : Int) ≤ k := by omega
    go_enter Try.func26, Try.ntmps26
    go_wp2_with fail
    go_ret
    exact ⟨by rw [HE.out (.inr h)]; rfl, by first | exact Below.refl _ _ | exact HB.out _⟩

end Go.Proofs.Ythmbfmjchbcjlaa
