/- What the document's functions Request, ParseRequest, Reply, ParseReply and Frame answer. -/
import Derived.Test.YtbjbadnkpeakcaaRf
import Derived.Deep.RegionHeld3
namespace Go.Proofs.Ytbjbadnkpeakcaa
open Go.RowKit
set_option linter.unusedVariables false
set_option linter.unusedSimpArgs false

set_option maxHeartbeats 1000000 in
set_option maxRecDepth 100000 in
theorem refReply_ok (e : Nat) (x y : Int) (w : World) (h1 : e ≤ 999) :
    Calls Try.prog 18 #[.agg #[.int .i64 e, .int .i64 x, .int .i64 y]] w fun r w' => r = .returned (.tuple #[.string (⟨(be e 2).toArray⟩ ++ ⟨(be (u64 x) 8).toArray⟩ ++ ⟨(be (u64 y) 8).toArray⟩), .int .i64 0]) ∧ Below w.heap.size w w' := by
  have he : IntKind.u64.wrap (e : Int) = (e : Int) := IntWalk.u64_in _ (by omega)
  have hx := u64_eq x
  have hy := u64_eq y
  obtain ⟨s0, hs0⟩ : ∃ s0, (⟨(be e 2).toArray⟩ : ByteArray) = s0 := ⟨_, rfl⟩
  obtain ⟨s1, hs1⟩ : ∃ s1, (⟨(be (u64 x) 8).toArray⟩ : ByteArray) = s1 := ⟨_, rfl⟩
  obtain ⟨s2, hs2⟩ : ∃ s2, (⟨(be (u64 y) 8).toArray⟩ : ByteArray) = s2 := ⟨_, rfl⟩
  have z0 : s0.size ≤ 8 := by rw [← hs0]; show (be e 2).toArray.size ≤ 8; simp [be_length]
  have z1 : s1.size ≤ 8 := by rw [← hs1]; show (be (u64 x) 8).toArray.size ≤ 8; simp [be_length]
  have z2 : s2.size ≤ 8 := by rw [← hs2]; show (be (u64 y) 8).toArray.size ≤ 8; simp [be_length]
  have n1 : ¬ 9223372036854775807 < s0.size + s1.size := by omega
  have n2 : ¬ 9223372036854775807 < s0.size + s1.size + s2.size := by omega
  rw [hs0, hs1, hs2]
  have P0 := Lib.hid (fun w => put_any e 2 2 rfl (by omega) (by omega) w)
  have P1 := Lib.hid (fun w => put_any (u64 x) 8 8 rfl (by omega) (u64_lt x) w)
  have P2 := Lib.hid (fun w => put_any (u64 y) 8 8 rfl (by omega) (u64_lt y) w)
  rw [hs0] at P0
  rw [hs1] at P1
  rw [hs2] at P2
  clear hs0 hs1 hs2
  have c0 : (w.alloc (.cells #[.int .i64 e, .int .i64 x, .int .i64 y] 36)).cell? ⟨w.heap.size, 0, none⟩ = some (.int .i64 e) := blk_cell (heap_alloc_new w _) 0
  have c1 : (w.alloc (.cells #[.int .i64 e, .int .i64 x, .int .i64 y] 36)).cell? ⟨w.heap.size, 1, none⟩ = some (.int .i64 x) := blk_cell (heap_alloc_new w _) 1
  have c2 : (w.alloc (.cells #[.int .i64 e, .int .i64 x, .int .i64 y] 36)).cell? ⟨w.heap.size, 2, none⟩ = some (.int .i64 y) := blk_cell (heap_alloc_new w _) 2
  obtain ⟨W0, hW0⟩ : ∃ W0, w.alloc (.cells #[.int .i64 e, .int .i64 x, .int .i64 y] 36) = W0 := ⟨_, rfl⟩
  have hlt : w.heap.size < W0.heap.size := by rw [← hW0]; simp
  have HB : Hid (Below W0.heap.size W0 W0.drew) := Lib.hid (Below.drew (Below.refl _ W0))
  have HW : Hid (Below w.heap.size w W0) := Lib.hid (by rw [← hW0]; exact (Below.refl _ w).alloc (Nat.le_refl _) _)
  rw [hW0] at c0 c1 c2
  go_enter Try.func18, Try.ntmps18
  go_wp2_with fail
  clear hW0
  go_region_held3 (fun W => W.cell? ⟨w.heap.size, 0, none⟩ = some (.int .i64 e) ∧ W.cell? ⟨w.heap.size, 1, none⟩ = some (.int .i64 x) ∧ W.cell? ⟨w.heap.size, 2, none⟩ = some (.int .i64 y)) (exact ⟨(HB.out.cell (p := ⟨w.heap.size, 0, none⟩) hlt).trans c0, (HB.out.cell (p := ⟨w.heap.size, 1, none⟩) hlt).trans c1, (HB.out.cell (p := ⟨w.heap.size, 2, none⟩) hlt).trans c2⟩)
    (first | (go_at_call 27; with_reducible refine (P0.out _).mono ?_; rintro r w' ⟨rfl, hb⟩; have HB' := Lib.hid (HB.out.trans (hb.mono HB.out.size)); clear HB hb; have HB := HB'; clear HB') | (go_at_call 27; with_reducible refine (P1.out _).mono ?_; rintro r w' ⟨rfl, hb⟩; have HB' := Lib.hid (HB.out.trans (hb.mono HB.out.size)); clear HB hb; have HB := HB'; clear HB') | (go_at_call 27; with_reducible refine (P2.out _).mono ?_; rintro r w' ⟨rfl, hb⟩; have HB' := Lib.hid (HB.out.trans (hb.mono HB.out.size)); clear HB hb; have HB := HB'; clear HB'))
  go_wp2
  go_ret2
  exact ⟨rfl, HW.out.trans (HB.out.mono HW.out.size)⟩

set_option maxHeartbeats 2000000 in
set_option maxRecDepth 100000 in
theorem refRequest_ok (op a b it : Nat) (n m : Int) (w : World) (h0 : 1 ≤ op) (h1 : op ≤ 21) (ha : a < 4294967296) (hb : b < 4294967296) (hi : it < 65536) :
    Calls Try.prog 15 #[.agg #[.int .i64 op, .int .u32 a, .int .u32 b, .int .u16 it, .int .i64 n, .int .i64 m]] w fun r w' => r = .returned (.tuple #[.string (⟨(be op 1).toArray⟩ ++ ⟨(be a 4).toArray⟩ ++ ⟨(be b 4).toArray⟩ ++ ⟨(be it 2).toArray⟩ ++ ⟨(be (u64 n) 8).toArray⟩ ++ ⟨(be (u64 m) 8).toArray⟩), .int .i64 0]) ∧ Below w.heap.size w w' := by
  have e0 : IntKind.u64.wrap (op : Int) = (op : Int) := IntWalk.u64_in _ (by omega)
  have e1 : IntKind.u64.wrap (a : Int) = (a : Int) := IntWalk.u64_in _ (by omega)
  have e2 : IntKind.u64.wrap (b : Int) = (b : Int) := IntWalk.u64_in _ (by omega)
  have e3 : IntKind.u64.wrap (it : Int) = (it : Int) := IntWalk.u64_in _ (by omega)
  have hx := u64_eq n
  have hy := u64_eq m
  obtain ⟨s0, hs0⟩ : ∃ s0, (⟨(be op 1).toArray⟩ : ByteArray) = s0 := ⟨_, rfl⟩
  obtain ⟨s1, hs1⟩ : ∃ s1, (⟨(be a 4).toArray⟩ : ByteArray) = s1 := ⟨_, rfl⟩
  obtain ⟨s2, hs2⟩ : ∃ s2, (⟨(be b 4).toArray⟩ : ByteArray) = s2 := ⟨_, rfl⟩
  obtain ⟨s3, hs3⟩ : ∃ s3, (⟨(be it 2).toArray⟩ : ByteArray) = s3 := ⟨_, rfl⟩
  obtain ⟨s4, hs4⟩ : ∃ s4, (⟨(be (u64 n) 8).toArray⟩ : ByteArray) = s4 := ⟨_, rfl⟩
  obtain ⟨s5, hs5⟩ : ∃ s5, (⟨(be (u64 m) 8).toArray⟩ : ByteArray) = s5 := ⟨_, rfl⟩
  have z0 : s0.size ≤ 8 := by rw [← hs0]; show (be op 1).toArray.size ≤ 8; simp [be_length]
  have z1 : s1.size ≤ 8 := by rw [← hs1]; show (be a 4).toArray.size ≤ 8; simp [be_length]
  have z2 : s2.size ≤ 8 := by rw [← hs2]; show (be b 4).toArray.size ≤ 8; simp [be_length]
  have z3 : s3.size ≤ 8 := by rw [← hs3]; show (be it 2).toArray.size ≤ 8; simp [be_length]
  have z4 : s4.size ≤ 8 := by rw [← hs4]; show (be (u64 n) 8).toArray.size ≤ 8; simp [be_length]
  have z5 : s5.size ≤ 8 := by rw [← hs5]; show (be (u64 m) 8).toArray.size ≤ 8; simp [be_length]
  have n1 : ¬ 9223372036854775807 < s0.size + s1.size := by omega
  have n2 : ¬ 9223372036854775807 < s0.size + s1.size + s2.size := by omega
  have n3 : ¬ 9223372036854775807 < s0.size + s1.size + s2.size + s3.size := by omega
  have n4 : ¬ 9223372036854775807 < s0.size + s1.size + s2.size + s3.size + s4.size := by omega
  have n5 : ¬ 9223372036854775807 < s0.size + s1.size + s2.size + s3.size + s4.size + s5.size := by omega
  rw [hs0, hs1, hs2, hs3, hs4, hs5]
  have P0 := Lib.hid (fun w => put_any op 1 1 rfl (by omega) (by first | exact u64_lt _ | omega) w)
  have P1 := Lib.hid (fun w => put_any a 4 4 rfl (by omega) (by first | exact u64_lt _ | omega) w)
  have P2 := Lib.hid (fun w => put_any b 4 4 rfl (by omega) (by first | exact u64_lt _ | omega) w)
  have P3 := Lib.hid (fun w => put_any it 2 2 rfl (by omega) (by first | exact u64_lt _ | omega) w)
  have P4 := Lib.hid (fun w => put_any (u64 n) 8 8 rfl (by omega) (by first | exact u64_lt _ | omega) w)
  have P5 := Lib.hid (fun w => put_any (u64 m) 8 8 rfl (by omega) (by first | exact u64_lt _ | omega) w)
  rw [hs0] at P0
  rw [hs1] at P1
  rw [hs2] at P2
  rw [hs3] at P3
  rw [hs4] at P4
  rw [hs5] at P5
  clear hs0 hs1 hs2 hs3 hs4 hs5
  have c0 : (w.alloc (.cells #[.int .i64 op, .int .u32 a, .int .u32 b, .int .u16 it, .int .i64 n, .int .i64 m] 31)).cell? ⟨w.heap.size, 0, none⟩ = some (.int .i64 op) := blk_cell (heap_alloc_new w _) 0
  have c1 : (w.alloc (.cells #[.int .i64 op, .int .u32 a, .int .u32 b, .int .u16 it, .int .i64 n, .int .i64 m] 31)).cell? ⟨w.heap.size, 1, none⟩ = some (.int .u32 a) := blk_cell (heap_alloc_new w _) 1
  have c2 : (w.alloc (.cells #[.int .i64 op, .int .u32 a, .int .u32 b, .int .u16 it, .int .i64 n, .int .i64 m] 31)).cell? ⟨w.heap.size, 2, none⟩ = some (.int .u32 b) := blk_cell (heap_alloc_new w _) 2
  have c3 : (w.alloc (.cells #[.int .i64 op, .int .u32 a, .int .u32 b, .int .u16 it, .int .i64 n, .int .i64 m] 31)).cell? ⟨w.heap.size, 3, none⟩ = some (.int .u16 it) := blk_cell (heap_alloc_new w _) 3
  have c4 : (w.alloc (.cells #[.int .i64 op, .int .u32 a, .int .u32 b, .int .u16 it, .int .i64 n, .int .i64 m] 31)).cell? ⟨w.heap.size, 4, none⟩ = some (.int .i64 n) := blk_cell (heap_alloc_new w _) 4
  have c5 : (w.alloc (.cells #[.int .i64 op, .int .u32 a, .int .u32 b, .int .u16 it, .int .i64 n, .int .i64 m] 31)).cell? ⟨w.heap.size, 5, none⟩ = some (.int .i64 m) := blk_cell (heap_alloc_new w _) 5
  obtain ⟨W0, hW0⟩ : ∃ W0, w.alloc (.cells #[.int .i64 op, .int .u32 a, .int .u32 b, .int .u16 it, .int .i64 n, .int .i64 m] 31) = W0 := ⟨_, rfl⟩
  have hlt : w.heap.size < W0.heap.size := by rw [← hW0]; simp
  have HB : Hid (Below W0.heap.size W0 W0.drew) := Lib.hid (Below.drew (Below.refl _ W0))
  have HW : Hid (Below w.heap.size w W0) := Lib.hid (by rw [← hW0]; exact (Below.refl _ w).alloc (Nat.le_refl _) _)
  rw [hW0] at c0 c1 c2 c3 c4 c5
  go_enter Try.func15, Try.ntmps15
  go_wp2_with fail
  clear hW0
  go_region_held3 (fun W => W.cell? ⟨w.heap.size, 0, none⟩ = some (.int .i64 op) ∧ W.cell? ⟨w.heap.size, 1, none⟩ = some (.int .u32 a) ∧ W.cell? ⟨w.heap.size, 2, none⟩ = some (.int .u32 b) ∧ W.cell? ⟨w.heap.size, 3, none⟩ = some (.int .u16 it) ∧ W.cell? ⟨w.heap.size, 4, none⟩ = some (.int .i64 n) ∧ W.cell? ⟨w.heap.size, 5, none⟩ = some (.int .i64 m))
    (exact ⟨(HB.out.cell (p := ⟨w.heap.size, 0, none⟩) hlt).trans c0, (HB.out.cell (p := ⟨w.heap.size, 1, none⟩) hlt).trans c1, (HB.out.cell (p := ⟨w.heap.size, 2, none⟩) hlt).trans c2, (HB.out.cell (p := ⟨w.heap.size, 3, none⟩) hlt).trans c3, (HB.out.cell (p := ⟨w.heap.size, 4, none⟩) hlt).trans c4, (HB.out.cell (p := ⟨w.heap.size, 5, none⟩) hlt).trans c5⟩)
    (first | (go_at_call 27; with_reducible refine (P0.out _).mono ?_; rintro r w' ⟨rfl, hb⟩; have HB' := Lib.hid (HB.out.trans (hb.mono HB.out.size)); clear HB hb; have HB := HB'; clear HB') | (go_at_call 27; with_reducible refine (P1.out _).mono ?_; rintro r w' ⟨rfl, hb⟩; have HB' := Lib.hid (HB.out.trans (hb.mono HB.out.size)); clear HB hb; have HB := HB'; clear HB') | (go_at_call 27; with_reducible refine (P2.out _).mono ?_; rintro r w' ⟨rfl, hb⟩; have HB' := Lib.hid (HB.out.trans (hb.mono HB.out.size)); clear HB hb; have HB := HB'; clear HB') | (go_at_call 27; with_reducible refine (P3.out _).mono ?_; rintro r w' ⟨rfl, hb⟩; have HB' := Lib.hid (HB.out.trans (hb.mono HB.out.size)); clear HB hb; have HB := HB'; clear HB') | (go_at_call 27; with_reducible refine (P4.out _).mono ?_; rintro r w' ⟨rfl, hb⟩; have HB' := Lib.hid (HB.out.trans (hb.mono HB.out.size)); clear HB hb; have HB := HB'; clear HB') | (go_at_call 27; with_reducible refine (P5.out _).mono ?_; rintro r w' ⟨rfl, hb⟩; have HB' := Lib.hid (HB.out.trans (hb.mono HB.out.size)); clear HB hb; have HB := HB'; clear HB'))
  go_wp2
  go_ret2
  exact ⟨rfl, HW.out.trans (HB.out.mono HW.out.size)⟩

set_option maxHeartbeats 400000 in
set_option maxRecDepth 100000 in
theorem refRequest_bad (op a b it n m : Int) (w : World) (h : op < 1 ∨ 21 < op) :
    Calls Try.prog 15 #[.agg #[.int .i64 op, .int .u32 a, .int .u32 b, .int .u16 it, .int .i64 n, .int .i64 m]] w fun r w' => r = .returned (.tuple #[.string ⟨#[]⟩, .int .i64 170]) ∧ Below w.heap.size w w' := by
  by_cases h0 : op < 1
  · go_enter Try.func15, Try.ntmps15
    go_wp2
    go_ret2
    exact ⟨rfl, (Below.refl _ w).alloc (Nat.le_refl _) _⟩
  · have h2 : 21 < op := by omega
    go_enter Try.func15, Try.ntmps15
    go_wp2
    go_ret2
    exact ⟨rfl, (Below.refl _ w).alloc (Nat.le_refl _) _⟩

set_option maxHeartbeats 400000 in
set_option maxRecDepth 100000 in
theorem refReply_bad (e x y : Int) (w : World) (h1 : e < 0 ∨ 999 < e) :
    Calls Try.prog 18 #[.agg #[.int .i64 e, .int .i64 x, .int .i64 y]] w fun r w' => r = .returned (.tuple #[.string ⟨#[]⟩, .int .i64 170]) ∧ Below w.heap.size w w' := by
  by_cases h0 : e < 0
  · go_enter Try.func18, Try.ntmps18
    go_wp2
    go_ret2
    exact ⟨rfl, (Below.refl _ w).alloc (Nat.le_refl _) _⟩
  · have h2 : 999 < e := by omega
    go_enter Try.func18, Try.ntmps18
    go_wp2
    go_ret2
    exact ⟨rfl, (Below.refl _ w).alloc (Nat.le_refl _) _⟩

set_option maxHeartbeats 400000 in
set_option maxRecDepth 100000 in
theorem refFrame_ok (s : ByteArray) (w : World) (h0 : 1 ≤ s.size) (h1 : s.size ≤ 100) :
    Calls Try.prog 20 #[.string s] w fun r w' => r = .returned (.tuple #[.string (⟨(be s.size 2).toArray⟩ ++ s), .int .i64 0]) ∧ Below w.heap.size w w' := by
  obtain ⟨t, ht⟩ : ∃ t, (⟨(be s.size 2).toArray⟩ : ByteArray) = t := ⟨_, rfl⟩
  have z : t.size ≤ 8 := by rw [← ht]; show (be s.size 2).toArray.size ≤ 8; simp [be_length]
  have n1 : ¬ 9223372036854775807 < t.size + s.size := by omega
  have P := Lib.hid (fun w => put_any s.size 2 2 rfl (by omega) (by omega) w)
  rw [ht] at P ⊢
  clear ht
  go_enter Try.func20, Try.ntmps20
  go_wp2_with fail
  refine (P.out _).mono ?_
  rintro r w' ⟨rfl, hb⟩
  have HB := Lib.hid hb
  clear hb
  go_wp2
  go_ret2
  exact ⟨rfl, HB.out⟩

set_option maxHeartbeats 400000 in
set_option maxRecDepth 100000 in
theorem refFrame_bad (s : ByteArray) (w : World) (h0 : s.size = 0 ∨ 100 < s.size) (hm : s.size ≤ maxLen) :
    Calls Try.prog 20 #[.string s] w fun r w' => r = .returned (.tuple #[.string ⟨#[]⟩, .int .i64 170]) ∧ Below w.heap.size w w' := by
  unfold maxLen at hm
  by_cases h : s.size < 1
  · go_enter Try.func20, Try.ntmps20
    go_wp2
    go_ret2
    exact ⟨rfl, Below.refl _ _⟩
  · have h2 : 100 < s.size := by omega
    go_enter Try.func20, Try.ntmps20
    go_wp2
    go_ret2
    exact ⟨rfl, Below.refl _ _⟩
end Go.Proofs.Ytbjbadnkpeakcaa
