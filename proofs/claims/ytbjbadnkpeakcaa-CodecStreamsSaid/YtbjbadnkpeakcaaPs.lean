/- What codec.ParseRequest and codec.ParseReply answer. -/
import Derived.Test.YtbjbadnkpeakcaaRd
import Derived.Test.YtbjbadnkpeakcaaMk
import Derived.Deep.RegionHeld3
import Derived.Test.YtbjbadnkpeakcaaMem
set_option linter.unusedSimpArgs false
namespace Go.Proofs.Ytbjbadnkpeakcaa
open Go.RowKit
set_option linter.unusedVariables false

theorem call_read (s : ByteArray) (W : World) (ba n : Nat) (sizes : List Nat) (cs : Array Value) (hba : W.heap.size = ba) (hcs : cs = szCells sizes) (hn' : sizes.length = n) (hsz : s.size = sizes.sum) (h8 : ∀ k ∈ sizes, k ≤ 8) (hn : n ≤ 100) :
    Calls Try.prog 25 #[.string s, .slice (some ⟨ba, 0, none⟩) n n] (W.alloc (.cells cs 3)) fun e w' => ∃ v, e = .returned (.tuple #[v, .bool true]) ∧
      w'.ownsRow W.heap.size 56 1 v n (vals (rows 0 sizes s.data.toList)) ∧ Below W.heap.size W w' := by
  subst hn' hcs hba
  refine (read_ok s W.heap.size sizes _ hsz h8 hn (heap_alloc_new W _)).mono ?_
  rintro e w' ⟨v, he, ho, hb⟩
  exact ⟨v, he, ownsRow_base ho (by simp), ((Below.refl _ W).alloc (Nat.le_refl _) _).trans (hb.mono (by simp))⟩
theorem call_read_bad (s : ByteArray) (W : World) (ba n : Nat) (sizes : List Nat) (cs : Array Value) (hba : W.heap.size = ba) (hcs : cs = szCells sizes) (hn' : sizes.length = n) (hsz : ¬ s.size = sizes.sum) (h8 : ∀ k ∈ sizes, k ≤ 8) (hn : n ≤ 100) :
    Calls Try.prog 25 #[.string s, .slice (some ⟨ba, 0, none⟩) n n] (W.alloc (.cells cs 3)) fun e w' => e = .returned (.tuple #[.slice none 0 0, .bool false]) ∧ Below W.heap.size W w' := by
  subst hn' hcs hba
  refine (read_bad s W.heap.size sizes _ hsz h8 hn (heap_alloc_new W _)).mono ?_
  rintro e w' ⟨he, hb⟩
  exact ⟨he, ((Below.refl _ W).alloc (Nat.le_refl _) _).trans (hb.mono (by simp))⟩

theorem add_plain (g j : Nat) : (⟨g, 0, none⟩ : Addr).add j = ⟨g, j, none⟩ := by unfold Addr.add; split <;> simp_all

/-- The number of k bytes from i on. -/
def numAt (s : ByteArray) (i k : Nat) : Nat := num ((s.data.toList.drop i).take k)

theorem numAt_lt (s : ByteArray) (i k : Nat) (h : k ≤ 8) : numAt s i k < 18446744073709551616 := num_take_lt _ _ h

theorem rows_req (s : ByteArray) : vals (rows 0 [1, 4, 4, 2, 8, 8] s.data.toList) = [.int .u64 (numAt s 0 1 : Int), .int .u64 (numAt s 1 4 : Int), .int .u64 (numAt s 5 4 : Int), .int .u64 (numAt s 9 2 : Int), .int .u64 (numAt s 11 8 : Int), .int .u64 (numAt s 19 8 : Int)] := by
  simp [rows, vals, numAt]

set_option maxHeartbeats 1000000 in
set_option maxRecDepth 100000 in
theorem parseReq_ok (s : ByteArray) (w : World) (h27 : s.size = 27) (h0 : 1 ≤ numAt s 0 1) (h1 : numAt s 0 1 ≤ 21) :
    Calls Try.prog 11 #[.string s] w fun e w' => e = .returned (.tuple #[.agg #[.int .i64 (numAt s 0 1 : Int), .int .u32 (numAt s 1 4 : Int), .int .u32 (numAt s 5 4 : Int), .int .u16 (numAt s 9 2 : Int), .int .i64 (wrap64 (numAt s 11 8 : Int)), .int .i64 (wrap64 (numAt s 19 8 : Int))], .int .i64 0]) ∧ Below w.heap.size w w' := by
  have hl1 : numAt s 1 4 < 4294967296 := by
    have := num_lt ((s.data.toList.drop 1).take 4); unfold numAt
    have h2 : 256 ^ ((s.data.toList.drop 1).take 4).length ≤ 256 ^ 4 := Nat.pow_le_pow_right (by omega) (by rw [List.length_take]; omega)
    omega
  have hl2 : numAt s 5 4 < 4294967296 := by
    have := num_lt ((s.data.toList.drop 5).take 4); unfold numAt
    have h2 : 256 ^ ((s.data.toList.drop 5).take 4).length ≤ 256 ^ 4 := Nat.pow_le_pow_right (by omega) (by rw [List.length_take]; omega)
    omega
  have hl3 : numAt s 9 2 < 65536 := by
    have := num_lt ((s.data.toList.drop 9).take 2); unfold numAt
    have h2 : 256 ^ ((s.data.toList.drop 9).take 2).length ≤ 256 ^ 2 := Nat.pow_le_pow_right (by omega) (by rw [List.length_take]; omega)
    omega
  have HR := Lib.hid (rows_req s)
  have HZ := Lib.hid h27
  clear h27
  generalize numAt s 0 1 = n0 at *
  generalize numAt s 1 4 = n1 at *
  generalize numAt s 5 4 = n2 at *
  generalize numAt s 9 2 = n3 at *
  generalize numAt s 11 8 = n4 at *
  generalize numAt s 19 8 = n5 at *
  go_enter Try.func11, Try.ntmps11
  go_wp2_with fail
  refine (call_read s (w.alloc _) (w.heap.size + 1) 6 [1, 4, 4, 2, 8, 8] _ (by simp) rfl rfl (by rw [HZ.out]; rfl) (by decide) (by omega)).mono ?_
  rintro e w1 ⟨v, rfl, ho, hb⟩
  rw [HR.out] at ho
  obtain ⟨g, cap, rfl⟩ := ownsRow_succ ho
  have hc : ∀ i u, [Value.int .u64 (n0 : Int), .int .u64 (n1 : Int), .int .u64 (n2 : Int), .int .u64 (n3 : Int), .int .u64 (n4 : Int), .int .u64 (n5 : Int)][i]? = some u → w1.cell? ⟨g, i, none⟩ = some u := fun i u hu => by
    have := ho.cells (g := g) rfl i u hu
    rwa [add_plain] at this
  have hR := (hb.block w.heap.size (by simp)).trans (heap_alloc_new w _)
  have q0 := hc 0 _ rfl
  have q1 := hc 1 _ rfl
  have q2 := hc 2 _ rfl
  have q3 := hc 3 _ rfl
  have q4 := hc 4 _ rfl
  have q5 := hc 5 _ rfl
  have r0 : w1.cell? ⟨w.heap.size, 0, none⟩ = some (.int .i64 0) := Lib.cell_of_heap hR 0
  have r1 : w1.cell? ⟨w.heap.size, 1, none⟩ = some (.int .u32 0) := Lib.cell_of_heap hR 1
  have r2 : w1.cell? ⟨w.heap.size, 2, none⟩ = some (.int .u32 0) := Lib.cell_of_heap hR 2
  have r3 : w1.cell? ⟨w.heap.size, 3, none⟩ = some (.int .u16 0) := Lib.cell_of_heap hR 3
  have r4 : w1.cell? ⟨w.heap.size, 4, none⟩ = some (.int .i64 0) := Lib.cell_of_heap hR 4
  have r5 : w1.cell? ⟨w.heap.size, 5, none⟩ = some (.int .i64 0) := Lib.cell_of_heap hR 5
  have rf : ∀ i, w1.frozen? ⟨w.heap.size, i, none⟩ = false := Lib.frozen_of_heap hR
  have H := Lib.hid (And.intro hb (And.intro ho hR))
  clear hb ho hR hc
  go_wp2_with (go_at_call 26; refine (isOp_yes _ _ (by omega) (by omega)).mono ?_; rintro e w' ⟨rfl, rfl⟩)
  go_still_tail 25, (by kernel_rfl)
  change wpList _ _ _ _ _ w1.drew
  go_wp2
  have hB : w1.heap[w.heap.size]? = some (.cells #[.int .i64 0, .int .u32 0, .int .u32 0, .int .u16 0, .int .i64 0, .int .i64 0] 31 (0, 0)) := H.out.2.2
  have hB6 := blk_drew (blk_set (blk_set (blk_set (blk_set (blk_set (blk_set hB 0 (.int .i64 n0)) 1 (.int .u32 n1)) 2 (.int .u32 n2)) 3 (.int .u16 n3)) 4 (.int .i64 (wrap64 n4))) 5 (.int .i64 (wrap64 n5)))
  refine bodyPost_ret (res_cell_tmp rfl rfl hB6 Try.underlying31 rfl (by kernel_rfl)) rfl ⟨rfl, ?_⟩
  have hb := (below_box H.out.1)
  exact Below.drew ((((((hb.setCell (p := ⟨w.heap.size, 0, none⟩) (Nat.le_refl _) _).setCell (p := ⟨w.heap.size, 1, none⟩) (Nat.le_refl _) _).setCell (p := ⟨w.heap.size, 2, none⟩) (Nat.le_refl _) _).setCell (p := ⟨w.heap.size, 3, none⟩) (Nat.le_refl _) _).setCell (p := ⟨w.heap.size, 4, none⟩) (Nat.le_refl _) _).setCell (p := ⟨w.heap.size, 5, none⟩) (Nat.le_refl _) _)

set_option maxHeartbeats 400000 in
set_option maxRecDepth 100000 in
theorem parseReq_size (s : ByteArray) (w : World) (h27 : ¬ s.size = 27) :
    Calls Try.prog 11 #[.string s] w fun e w' => e = .returned (.tuple #[.agg #[.int .i64 0, .int .u32 0, .int .u32 0, .int .u16 0, .int .i64 0, .int .i64 0], .int .i64 170]) ∧ Below w.heap.size w w' := by
  have HZ := Lib.hid h27
  clear h27
  go_enter Try.func11, Try.ntmps11
  go_wp2_with fail
  refine (call_read_bad s (w.alloc _) (w.heap.size + 1) 6 [1, 4, 4, 2, 8, 8] _ (by simp) rfl rfl (by simpa using HZ.out) (by decide) (by omega)).mono ?_
  rintro e w1 ⟨rfl, hb⟩
  have hR := (hb.block w.heap.size (by simp)).trans (heap_alloc_new w _)
  have r0 : w1.cell? ⟨w.heap.size, 0, none⟩ = some (.int .i64 0) := Lib.cell_of_heap hR 0
  have r1 : w1.cell? ⟨w.heap.size, 1, none⟩ = some (.int .u32 0) := Lib.cell_of_heap hR 1
  have r2 : w1.cell? ⟨w.heap.size, 2, none⟩ = some (.int .u32 0) := Lib.cell_of_heap hR 2
  have r3 : w1.cell? ⟨w.heap.size, 3, none⟩ = some (.int .u16 0) := Lib.cell_of_heap hR 3
  have r4 : w1.cell? ⟨w.heap.size, 4, none⟩ = some (.int .i64 0) := Lib.cell_of_heap hR 4
  have r5 : w1.cell? ⟨w.heap.size, 5, none⟩ = some (.int .i64 0) := Lib.cell_of_heap hR 5
  have rf : ∀ i, w1.frozen? ⟨w.heap.size, i, none⟩ = false := Lib.frozen_of_heap hR
  have H := Lib.hid (And.intro hb hR)
  clear hb hR
  go_wp2
  have hB : w1.heap[w.heap.size]? = some (.cells #[.int .i64 0, .int .u32 0, .int .u32 0, .int .u16 0, .int .i64 0, .int .i64 0] 31 (0, 0)) := H.out.2
  have hB6 := blk_set (blk_set (blk_set (blk_set (blk_set (blk_set hB 0 (.int .i64 0)) 1 (.int .u32 0)) 2 (.int .u32 0)) 3 (.int .u16 0)) 4 (.int .i64 0)) 5 (.int .i64 0)
  refine bodyPost_ret (res_cell_tmp rfl rfl hB6 Try.underlying31 rfl (by kernel_rfl)) rfl ⟨rfl, ?_⟩
  have hb := (below_box H.out.1)
  exact ((((((hb.setCell (p := ⟨w.heap.size, 0, none⟩) (Nat.le_refl _) _).setCell (p := ⟨w.heap.size, 1, none⟩) (Nat.le_refl _) _).setCell (p := ⟨w.heap.size, 2, none⟩) (Nat.le_refl _) _).setCell (p := ⟨w.heap.size, 3, none⟩) (Nat.le_refl _) _).setCell (p := ⟨w.heap.size, 4, none⟩) (Nat.le_refl _) _).setCell (p := ⟨w.heap.size, 5, none⟩) (Nat.le_refl _) _)

set_option maxHeartbeats 400000 in
set_option maxRecDepth 100000 in
theorem parseReq_op (s : ByteArray) (w : World) (h27 : s.size = 27) (h0 : numAt s 0 1 < 1 ∨ 21 < numAt s 0 1) :
    Calls Try.prog 11 #[.string s] w fun e w' => e = .returned (.tuple #[.agg #[.int .i64 0, .int .u32 0, .int .u32 0, .int .u16 0, .int .i64 0, .int .i64 0], .int .i64 170]) ∧ Below w.heap.size w w' := by
  have HR := Lib.hid (rows_req s)
  have HZ := Lib.hid h27
  clear h27
  generalize numAt s 0 1 = n0 at *
  generalize numAt s 1 4 = n1 at *
  generalize numAt s 5 4 = n2 at *
  generalize numAt s 9 2 = n3 at *
  generalize numAt s 11 8 = n4 at *
  generalize numAt s 19 8 = n5 at *
  go_enter Try.func11, Try.ntmps11
  go_wp2_with fail
  refine (call_read s (w.alloc _) (w.heap.size + 1) 6 [1, 4, 4, 2, 8, 8] _ (by simp) rfl rfl (by rw [HZ.out]; rfl) (by decide) (by omega)).mono ?_
  rintro e w1 ⟨v, rfl, ho, hb⟩
  rw [HR.out] at ho
  obtain ⟨g, cap, rfl⟩ := ownsRow_succ ho
  have hc : ∀ i u, [Value.int .u64 (n0 : Int), .int .u64 (n1 : Int), .int .u64 (n2 : Int), .int .u64 (n3 : Int), .int .u64 (n4 : Int), .int .u64 (n5 : Int)][i]? = some u → w1.cell? ⟨g, i, none⟩ = some u := fun i u hu => by
    have := ho.cells (g := g) rfl i u hu
    rwa [add_plain] at this
  have hR := (hb.block w.heap.size (by simp)).trans (heap_alloc_new w _)
  have q0 := hc 0 _ rfl
  have r0 : w1.cell? ⟨w.heap.size, 0, none⟩ = some (.int .i64 0) := Lib.cell_of_heap hR 0
  have r1 : w1.cell? ⟨w.heap.size, 1, none⟩ = some (.int .u32 0) := Lib.cell_of_heap hR 1
  have r2 : w1.cell? ⟨w.heap.size, 2, none⟩ = some (.int .u32 0) := Lib.cell_of_heap hR 2
  have r3 : w1.cell? ⟨w.heap.size, 3, none⟩ = some (.int .u16 0) := Lib.cell_of_heap hR 3
  have r4 : w1.cell? ⟨w.heap.size, 4, none⟩ = some (.int .i64 0) := Lib.cell_of_heap hR 4
  have r5 : w1.cell? ⟨w.heap.size, 5, none⟩ = some (.int .i64 0) := Lib.cell_of_heap hR 5
  have rf : ∀ i, w1.frozen? ⟨w.heap.size, i, none⟩ = false := Lib.frozen_of_heap hR
  have H := Lib.hid (And.intro hb hR)
  clear hb ho hR hc
  go_wp2_with (go_at_call 26; refine (isOp_no _ _ (by omega)).mono ?_; rintro e w' ⟨rfl, rfl⟩)
  have hB : w1.heap[w.heap.size]? = some (.cells #[.int .i64 0, .int .u32 0, .int .u32 0, .int .u16 0, .int .i64 0, .int .i64 0] 31 (0, 0)) := H.out.2
  have hB6 := blk_set (blk_set (blk_set (blk_set (blk_set (blk_set hB 0 (.int .i64 0)) 1 (.int .u32 0)) 2 (.int .u32 0)) 3 (.int .u16 0)) 4 (.int .i64 0)) 5 (.int .i64 0)
  refine bodyPost_ret (res_cell_tmp rfl rfl hB6 Try.underlying31 rfl (by kernel_rfl)) rfl ⟨rfl, ?_⟩
  have hb := (below_box H.out.1)
  exact ((((((hb.setCell (p := ⟨w.heap.size, 0, none⟩) (Nat.le_refl _) _).setCell (p := ⟨w.heap.size, 1, none⟩) (Nat.le_refl _) _).setCell (p := ⟨w.heap.size, 2, none⟩) (Nat.le_refl _) _).setCell (p := ⟨w.heap.size, 3, none⟩) (Nat.le_refl _) _).setCell (p := ⟨w.heap.size, 4, none⟩) (Nat.le_refl _) _).setCell (p := ⟨w.heap.size, 5, none⟩) (Nat.le_refl _) _)
end Go.Proofs.Ytbjbadnkpeakcaa
