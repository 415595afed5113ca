/- What the document's functions ParseRequest and ParseReply answer. -/
import Derived.Test.YtbjbadnkpeakcaaRg
namespace Go.Proofs.Ytbjbadnkpeakcaa
open Go.RowKit
set_option linter.unusedVariables false
set_option linter.unusedSimpArgs false

theorem num_extract (s : ByteArray) (i j k : Nat) (hk : j = i + k) : num (s.extract i j).data.toList = numAt s i k := by
  subst hk
  unfold numAt
  rw [ByteArray.data_extract, Array.toList_extract, List.extract_eq_take_drop]
  congr 2
  omega

theorem get_at (s : ByteArray) (i j k : Nat) (hk : j = i + k) (h8 : k ≤ 8) (w : World) : Calls Try.prog 28 #[.string (s.extract i j)] w fun e w' => e = .returned (.int .u64 (numAt s i k : Int)) ∧ w = w' := by
  have h := get_any (s.extract i j) w (by rw [ByteArray.size_extract]; omega)
  rwa [num_extract s i j k hk] at h

theorem byte_num (s : ByteArray) (i : Nat) (h : i < s.size) : numAt s i 1 = (s[i]'h).toNat := by
  have e : (s.data.toList.drop i).take 1 = [s[i]'h] := by
    rw [List.drop_eq_getElem_cons (by simpa using h)]
    simp [ByteArray.getElem_eq_getElem_data]
  unfold numAt
  rw [e]
  simp [num]

set_option maxHeartbeats 4000000 in
set_option maxRecDepth 100000 in
theorem refParseRep_ok (s : ByteArray) (w : World) (h18 : s.size = 18) (h1 : numAt s 0 2 ≤ 999) :
    Calls Try.prog 19 #[.string s] w fun e w' => e = .returned (.tuple #[.agg #[.int .i64 (numAt s 0 2 : Int), .int .i64 (wrap64 (numAt s 2 8 : Int)), .int .i64 (wrap64 (numAt s 10 8 : Int))], .int .i64 0]) ∧ Below w.heap.size w w' := by
  have G1 := Lib.hid (fun w => get_at s 0 2 2 rfl (by omega) w)
  have G2 := Lib.hid (fun w => get_at s 2 10 8 rfl (by omega) w)
  have G3 := Lib.hid (fun w => get_at s 10 18 8 rfl (by omega) w)
  generalize numAt s 0 2 = n0 at *
  generalize numAt s 2 8 = n1 at *
  generalize numAt s 10 8 = n2 at *
  have v0 : IntKind.i64.wrap (n0 : Int) = (n0 : Int) := IntWalk.i64_in _ (by omega)
  have b1 : decide ((999 : Int) < (n0 : Int)) = false := by simp; omega
  obtain ⟨W0, hW0⟩ : ∃ W0, w.alloc (.cells #[.int .i64 0, .int .i64 0, .int .i64 0] 36) = W0 := ⟨_, rfl⟩
  have hR : W0.heap[w.heap.size]? = some (.cells #[.int .i64 0, .int .i64 0, .int .i64 0] 36 (0, 0)) := by rw [← hW0]; exact heap_alloc_new w _
  have HW : Hid (Below w.heap.size w W0) := Lib.hid (by rw [← hW0]; exact (Below.refl _ w).alloc (Nat.le_refl _) _)
  go_enter Try.func19, Try.ntmps19
  go_wp2_with (go_at_call 28; refine (G1.out _).mono ?_; rintro r w' ⟨rfl, rfl⟩)
  clear hW0
  have r0 : W0.cell? ⟨w.heap.size, 0, none⟩ = some (.int .i64 0) := Lib.cell_of_heap hR 0
  have r1 : W0.cell? ⟨w.heap.size, 1, none⟩ = some (.int .i64 0) := Lib.cell_of_heap hR 1
  have r2 : W0.cell? ⟨w.heap.size, 2, none⟩ = some (.int .i64 0) := Lib.cell_of_heap hR 2
  have rf : ∀ i, W0.frozen? ⟨w.heap.size, i, none⟩ = false := Lib.frozen_of_heap hR
  have HR := Lib.hid hR
  clear hR
  go_region_held3 (fun W => True) (trivial)
    (first | (go_at_call 28; with_reducible refine (G2.out _).mono ?_; rintro r w' ⟨rfl, rfl⟩) | (go_at_call 28; with_reducible refine (G3.out _).mono ?_; rintro r w' ⟨rfl, rfl⟩))
  go_wp2
  rw [IntWalk.i64_left, IntWalk.i64_left]
  have hB3 := blk_drew (blk_set (blk_set (blk_set HR.out 0 (.int .i64 n0)) 1 (.int .i64 (wrap64 n1))) 2 (.int .i64 (wrap64 n2)))
  refine bodyPost_ret (res_cell_tmp rfl rfl hB3 Try.underlying36 rfl (by kernel_rfl)) rfl ⟨rfl, ?_⟩
  have hb := HW.out
  exact Below.drew (((hb.setCell (p := ⟨w.heap.size, 0, none⟩) (Nat.le_refl _) _).setCell (p := ⟨w.heap.size, 1, none⟩) (Nat.le_refl _) _).setCell (p := ⟨w.heap.size, 2, none⟩) (Nat.le_refl _) _)

set_option maxHeartbeats 400000 in
set_option maxRecDepth 100000 in
theorem refParseRep_size (s : ByteArray) (w : World) (h18 : ¬ s.size = 18) :
    Calls Try.prog 19 #[.string s] w fun e w' => e = .returned (.tuple #[.agg #[.int .i64 0, .int .i64 0, .int .i64 0], .int .i64 170]) ∧ Below w.heap.size w w' := by
  have hsz : ((s.size : Int) == 18) = false := by simp; omega
  have hR := heap_alloc_new w (.cells #[.int .i64 0, .int .i64 0, .int .i64 0] 36)
  have r0 : (w.alloc (.cells #[.int .i64 0, .int .i64 0, .int .i64 0] 36)).cell? ⟨w.heap.size, 0, none⟩ = some (.int .i64 0) := Lib.cell_of_heap hR 0
  have r1 : (w.alloc (.cells #[.int .i64 0, .int .i64 0, .int .i64 0] 36)).cell? ⟨w.heap.size, 1, none⟩ = some (.int .i64 0) := Lib.cell_of_heap hR 1
  have r2 : (w.alloc (.cells #[.int .i64 0, .int .i64 0, .int .i64 0] 36)).cell? ⟨w.heap.size, 2, none⟩ = some (.int .i64 0) := Lib.cell_of_heap hR 2
  have rf : ∀ i, (w.alloc (.cells #[.int .i64 0, .int .i64 0, .int .i64 0] 36)).frozen? ⟨w.heap.size, i, none⟩ = false := Lib.frozen_of_heap hR
  have HR := Lib.hid hR
  clear hR
  have HW : Hid (Below w.heap.size w (w.alloc (.cells #[.int .i64 0, .int .i64 0, .int .i64 0] 36))) := Lib.hid ((Below.refl _ w).alloc (Nat.le_refl _) _)
  go_enter Try.func19, Try.ntmps19
  go_wp2
  exact bodyPost_ret (res_cell_tmp rfl rfl HR.out Try.underlying36 rfl (by kernel_rfl)) rfl ⟨rfl, HW.out⟩

set_option maxHeartbeats 400000 in
set_option maxRecDepth 100000 in
theorem refParseRep_num (s : ByteArray) (w : World) (h18 : s.size = 18) (h1 : 999 < numAt s 0 2) :
    Calls Try.prog 19 #[.string s] w fun e w' => e = .returned (.tuple #[.agg #[.int .i64 0, .int .i64 0, .int .i64 0], .int .i64 170]) ∧ Below w.heap.size w w' := by
  have G1 := Lib.hid (fun w => get_at s 0 2 2 rfl (by omega) w)
  generalize numAt s 0 2 = n0 at *
  have b1 : decide ((999 : Int) < (n0 : Int)) = true := by simp; omega
  have hR := heap_alloc_new w (.cells #[.int .i64 0, .int .i64 0, .int .i64 0] 36)
  have r0 : (w.alloc (.cells #[.int .i64 0, .int .i64 0, .int .i64 0] 36)).cell? ⟨w.heap.size, 0, none⟩ = some (.int .i64 0) := Lib.cell_of_heap hR 0
  have r1 : (w.alloc (.cells #[.int .i64 0, .int .i64 0, .int .i64 0] 36)).cell? ⟨w.heap.size, 1, none⟩ = some (.int .i64 0) := Lib.cell_of_heap hR 1
  have r2 : (w.alloc (.cells #[.int .i64 0, .int .i64 0, .int .i64 0] 36)).cell? ⟨w.heap.size, 2, none⟩ = some (.int .i64 0) := Lib.cell_of_heap hR 2
  have rf : ∀ i, (w.alloc (.cells #[.int .i64 0, .int .i64 0, .int .i64 0] 36)).frozen? ⟨w.heap.size, i, none⟩ = false := Lib.frozen_of_heap hR
  have HR := Lib.hid hR
  clear hR
  have HW : Hid (Below w.heap.size w (w.alloc (.cells #[.int .i64 0, .int .i64 0, .int .i64 0] 36))) := Lib.hid ((Below.refl _ w).alloc (Nat.le_refl _) _)
  go_enter Try.func19, Try.ntmps19
  go_wp2_with (go_at_call 28; refine (G1.out _).mono ?_; rintro r w' ⟨rfl, rfl⟩)
  exact bodyPost_ret (res_cell_tmp rfl rfl HR.out Try.underlying36 rfl (by kernel_rfl)) rfl ⟨rfl, HW.out⟩

set_option maxHeartbeats 400000 in
set_option maxRecDepth 100000 in
theorem refParseReq_size (s : ByteArray) (w : World) (h27 : ¬ s.size = 27) :
    Calls Try.prog 16 #[.string s] w fun e w' => e = .returned (.tuple #[.agg #[.int .i64 0, .int .u32 0, .int .u32 0, .int .u16 0, .int .i64 0, .int .i64 0], .int .i64 170]) ∧ Below w.heap.size w w' := by
  have hsz : ((s.size : Int) == 27) = false := by simp; omega
  have hR := heap_alloc_new w (.cells #[.int .i64 0, .int .u32 0, .int .u32 0, .int .u16 0, .int .i64 0, .int .i64 0] 31)
  have r0 : (w.alloc (.cells #[.int .i64 0, .int .u32 0, .int .u32 0, .int .u16 0, .int .i64 0, .int .i64 0] 31)).cell? ⟨w.heap.size, 0, none⟩ = some (.int .i64 0) := Lib.cell_of_heap hR 0
  have r1 : (w.alloc (.cells #[.int .i64 0, .int .u32 0, .int .u32 0, .int .u16 0, .int .i64 0, .int .i64 0] 31)).cell? ⟨w.heap.size, 1, none⟩ = some (.int .u32 0) := Lib.cell_of_heap hR 1
  have r2 : (w.alloc (.cells #[.int .i64 0, .int .u32 0, .int .u32 0, .int .u16 0, .int .i64 0, .int .i64 0] 31)).cell? ⟨w.heap.size, 2, none⟩ = some (.int .u32 0) := Lib.cell_of_heap hR 2
  have r3 : (w.alloc (.cells #[.int .i64 0, .int .u32 0, .int .u32 0, .int .u16 0, .int .i64 0, .int .i64 0] 31)).cell? ⟨w.heap.size, 3, none⟩ = some (.int .u16 0) := Lib.cell_of_heap hR 3
  have r4 : (w.alloc (.cells #[.int .i64 0, .int .u32 0, .int .u32 0, .int .u16 0, .int .i64 0, .int .i64 0] 31)).cell? ⟨w.heap.size, 4, none⟩ = some (.int .i64 0) := Lib.cell_of_heap hR 4
  have r5 : (w.alloc (.cells #[.int .i64 0, .int .u32 0, .int .u32 0, .int .u16 0, .int .i64 0, .int .i64 0] 31)).cell? ⟨w.heap.size, 5, none⟩ = some (.int .i64 0) := Lib.cell_of_heap hR 5
  have rf : ∀ i, (w.alloc (.cells #[.int .i64 0, .int .u32 0, .int .u32 0, .int .u16 0, .int .i64 0, .int .i64 0] 31)).frozen? ⟨w.heap.size, i, none⟩ = false := Lib.frozen_of_heap hR
  have HR := Lib.hid hR
  clear hR
  have HW : Hid (Below w.heap.size w (w.alloc (.cells #[.int .i64 0, .int .u32 0, .int .u32 0, .int .u16 0, .int .i64 0, .int .i64 0] 31))) := Lib.hid ((Below.refl _ w).alloc (Nat.le_refl _) _)
  go_enter Try.func16, Try.ntmps16
  go_wp2
  exact bodyPost_ret (res_cell_tmp rfl rfl HR.out Try.underlying31 rfl (by kernel_rfl)) rfl ⟨rfl, HW.out⟩

set_option maxHeartbeats 400000 in
set_option maxRecDepth 100000 in
theorem refParseReq_low (s : ByteArray) (w : World) (h27 : s.size = 27) (h0 : numAt s 0 1 < 1) :
    Calls Try.prog 16 #[.string s] w fun e w' => e = .returned (.tuple #[.agg #[.int .i64 0, .int .u32 0, .int .u32 0, .int .u16 0, .int .i64 0, .int .i64 0], .int .i64 170]) ∧ Below w.heap.size w w' := by
  have hq : ((s[0]'(by omega)).toNat : Int) = (numAt s 0 1 : Int) := by rw [byte_num s 0 (by omega)]
  generalize numAt s 0 1 = n0 at *
  have b0 : decide ((n0 : Int) < 1) = true := by simp; omega
  have hR := heap_alloc_new w (.cells #[.int .i64 0, .int .u32 0, .int .u32 0, .int .u16 0, .int .i64 0, .int .i64 0] 31)
  have r0 : (w.alloc (.cells #[.int .i64 0, .int .u32 0, .int .u32 0, .int .u16 0, .int .i64 0, .int .i64 0] 31)).cell? ⟨w.heap.size, 0, none⟩ = some (.int .i64 0) := Lib.cell_of_heap hR 0
  have r1 : (w.alloc (.cells #[.int .i64 0, .int .u32 0, .int .u32 0, .int .u16 0, .int .i64 0, .int .i64 0] 31)).cell? ⟨w.heap.size, 1, none⟩ = some (.int .u32 0) := Lib.cell_of_heap hR 1
  have r2 : (w.alloc (.cells #[.int .i64 0, .int .u32 0, .int .u32 0, .int .u16 0, .int .i64 0, .int .i64 0] 31)).cell? ⟨w.heap.size, 2, none⟩ = some (.int .u32 0) := Lib.cell_of_heap hR 2
  have r3 : (w.alloc (.cells #[.int .i64 0, .int .u32 0, .int .u32 0, .int .u16 0, .int .i64 0, .int .i64 0] 31)).cell? ⟨w.heap.size, 3, none⟩ = some (.int .u16 0) := Lib.cell_of_heap hR 3
  have r4 : (w.alloc (.cells #[.int .i64 0, .int .u32 0, .int .u32 0, .int .u16 0, .int .i64 0, .int .i64 0] 31)).cell? ⟨w.heap.size, 4, none⟩ = some (.int .i64 0) := Lib.cell_of_heap hR 4
  have r5 : (w.alloc (.cells #[.int .i64 0, .int .u32 0, .int .u32 0, .int .u16 0, .int .i64 0, .int .i64 0] 31)).cell? ⟨w.heap.size, 5, none⟩ = some (.int .i64 0) := Lib.cell_of_heap hR 5
  have rf : ∀ i, (w.alloc (.cells #[.int .i64 0, .int .u32 0, .int .u32 0, .int .u16 0, .int .i64 0, .int .i64 0] 31)).frozen? ⟨w.heap.size, i, none⟩ = false := Lib.frozen_of_heap hR
  have HR := Lib.hid hR
  clear hR
  have HW : Hid (Below w.heap.size w (w.alloc (.cells #[.int .i64 0, .int .u32 0, .int .u32 0, .int .u16 0, .int .i64 0, .int .i64 0] 31))) := Lib.hid ((Below.refl _ w).alloc (Nat.le_refl _) _)
  go_enter Try.func16, Try.ntmps16
  go_wp2
  exact bodyPost_ret (res_cell_tmp rfl rfl HR.out Try.underlying31 rfl (by kernel_rfl)) rfl ⟨rfl, HW.out⟩

set_option maxHeartbeats 400000 in
set_option maxRecDepth 100000 in
theorem refParseReq_high (s : ByteArray) (w : World) (h27 : s.size = 27) (h0 : 1 ≤ numAt s 0 1) (h1 : 21 < numAt s 0 1) :
    Calls Try.prog 16 #[.string s] w fun e w' => e = .returned (.tuple #[.agg #[.int .i64 0, .int .u32 0, .int .u32 0, .int .u16 0, .int .i64 0, .int .i64 0], .int .i64 170]) ∧ Below w.heap.size w w' := by
  have hq : ((s[0]'(by omega)).toNat : Int) = (numAt s 0 1 : Int) := by rw [byte_num s 0 (by omega)]
  generalize numAt s 0 1 = n0 at *
  have b0 : decide ((n0 : Int) < 1) = false := by simp; omega
  have b1 : decide ((21 : Int) < (n0 : Int)) = true := by simp; omega
  have hR := heap_alloc_new w (.cells #[.int .i64 0, .int .u32 0, .int .u32 0, .int .u16 0, .int .i64 0, .int .i64 0] 31)
  have r0 : (w.alloc (.cells #[.int .i64 0, .int .u32 0, .int .u32 0, .int .u16 0, .int .i64 0, .int .i64 0] 31)).cell? ⟨w.heap.size, 0, none⟩ = some (.int .i64 0) := Lib.cell_of_heap hR 0
  have r1 : (w.alloc (.cells #[.int .i64 0, .int .u32 0, .int .u32 0, .int .u16 0, .int .i64 0, .int .i64 0] 31)).cell? ⟨w.heap.size, 1, none⟩ = some (.int .u32 0) := Lib.cell_of_heap hR 1
  have r2 : (w.alloc (.cells #[.int .i64 0, .int .u32 0, .int .u32 0, .int .u16 0, .int .i64 0, .int .i64 0] 31)).cell? ⟨w.heap.size, 2, none⟩ = some (.int .u32 0) := Lib.cell_of_heap hR 2
  have r3 : (w.alloc (.cells #[.int .i64 0, .int .u32 0, .int .u32 0, .int .u16 0, .int .i64 0, .int .i64 0] 31)).cell? ⟨w.heap.size, 3, none⟩ = some (.int .u16 0) := Lib.cell_of_heap hR 3
  have r4 : (w.alloc (.cells #[.int .i64 0, .int .u32 0, .int .u32 0, .int .u16 0, .int .i64 0, .int .i64 0] 31)).cell? ⟨w.heap.size, 4, none⟩ = some (.int .i64 0) := Lib.cell_of_heap hR 4
  have r5 : (w.alloc (.cells #[.int .i64 0, .int .u32 0, .int .u32 0, .int .u16 0, .int .i64 0, .int .i64 0] 31)).cell? ⟨w.heap.size, 5, none⟩ = some (.int .i64 0) := Lib.cell_of_heap hR 5
  have rf : ∀ i, (w.alloc (.cells #[.int .i64 0, .int .u32 0, .int .u32 0, .int .u16 0, .int .i64 0, .int .i64 0] 31)).frozen? ⟨w.heap.size, i, none⟩ = false := Lib.frozen_of_heap hR
  have HR := Lib.hid hR
  clear hR
  have HW : Hid (Below w.heap.size w (w.alloc (.cells #[.int .i64 0, .int .u32 0, .int .u32 0, .int .u16 0, .int .i64 0, .int .i64 0] 31))) := Lib.hid ((Below.refl _ w).alloc (Nat.le_refl _) _)
  go_enter Try.func16, Try.ntmps16
  go_wp2
  exact bodyPost_ret (res_cell_tmp rfl rfl HR.out Try.underlying31 rfl (by kernel_rfl)) rfl ⟨rfl, HW.out⟩

end Go.Proofs.Ytbjbadnkpeakcaa
