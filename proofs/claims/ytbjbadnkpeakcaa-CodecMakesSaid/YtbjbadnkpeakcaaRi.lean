/- What the document's functions ParseRequest and ParseReply answer. -/
import Derived.Test.YtbjbadnkpeakcaaRh
namespace Go.Proofs.Ytbjbadnkpeakcaa
open Go.RowKit
set_option linter.unusedVariables false
set_option linter.unusedSimpArgs false

set_option maxHeartbeats 1000000 in
set_option maxRecDepth 100000 in
theorem refParseReq_ok (s : ByteArray) (w : World) (h27 : s.size = 27) (h0 : 1 ≤ numAt s 0 1) (h1 : numAt s 0 1 ≤ 21) :
    Calls Try.prog 16 #[.string s] w fun e w' => e = .returned (.tuple #[.agg #[.int .i64 (numAt s 0 1 : Int), .int .u32 (numAt s 1 4 : Int), .int .u32 (numAt s 5 4 : Int), .int .u16 (numAt s 9 2 : Int), .int .i64 (wrap64 (numAt s 11 8 : Int)), .int .i64 (wrap64 (numAt s 19 8 : Int))], .int .i64 0]) ∧ Below w.heap.size w w' := by
  have hl1 : numAt s 1 4 < 4294967296 := by
    have := num_lt ((s.data.toList.drop 1).take 4); unfold numAt
    have h2 : 256 ^ ((s.data.toList.drop 1).take 4).length ≤ 256 ^ 4 := Nat.pow_le_pow_right (by omega) (by rw [List.length_take]; omega)
    omega
  have hl2 : numAt s 5 4 < 4294967296 := by
    have := num_lt ((s.data.toList.drop 5).take 4); unfold numAt
    have h2 : 256 ^ ((s.data.toList.drop 5).take 4).length ≤ 256 ^ 4 := Nat.pow_le_pow_right (by omega) (by rw [List.length_take]; omega)
    omega
  have hl3 : numAt s 9 2 < 65536 := by
    have := num_lt ((s.data.toList.drop 9).take 2); unfold numAt
    have h2 : 256 ^ ((s.data.toList.drop 9).take 2).length ≤ 256 ^ 2 := Nat.pow_le_pow_right (by omega) (by rw [List.length_take]; omega)
    omega
  have hq : ((s[0]'(by omega)).toNat : Int) = (numAt s 0 1 : Int) := by rw [byte_num s 0 (by omega)]
  have G1 := Lib.hid (fun w => get_at s 1 5 4 rfl (by omega) w)
  have G2 := Lib.hid (fun w => get_at s 5 9 4 rfl (by omega) w)
  have G3 := Lib.hid (fun w => get_at s 9 11 2 rfl (by omega) w)
  have G4 := Lib.hid (fun w => get_at s 11 19 8 rfl (by omega) w)
  have G5 := Lib.hid (fun w => get_at s 19 27 8 rfl (by omega) w)
  generalize numAt s 0 1 = n0 at *
  generalize numAt s 1 4 = n1 at *
  generalize numAt s 5 4 = n2 at *
  generalize numAt s 9 2 = n3 at *
  generalize numAt s 11 8 = n4 at *
  generalize numAt s 19 8 = n5 at *
  have b0 : decide ((n0 : Int) < 1) = false := by simp; omega
  have b1 : decide ((21 : Int) < (n0 : Int)) = false := by simp; omega
  obtain ⟨W0, hW0⟩ : ∃ W0, w.alloc (.cells #[.int .i64 0, .int .u32 0, .int .u32 0, .int .u16 0, .int .i64 0, .int .i64 0] 31) = W0 := ⟨_, rfl⟩
  have hR : W0.heap[w.heap.size]? = some (.cells #[.int .i64 0, .int .u32 0, .int .u32 0, .int .u16 0, .int .i64 0, .int .i64 0] 31 (0, 0)) := by rw [← hW0]; exact heap_alloc_new w _
  have HW : Hid (Below w.heap.size w W0) := Lib.hid (by rw [← hW0]; exact (Below.refl _ w).alloc (Nat.le_refl _) _)
  go_enter Try.func16, Try.ntmps16
  go_wp2_with fail
  clear hW0
  have r0 : W0.cell? ⟨w.heap.size, 0, none⟩ = some (.int .i64 0) := Lib.cell_of_heap hR 0
  have r1 : W0.cell? ⟨w.heap.size, 1, none⟩ = some (.int .u32 0) := Lib.cell_of_heap hR 1
  have r2 : W0.cell? ⟨w.heap.size, 2, none⟩ = some (.int .u32 0) := Lib.cell_of_heap hR 2
  have r3 : W0.cell? ⟨w.heap.size, 3, none⟩ = some (.int .u16 0) := Lib.cell_of_heap hR 3
  have r4 : W0.cell? ⟨w.heap.size, 4, none⟩ = some (.int .i64 0) := Lib.cell_of_heap hR 4
  have r5 : W0.cell? ⟨w.heap.size, 5, none⟩ = some (.int .i64 0) := Lib.cell_of_heap hR 5
  have rf : ∀ i, W0.frozen? ⟨w.heap.size, i, none⟩ = false := Lib.frozen_of_heap hR
  have HR := Lib.hid hR
  clear hR
  have v0 : IntKind.i64.wrap (n0 : Int) = (n0 : Int) := IntWalk.i64_in _ (by omega)
  have v1 : IntKind.u32.wrap (n1 : Int) = (n1 : Int) := by rw [IntKind.wrap_u32]; omega
  have v2 : IntKind.u32.wrap (n2 : Int) = (n2 : Int) := by rw [IntKind.wrap_u32]; omega
  have v3 : IntKind.u16.wrap (n3 : Int) = (n3 : Int) := by rw [IntKind.wrap_u16]; omega
  clear hl1 hl2 hl3 h0 h1 b0 b1
  go_region_held3 (fun W => True) (trivial)
    (first | (go_at_call 28; with_reducible refine (G1.out _).mono ?_; rintro r w' ⟨rfl, rfl⟩) | (go_at_call 28; with_reducible refine (G2.out _).mono ?_; rintro r w' ⟨rfl, rfl⟩) | (go_at_call 28; with_reducible refine (G3.out _).mono ?_; rintro r w' ⟨rfl, rfl⟩) | (go_at_call 28; with_reducible refine (G4.out _).mono ?_; rintro r w' ⟨rfl, rfl⟩) | (go_at_call 28; with_reducible refine (G5.out _).mono ?_; rintro r w' ⟨rfl, rfl⟩))
  all_goals (
    go_wp2
    rw [IntWalk.i64_left, IntWalk.i64_left]
    have hB6 := blk_drew (blk_set (blk_set (blk_set (blk_set (blk_set (blk_set HR.out 0 (.int .i64 n0)) 1 (.int .u32 n1)) 2 (.int .u32 n2)) 3 (.int .u16 n3)) 4 (.int .i64 (wrap64 n4))) 5 (.int .i64 (wrap64 n5)))
    refine bodyPost_ret (res_cell_tmp rfl rfl hB6 Try.underlying31 rfl (by kernel_rfl)) rfl ⟨rfl, ?_⟩
    have hb := HW.out
    exact Below.drew ((((((hb.setCell (p := ⟨w.heap.size, 0, none⟩) (Nat.le_refl _) _).setCell (p := ⟨w.heap.size, 1, none⟩) (Nat.le_refl _) _).setCell (p := ⟨w.heap.size, 2, none⟩) (Nat.le_refl _) _).setCell (p := ⟨w.heap.size, 3, none⟩) (Nat.le_refl _) _).setCell (p := ⟨w.heap.size, 4, none⟩) (Nat.le_refl _) _).setCell (p := ⟨w.heap.size, 5, none⟩) (Nat.le_refl _) _))
end Go.Proofs.Ytbjbadnkpeakcaa
