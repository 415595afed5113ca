/- What codec.ParseReply answers. -/
import Derived.Test.YtbjbadnkpeakcaaPs
set_option linter.unusedSimpArgs false
namespace Go.Proofs.Ytbjbadnkpeakcaa
open Go.RowKit
set_option linter.unusedVariables false

theorem rows_rep (s : ByteArray) : vals (rows 0 [2, 8, 8] s.data.toList) = [.int .u64 (numAt s 0 2 : Int), .int .u64 (numAt s 2 8 : Int), .int .u64 (numAt s 10 8 : Int)] := by
  simp [rows, vals, numAt]

theorem u64_wrap (n : Nat) (h : n < 18446744073709551616) : u64 (wrap64 (n : Int)) = n := by
  unfold u64 wrap64
  rw [IntKind.wrap_u64]
  omega

theorem be_numAt (s : ByteArray) (i k : Nat) (h : i + k ≤ s.size) : be (numAt s i k) k = (s.data.toList.drop i).take k := by
  have hl : ((s.data.toList.drop i).take k).length = k := by
    rw [List.length_take, List.length_drop]
    have : s.data.toList.length = s.size := by simp
    omega
  have := be_num' ((s.data.toList.drop i).take k)
  rw [hl] at this
  exact this

theorem reply_back (s : ByteArray) (h : s.size = 18) : (⟨(be (numAt s 0 2) 2 ++ be (u64 (wrap64 (numAt s 2 8 : Int))) 8 ++ be (u64 (wrap64 (numAt s 10 8 : Int))) 8).toArray⟩ : ByteArray) = s := by
  rw [u64_wrap _ (numAt_lt s 2 8 (by omega)), u64_wrap _ (numAt_lt s 10 8 (by omega)), be_numAt s 0 2 (by omega), be_numAt s 2 8 (by omega), be_numAt s 10 8 (by omega)]
  apply ByteArray.ext
  apply Array.toList_inj.1
  simp only [List.drop_zero]
  have hl : s.data.toList.length = 18 := by simpa using h
  have h1 : (s.data.toList.drop 10).take 8 = s.data.toList.drop 10 := List.take_of_length_le (by rw [List.length_drop]; omega)
  rw [h1]
  have h2 : (s.data.toList.drop 2).take 8 ++ s.data.toList.drop 10 = s.data.toList.drop 2 := by
    have := List.take_append_drop 8 (s.data.toList.drop 2)
    rwa [List.drop_drop] at this
  rw [List.append_assoc, h2, List.take_append_drop]

set_option maxHeartbeats 1000000 in
set_option maxRecDepth 100000 in
theorem parseRep_ok (s : ByteArray) (w : World) (h18 : s.size = 18) (h1 : numAt s 0 2 ≤ 999) :
    Calls Try.prog 13 #[.string s] w fun e w' => e = .returned (.tuple #[.agg #[.int .i64 (numAt s 0 2 : Int), .int .i64 (wrap64 (numAt s 2 8 : Int)), .int .i64 (wrap64 (numAt s 10 8 : Int))], .int .i64 0]) ∧ Below w.heap.size w w' := by
  have HR := Lib.hid (rows_rep s)
  have HK := Lib.hid (reply_back s h18)
  have HZ := Lib.hid h18
  clear h18
  generalize numAt s 0 2 = n0 at *
  generalize numAt s 2 8 = n1 at *
  generalize numAt s 10 8 = n2 at *
  go_enter Try.func13, Try.ntmps13
  go_wp2_with fail
  refine wp_scope_goto 0 rfl ?_
  go_wp2_with fail
  refine (call_read s ((w.alloc _).alloc _) (w.heap.size + 1 + 1) 3 [2, 8, 8] _ (by simp) rfl rfl (by rw [HZ.out]; rfl) (by decide) (by omega)).mono ?_
  rintro e w1 ⟨v, rfl, ho, hb⟩
  rw [HR.out] at ho
  obtain ⟨g, cap, rfl⟩ := ownsRow_succ ho
  have hc : ∀ i u, [Value.int .u64 (n0 : Int), .int .u64 (n1 : Int), .int .u64 (n2 : Int)][i]? = some u → w1.cell? ⟨g, i, none⟩ = some u := fun i u hu => by
    have := ho.cells (g := g) rfl i u hu
    rwa [add_plain] at this
  have q0 := hc 0 _ rfl
  have q1 := hc 1 _ rfl
  have q2 := hc 2 _ rfl
  have hR := (hb.block w.heap.size (by simp; omega)).trans (two_new w (.cells #[.int .i64 0, .int .i64 0, .int .i64 0] 36) (.cells #[.int .i64 0, .int .i64 0, .int .i64 0] 36)).1
  have hA := (hb.block (w.heap.size + 1) (by simp)).trans (two_new w (.cells #[.int .i64 0, .int .i64 0, .int .i64 0] 36) (.cells #[.int .i64 0, .int .i64 0, .int .i64 0] 36)).2
  have hbw : Below w.heap.size w w1 := (((Below.refl _ w).alloc (Nat.le_refl _) _).alloc (by simp) _).trans (hb.mono (by simp; omega))
  have ht := blk_there (blk_drew hA) 3 (Nat.le_refl 3)
  have H := Lib.hid (And.intro hbw (And.intro hA (And.intro hR ht)))
  clear hb ho hR hA hc hbw ht
  go_wp2_with fail
  go_still_tail 13, (by kernel_rfl)
  change wpList _ _ _ _ _ w1.drew
  refine wpList_store_mid rfl 36 _ _ rfl (w.heap.size + 1) 0 _ rfl rfl H.out.2.2.2 (by kernel_rfl) (by simp [Value.oneCell']) ?_
  obtain ⟨W2, hW2⟩ : ∃ W2, w1.drew.setCells (w.heap.size + 1) 0 [.int .i64 (IntKind.i64.wrap n0), .int .i64 (IntKind.i64.wrap n1), .int .i64 (IntKind.i64.wrap n2)] = W2 := ⟨_, rfl⟩
  have h2 : W2.heap[w.heap.size + 1]? = some (.cells #[.int .i64 (IntKind.i64.wrap n0), .int .i64 (IntKind.i64.wrap n1), .int .i64 (IntKind.i64.wrap n2)] 36 (0, 0)) := by
    rw [← hW2]; exact setCells_whole (blk_drew H.out.2.1) _ rfl
  have h3 : W2.heap[w.heap.size]? = some (.cells #[.int .i64 0, .int .i64 0, .int .i64 0] 36 (0, 0)) := by
    rw [← hW2]; exact (setCells_other _ _ _ _ (by simp)).trans (blk_drew H.out.2.2.1)
  have h4 : Below w.heap.size w W2 := by
    rw [← hW2]; exact below_setCells (by simp) _ _ _ (Below.drew H.out.1)
  rw [hW2]
  clear hW2 q0 q1 q2 H
  rw [IntWalk.i64_in _ (by omega : -9223372036854775808 ≤ (n0 : Int) ∧ (n0 : Int) ≤ 9223372036854775807), IntWalk.i64_left, IntWalk.i64_left] at h2
  have c0 : W2.cell? ⟨w.heap.size + 1, 0, none⟩ = some (.int .i64 n0) := Lib.cell_of_heap h2 0
  have c1 : W2.cell? ⟨w.heap.size + 1, 1, none⟩ = some (.int .i64 (wrap64 n1)) := Lib.cell_of_heap h2 1
  have c2 : W2.cell? ⟨w.heap.size + 1, 2, none⟩ = some (.int .i64 (wrap64 n2)) := Lib.cell_of_heap h2 2
  go_wp2_with fail
  refine (reply_ok n0 _ _ _ h1).mono ?_
  rintro e w3 ⟨rfl, hb3⟩
  have h5 := (hb3.block _ (Array.getElem?_eq_some_iff.1 h2).1).trans h2
  have h6 := (hb3.block _ (Array.getElem?_eq_some_iff.1 h3).1).trans h3
  have h7 := h4.trans (hb3.mono h4.size)
  rw [HK.out]
  have a0 : w3.cell? ⟨w.heap.size + 1, 0, none⟩ = some (.int .i64 n0) := Lib.cell_of_heap h5 0
  have a1 : w3.cell? ⟨w.heap.size + 1, 1, none⟩ = some (.int .i64 (wrap64 n1)) := Lib.cell_of_heap h5 1
  have a2 : w3.cell? ⟨w.heap.size + 1, 2, none⟩ = some (.int .i64 (wrap64 n2)) := Lib.cell_of_heap h5 2
  have b0 : w3.cell? ⟨w.heap.size, 0, none⟩ = some (.int .i64 0) := Lib.cell_of_heap h6 0
  have b1 : w3.cell? ⟨w.heap.size, 1, none⟩ = some (.int .i64 0) := Lib.cell_of_heap h6 1
  have b2 : w3.cell? ⟨w.heap.size, 2, none⟩ = some (.int .i64 0) := Lib.cell_of_heap h6 2
  have bf : ∀ i, w3.frozen? ⟨w.heap.size, i, none⟩ = false := Lib.frozen_of_heap h6
  have H := Lib.hid (And.intro h6 h7)
  clear h2 h3 h4 hb3 h5 h6 h7
  go_wp2
  rw [Exit.fwd_ret]
  have hB6 := blk_set (blk_set (blk_set H.out.1 0 (.int .i64 n0)) 1 (.int .i64 (wrap64 n1))) 2 (.int .i64 (wrap64 n2))
  refine bodyPost_ret (res_cell_tmp rfl rfl hB6 Try.underlying36 rfl (by kernel_rfl)) rfl ⟨rfl, ?_⟩
  exact ((H.out.2.setCell (p := ⟨w.heap.size, 0, none⟩) (Nat.le_refl _) _).setCell (p := ⟨w.heap.size, 1, none⟩) (Nat.le_refl _) _).setCell (p := ⟨w.heap.size, 2, none⟩) (Nat.le_refl _) _

set_option maxHeartbeats 400000 in
set_option maxRecDepth 100000 in
theorem parseRep_size (s : ByteArray) (w : World) (h18 : ¬ s.size = 18) :
    Calls Try.prog 13 #[.string s] w fun e w' => e = .returned (.tuple #[.agg #[.int .i64 0, .int .i64 0, .int .i64 0], .int .i64 170]) ∧ Below w.heap.size w w' := by
  have HZ := Lib.hid h18
  clear h18
  go_enter Try.func13, Try.ntmps13
  go_wp2_with fail
  refine wp_scope_goto 0 rfl ?_
  go_wp2_with fail
  refine (call_read_bad s ((w.alloc _).alloc _) (w.heap.size + 1 + 1) 3 [2, 8, 8] _ (by simp) rfl rfl (by simpa using HZ.out) (by decide) (by omega)).mono ?_
  rintro e w1 ⟨rfl, hb⟩
  have hR := (hb.block w.heap.size (by simp; omega)).trans (two_new w (.cells #[.int .i64 0, .int .i64 0, .int .i64 0] 36) (.cells #[.int .i64 0, .int .i64 0, .int .i64 0] 36)).1
  have hbw : Below w.heap.size w w1 := (((Below.refl _ w).alloc (Nat.le_refl _) _).alloc (by simp) _).trans (hb.mono (by simp; omega))
  have b0 : w1.cell? ⟨w.heap.size, 0, none⟩ = some (.int .i64 0) := Lib.cell_of_heap hR 0
  have b1 : w1.cell? ⟨w.heap.size, 1, none⟩ = some (.int .i64 0) := Lib.cell_of_heap hR 1
  have b2 : w1.cell? ⟨w.heap.size, 2, none⟩ = some (.int .i64 0) := Lib.cell_of_heap hR 2
  have bf : ∀ i, w1.frozen? ⟨w.heap.size, i, none⟩ = false := Lib.frozen_of_heap hR
  have H := Lib.hid (And.intro hR hbw)
  clear hR hb hbw
  go_wp2
  go_step3
  refine ⟨rfl, ?_⟩
  go_wp2
  rw [Exit.noGoto_ret]
  have hB6 := blk_set (blk_set (blk_set H.out.1 0 (.int .i64 0)) 1 (.int .i64 0)) 2 (.int .i64 0)
  refine bodyPost_ret (res_cell_tmp rfl rfl hB6 Try.underlying36 rfl (by kernel_rfl)) rfl ⟨rfl, ?_⟩
  exact ((H.out.2.setCell (p := ⟨w.heap.size, 0, none⟩) (Nat.le_refl _) _).setCell (p := ⟨w.heap.size, 1, none⟩) (Nat.le_refl _) _).setCell (p := ⟨w.heap.size, 2, none⟩) (Nat.le_refl _) _

set_option maxHeartbeats 400000 in
set_option maxRecDepth 100000 in
theorem parseRep_num (s : ByteArray) (w : World) (h18 : s.size = 18) (h1 : 999 < numAt s 0 2) :
    Calls Try.prog 13 #[.string s] w fun e w' => e = .returned (.tuple #[.agg #[.int .i64 0, .int .i64 0, .int .i64 0], .int .i64 170]) ∧ Below w.heap.size w w' := by
  have HR := Lib.hid (rows_rep s)
  have HZ := Lib.hid h18
  clear h18
  generalize numAt s 0 2 = n0 at *
  generalize numAt s 2 8 = n1 at *
  generalize numAt s 10 8 = n2 at *
  go_enter Try.func13, Try.ntmps13
  go_wp2_with fail
  refine wp_scope_goto 0 rfl ?_
  go_wp2_with fail
  refine (call_read s ((w.alloc _).alloc _) (w.heap.size + 1 + 1) 3 [2, 8, 8] _ (by simp) rfl rfl (by rw [HZ.out]; rfl) (by decide) (by omega)).mono ?_
  rintro e w1 ⟨v, rfl, ho, hb⟩
  rw [HR.out] at ho
  obtain ⟨g, cap, rfl⟩ := ownsRow_succ ho
  have hc : ∀ i u, [Value.int .u64 (n0 : Int), .int .u64 (n1 : Int), .int .u64 (n2 : Int)][i]? = some u → w1.cell? ⟨g, i, none⟩ = some u := fun i u hu => by
    have := ho.cells (g := g) rfl i u hu
    rwa [add_plain] at this
  have q0 := hc 0 _ rfl
  have hR := (hb.block w.heap.size (by simp; omega)).trans (two_new w (.cells #[.int .i64 0, .int .i64 0, .int .i64 0] 36) (.cells #[.int .i64 0, .int .i64 0, .int .i64 0] 36)).1
  have hbw : Below w.heap.size w w1 := (((Below.refl _ w).alloc (Nat.le_refl _) _).alloc (by simp) _).trans (hb.mono (by simp; omega))
  have b0 : w1.cell? ⟨w.heap.size, 0, none⟩ = some (.int .i64 0) := Lib.cell_of_heap hR 0
  have b1 : w1.cell? ⟨w.heap.size, 1, none⟩ = some (.int .i64 0) := Lib.cell_of_heap hR 1
  have b2 : w1.cell? ⟨w.heap.size, 2, none⟩ = some (.int .i64 0) := Lib.cell_of_heap hR 2
  have bf : ∀ i, w1.frozen? ⟨w.heap.size, i, none⟩ = false := Lib.frozen_of_heap hR
  have H := Lib.hid (And.intro hR hbw)
  clear hR hb hbw hc ho
  go_wp2
  go_step3
  refine ⟨rfl, ?_⟩
  go_wp2
  rw [Exit.noGoto_ret]
  have hB6 := blk_set (blk_set (blk_set H.out.1 0 (.int .i64 0)) 1 (.int .i64 0)) 2 (.int .i64 0)
  refine bodyPost_ret (res_cell_tmp rfl rfl hB6 Try.underlying36 rfl (by kernel_rfl)) rfl ⟨rfl, ?_⟩
  exact ((H.out.2.setCell (p := ⟨w.heap.size, 0, none⟩) (Nat.le_refl _) _).setCell (p := ⟨w.heap.size, 1, none⟩) (Nat.le_refl _) _).setCell (p := ⟨w.heap.size, 2, none⟩) (Nat.le_refl _) _
end Go.Proofs.Ytbjbadnkpeakcaa
