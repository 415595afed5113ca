/- What alloc.copied answers: the same alloc with a list of its own, as long as its room. -/
import Derived.Test.YtnbmpcdomdaimaaCp
namespace Go.Proofs.Ytnbmpcdomdaimaa
open Go.RowKit
set_option linter.unusedVariables false
set_option linter.unusedSimpArgs false

theorem res_cell {P : Program} {fn : Func} {p : Tmp} {ty t : TypeId} {tmps : Array Value} {w : World} {g : Nat} {cs : Array Value} {fr : Nat × Nat} {d : TypeDesc} (h : fn.results = #[.cell p ty])
    (hp : tmps.getD p undef = .pointer (some ⟨g, 0, none⟩)) (hb : w.heap[g]? = some (.cells cs t fr)) (hu : P.underlying ty = some d) (hd : d.isRow = true) (hi : (P.info? ty).map (·.size) = some cs.size) :
    (results fn tmps).run P w = .ok (.agg cs) w := by
  have hp' : tmps[p]?.getD undef = .pointer (some ⟨g, 0, none⟩) := by simpa using hp
  simp only [results, h]
  simp [Sem.run_bind, Result.andThen, hp', asAddr, load_blk hb hu hd hi]
theorem res_cell_tmp2 {P : Program} {fn : Func} {p u x : Tmp} {ty t : TypeId} {tmps : Array Value} {w : World} {g : Nat} {cs : Array Value} {fr : Nat × Nat} {d : TypeDesc} (h : fn.results = #[.cell p ty, .tmp u, .tmp x])
    (hp : tmps.getD p undef = .pointer (some ⟨g, 0, none⟩)) (hb : w.heap[g]? = some (.cells cs t fr)) (hu : P.underlying ty = some d) (hd : d.isRow = true) (hi : (P.info? ty).map (·.size) = some cs.size) :
    (results fn tmps).run P w = .ok (.tuple #[.agg cs, tmps.getD u undef, tmps.getD x undef]) w := by
  have hp' : tmps[p]?.getD undef = .pointer (some ⟨g, 0, none⟩) := by simpa using hp
  simp only [results, h]
  simp [Sem.run_bind, Result.andThen, hp', asAddr, load_blk hb hu hd hi]

def mkz (n : Nat) : Array Value := madeCells #[.int .u32 0, .int .u64 0] (n * 2)
theorem mkz_size (n : Nat) : (mkz n).size = n * 2 := size_madeCells _ _
theorem make_sp (n m : Nat) (hn : n ≤ m) (hm : m ≤ 1000000) : ∀ W : World, (Instr.makeSlice 23 (.int .i64 (n : Int)) (.int .i64 (m : Int))).run Try.prog W = .ok (.slice (some ⟨W.heap.size, 0, none⟩) n m) (W.alloc (.cells (mkz m) 44)) := by
  intro W
  obtain ⟨i0, hi, hi0, hi1, hi2⟩ := info_parts infoSpare
  have hr := run_make (P := Try.prog) W 23 44 i0 (.agg #[.int .u32 0, .int .u64 0]) Try.underlying23 hi hi0 .i64 .i64 n m (by omega) (by omega) (by rw [hi2]; omega) (by omega)
  rw [hi1] at hr
  exact hr

set_option maxHeartbeats 1000000 in
set_option maxRecDepth 100000 in
theorem copied_any (hi ca : Int) (v : Value) (l : List Sp) (w : World) (hv : SpRow w v l) (hl : l.length ≤ 1000000) :
    Calls Try.prog 25 #[.agg #[.int .u32 hi, .int .u32 ca, v]] w fun e w' => ∃ g, e = .returned (.agg #[.int .u32 hi, .int .u32 ca, .slice (some ⟨g, 0, none⟩) l.length l.length]) ∧ w.heap.size ≤ g ∧ w'.heap[g]? = some (.cells (sp l).toArray 44 (0, 0)) ∧ Below w.heap.size w w' := by
  obtain ⟨base, cap, rfl, hr⟩ := hv
  have hm := make_sp l.length l.length (Nat.le_refl _) hl
  obtain ⟨W0, hW0⟩ : ∃ W0, (w.alloc (.cells #[.int .u32 hi, .int .u32 ca, .slice base l.length cap] 25)).alloc (.cells #[.int .u32 0, .int .u32 0, .slice none 0 0] 25) = W0 := ⟨_, rfl⟩
  have hz : W0.heap.size = w.heap.size + 2 := by rw [← hW0]; simp
  have k0 : W0.heap[w.heap.size]? = some (.cells #[.int .u32 hi, .int .u32 ca, .slice base l.length cap] 25 (0, 0)) := by rw [← hW0]; exact keep_a _ (heap_alloc_new w _)
  have k1 : W0.heap[w.heap.size + 1]? = some (.cells #[.int .u32 0, .int .u32 0, .slice none 0 0] 25 (0, 0)) := by
    rw [← hW0]
    have := heap_alloc_new (w.alloc (.cells #[.int .u32 hi, .int .u32 ca, .slice base l.length cap] 25)) (.cells #[.int .u32 0, .int .u32 0, .slice none 0 0] 25)
    simpa using this
  have HB : Hid (Below w.heap.size w W0) := Lib.hid (by rw [← hW0]; exact ((Below.refl _ w).alloc (Nat.le_refl _) _).alloc (by simp) _)
  have hv0 : SpRow W0 (.slice base l.length cap) l := SpRow.below (w := w) ⟨_, _, rfl, hr⟩ HB.out
  obtain ⟨c0, c1, c2⟩ := cells3 k0
  have HK := Lib.hid (And.intro k0 (And.intro k1 (hv0.below ((Below.refl _ W0).alloc (Nat.le_refl _) (.cells (mkz l.length) 44)))))
  have HZ := Lib.hid hz
  clear hr k0 k1 hv0 hz
  have hcc : (W0.alloc (.cells (mkz l.length) 44)).cell? ⟨w.heap.size, 2, none⟩ = some (.slice base l.length cap) := blk_cell (keep_a _ HK.out.1) 2
  go_enter Try.func25, Try.ntmps25
  go_wp2_with ((with_reducible show wpList _ _ _ _ _ _); refine copy_sp (o := ⟨some 11, _, _, _, _, _⟩) rfl _ _ rfl W0.heap.size _ l l.length rfl rfl HK.out.2.2 (mkz l.length) (heap_alloc_new W0 _) (mkz_size _) ?_)
  intro W1 hg hB1 ho
  have hB2 := Lib.hid (hB1 w.heap.size w (HB.out.alloc HB.out.size _) HB.out.size)
  have k0 := (ho w.heap.size (by have := HZ.out; omega)).trans (keep_a _ HK.out.1)
  have k1 := (ho (w.heap.size + 1) (by have := HZ.out; omega)).trans (keep_a _ HK.out.2.1)
  obtain ⟨d0, d1, d2⟩ := cells3 k0
  obtain ⟨e0, e1, e2⟩ := cells3 k1
  have f0 : ∀ i, W1.frozen? ⟨w.heap.size, i, none⟩ = false := blk_frozen k0
  have f1 : ∀ i, W1.frozen? ⟨w.heap.size + 1, i, none⟩ = false := blk_frozen k1
  have HH := Lib.hid (And.intro k0 (And.intro k1 hg))
  clear k0 k1 hg hB1 ho c0 c1 c2 hcc
  go_wp2
  have hne : W0.heap.size ≠ w.heap.size ∧ W0.heap.size ≠ w.heap.size + 1 := by have := HZ.out; omega
  have hB6 := blk_set (blk_set (blk_set (w := W1.setCell ⟨w.heap.size, 2, none⟩ (.slice (some ⟨W0.heap.size, 0, none⟩) l.length l.length)) ((Below.heap_setCell _ _ _ _ (by simp)).trans HH.out.2.1) 0 (.int .u32 hi)) 1 (.int .u32 ca)) 2 (.slice (some ⟨W0.heap.size, 0, none⟩) l.length l.length)
  refine bodyPost_ret (res_cell rfl rfl hB6 Try.underlying25 rfl (by kernel_rfl)) rfl ⟨W0.heap.size, rfl, HB.out.size, ?_, ?_⟩
  · rw [Below.heap_setCell _ _ _ _ hne.2, Below.heap_setCell _ _ _ _ hne.2, Below.heap_setCell _ _ _ _ hne.2, Below.heap_setCell _ _ _ _ hne.1]
    exact HH.out.2.2
  · exact (((hB2.out.setCell (p := ⟨w.heap.size, 2, none⟩) (Nat.le_refl _) _).setCell (p := ⟨w.heap.size + 1, 0, none⟩) (by simp) _).setCell (p := ⟨w.heap.size + 1, 1, none⟩) (by simp) _).setCell (p := ⟨w.heap.size + 1, 2, none⟩) (by simp) _
end Go.Proofs.Ytnbmpcdomdaimaa
