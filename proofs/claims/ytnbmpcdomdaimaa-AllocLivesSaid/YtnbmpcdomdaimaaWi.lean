/- What within answers, and the function that Take hands to IndexFunc. -/
import Derived.Test.YtnbmpcdomdaimaaRows
import Derived.Test.YtnbmpcdomdaimaaMem
import Derived.LoopTactic
namespace Go.Proofs.Ytnbmpcdomdaimaa
open Go.RowKit
set_option linter.unusedVariables false
set_option linter.unusedSimpArgs false

set_option maxHeartbeats 400000 in
set_option maxRecDepth 100000 in
theorem within_one (lo hi x : Int) (b : Nat) (w : World) (hc : w.cell? ⟨b, 0, none⟩ = some (.int .u32 x)) :
    Calls Try.prog 29 #[.int .u32 lo, .int .u32 hi, .slice (some ⟨b, 0, none⟩) 1 1] w fun e w' => e = .returned (.bool (decide (lo ≤ x) && decide (x ≤ hi))) ∧ w = w' := by
  go_enter Try.func29, Try.ntmps29
  go_wp2
  go_loop [8, 11] (fun v i => i = .int .i64 0 ∨ (i = .int .i64 1 ∧ lo ≤ x ∧ x ≤ hi)) (fun _ i => 1 - (intOf i).toNat)
  case atStart => exact .inl rfl
  case round =>
    rcases hrel with rfl | ⟨rfl, h1, h2⟩
    · by_cases h1 : x < lo
      · go_wp2
        go_ret
        refine ⟨?_, rfl⟩
        first | rfl | (rw [show decide (lo ≤ x) = false by simp; omega]; rfl)
      · by_cases h2 : hi < x
        · go_wp2
          go_ret
          refine ⟨?_, rfl⟩
          first | rfl | (rw [show decide (x ≤ hi) = false by simp; omega]; simp) | (rw [show decide (x ≤ hi) = false by simp; omega]; rfl)
        · go_wp2
          go_round
          case rel => exact .inr ⟨rfl, by omega, by omega⟩
          case measure => simp [intOf]
    · go_wp2
      go_ret
      refine ⟨?_, rfl⟩
      first | rfl | (rw [show decide (lo ≤ x) = true by simpa using h1, show decide (x ≤ hi) = true by simpa using h2]; rfl)

set_option maxHeartbeats 400000 in
set_option maxRecDepth 100000 in
/-- 'func(s api.Spare) bool { return s.Tx <= oldest }': the struct is boxed. -/
theorem older_any (B : Nat) (o p t : Int) (w : World) (hc : w.cell? ⟨B, 0, none⟩ = some (.int .u64 o)) (hB : B < w.heap.size) :
    Calls Try.prog 27 #[.agg #[.int .u32 p, .int .u64 t], .pointer (some ⟨B, 0, none⟩)] w fun e w' => e = .returned (.bool (decide (t ≤ o))) ∧ Below w.heap.size w w' := by
  have hc1 : (w.alloc (.cells #[.int .u32 p, .int .u64 t] 44)).cell? ⟨B, 0, none⟩ = some (.int .u64 o) := (((Below.refl _ w).alloc (Nat.le_refl _) _).cell (p := ⟨B, 0, none⟩) hB).trans hc
  have hc2 : (w.alloc (.cells #[.int .u32 p, .int .u64 t] 44)).cell? ⟨w.heap.size, 1, none⟩ = some (.int .u64 t) := blk_cell (heap_alloc_new w _) 1
  go_enter Try.func27, Try.ntmps27
  go_wp2
  go_ret
  exact ⟨rfl, (Below.refl _ w).alloc (Nat.le_refl _) _⟩
end Go.Proofs.Ytnbmpcdomdaimaa
