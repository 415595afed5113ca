/- What the law's shown answers: true. -/
import Derived.Test.YtnbmpcdomdaimaaGiw
namespace Go.Proofs.YtnbmpcdomdaimaaQ.PA
open Go.RowKit Go.Proofs.YtnbmpcdomdaimaaW.PrintWords Go.Proofs.YtnbmpcdomdaimaaW.PrintLast Go.Proofs.YtnbmpcdomdaimaaW.PrintMore
open Go.Proofs.Ytnbmpcdomdaimaa (cells3 keep_a keep_b far_set)
set_option linter.unusedVariables false
set_option linter.unusedSimpArgs false

theorem c_of_block {w : World} {g : Nat} {l : List S44} (h : w.heap[g]? = some (.cells (s44 l).toArray 44 (0, 0))) (hl : l.length ≤ maxLen) : Kd.C k44 w (some ⟨g, 0, none⟩) l.length l := by
  have hR := made_of_cells (base := 0) (Nat.zero_le g) rfl (Nat.le_refl _) hl ⟨_, h, by simp [s44_length], List.take_of_length_le (by simp [s44_length])⟩
  obtain ⟨A, c, e, _, hC⟩ := Kd.R_reads hR
  injection e with e
  rw [e]
  exact hC

theorem c_none (w : World) : Kd.C k44 w none 0 [] := by
  obtain ⟨A, c, e, _, hC⟩ := Kd.R_reads (Kd.R_nil k44 44 w 0 (fun _ => True))
  injection e with e
  rw [e]
  exact hC

def bazaarlaw05_shown.f : Option Bool := some true

theorem take_1 : alloc_Take.f 6 9 [⟨3, 5⟩, ⟨4, 2⟩] 2 = some (6, 9, [⟨3, 5⟩], 4, 0) := by kernel_rfl
theorem take_2 : alloc_Take.f 6 9 [⟨3, 5⟩] 2 = some (7, 9, [⟨3, 5⟩], 6, 0) := by kernel_rfl
theorem take_3 : alloc_Take.f 7 9 [⟨3, 5⟩] 5 = some (7, 9, [], 3, 0) := by kernel_rfl
theorem give_1 : alloc_Give.f 0 0 [] 2 1 = some (0, 0, [], 50) := by kernel_rfl

set_option maxHeartbeats 1000000 in
set_option maxRecDepth 100000 in
theorem bazaarlaw05_shown.calls (r : Bool) (w : World) (h : bazaarlaw05_shown.f = some r) :
    Calls Try.prog 11 #[] w fun e w' => e = .returned (.bool r) ∧ Below w.heap.size w w' := by
  obtain rfl : true = r := by injection h
  go_enter Try.func11, Try.ntmps11
  go_wp2_with fail
  refine (alloc_Take.calls 6 9 _ 2 [⟨3, 5⟩, ⟨4, 2⟩] 2 _ _ _ _ _ _ (c_of_block (keep_a _ (heap_alloc_new w _)) (by simp [maxLen])) (Nat.le_refl _) take_1).mono ?_
  rintro e W1 ⟨v1, rfl, hR1, hb1⟩
  obtain ⟨A1, n1, rfl, hl1, hC1⟩ := Kd.R_reads hR1
  have HB1 := Lib.hid ((((Below.refl _ w).alloc (Nat.le_refl _) _).alloc (by simp) _).trans (hb1.mono (by simp; omega)))
  have H1 := Lib.hid (And.intro hC1 hl1)
  clear hR1 hb1 hC1 hl1
  go_wp2_with fail
  refine (alloc_Take.calls 6 9 A1 n1 [⟨3, 5⟩] 2 _ _ _ _ _ _ (Kd.C_below H1.out.1 ((Below.refl _ W1).alloc (Nat.le_refl _) _)) H1.out.2 take_2).mono ?_
  rintro e W2 ⟨v2, rfl, hR2, hb2⟩
  obtain ⟨A2, n2, rfl, hl2, hC2⟩ := Kd.R_reads hR2
  have HB2 := Lib.hid ((HB1.out.alloc HB1.out.size _).trans (hb2.mono (by have := HB1.out.size; simp; omega)))
  have H2 := Lib.hid (And.intro hC2 hl2)
  clear hR2 hb2 hC2 hl2
  go_wp2_with fail
  refine (alloc_Take.calls 7 9 A2 n2 [⟨3, 5⟩] 5 _ _ _ _ _ _ (Kd.C_below H2.out.1 ((Below.refl _ W2).alloc (Nat.le_refl _) _)) H2.out.2 take_3).mono ?_
  rintro e W3 ⟨v3, rfl, hR3, hb3⟩
  obtain ⟨A3, n3, rfl, hl3, hC3⟩ := Kd.R_reads hR3
  have HB3 := Lib.hid ((HB2.out.alloc HB2.out.size _).trans (hb3.mono (by have := HB2.out.size; simp; omega)))
  clear hR3 hb3 hC3 hl3
  go_wp2_with fail
  refine (alloc_Give.calls 0 0 none 0 [] 2 1 _ _ _ _ _ (c_none _) (Nat.le_refl _) give_1).mono ?_
  rintro e W4 ⟨v4, rfl, hR4, hb4⟩
  obtain ⟨A4, n4, rfl, hl4, hC4⟩ := Kd.R_reads hR4
  have HB4 := Lib.hid ((HB3.out.alloc HB3.out.size _).trans (hb4.mono (by have := HB3.out.size; simp; omega)))
  clear hR4 hb4 hC4 hl4
  go_wp2
  go_ret
  exact ⟨rfl, HB4.out.alloc HB4.out.size _⟩
end Go.Proofs.YtnbmpcdomdaimaaQ.PA
