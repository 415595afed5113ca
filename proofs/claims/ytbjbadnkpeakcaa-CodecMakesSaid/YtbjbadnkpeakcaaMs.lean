/- CodecMakes' walk: the program's answers and the document's are alike. -/
import Derived.Test.YtbjbadnkpeakcaaTw
import Derived.Test.YtbjbadnkpeakcaaSz
namespace Go.Proofs.Ytbjbadnkpeakcaa
open Go.RowKit
set_option linter.unusedVariables false
set_option linter.unusedSimpArgs false

set_option maxHeartbeats 2000000 in
set_option maxRecDepth 100000 in
theorem makes_walk (op a b it n m e x y : Int) (s : ByteArray) (hs : s.size ≤ maxLen)
    (RQ : ∃ (t : ByteArray) (e : Int),
      (∀ w, Calls Try.prog 14 #[.agg #[.int .i64 op, .int .u32 a, .int .u32 b, .int .u16 it, .int .i64 n, .int .i64 m]] w fun r w' => r = .returned (.tuple #[.string t, .int .i64 e]) ∧ Below w.heap.size w w') ∧
      (∀ w, Calls Try.prog 15 #[.agg #[.int .i64 op, .int .u32 a, .int .u32 b, .int .u16 it, .int .i64 n, .int .i64 m]] w fun r w' => r = .returned (.tuple #[.string t, .int .i64 e]) ∧ Below w.heap.size w w'))
    (PR : ∀ s : ByteArray, ∃ x0 x1 x2 x3 x4 x5 ev : Int,
      (∀ w, Calls Try.prog 11 #[.string s] w fun e w' => e = .returned (.tuple #[.agg #[.int .i64 x0, .int .u32 x1, .int .u32 x2, .int .u16 x3, .int .i64 x4, .int .i64 x5], .int .i64 ev]) ∧ Below w.heap.size w w') ∧
      (∀ w, Calls Try.prog 16 #[.string s] w fun e w' => e = .returned (.tuple #[.agg #[.int .i64 x0, .int .u32 x1, .int .u32 x2, .int .u16 x3, .int .i64 x4, .int .i64 x5], .int .i64 ev]) ∧ Below w.heap.size w w'))
    (w : World) : Calls Try.prog 5 #[.agg #[.int .i64 op, .int .u32 a, .int .u32 b, .int .u16 it, .int .i64 n, .int .i64 m], .agg #[.int .i64 e, .int .i64 x, .int .i64 y], .string s] w fun r w' => r = .returned (.bool true) ∧ Below w.heap.size w w' := by
  obtain ⟨t, ht⟩ : ∃ t, s.extract 0 (min s.size 60) = t := ⟨_, rfl⟩
  have HC := Lib.hid (fun w => cut_t s t w hs ht)
  clear ht
  obtain ⟨qt, qe, RQ1, RQ2⟩ := RQ
  obtain ⟨rt, re, RP1, RP2⟩ := reply_twin e x y
  obtain ⟨x0, x1, x2, x3, x4, x5, xv, PR1, PR2⟩ := PR t
  obtain ⟨y0, y1, y2, yv, PP1, PP2⟩ := parseRep_twin t
  replace RQ1 := Lib.hid RQ1
  replace RQ2 := Lib.hid RQ2
  replace RP1 := Lib.hid RP1
  replace RP2 := Lib.hid RP2
  replace PR1 := Lib.hid PR1
  replace PR2 := Lib.hid PR2
  replace PP1 := Lib.hid PP1
  replace PP2 := Lib.hid PP2
  obtain ⟨W0, hW0⟩ : ∃ W0, (w.alloc (.cells #[.int .i64 op, .int .u32 a, .int .u32 b, .int .u16 it, .int .i64 n, .int .i64 m] 31)).alloc (.cells #[.int .i64 e, .int .i64 x, .int .i64 y] 36) = W0 := ⟨_, rfl⟩
  have H0 : Hid (Below w.heap.size w W0 ∧ W0.heap[w.heap.size]? = some (.cells #[.int .i64 op, .int .u32 a, .int .u32 b, .int .u16 it, .int .i64 n, .int .i64 m] 31 (0, 0)) ∧ W0.heap[w.heap.size + 1]? = some (.cells #[.int .i64 e, .int .i64 x, .int .i64 y] 36 (0, 0))) := Lib.hid (by
    rw [← hW0]
    refine ⟨((Below.refl _ w).alloc (Nat.le_refl _) _).alloc (by simp) _, keep_a _ (heap_alloc_new w _), ?_⟩
    have := heap_alloc_new (w.alloc (.cells #[.int .i64 op, .int .u32 a, .int .u32 b, .int .u16 it, .int .i64 n, .int .i64 m] 31)) (.cells #[.int .i64 e, .int .i64 x, .int .i64 y] 36)
    simpa using this)
  go_enter Try.func5, Try.ntmps5
  go_wp2_with fail
  clear hW0
  refine (shown_any _).mono ?_
  rintro r W1 ⟨rfl, hb⟩
  have H1 := Lib.hid (And.intro (H0.out.1.trans (hb.mono H0.out.1.size)) (And.intro (keep_b H0.out.2.1 hb) (keep_b H0.out.2.2 hb)))
  clear hb H0
  obtain ⟨c0, c1, c2, c3, c4, c5⟩ := cells6 H1.out.2.1
  go_wp2_with fail
  clear c0 c1 c2 c3 c4 c5
  refine (RQ1.out _).mono ?_
  rintro r W2 ⟨rfl, hb⟩
  have H2 := Lib.hid (And.intro (H1.out.1.trans (hb.mono H1.out.1.size)) (And.intro (keep_b H1.out.2.1 hb) (keep_b H1.out.2.2 hb)))
  clear hb H1
  obtain ⟨c0, c1, c2, c3, c4, c5⟩ := cells6 H2.out.2.1
  go_wp2_with fail
  clear c0 c1 c2 c3 c4 c5
  refine (RQ2.out _).mono ?_
  rintro r W3 ⟨rfl, hb⟩
  have H3 := Lib.hid (And.intro (H2.out.1.trans (hb.mono H2.out.1.size)) (keep_b H2.out.2.2 hb))
  clear hb H2
  go_wp2_with fail
  refine (HC.out _).mono ?_
  rintro r w' ⟨rfl, rfl⟩
  go_wp2_with fail
  refine (PR1.out _).mono ?_
  rintro r W4 ⟨rfl, hb⟩
  have H4 := Lib.hid (And.intro (H3.out.1.trans (hb.mono H3.out.1.size)) (keep_b H3.out.2 hb))
  clear hb H3
  go_wp2_with fail
  obtain ⟨W5, hW5⟩ : ∃ W5, W4.alloc (.cells #[.int .i64 x0, .int .u32 x1, .int .u32 x2, .int .u16 x3, .int .i64 x4, .int .i64 x5] 31) = W5 := ⟨_, rfl⟩
  obtain ⟨g1, hg1⟩ : ∃ g1, W4.heap.size = g1 := ⟨_, rfl⟩
  have H5 : Hid (Below w.heap.size w W5 ∧ W5.heap[w.heap.size + 1]? = some (.cells #[.int .i64 e, .int .i64 x, .int .i64 y] 36 (0, 0)) ∧ W5.heap[g1]? = some (.cells #[.int .i64 x0, .int .u32 x1, .int .u32 x2, .int .u16 x3, .int .i64 x4, .int .i64 x5] 31 (0, 0)) ∧ w.heap.size ≤ g1) := Lib.hid (by
    rw [← hW5, ← hg1]
    exact ⟨H4.out.1.alloc H4.out.1.size _, keep_a _ H4.out.2, heap_alloc_new W4 _, H4.out.1.size⟩)
  rw [hW5, hg1]
  clear hW5 hg1 H4
  refine (HC.out _).mono ?_
  rintro r w' ⟨rfl, rfl⟩
  go_wp2_with fail
  refine (PR2.out _).mono ?_
  rintro r W6 ⟨rfl, hb⟩
  have H6 := Lib.hid (And.intro (H5.out.1.trans (hb.mono H5.out.1.size)) (And.intro (keep_b H5.out.2.1 hb) (And.intro (keep_b H5.out.2.2.1 hb) H5.out.2.2.2)))
  clear hb H5
  obtain ⟨W7, hW7⟩ : ∃ W7, W6.alloc (.cells #[.int .i64 x0, .int .u32 x1, .int .u32 x2, .int .u16 x3, .int .i64 x4, .int .i64 x5] 31) = W7 := ⟨_, rfl⟩
  obtain ⟨g2, hg2⟩ : ∃ g2, W6.heap.size = g2 := ⟨_, rfl⟩
  have H7 : Hid (Below w.heap.size w W7 ∧ W7.heap[w.heap.size + 1]? = some (.cells #[.int .i64 e, .int .i64 x, .int .i64 y] 36 (0, 0)) ∧ W7.heap[g1]? = some (.cells #[.int .i64 x0, .int .u32 x1, .int .u32 x2, .int .u16 x3, .int .i64 x4, .int .i64 x5] 31 (0, 0)) ∧ W7.heap[g2]? = some (.cells #[.int .i64 x0, .int .u32 x1, .int .u32 x2, .int .u16 x3, .int .i64 x4, .int .i64 x5] 31 (0, 0))) := Lib.hid (by
    rw [← hW7, ← hg2]
    exact ⟨H6.out.1.alloc H6.out.1.size _, keep_a _ H6.out.2.1, keep_a _ H6.out.2.2.1, heap_alloc_new W6 _⟩)
  obtain ⟨c0, c1, c2⟩ := cells3 H7.out.2.1
  go_wp2_with fail
  clear c0 c1 c2 hW7 hg2 H6
  refine (RP1.out _).mono ?_
  rintro r W8 ⟨rfl, hb⟩
  have H8 := Lib.hid (And.intro (H7.out.1.trans (hb.mono H7.out.1.size)) (And.intro (keep_b H7.out.2.1 hb) (And.intro (keep_b H7.out.2.2.1 hb) (keep_b H7.out.2.2.2 hb))))
  clear hb H7
  obtain ⟨c0, c1, c2⟩ := cells3 H8.out.2.1
  go_wp2_with fail
  clear c0 c1 c2
  refine (RP2.out _).mono ?_
  rintro r W9 ⟨rfl, hb⟩
  have H9 := Lib.hid (And.intro (H8.out.1.trans (hb.mono H8.out.1.size)) (And.intro (keep_b H8.out.2.2.1 hb) (keep_b H8.out.2.2.2 hb)))
  clear hb H8
  go_wp2_with fail
  refine (HC.out _).mono ?_
  rintro r w' ⟨rfl, rfl⟩
  go_wp2_with fail
  refine (PP1.out _).mono ?_
  rintro r W10 ⟨rfl, hb⟩
  have H10 := Lib.hid (And.intro (H9.out.1.trans (hb.mono H9.out.1.size)) (And.intro (keep_b H9.out.2.1 hb) (keep_b H9.out.2.2 hb)))
  clear hb H9
  obtain ⟨W11, hW11⟩ : ∃ W11, W10.alloc (.cells #[.int .i64 y0, .int .i64 y1, .int .i64 y2] 36) = W11 := ⟨_, rfl⟩
  obtain ⟨g3, hg3⟩ : ∃ g3, W10.heap.size = g3 := ⟨_, rfl⟩
  have H11 : Hid (Below w.heap.size w W11 ∧ W11.heap[g1]? = some (.cells #[.int .i64 x0, .int .u32 x1, .int .u32 x2, .int .u16 x3, .int .i64 x4, .int .i64 x5] 31 (0, 0)) ∧ W11.heap[g2]? = some (.cells #[.int .i64 x0, .int .u32 x1, .int .u32 x2, .int .u16 x3, .int .i64 x4, .int .i64 x5] 31 (0, 0)) ∧ W11.heap[g3]? = some (.cells #[.int .i64 y0, .int .i64 y1, .int .i64 y2] 36 (0, 0))) := Lib.hid (by
    rw [← hW11, ← hg3]
    exact ⟨H10.out.1.alloc H10.out.1.size _, keep_a _ H10.out.2.1, keep_a _ H10.out.2.2, heap_alloc_new W10 _⟩)
  go_wp2_with fail
  clear hW11 hg3 H10
  refine (HC.out _).mono ?_
  rintro r w' ⟨rfl, rfl⟩
  go_wp2_with fail
  refine (PP2.out _).mono ?_
  rintro r W12 ⟨rfl, hb⟩
  have H12 := Lib.hid (And.intro (H11.out.1.trans (hb.mono H11.out.1.size)) (And.intro (keep_b H11.out.2.1 hb) (And.intro (keep_b H11.out.2.2.1 hb) (keep_b H11.out.2.2.2 hb))))
  clear hb H11
  obtain ⟨W13, hW13⟩ : ∃ W13, W12.alloc (.cells #[.int .i64 y0, .int .i64 y1, .int .i64 y2] 36) = W13 := ⟨_, rfl⟩
  obtain ⟨g4, hg4⟩ : ∃ g4, W12.heap.size = g4 := ⟨_, rfl⟩
  have H13 : Hid (Below w.heap.size w W13 ∧ W13.heap[g1]? = some (.cells #[.int .i64 x0, .int .u32 x1, .int .u32 x2, .int .u16 x3, .int .i64 x4, .int .i64 x5] 31 (0, 0)) ∧ W13.heap[g2]? = some (.cells #[.int .i64 x0, .int .u32 x1, .int .u32 x2, .int .u16 x3, .int .i64 x4, .int .i64 x5] 31 (0, 0)) ∧ W13.heap[g3]? = some (.cells #[.int .i64 y0, .int .i64 y1, .int .i64 y2] 36 (0, 0)) ∧ W13.heap[g4]? = some (.cells #[.int .i64 y0, .int .i64 y1, .int .i64 y2] 36 (0, 0))) := Lib.hid (by
    rw [← hW13, ← hg4]
    exact ⟨H12.out.1.alloc H12.out.1.size _, keep_a _ H12.out.2.1, keep_a _ H12.out.2.2.1, keep_a _ H12.out.2.2.2, heap_alloc_new W12 _⟩)
  obtain ⟨c0, c1, c2, c3, c4, c5⟩ := cells6 H13.out.2.1
  obtain ⟨d0, d1, d2, d3, d4, d5⟩ := cells6 H13.out.2.2.1
  obtain ⟨k0, k1, k2⟩ := cells3 H13.out.2.2.2.1
  obtain ⟨m0, m1, m2⟩ := cells3 H13.out.2.2.2.2
  go_wp2
  go_ret
  exact ⟨rfl, H13.out.1⟩
end Go.Proofs.Ytbjbadnkpeakcaa
