/- CodecBack is proved. -/
import Derived.Test.YtbjbadnkpeakcaaBk
namespace Go.Proofs.Ytbjbadnkpeakcaa
open Go.RowKit
set_option linter.unusedVariables false
set_option linter.unusedSimpArgs false

set_option maxHeartbeats 4000000 in
set_option maxRecDepth 100000 in
theorem back_walk (op a b it n m e x y : Int) (s : ByteArray) (hs : s.size ≤ maxLen)
    (hop : (Lit.int .i64 op).wf = true) (ha : 0 ≤ a ∧ a < 4294967296) (hb : 0 ≤ b ∧ b < 4294967296) (hi : 0 ≤ it ∧ it < 65536) (hn : -9223372036854775808 ≤ n ∧ n ≤ 9223372036854775807) (hm : -9223372036854775808 ≤ m ∧ m ≤ 9223372036854775807)
    (hx : -9223372036854775808 ≤ x ∧ x ≤ 9223372036854775807) (hy : -9223372036854775808 ≤ y ∧ y ≤ 9223372036854775807)
    (w : World) : Calls Try.prog 6 #[.agg #[.int .i64 op, .int .u32 a, .int .u32 b, .int .u16 it, .int .i64 n, .int .i64 m], .agg #[.int .i64 e, .int .i64 x, .int .i64 y], .string s] w fun r w' => r = .returned (.bool true) ∧ Below w.heap.size w w' := by
  obtain ⟨t, ht⟩ : ∃ t, s.extract 0 (min s.size 60) = t := ⟨_, rfl⟩
  have HC := Lib.hid (fun w => cut_t s t w hs ht)
  clear ht
  obtain ⟨qt, qe, x0, x1, x2, x3, x4, x5, xv, RQ, PQ, HQ⟩ := req_pair op a b it n m hop ha hb hi hn hm
  obtain ⟨rt, re, y0, y1, y2, yv, RR, PR, HR⟩ := rep_pair e x y hx hy
  obtain ⟨z0, z1, z2, z3, z4, z5, zv, zt, ze, ZP, ZR, HZ⟩ := parse_req_pair t
  obtain ⟨u0, u1, u2, uv, ut, ue, UP, UR, HU⟩ := parse_rep_pair t
  clear hop ha hb hi hn hm hx hy
  replace RQ := Lib.hid RQ
  replace PQ := Lib.hid PQ
  replace RR := Lib.hid RR
  replace PR := Lib.hid PR
  replace ZP := Lib.hid ZP
  replace ZR := Lib.hid ZR
  replace UP := Lib.hid UP
  replace UR := Lib.hid UR
  obtain ⟨W0, hW0⟩ : ∃ W0, (w.alloc (.cells #[.int .i64 op, .int .u32 a, .int .u32 b, .int .u16 it, .int .i64 n, .int .i64 m] 31)).alloc (.cells #[.int .i64 e, .int .i64 x, .int .i64 y] 36) = W0 := ⟨_, rfl⟩
  have H0 : Hid (Below w.heap.size w W0 ∧ W0.heap[w.heap.size]? = some (.cells #[.int .i64 op, .int .u32 a, .int .u32 b, .int .u16 it, .int .i64 n, .int .i64 m] 31 (0, 0)) ∧ W0.heap[w.heap.size + 1]? = some (.cells #[.int .i64 e, .int .i64 x, .int .i64 y] 36 (0, 0))) := Lib.hid (by
    rw [← hW0]
    refine ⟨((Below.refl _ w).alloc (Nat.le_refl _) _).alloc (by simp) _, keep_a _ (heap_alloc_new w _), ?_⟩
    have := heap_alloc_new (w.alloc (.cells #[.int .i64 op, .int .u32 a, .int .u32 b, .int .u16 it, .int .i64 n, .int .i64 m] 31)) (.cells #[.int .i64 e, .int .i64 x, .int .i64 y] 36)
    simpa using this)
  go_enter Try.func6, Try.ntmps6
  go_wp2_with fail
  clear hW0
  refine (shown_any _).mono ?_
  rintro r W1 ⟨rfl, hb⟩
  have H1 := Lib.hid (And.intro (H0.out.1.trans (hb.mono H0.out.1.size)) (And.intro (keep_b H0.out.2.1 hb) (keep_b H0.out.2.2 hb)))
  clear hb H0
  obtain ⟨c0, c1, c2, c3, c4, c5⟩ := cells6 H1.out.2.1
  go_wp2_with fail
  clear c0 c1 c2 c3 c4 c5
  refine (RQ.out _).mono ?_
  rintro r W2 ⟨rfl, hb⟩
  have H2 := Lib.hid (And.intro (H1.out.1.trans (hb.mono H1.out.1.size)) (And.intro (keep_b H1.out.2.1 hb) (keep_b H1.out.2.2 hb)))
  clear hb H1
  go_wp2_with fail
  refine (PQ.out _).mono ?_
  rintro r W3 ⟨rfl, hb⟩
  have H3 := Lib.hid (And.intro (H2.out.1.trans (hb.mono H2.out.1.size)) (And.intro (keep_b H2.out.2.1 hb) (keep_b H2.out.2.2 hb)))
  clear hb H2
  obtain ⟨W4, hW4⟩ : ∃ W4, W3.alloc (.cells #[.int .i64 x0, .int .u32 x1, .int .u32 x2, .int .u16 x3, .int .i64 x4, .int .i64 x5] 31) = W4 := ⟨_, rfl⟩
  obtain ⟨g1, hg1⟩ : ∃ g1, W3.heap.size = g1 := ⟨_, rfl⟩
  have H4 : Hid (Below w.heap.size w W4 ∧ W4.heap[w.heap.size]? = some (.cells #[.int .i64 op, .int .u32 a, .int .u32 b, .int .u16 it, .int .i64 n, .int .i64 m] 31 (0, 0)) ∧ W4.heap[w.heap.size + 1]? = some (.cells #[.int .i64 e, .int .i64 x, .int .i64 y] 36 (0, 0)) ∧ W4.heap[g1]? = some (.cells #[.int .i64 x0, .int .u32 x1, .int .u32 x2, .int .u16 x3, .int .i64 x4, .int .i64 x5] 31 (0, 0))) := Lib.hid (by
    rw [← hW4, ← hg1]
    exact ⟨H3.out.1.alloc H3.out.1.size _, keep_a _ H3.out.2.1, keep_a _ H3.out.2.2, heap_alloc_new W3 _⟩)
  obtain ⟨c0, c1, c2⟩ := cells3 H4.out.2.2.1
  go_wp2_with fail
  clear c0 c1 c2 hW4 hg1 H3
  refine (RR.out _).mono ?_
  rintro r W5 ⟨rfl, hb⟩
  have H5 := Lib.hid (And.intro (H4.out.1.trans (hb.mono H4.out.1.size)) (And.intro (keep_b H4.out.2.1 hb) (And.intro (keep_b H4.out.2.2.1 hb) (keep_b H4.out.2.2.2 hb))))
  clear hb H4
  go_wp2_with fail
  refine (PR.out _).mono ?_
  rintro r W5' ⟨rfl, hb⟩
  have H5' := Lib.hid (And.intro (H5.out.1.trans (hb.mono H5.out.1.size)) (And.intro (keep_b H5.out.2.1 hb) (And.intro (keep_b H5.out.2.2.1 hb) (keep_b H5.out.2.2.2 hb))))
  clear hb H5
  obtain ⟨W6, hW6⟩ : ∃ W6, W5'.alloc (.cells #[.int .i64 y0, .int .i64 y1, .int .i64 y2] 36) = W6 := ⟨_, rfl⟩
  obtain ⟨g2, hg2⟩ : ∃ g2, W5'.heap.size = g2 := ⟨_, rfl⟩
  have H6 : Hid (Below w.heap.size w W6 ∧ W6.heap[w.heap.size]? = some (.cells #[.int .i64 op, .int .u32 a, .int .u32 b, .int .u16 it, .int .i64 n, .int .i64 m] 31 (0, 0)) ∧ W6.heap[w.heap.size + 1]? = some (.cells #[.int .i64 e, .int .i64 x, .int .i64 y] 36 (0, 0)) ∧ W6.heap[g1]? = some (.cells #[.int .i64 x0, .int .u32 x1, .int .u32 x2, .int .u16 x3, .int .i64 x4, .int .i64 x5] 31 (0, 0)) ∧ W6.heap[g2]? = some (.cells #[.int .i64 y0, .int .i64 y1, .int .i64 y2] 36 (0, 0))) := Lib.hid (by
    rw [← hW6, ← hg2]
    exact ⟨H5'.out.1.alloc H5'.out.1.size _, keep_a _ H5'.out.2.1, keep_a _ H5'.out.2.2.1, keep_a _ H5'.out.2.2.2, heap_alloc_new W5' _⟩)
  obtain ⟨c0, c1, c2, c3, c4, c5⟩ := cells6 H6.out.2.1
  obtain ⟨k0, k1, k2⟩ := cells3 H6.out.2.2.1
  obtain ⟨d0, d1, d2, d3, d4, d5⟩ := cells6 H6.out.2.2.2.1
  obtain ⟨m0, m1, m2⟩ := cells3 H6.out.2.2.2.2
  rcases HQ with ⟨rfl, rfl, rfl, rfl, rfl, rfl, rfl, rfl, hz⟩ | rfl <;> rcases HR with ⟨rfl, rfl, rfl, rfl, rfl, hz'⟩ | rfl
  all_goals (
    go_wp2_with fail
    refine (HC.out _).mono ?_
    rintro r w' ⟨rfl, rfl⟩
    go_wp2_with fail
    refine (ZP.out _).mono ?_
    rintro r W7 ⟨rfl, hb⟩
    have H7 := Lib.hid (H6.out.1.trans (hb.mono H6.out.1.size))
    clear hb H6 c0 c1 c2 c3 c4 c5 d0 d1 d2 d3 d4 d5 k0 k1 k2 m0 m1 m2
    obtain ⟨W8, hW8⟩ : ∃ W8, W7.alloc (.cells #[.int .i64 z0, .int .u32 z1, .int .u32 z2, .int .u16 z3, .int .i64 z4, .int .i64 z5] 31) = W8 := ⟨_, rfl⟩
    obtain ⟨g3, hg3⟩ : ∃ g3, W7.heap.size = g3 := ⟨_, rfl⟩
    have H8 : Hid (Below w.heap.size w W8) := Lib.hid (by rw [← hW8]; exact H7.out.alloc H7.out.size _)
    have hz8 : W8.heap[g3]? = some (.cells #[.int .i64 z0, .int .u32 z1, .int .u32 z2, .int .u16 z3, .int .i64 z4, .int .i64 z5] 31 (0, 0)) := by rw [← hW8, ← hg3]; exact heap_alloc_new W7 _
    obtain ⟨c0, c1, c2, c3, c4, c5⟩ := cells6 hz8
    clear hz8
    go_wp2_with fail
    clear c0 c1 c2 c3 c4 c5 hW8 hg3 H7
    refine (ZR.out _).mono ?_
    rintro r W9 ⟨rfl, hb⟩
    have H9 := Lib.hid (H8.out.trans (hb.mono H8.out.size))
    clear hb H8
    go_wp2_with fail
    refine (HC.out _).mono ?_
    rintro r w' ⟨rfl, rfl⟩
    go_wp2_with fail
    refine (UP.out _).mono ?_
    rintro r W10 ⟨rfl, hb⟩
    have H10 := Lib.hid (H9.out.trans (hb.mono H9.out.size))
    clear hb H9
    obtain ⟨W11, hW11⟩ : ∃ W11, W10.alloc (.cells #[.int .i64 u0, .int .i64 u1, .int .i64 u2] 36) = W11 := ⟨_, rfl⟩
    obtain ⟨g4, hg4⟩ : ∃ g4, W10.heap.size = g4 := ⟨_, rfl⟩
    have H11 : Hid (Below w.heap.size w W11) := Lib.hid (by rw [← hW11]; exact H10.out.alloc H10.out.size _)
    have hz11 : W11.heap[g4]? = some (.cells #[.int .i64 u0, .int .i64 u1, .int .i64 u2] 36 (0, 0)) := by rw [← hW11, ← hg4]; exact heap_alloc_new W10 _
    obtain ⟨c0, c1, c2⟩ := cells3 hz11
    clear hz11
    go_wp2_with fail
    clear c0 c1 c2 hW11 hg4 H10
    refine (UR.out _).mono ?_
    rintro r W12 ⟨rfl, hb⟩
    have H12 := Lib.hid (H11.out.trans (hb.mono H11.out.size))
    clear hb H11
    rcases HZ with ⟨rfl, rfl, rfl⟩ | rfl <;> rcases HU with ⟨rfl, rfl, rfl⟩ | rfl <;>
      (go_wp2_with (go_at_call 12; refine (HC.out _).mono ?_; rintro r w' ⟨rfl, rfl⟩)
       go_ret
       exact ⟨rfl, H12.out⟩))
end Go.Proofs.Ytbjbadnkpeakcaa
