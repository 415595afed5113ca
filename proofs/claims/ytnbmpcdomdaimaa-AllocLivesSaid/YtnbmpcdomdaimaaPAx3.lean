/- What the functions answer, as plain Lean functions, and the walks through them: no condition. Printed by wip/tools/given.py. -/
import Derived.Test.YtnbmpcdomdaimaaPAx0
import Derived.Test.YtnbmpcdomdaimaaPAx1
import Derived.Test.YtnbmpcdomdaimaaPAx2
namespace Go.Proofs.YtnbmpcdomdaimaaQ.PA
open Go.RowKit Go.Proofs.YtnbmpcdomdaimaaW.PrintWords Go.Proofs.YtnbmpcdomdaimaaW.PrintLast Go.Proofs.YtnbmpcdomdaimaaW.PrintMore
attribute [local go_sem] max2_int min2_int max_two min_two max_three min_three max_four min_four   -- for this text's walks alone
set_option linter.unusedVariables false
set_option linter.unusedSimpArgs false

attribute [local go_sem high] eqA44
/-! ### bazaarref05_Give: function 16 -/
mutual
def bazaarref05_Give.j0 : Nat → Int → Int → Bool → Int → Int → List (S44) → Option (Int × Int × (List (S44)) × Int)
  | 0, _, _, _, _, _, _ => none
  | k + 1, x1, x2, x35, x119000, x119001, x119002 => if x35 = true then (some (0, 0, ([] : List (S44)), 50)) else (bazaarref05_Give.l0 k x1 x2 ([] : List (S44)) false 0 x119000 x119001 x119002)
def bazaarref05_Give.l0 : Nat → Int → Int → List (S44) → Bool → Int → Int → Int → List (S44) → Option (Int × Int × (List (S44)) × Int)
  | 0, _, _, _, _, _, _, _, _ => none
  | k + 1, x1, x2, x9, x10, x11, x119000, x119001, x119002 => if x11 < (x119002.length : Int) then (if 0 ≤ x11 then (if ((rd_T44 x119002 x11).f0) = x1 then (some (0, 0, ([] : List (S44)), 50)) else (if x10 = true then (if x9.length < 8796093022208 then (bazaarref05_Give.l0 k x1 x2 (x9 ++ [(⟨(rd_T44 x119002 x11).f0, (rd_T44 x119002 x11).f1⟩ : S44)]) x10 (wrap64 (x11 + 1)) x119000 x119001 x119002) else (none)) else (if ((rd_T44 x119002 x11).f0) > x1 then (if x9.length < 8796093022208 then ((some (x9 ++ [(⟨x1, x2⟩ : S44)] : List (S44))).bind fun y130 => (if y130.length < 8796093022208 then (bazaarref05_Give.l0 k x1 x2 (y130 ++ [(⟨(rd_T44 x119002 x11).f0, (rd_T44 x119002 x11).f1⟩ : S44)]) true (wrap64 (x11 + 1)) x119000 x119001 x119002) else (none))) else (none)) else (if x9.length < 8796093022208 then (bazaarref05_Give.l0 k x1 x2 (x9 ++ [(⟨(rd_T44 x119002 x11).f0, (rd_T44 x119002 x11).f1⟩ : S44)]) x10 (wrap64 (x11 + 1)) x119000 x119001 x119002) else (none))))) else (none)) else (if x10 = true then (some (x119000, x119001, x9, 0)) else (if x9.length < 8796093022208 then (some (x119000, x119001, (x9 ++ [(⟨x1, x2⟩ : S44)]), 0)) else (none)))
end
def bazaarref05_Give.f (k : Nat) (a0_0 : Int) (a0_1 : Int) (l0_2 : List (S44)) (a1 : Int) (a2 : Int) : Option (Int × Int × (List (S44)) × Int) := (bazaarref05_Right.f k a0_0 a0_1 l0_2).bind fun t120 => (if t120 = true then (if a1 < 2 then (bazaarref05_Give.j0 k a1 a2 true a0_0 a0_1 l0_2) else (if a1 ≥ a0_0 then (bazaarref05_Give.j0 k a1 a2 true a0_0 a0_1 l0_2) else (if a2 < 1 then (bazaarref05_Give.j0 k a1 a2 true a0_0 a0_1 l0_2) else (bazaarref05_Give.j0 k a1 a2 (decide ((l0_2.length : Int) ≥ 4096)) a0_0 a0_1 l0_2)))) else (bazaarref05_Give.j0 k a1 a2 true a0_0 a0_1 l0_2))
theorem bazaarref05_Give.mono_l : ∀ k, (∀ y0 y1 y2 y3 y4 y5, LeO (bazaarref05_Give.j0 k y0 y1 y2 y3 y4 y5) (bazaarref05_Give.j0 (k + 1) y0 y1 y2 y3 y4 y5)) ∧ (∀ y0 y1 y2 y3 y4 y5 y6 y7, LeO (bazaarref05_Give.l0 k y0 y1 y2 y3 y4 y5 y6 y7) (bazaarref05_Give.l0 (k + 1) y0 y1 y2 y3 y4 y5 y6 y7))
  | 0 => ⟨fun _ _ _ _ _ _ r h => by simp [bazaarref05_Give.j0] at h, fun _ _ _ _ _ _ _ _ r h => by simp [bazaarref05_Give.l0] at h⟩
  | k + 1 => by
    obtain ⟨ih0, ih1⟩ := bazaarref05_Give.mono_l k
    refine ⟨?_, ?_⟩
    · intro y0 y1 y2 y3 y4 y5
      unfold bazaarref05_Give.j0
      repeat' first
      | (with_reducible exact ih0 _ _ _ _ _ _)
      | (with_reducible exact ih1 _ _ _ _ _ _ _ _)
      | (with_reducible exact bazaarref05_Right.mono _ _ _ _)
      | (with_reducible exact LeO.refl _)
      | (with_reducible exact LeO.none _)
      | (with_reducible refine LeO.ite ?_ ?_)
      | (with_reducible refine LeO.bind ?_ (fun _ => ?_))
      | exact ih0 _ _ _ _ _ _
      | exact ih1 _ _ _ _ _ _ _ _
      | exact bazaarref05_Right.mono _ _ _ _
      | exact LeO.none _
      | refine LeO.ite ?_ ?_
      | refine LeO.bind ?_ (fun _ => ?_)
    · intro y0 y1 y2 y3 y4 y5 y6 y7
      unfold bazaarref05_Give.l0
      repeat' first
      | (with_reducible exact ih0 _ _ _ _ _ _)
      | (with_reducible exact ih1 _ _ _ _ _ _ _ _)
      | (with_reducible exact bazaarref05_Right.mono _ _ _ _)
      | (with_reducible exact LeO.refl _)
      | (with_reducible exact LeO.none _)
      | (with_reducible refine LeO.ite ?_ ?_)
      | (with_reducible refine LeO.bind ?_ (fun _ => ?_))
      | exact ih0 _ _ _ _ _ _
      | exact ih1 _ _ _ _ _ _ _ _
      | exact bazaarref05_Right.mono _ _ _ _
      | exact LeO.none _
      | refine LeO.ite ?_ ?_
      | refine LeO.bind ?_ (fun _ => ?_)
theorem bazaarref05_Give.mono : ∀ a0 a1 a2 a3 a4 k, LeO (bazaarref05_Give.f k a0 a1 a2 a3 a4) (bazaarref05_Give.f (k + 1) a0 a1 a2 a3 a4) := by
  intro a0 a1 a2 a3 a4 k
  obtain ⟨ih0, ih1⟩ := bazaarref05_Give.mono_l k
  unfold bazaarref05_Give.f
  repeat' first
      | (with_reducible exact ih0 _ _ _ _ _ _)
      | (with_reducible exact ih1 _ _ _ _ _ _ _ _)
      | (with_reducible exact bazaarref05_Right.mono _ _ _ _)
      | (with_reducible exact LeO.refl _)
      | (with_reducible exact LeO.none _)
      | (with_reducible refine LeO.ite ?_ ?_)
      | (with_reducible refine LeO.bind ?_ (fun _ => ?_))
      | exact ih0 _ _ _ _ _ _
      | exact ih1 _ _ _ _ _ _ _ _
      | exact bazaarref05_Right.mono _ _ _ _
      | exact LeO.none _
      | refine LeO.ite ?_ ?_
      | refine LeO.bind ?_ (fun _ => ?_)
set_option maxHeartbeats 8000000 in
set_option maxRecDepth 100000 in
theorem bazaarref05_Give.calls (k : Nat) (a0_0 : Int) (a0_1 : Int) (A0_2 : Option Addr) (c0_2 : Nat) (l0_2 : List (S44)) (a1 : Int) (a2 : Int) (r1 : Int) (r2 : Int) (r3 : List (S44)) (r4 : Int) (w : World) (hr0_2 : Kd.C k44 w A0_2 l0_2.length l0_2) (hc0_2 : l0_2.length ≤ c0_2) (h : bazaarref05_Give.f k a0_0 a0_1 l0_2 a1 a2 = some (r1, r2, r3, r4)) :
    Calls Try.prog 16 #[.agg #[.int .u32 a0_0, .int .u32 a0_1, .slice A0_2 l0_2.length c0_2], .int .u32 a1, .int .u64 a2] w fun e w' => ∃ v2_ : Value, e = .returned (.tuple #[.agg #[.int .u32 r1, .int .u32 r2, v2_], .int .i64 r4]) ∧ Kd.R k44 44 w' w.heap.size (fun _ => True) v2_ r3 ∧ Below w.heap.size w w' := by
  have hu25 := Try.underlying25
  have hu44 := Try.underlying44
  have HR0_2 := Aside0.mk hr0_2
  have HC0_2 := Aside0.mk hc0_2
  clear hr0_2 hc0_2
  have HB := Aside0.mk (Below.refl w.heap.size w)
  have H : ((bazaarref05_Right.f k a0_0 a0_1 l0_2).bind fun t120 => (if t120 = true then (if a1 < 2 then (bazaarref05_Give.j0 k a1 a2 true a0_0 a0_1 l0_2) else (if a1 ≥ a0_0 then (bazaarref05_Give.j0 k a1 a2 true a0_0 a0_1 l0_2) else (if a2 < 1 then (bazaarref05_Give.j0 k a1 a2 true a0_0 a0_1 l0_2) else (bazaarref05_Give.j0 k a1 a2 (decide ((l0_2.length : Int) ≥ 4096)) a0_0 a0_1 l0_2)))) else (bazaarref05_Give.j0 k a1 a2 true a0_0 a0_1 l0_2))) = some (r1, r2, r3, r4) := h
  clear h
  replace H := Option.bind_eq_some_iff.mp H
  obtain ⟨t120, A40, H⟩ := H
  replace H : (if t120 = true then (if a1 < 2 then (bazaarref05_Give.j0 k a1 a2 true a0_0 a0_1 l0_2) else (if a1 ≥ a0_0 then (bazaarref05_Give.j0 k a1 a2 true a0_0 a0_1 l0_2) else (if a2 < 1 then (bazaarref05_Give.j0 k a1 a2 true a0_0 a0_1 l0_2) else (bazaarref05_Give.j0 k a1 a2 (decide ((l0_2.length : Int) ≥ 4096)) a0_0 a0_1 l0_2)))) else (bazaarref05_Give.j0 k a1 a2 true a0_0 a0_1 l0_2)) = some (r1, r2, r3, r4) := H
  have A4 := Aside0.mk A40
  clear A40
  have HC5 := Aside0.mk H
  clear H
  go_enter Try.func16, Try.ntmps16
  go_upto_region 2 with (first | ((with_reducible refine gate_dst (N := 3) rfl ?_); (try (refine gate_guard (by rfl) ?_; dsimp only)); refine box_event ?hg (N := 3) ?hd (cs := #[.int .u32 a0_0, .int .u32 a0_1, .slice A0_2 l0_2.length c0_2]) (t := 25) ?hr ?_; (case hd => rfl); (case hg => rfl); (case hr => first | (go_simp; done) | (go_simp; rfl)); intro gb118 hg w6 hbox hb; have n0_ := Aside0.mk (below_step (by repeat (first | (with_reducible first | exact HB.out | apply below_alloc | apply pw_below_drewN | apply below_drew1) | exact HB.out)) hb); have n1_ := Aside0.mk (hbox); have n2_ := Aside0.mk ((by rw [hg]; exact (below_size (by repeat (first | (with_reducible first | exact HB.out | apply below_alloc | apply pw_below_drewN | apply below_drew1) | exact HB.out))) : w.heap.size ≤ gb118)); have n3_ := Aside0.mk ((by rw [hg]; exact (below_size (by repeat (first | (with_reducible first | exact HB.out | apply below_alloc | apply pw_below_drewN | apply below_drew1) | exact HB.out))) : w.heap.size ≤ gb118)); clear HB; have HB := n0_; have BK118 := n1_; have GW118 := n2_; have GE118 := n3_; clear n0_ n1_ n2_ n3_; clear hb hbox hg) | ((with_reducible refine gate_dst (N := 6) rfl ?_); (try (refine gate_guard (by rfl) ?_; dsimp only)); refine box_event ?hg (N := 6) ?hd (cs := #[.int .u32 0, .int .u32 0, .slice none 0 0]) (t := 25) ?hr ?_; (case hd => rfl); (case hg => rfl); (case hr => first | (go_simp; done) | (go_simp; rfl)); intro gb119 hg w7 hbox hb; have n0_ := Aside0.mk (blk_below (g := gb118) (o := .cells #[.int .u32 a0_0, .int .u32 a0_1, .slice A0_2 l0_2.length c0_2] 25 (0, 0)) (by (with_reducible repeat (first | refine blk_drewN ?_ _ | refine blk_drew ?_ | refine blk_alloc ?_ _)); exact BK118.out) hb); have n1_ := Aside0.mk (below_step (by repeat (first | (with_reducible first | exact HB.out | apply below_alloc | apply pw_below_drewN | apply below_drew1 | refine below_set ?_ GE118.out) | exact HB.out)) hb); have n2_ := Aside0.mk (hbox); have n3_ := Aside0.mk ((by rw [hg]; exact (below_size (by repeat (first | (with_reducible first | exact HB.out | apply below_alloc | apply pw_below_drewN | apply below_drew1 | refine below_set ?_ GE118.out) | exact HB.out))) : w.heap.size ≤ gb119)); have n4_ := Aside0.mk ((by rw [hg]; exact (below_size (by repeat (first | (with_reducible first | exact HB.out | apply below_alloc | apply pw_below_drewN | apply below_drew1 | refine below_set ?_ GE118.out) | exact HB.out))) : w.heap.size ≤ gb119)); have n5_ := Aside0.mk ((by rw [hg]; exact Nat.ne_of_lt (blk_lt (g := gb118) (o := .cells #[.int .u32 a0_0, .int .u32 a0_1, .slice A0_2 l0_2.length c0_2] 25 (0, 0)) (by (with_reducible repeat (first | refine blk_drewN ?_ _ | refine blk_drew ?_ | refine blk_alloc ?_ _)); exact BK118.out)) : gb118 ≠ gb119)); have n6_ := Aside0.mk ((by rw [hg]; exact Nat.ne_of_gt (blk_lt (g := gb118) (o := .cells #[.int .u32 a0_0, .int .u32 a0_1, .slice A0_2 l0_2.length c0_2] 25 (0, 0)) (by (with_reducible repeat (first | refine blk_drewN ?_ _ | refine blk_drew ?_ | refine blk_alloc ?_ _)); exact BK118.out)) : gb119 ≠ gb118)); clear BK118; clear HB; have BK118 := n0_; have HB := n1_; have BK119 := n2_; have GW119 := n3_; have GE119 := n4_; have NB118_119 := n5_; have NB119_118 := n6_; clear n0_ n1_ n2_ n3_ n4_ n5_ n6_; clear hb hbox hg; have hnb8 := NB118_119.out; have hnc8 := NB119_118.out; have hcz9_0 : w7.cell? ⟨gb118, 0, none⟩ = some (.int .u32 a0_0) := (blk_cell BK118.out 0).trans rfl; have hcz9_1 : w7.cell? ⟨gb118, 1, none⟩ = some (.int .u32 a0_1) := (blk_cell BK118.out 1).trans rfl; have hcz9_2 : w7.cell? ⟨gb118, 2, none⟩ = some (.slice A0_2 l0_2.length c0_2) := (blk_cell BK118.out 2).trans rfl; have hfz9_0 := blk_frozen BK118.out 0; have hfz9_1 := blk_frozen BK118.out 1; have hfz9_2 := blk_frozen BK118.out 2) | ((with_reducible refine gate_callee (f := 18) rfl ?_); refine goesL_ (some 13) rfl rfl Try.func18 (by kernel_rfl) rfl #[.agg #[.int .u32 a0_0, .int .u32 a0_1, .slice A0_2 l0_2.length c0_2]] rfl (by (try simp only [List.map_toArray, List.map_cons, List.map_nil]); first | done | rfl | (simp only [List.length_drop, List.length_take]; rfl)) ?_; (with_reducible refine (bazaarref05_Right.calls k a0_0 a0_1 _ _ l0_2 t120 _ ?side1 ?side2 A4.out).mono ?_); (case side1 => repeat (first | exact (Kd.C_below HR0_2.out HB.out) | (with_reducible refine Kd.C_alloc ?_ _) | (with_reducible refine Kd.C_drewN ?_ _) | (with_reducible refine Kd.C_drew ?_))); (case side2 => exact HC0_2.out); rintro e w10 ⟨rfl, hb⟩; refine ⟨_, rfl, ?_⟩; have n0_ := Aside0.mk (blk_below (g := gb118) (o := .cells #[.int .u32 a0_0, .int .u32 a0_1, .slice A0_2 l0_2.length c0_2] 25 (0, 0)) (by (with_reducible repeat (first | refine blk_drewN ?_ _ | refine blk_drew ?_ | refine blk_alloc ?_ _)); exact BK118.out) hb); have n1_ := Aside0.mk (blk_below (g := gb119) (o := .cells #[.int .u32 0, .int .u32 0, .slice none 0 0] 25 (0, 0)) (by (with_reducible repeat (first | refine blk_drewN ?_ _ | refine blk_drew ?_ | refine blk_alloc ?_ _)); exact BK119.out) hb); have n2_ := Aside0.mk (below_step (by repeat (first | (with_reducible first | exact HB.out | apply below_alloc | apply pw_below_drewN | apply below_drew1 | refine below_set ?_ GE118.out | refine below_set ?_ GE119.out) | exact HB.out)) hb); clear BK118; clear BK119; clear HB; have BK118 := n0_; have BK119 := n1_; have HB := n2_; clear n0_ n1_ n2_; (try clear hb); (try clear hb2); (try clear hk); (try clear hi)))
  (try simp only [Act.put, List.setIfInBounds_toArray, List.set_cons_zero, List.set_cons_succ])
  go_cut [35] (fun v35 wc => ∃ (kq : Nat) (x35_4 : Bool), v35 = .bool x35_4 ∧ Aside0 (bazaarref05_Give.j0 kq a1 a2 x35_4 a0_0 a0_1 l0_2 = some (r1, r2, r3, r4)) ∧ Aside0 (kq ≤ k) ∧ Aside0 (wc.heap[gb118]? = some (.cells #[.int .u32 a0_0, .int .u32 a0_1, (.slice A0_2 l0_2.length c0_2)] 25 (0, 0))) ∧ Aside0 (wc.heap[gb119]? = some (.cells #[.int .u32 0, .int .u32 0, (.slice none 0 0)] 25 (0, 0))) ∧ Aside0 (Below w.heap.size w wc))
  case first =>
    have H := HC5.out
    clear HC5
    by_cases c11 : t120 = true
    · subst c11
      have H1 : (if a1 < 2 then (bazaarref05_Give.j0 k a1 a2 true a0_0 a0_1 l0_2) else (if a1 ≥ a0_0 then (bazaarref05_Give.j0 k a1 a2 true a0_0 a0_1 l0_2) else (if a2 < 1 then (bazaarref05_Give.j0 k a1 a2 true a0_0 a0_1 l0_2) else (bazaarref05_Give.j0 k a1 a2 (decide ((l0_2.length : Int) ≥ 4096)) a0_0 a0_1 l0_2)))) = some (r1, r2, r3, r4) := by rw [if_pos rfl] at H; exact H
      clear H
      have H := H1
      clear H1
      by_cases c12 : a1 < 2
      · rw [if_pos c12] at H
        have c12b0 : decide (a1 < 2) = true := decide_eq_true c12
        clear c12
        (first | rw [c12b0] | (simp only [i64_w, i32_w]; rw [c12b0]) | skip)
        have H' := Aside0.mk H
        clear H
        go_wp2
        go_meet
        case rel => exact ⟨_, (true), (by first | rfl | (simp; done) | (simp [*]; done)), H', ⟨by first | omega | exact Nat.le_refl _⟩, ⟨by (with_reducible repeat (first | refine blk_drewN ?_ _ | refine blk_drew ?_ | refine blk_alloc ?_ _)); exact BK118.out⟩, ⟨by (with_reducible repeat (first | refine blk_drewN ?_ _ | refine blk_drew ?_ | refine blk_alloc ?_ _)); exact BK119.out⟩, ⟨by repeat (first | (with_reducible first | exact HB.out | apply below_alloc | apply pw_below_drewN | apply below_drew1 | refine below_set ?_ GE118.out | refine below_set ?_ GE119.out) | exact HB.out)⟩⟩
      · rw [if_neg c12] at H
        have c12b0 : decide (a1 < 2) = false := decide_eq_false c12
        clear c12
        (first | rw [c12b0] | (simp only [i64_w, i32_w]; rw [c12b0]) | skip)
        by_cases c13 : a1 ≥ a0_0
        · rw [if_pos c13] at H
          have c13b0 : decide (a0_0 ≤ a1) = true := decide_eq_true c13
          clear c13
          have H' := Aside0.mk H
          clear H
          have hnb14 := NB118_119.out
          have hnc14 := NB119_118.out
          have hcz15_0 : w10.cell? ⟨gb118, 0, none⟩ = some (.int .u32 a0_0) := (blk_cell BK118.out 0).trans rfl
          have hcz15_1 : w10.cell? ⟨gb118, 1, none⟩ = some (.int .u32 a0_1) := (blk_cell BK118.out 1).trans rfl
          have hcz15_2 : w10.cell? ⟨gb118, 2, none⟩ = some (.slice A0_2 l0_2.length c0_2) := (blk_cell BK118.out 2).trans rfl
          have hfz15_0 := blk_frozen BK118.out 0
          have hfz15_1 := blk_frozen BK118.out 1
          have hfz15_2 := blk_frozen BK118.out 2
          go_wp2
          go_meet
          case rel => exact ⟨_, (true), (by first | rfl | (simp; done) | (simp [*]; done)), H', ⟨by first | omega | exact Nat.le_refl _⟩, ⟨by (with_reducible repeat (first | refine blk_drewN ?_ _ | refine blk_drew ?_ | refine blk_alloc ?_ _)); exact BK118.out⟩, ⟨by (with_reducible repeat (first | refine blk_drewN ?_ _ | refine blk_drew ?_ | refine blk_alloc ?_ _)); exact BK119.out⟩, ⟨by repeat (first | (with_reducible first | exact HB.out | apply below_alloc | apply pw_below_drewN | apply below_drew1 | refine below_set ?_ GE118.out | refine below_set ?_ GE119.out) | exact HB.out)⟩⟩
        · rw [if_neg c13] at H
          have c13b0 : decide (a0_0 ≤ a1) = false := decide_eq_false c13
          clear c13
          by_cases c16 : a2 < 1
          · rw [if_pos c16] at H
            have c16b0 : decide (a2 < 1) = true := decide_eq_true c16
            clear c16
            have H' := Aside0.mk H
            clear H
            have hnb17 := NB118_119.out
            have hnc17 := NB119_118.out
            have hcz18_0 : w10.cell? ⟨gb118, 0, none⟩ = some (.int .u32 a0_0) := (blk_cell BK118.out 0).trans rfl
            have hcz18_1 : w10.cell? ⟨gb118, 1, none⟩ = some (.int .u32 a0_1) := (blk_cell BK118.out 1).trans rfl
            have hcz18_2 : w10.cell? ⟨gb118, 2, none⟩ = some (.slice A0_2 l0_2.length c0_2) := (blk_cell BK118.out 2).trans rfl
            have hfz18_0 := blk_frozen BK118.out 0
            have hfz18_1 := blk_frozen BK118.out 1
            have hfz18_2 := blk_frozen BK118.out 2
            go_wp2
            go_meet
            case rel => exact ⟨_, (true), (by first | rfl | (simp; done) | (simp [*]; done)), H', ⟨by first | omega | exact Nat.le_refl _⟩, ⟨by (with_reducible repeat (first | refine blk_drewN ?_ _ | refine blk_drew ?_ | refine blk_alloc ?_ _)); exact BK118.out⟩, ⟨by (with_reducible repeat (first | refine blk_drewN ?_ _ | refine blk_drew ?_ | refine blk_alloc ?_ _)); exact BK119.out⟩, ⟨by repeat (first | (with_reducible first | exact HB.out | apply below_alloc | apply pw_below_drewN | apply below_drew1 | refine below_set ?_ GE118.out | refine below_set ?_ GE119.out) | exact HB.out)⟩⟩
          · rw [if_neg c16] at H
            have c16b0 : decide (a2 < 1) = false := decide_eq_false c16
            clear c16
            have H' := Aside0.mk H
            clear H
            have hnb19 := NB118_119.out
            have hnc19 := NB119_118.out
            have hcz20_0 : w10.cell? ⟨gb118, 0, none⟩ = some (.int .u32 a0_0) := (blk_cell BK118.out 0).trans rfl
            have hcz20_1 : w10.cell? ⟨gb118, 1, none⟩ = some (.int .u32 a0_1) := (blk_cell BK118.out 1).trans rfl
            have hcz20_2 : w10.cell? ⟨gb118, 2, none⟩ = some (.slice A0_2 l0_2.length c0_2) := (blk_cell BK118.out 2).trans rfl
            have hfz20_0 := blk_frozen BK118.out 0
            have hfz20_1 := blk_frozen BK118.out 1
            have hfz20_2 := blk_frozen BK118.out 2
            go_wp2
            go_meet
            case rel => exact ⟨_, (decide ((l0_2.length : Int) ≥ 4096)), (by first | rfl | (simp; done) | (simp [*]; done)), H', ⟨by first | omega | exact Nat.le_refl _⟩, ⟨by (with_reducible repeat (first | refine blk_drewN ?_ _ | refine blk_drew ?_ | refine blk_alloc ?_ _)); exact BK118.out⟩, ⟨by (with_reducible repeat (first | refine blk_drewN ?_ _ | refine blk_drew ?_ | refine blk_alloc ?_ _)); exact BK119.out⟩, ⟨by repeat (first | (with_reducible first | exact HB.out | apply below_alloc | apply pw_below_drewN | apply below_drew1 | refine below_set ?_ GE118.out | refine below_set ?_ GE119.out) | exact HB.out)⟩⟩
    · replace c11 := Bool.eq_false_iff.mpr c11
      subst c11
      have H1 : (bazaarref05_Give.j0 k a1 a2 true a0_0 a0_1 l0_2) = some (r1, r2, r3, r4) := by rw [if_neg (show ¬ (false = true) by decide)] at H; exact H
      clear H
      have H := H1
      clear H1
      have H' := Aside0.mk H
      clear H
      go_wp2
      go_meet
      case rel => exact ⟨_, (true), (by first | rfl | (simp; done) | (simp [*]; done)), H', ⟨by first | omega | exact Nat.le_refl _⟩, ⟨by (with_reducible repeat (first | refine blk_drewN ?_ _ | refine blk_drew ?_ | refine blk_alloc ?_ _)); exact BK118.out⟩, ⟨by (with_reducible repeat (first | refine blk_drewN ?_ _ | refine blk_drew ?_ | refine blk_alloc ?_ _)); exact BK119.out⟩, ⟨by repeat (first | (with_reducible first | exact HB.out | apply below_alloc | apply pw_below_drewN | apply below_drew1 | refine below_set ?_ GE118.out | refine below_set ?_ GE119.out) | exact HB.out)⟩⟩
  case rest =>
    clear HC5
    try clear c1
    try clear p2
    try clear c8
    try clear c11
    try clear c12
    try clear c12b0
    try clear c13
    try clear c13b0
    try clear c14
    try clear c16
    try clear c16b0
    try clear c17
    try clear c18
    try clear c19
    try clear hcz15_0
    try clear hcz15_1
    try clear hcz15_2
    try clear hcz18_0
    try clear hcz18_1
    try clear hcz18_2
    try clear hcz20_0
    try clear hcz20_1
    try clear hcz20_2
    try clear hcz9_0
    try clear hcz9_1
    try clear hcz9_2
    try clear hfz15_0
    try clear hfz15_1
    try clear hfz15_2
    try clear hfz18_0
    try clear hfz18_1
    try clear hfz18_2
    try clear hfz20_0
    try clear hfz20_1
    try clear hfz20_2
    try clear hfz9_0
    try clear hfz9_1
    try clear hfz9_2
    obtain ⟨kq, x35_4, rfl, HA, HJ4, BK118, BK119, HB⟩ := hcut
    cases kq with
    | zero => exact absurd HA.out (by simp [bazaarref05_Give.j0])
    | succ kj4 =>
      have H := HA.out
      clear HA
      simp only [bazaarref05_Give.j0] at H
      by_cases c21 : x35_4 = true
      · subst c21
        have H1 : (some (0, 0, ([] : List (S44)), 50)) = some (r1, r2, r3, r4) := by rw [if_pos rfl] at H; exact H
        clear H
        have H := H1
        clear H1
        simp only [Option.some.injEq, Prod.mk.injEq] at H
        obtain ⟨rfl, rfl, rfl, rfl⟩ := H
        have hnb22 := NB119_118.out
        have hnc22 := NB118_119.out
        have hcz23_0 : wc.cell? ⟨gb119, 0, none⟩ = some (.int .u32 0) := (blk_cell BK119.out 0).trans rfl
        have hcz23_1 : wc.cell? ⟨gb119, 1, none⟩ = some (.int .u32 0) := (blk_cell BK119.out 1).trans rfl
        have hcz23_2 : wc.cell? ⟨gb119, 2, none⟩ = some (.slice none 0 0) := (blk_cell BK119.out 2).trans rfl
        have hfz23_0 := blk_frozen BK119.out 0
        have hfz23_1 := blk_frozen BK119.out 1
        have hfz23_2 := blk_frozen BK119.out 2
        go_wp2
        refine bodyPost_ret (results_ct rfl _ _ gb119 25 #[.int .u32 0, .int .u32 0, .slice none 0 0] (0, 0) _ rfl (by (with_reducible repeat (first | refine blk_drewN ?_ _ | refine blk_drew ?_ | refine blk_alloc ?_ _)); refine blk_put (cs := #[.int .u32 0, .int .u32 0, .slice none 0 0]) ?_ 2 _ rfl; (with_reducible repeat (first | refine blk_drewN ?_ _ | refine blk_drew ?_ | refine blk_alloc ?_ _)); refine blk_put (cs := #[.int .u32 0, .int .u32 0, .slice none 0 0]) ?_ 1 _ rfl; (with_reducible repeat (first | refine blk_drewN ?_ _ | refine blk_drew ?_ | refine blk_alloc ?_ _)); refine blk_put (cs := #[.int .u32 0, .int .u32 0, .slice none 0 0]) ?_ 0 _ rfl; (with_reducible repeat (first | refine blk_drewN ?_ _ | refine blk_drew ?_ | refine blk_alloc ?_ _)); exact BK119.out) Try.underlying25 rfl (by kernel_rfl)) rfl ?_
        exact ⟨_, by first | rfl | (simp [errW_none, errW_some] <;> rfl) | (simp [*, errW_none, errW_some] <;> rfl), by first | exact Kd.R_nil _ _ _ _ _ | exact Kd.N_nil _ _ _ _ _ | exact Kd.V_nil _ _ _ _ _ | exact Kd.Q_nil _ _ _ _ _ | exact Kd.S_nil _ _ _ _ _, by repeat (first | (with_reducible first | exact HB.out | apply below_alloc | apply pw_below_drewN | apply below_drew1 | refine below_set ?_ GE118.out | refine below_set ?_ GE119.out) | exact HB.out)⟩
      · replace c21 := Bool.eq_false_iff.mpr c21
        subst c21
        have H1 : (bazaarref05_Give.l0 kj4 a1 a2 ([] : List (S44)) false 0 a0_0 a0_1 l0_2) = some (r1, r2, r3, r4) := by rw [if_neg (show ¬ (false = true) by decide)] at H; exact H
        clear H
        have H := H1
        clear H1
        have H' := Aside0.mk H
        clear H
        go_wp2
        go_loopg [9, 10, 11] kj4 (fun kq v9 v10 v11 w' => ∃ (x9_2 : List (S44)) (x10_2 : Bool) (x11_2 : Int) (x120000_2 : Int) (x120001_2 : Int), v10 = .bool x10_2 ∧ v11 = .int .i64 x11_2 ∧ Aside0 (bazaarref05_Give.l0 kq a1 a2 x9_2 x10_2 x11_2 a0_0 a0_1 l0_2 = some (r1, r2, r3, r4)) ∧ Aside0 (kq ≤ kj4) ∧ Aside0 (Kd.R k44 44 w' w.heap.size (fun _ => True) v9 x9_2) ∧ Aside0 (w'.heap[gb118]? = some (.cells #[.int .u32 a0_0, .int .u32 a0_1, (.slice A0_2 l0_2.length c0_2)] 25 (0, 0))) ∧ Aside0 (w'.heap[gb119]? = some (.cells #[.int .u32 x120000_2, .int .u32 x120001_2, (.slice none 0 0)] 25 (0, 0))) ∧ Aside0 (Below w.heap.size w w'))
        case atStart => exact ⟨(([] : List (S44))), (false), (0), (0), (0), (by first | rfl | (simp; done) | (simp [*]; done)), (by first | rfl | (simp; done) | (simp [*]; done)), H', ⟨Nat.le_refl _⟩, ⟨by first | exact Kd.R_nil _ _ _ _ _ | exact Kd.N_nil _ _ _ _ _ | exact Kd.V_nil _ _ _ _ _ | exact Kd.Q_nil _ _ _ _ _ | exact Kd.S_nil _ _ _ _ _⟩, ⟨by (with_reducible repeat (first | refine blk_drewN ?_ _ | refine blk_drew ?_ | refine blk_alloc ?_ _)); exact BK118.out⟩, ⟨by (with_reducible repeat (first | refine blk_drewN ?_ _ | refine blk_drew ?_ | refine blk_alloc ?_ _)); exact BK119.out⟩, ⟨by repeat (first | (with_reducible first | exact HB.out | apply below_alloc | apply pw_below_drewN | apply below_drew1 | refine below_set ?_ GE118.out | refine below_set ?_ GE119.out) | exact HB.out)⟩⟩
        case round =>
          clear H'
          try clear c1
          try clear c2
          try clear p2
          try clear c8
          try clear c11
          try clear c12
          try clear c12b0
          try clear c13
          try clear c13b0
          try clear c14
          try clear c16
          try clear c16b0
          try clear c17
          try clear c18
          try clear c19
          try clear c21
          try clear c22
          try clear hcz15_0
          try clear hcz15_1
          try clear hcz15_2
          try clear hcz18_0
          try clear hcz18_1
          try clear hcz18_2
          try clear hcz20_0
          try clear hcz20_1
          try clear hcz20_2
          try clear hcz23_0
          try clear hcz23_1
          try clear hcz23_2
          try clear hcz9_0
          try clear hcz9_1
          try clear hcz9_2
          try clear hfz15_0
          try clear hfz15_1
          try clear hfz15_2
          try clear hfz18_0
          try clear hfz18_1
          try clear hfz18_2
          try clear hfz20_0
          try clear hfz20_1
          try clear hfz20_2
          try clear hfz23_0
          try clear hfz23_1
          try clear hfz23_2
          try clear hfz9_0
          try clear hfz9_1
          try clear hfz9_2
          try clear p2
          obtain ⟨x9_2, x10_2, x11_2, x120000_2, x120001_2, rfl, rfl, HA, HK2, HO_9, BK118, BK119, HB⟩ := hrel
          cases gk with
          | zero => exact absurd HA.out (by simp [bazaarref05_Give.l0])
          | succ k2 =>
            have H := HA.out
            clear HA
            simp only [bazaarref05_Give.l0] at H
            by_cases c24 : x11_2 < (l0_2.length : Int)
            · rw [if_pos c24] at H
              have c24b0 : decide (x11_2 < (l0_2.length : Int)) = true := decide_eq_true c24
              clear c24
              by_cases c25 : 0 ≤ x11_2
              · rw [if_pos c25] at H
                have c25b0 : decide (0 ≤ x11_2) = true := decide_eq_true c25
                clear c25
                by_cases c26 : ((rd_T44 l0_2 x11_2).f0) = a1
                · rw [if_pos c26] at H
                  have c26b0 : (((rd_T44 l0_2 x11_2).f0) == a1) = true := beq_iff_eq.mpr c26
                  have c26b1 : (((rd_T44 l0_2 x11_2).f0) != a1) = false := bne_eq_false_iff_eq.mpr c26
                  clear c26
                  simp only [Option.some.injEq, Prod.mk.injEq] at H
                  obtain ⟨rfl, rfl, rfl, rfl⟩ := H
                  have hnb27 := NB118_119.out
                  have hnc27 := NB119_118.out
                  have hcz28_0 : wr.cell? ⟨gb118, 0, none⟩ = some (.int .u32 a0_0) := (blk_cell BK118.out 0).trans rfl
                  have hcz28_1 : wr.cell? ⟨gb118, 1, none⟩ = some (.int .u32 a0_1) := (blk_cell BK118.out 1).trans rfl
                  have hcz28_2 : wr.cell? ⟨gb118, 2, none⟩ = some (.slice A0_2 l0_2.length c0_2) := (blk_cell BK118.out 2).trans rfl
                  have hfz28_0 := blk_frozen BK118.out 0
                  have hfz28_1 := blk_frozen BK118.out 1
                  have hfz28_2 := blk_frozen BK118.out 2
                  have p124 : 0 ≤ (x11_2 : Int) := of_decide_eq_true (by first | (with_reducible assumption) | assumption)
                  have q124 : x11_2 < (l0_2.length : Int) := of_decide_eq_true (by first | (with_reducible assumption) | assumption)
                  obtain ⟨ad124, e124, hx124_0, hx124_1⟩ := at_T44 HR0_2.out x11_2 p124 q124
                  cases e124
                  replace hx124_0 := (HB.out.cell (World.block_lt_of_cell? w _ hx124_0)).trans hx124_0
                  replace hx124_1 := (HB.out.cell (World.block_lt_of_cell? w _ hx124_1)).trans hx124_1
                  replace p124 := eq_true p124
                  replace q124 := eq_true q124
                  have hcz29_0 : wr.cell? ⟨gb119, 0, none⟩ = some (.int .u32 x120000_2) := (blk_cell BK119.out 0).trans rfl
                  have hcz29_1 : wr.cell? ⟨gb119, 1, none⟩ = some (.int .u32 x120001_2) := (blk_cell BK119.out 1).trans rfl
                  have hcz29_2 : wr.cell? ⟨gb119, 2, none⟩ = some (.slice none 0 0) := (blk_cell BK119.out 2).trans rfl
                  have hfz29_0 := blk_frozen BK119.out 0
                  have hfz29_1 := blk_frozen BK119.out 1
                  have hfz29_2 := blk_frozen BK119.out 2
                  go_wp2
                  refine bodyPost_ret (results_ct rfl _ _ gb119 25 #[.int .u32 0, .int .u32 0, .slice none 0 0] (0, 0) _ rfl (by (with_reducible repeat (first | refine blk_drewN ?_ _ | refine blk_drew ?_ | refine blk_alloc ?_ _)); refine blk_put (cs := #[.int .u32 0, .int .u32 0, .slice none 0 0]) ?_ 2 _ rfl; (with_reducible repeat (first | refine blk_drewN ?_ _ | refine blk_drew ?_ | refine blk_alloc ?_ _)); refine blk_put (cs := #[.int .u32 0, .int .u32 x120001_2, .slice none 0 0]) ?_ 1 _ rfl; (with_reducible repeat (first | refine blk_drewN ?_ _ | refine blk_drew ?_ | refine blk_alloc ?_ _)); refine blk_put (cs := #[.int .u32 x120000_2, .int .u32 x120001_2, .slice none 0 0]) ?_ 0 _ rfl; (with_reducible repeat (first | refine blk_drewN ?_ _ | refine blk_drew ?_ | refine blk_alloc ?_ _)); exact BK119.out) Try.underlying25 rfl (by kernel_rfl)) rfl ?_
                  exact ⟨_, by first | rfl | (simp [errW_none, errW_some] <;> rfl) | (simp [*, errW_none, errW_some] <;> rfl), by first | exact Kd.R_nil _ _ _ _ _ | exact Kd.N_nil _ _ _ _ _ | exact Kd.V_nil _ _ _ _ _ | exact Kd.Q_nil _ _ _ _ _ | exact Kd.S_nil _ _ _ _ _, by repeat (first | (with_reducible first | exact HB.out | apply below_alloc | apply pw_below_drewN | apply below_drew1 | refine below_set ?_ GE118.out | refine below_set ?_ GE119.out) | exact HB.out)⟩
                · rw [if_neg c26] at H
                  have c26b0 : (((rd_T44 l0_2 x11_2).f0) == a1) = false := beq_eq_false_iff_ne.mpr c26
                  have c26b1 : (((rd_T44 l0_2 x11_2).f0) != a1) = true := bne_iff_ne.mpr c26
                  by_cases c30 : x10_2 = true
                  · subst c30
                    have H1 : (if x9_2.length < 8796093022208 then (bazaarref05_Give.l0 k2 a1 a2 (x9_2 ++ [(⟨(rd_T44 l0_2 x11_2).f0, (rd_T44 l0_2 x11_2).f1⟩ : S44)]) true (wrap64 (x11_2 + 1)) a0_0 a0_1 l0_2) else (none)) = some (r1, r2, r3, r4) := by rw [if_pos rfl] at H; exact H
                    clear H
                    have H := H1
                    clear H1
                    by_cases c31 : x9_2.length < 8796093022208
                    · rw [if_pos c31] at H
                      have LMc31 := Aside0.mk c31
                      clear c31
                      obtain ⟨y126, hy126⟩ : ∃ y_ : List (S44), y_ = (x9_2 ++ [(⟨(rd_T44 l0_2 x11_2).f0, (rd_T44 l0_2 x11_2).f1⟩ : S44)]) := ⟨_, rfl⟩
                      replace H : (bazaarref05_Give.l0 k2 a1 a2 y126 true (wrap64 (x11_2 + 1)) a0_0 a0_1 l0_2) = some (r1, r2, r3, r4) := by first | (rw [hy126]; with_reducible exact H) | (have H2_ := (Option.bind_some _ _).symm.trans H; rw [hy126]; with_reducible exact H2_) | (have H2_ := (Option.bind_some _ _).symm.trans H; with_reducible exact H2_) | with_reducible exact H | (rw [hy126]; exact H) | exact H
                      have Ny126 := Aside0.mk hy126
                      clear hy126
                      have H' := Aside0.mk H
                      clear H
                      have hnb32 := NB118_119.out
                      have hnc32 := NB119_118.out
                      have hcz33_0 : wr.cell? ⟨gb118, 0, none⟩ = some (.int .u32 a0_0) := (blk_cell BK118.out 0).trans rfl
                      have hcz33_1 : wr.cell? ⟨gb118, 1, none⟩ = some (.int .u32 a0_1) := (blk_cell BK118.out 1).trans rfl
                      have hcz33_2 : wr.cell? ⟨gb118, 2, none⟩ = some (.slice A0_2 l0_2.length c0_2) := (blk_cell BK118.out 2).trans rfl
                      have hfz33_0 := blk_frozen BK118.out 0
                      have hfz33_1 := blk_frozen BK118.out 1
                      have hfz33_2 := blk_frozen BK118.out 2
                      have p124 : 0 ≤ (x11_2 : Int) := of_decide_eq_true (by first | (with_reducible assumption) | assumption)
                      have q124 : x11_2 < (l0_2.length : Int) := of_decide_eq_true (by first | (with_reducible assumption) | assumption)
                      obtain ⟨ad124, e124, hx124_0, hx124_1⟩ := at_T44 HR0_2.out x11_2 p124 q124
                      cases e124
                      replace hx124_0 := (HB.out.cell (World.block_lt_of_cell? w _ hx124_0)).trans hx124_0
                      replace hx124_1 := (HB.out.cell (World.block_lt_of_cell? w _ hx124_1)).trans hx124_1
                      replace p124 := eq_true p124
                      replace q124 := eq_true q124
                      have p125 : 0 ≤ (x11_2 : Int) := of_decide_eq_true (by first | (with_reducible assumption) | assumption)
                      have q125 : x11_2 < (l0_2.length : Int) := of_decide_eq_true (by first | (with_reducible assumption) | assumption)
                      obtain ⟨ad125, e125, hx125_0, hx125_1⟩ := at_T44 HR0_2.out x11_2 p125 q125
                      obtain rfl : ad124 = ad125 := (by injection e125)
                      replace hx125_0 := (HB.out.cell (World.block_lt_of_cell? w _ hx125_0)).trans hx125_0
                      replace hx125_1 := (HB.out.cell (World.block_lt_of_cell? w _ hx125_1)).trans hx125_1
                      replace p125 := eq_true p125
                      replace q125 := eq_true q125
                      go_wp2_with (first | ((with_reducible refine gate_builtin (b := .append) (xs := #[.tmp 71, .tmp 77]) rfl ?_); (try (refine gate_guard (by rfl) ?_; dsimp only)); at_builtin; refine Kd.R_append k44 (w0 := w) w.heap.size rfl (.tmp 71) (.tmp 77) 23 44 (.agg #[(.int .u32 0), (.int .u64 0)]) 16 rfl Try.underlying23 info44 rfl (by decide) (by omega) u9 x9_2 (⟨(rd_T44 l0_2 x11_2).f0, (rd_T44 l0_2 x11_2).f1⟩ : S44) [.int .u32 ((rd_T44 l0_2 x11_2).f0), .int .u64 ((rd_T44 l0_2 x11_2).f1)] (fun _ => True) (fun _ => False) rfl rfl ?aP (fun _ hk => hk.elim) ?aF ?aO ?aB ?aS ?aL ?_; (case aP => exact k44_mkM _ _ _ (⟨(rd_T44 l0_2 x11_2).f0, (rd_T44 l0_2 x11_2).f1⟩ : S44)); (case aB => exact (by repeat (first | (with_reducible first | exact HB.out | apply below_alloc | apply pw_below_drewN | apply below_drew1 | refine below_set ?_ GE118.out | refine below_set ?_ GE119.out) | exact HB.out))); (case aF => exact (fun _ _ => trivial)); (case aO => exact (by (with_reducible repeat (first | apply Kd.R_alloc | apply Kd.R_drewN | apply Kd.R_drew)); exact HO_9.out)); (case aS => exact (below_size (by repeat (first | (with_reducible first | exact HB.out | apply below_alloc | apply pw_below_drewN | apply below_drew1 | refine below_set ?_ GE118.out | refine below_set ?_ GE119.out) | exact HB.out)))); (case aL => have := LMc31.out; omega); intro v127 w34 ho hb hg hat; rw [← Ny126.out] at ho; have n0_ := Aside0.mk (blk_grown (g := gb118) (o := .cells #[.int .u32 a0_0, .int .u32 a0_1, .slice (some ad124) l0_2.length c0_2] 25 (0, 0)) (by (with_reducible repeat (first | refine blk_drewN ?_ _ | refine blk_drew ?_ | refine blk_alloc ?_ _)); exact BK118.out) hg (Kd.R_ne HO_9.out BK118.out (by decide))); have n1_ := Aside0.mk (blk_grown (g := gb119) (o := .cells #[.int .u32 x120000_2, .int .u32 x120001_2, .slice none 0 0] 25 (0, 0)) (by (with_reducible repeat (first | refine blk_drewN ?_ _ | refine blk_drew ?_ | refine blk_alloc ?_ _)); exact BK119.out) hg (Kd.R_ne HO_9.out BK119.out (by decide))); have n2_ := Aside0.mk (hb); have n3_ := Aside0.mk (ho); clear BK118; clear BK119; clear HB; clear HO_9; have BK118 := n0_; have BK119 := n1_; have HB := n2_; have HO128 := n3_; clear n0_ n1_ n2_ n3_; clear ho hb hg hat))
                      go_roundg k2
                      case measure => have := HJ4.out; have := HK2.out; omega
                      case rel => exact ⟨(y126), (true), (wrap64 (x11_2 + 1)), (x120000_2), (x120001_2), (by first | rfl | (simp; done) | (simp [*]; done)), (by first | rfl | (simp; done) | (simp [*]; done)), H', ⟨by have := HJ4.out; have := HK2.out; omega⟩, ⟨by (with_reducible repeat (first | apply Kd.R_alloc | apply Kd.R_drewN | apply Kd.R_drew)); exact HO128.out⟩, ⟨by (with_reducible repeat (first | refine blk_drewN ?_ _ | refine blk_drew ?_ | refine blk_alloc ?_ _)); exact BK118.out⟩, ⟨by (with_reducible repeat (first | refine blk_drewN ?_ _ | refine blk_drew ?_ | refine blk_alloc ?_ _)); exact BK119.out⟩, ⟨by repeat (first | (with_reducible first | exact HB.out | apply below_alloc | apply pw_below_drewN | apply below_drew1 | refine below_set ?_ GE118.out | refine below_set ?_ GE119.out) | exact HB.out)⟩⟩
                    · rw [if_neg c31] at H
                      exact absurd H (by simp)
                  · replace c30 := Bool.eq_false_iff.mpr c30
                    subst c30
                    have H1 : (if ((rd_T44 l0_2 x11_2).f0) > a1 then (if x9_2.length < 8796093022208 then ((some (x9_2 ++ [(⟨a1, a2⟩ : S44)] : List (S44))).bind fun y130 => (if y130.length < 8796093022208 then (bazaarref05_Give.l0 k2 a1 a2 (y130 ++ [(⟨(rd_T44 l0_2 x11_2).f0, (rd_T44 l0_2 x11_2).f1⟩ : S44)]) true (wrap64 (x11_2 + 1)) a0_0 a0_1 l0_2) else (none))) else (none)) else (if x9_2.length < 8796093022208 then (bazaarref05_Give.l0 k2 a1 a2 (x9_2 ++ [(⟨(rd_T44 l0_2 x11_2).f0, (rd_T44 l0_2 x11_2).f1⟩ : S44)]) false (wrap64 (x11_2 + 1)) a0_0 a0_1 l0_2) else (none))) = some (r1, r2, r3, r4) := by rw [if_neg (show ¬ (false = true) by decide)] at H; exact H
                    clear H
                    have H := H1
                    clear H1
                    by_cases c35 : ((rd_T44 l0_2 x11_2).f0) > a1
                    · rw [if_pos c35] at H
                      have c35b0 : decide (a1 < ((rd_T44 l0_2 x11_2).f0)) = true := decide_eq_true c35
                      clear c35
                      by_cases c36 : x9_2.length < 8796093022208
                      · rw [if_pos c36] at H
                        have LMc36 := Aside0.mk c36
                        clear c36
                        obtain ⟨y130, hy130⟩ : ∃ y_ : List (S44), y_ = (x9_2 ++ [(⟨a1, a2⟩ : S44)]) := ⟨_, rfl⟩
                        replace H : (if y130.length < 8796093022208 then (bazaarref05_Give.l0 k2 a1 a2 (y130 ++ [(⟨(rd_T44 l0_2 x11_2).f0, (rd_T44 l0_2 x11_2).f1⟩ : S44)]) true (wrap64 (x11_2 + 1)) a0_0 a0_1 l0_2) else (none)) = some (r1, r2, r3, r4) := by first | (rw [hy130]; with_reducible exact H) | (have H2_ := (Option.bind_some _ _).symm.trans H; rw [hy130]; with_reducible exact H2_) | (have H2_ := (Option.bind_some _ _).symm.trans H; with_reducible exact H2_) | with_reducible exact H | (rw [hy130]; exact H) | exact H
                        have Ny130 := Aside0.mk hy130
                        clear hy130
                        by_cases c37 : y130.length < 8796093022208
                        · rw [if_pos c37] at H
                          have LMc37 := Aside0.mk c37
                          clear c37
                          obtain ⟨y134, hy134⟩ : ∃ y_ : List (S44), y_ = (y130 ++ [(⟨(rd_T44 l0_2 x11_2).f0, (rd_T44 l0_2 x11_2).f1⟩ : S44)]) := ⟨_, rfl⟩
                          replace H : (bazaarref05_Give.l0 k2 a1 a2 y134 true (wrap64 (x11_2 + 1)) a0_0 a0_1 l0_2) = some (r1, r2, r3, r4) := by first | (rw [hy134]; with_reducible exact H) | (have H2_ := (Option.bind_some _ _).symm.trans H; rw [hy134]; with_reducible exact H2_) | (have H2_ := (Option.bind_some _ _).symm.trans H; with_reducible exact H2_) | with_reducible exact H | (rw [hy134]; exact H) | exact H
                          have Ny134 := Aside0.mk hy134
                          clear hy134
                          have H' := Aside0.mk H
                          clear H
                          have hnb38 := NB118_119.out
                          have hnc38 := NB119_118.out
                          have hcz39_0 : wr.cell? ⟨gb118, 0, none⟩ = some (.int .u32 a0_0) := (blk_cell BK118.out 0).trans rfl
                          have hcz39_1 : wr.cell? ⟨gb118, 1, none⟩ = some (.int .u32 a0_1) := (blk_cell BK118.out 1).trans rfl
                          have hcz39_2 : wr.cell? ⟨gb118, 2, none⟩ = some (.slice A0_2 l0_2.length c0_2) := (blk_cell BK118.out 2).trans rfl
                          have hfz39_0 := blk_frozen BK118.out 0
                          have hfz39_1 := blk_frozen BK118.out 1
                          have hfz39_2 := blk_frozen BK118.out 2
                          have p124 : 0 ≤ (x11_2 : Int) := of_decide_eq_true (by first | (with_reducible assumption) | assumption)
                          have q124 : x11_2 < (l0_2.length : Int) := of_decide_eq_true (by first | (with_reducible assumption) | assumption)
                          obtain ⟨ad124, e124, hx124_0, hx124_1⟩ := at_T44 HR0_2.out x11_2 p124 q124
                          cases e124
                          replace hx124_0 := (HB.out.cell (World.block_lt_of_cell? w _ hx124_0)).trans hx124_0
                          replace hx124_1 := (HB.out.cell (World.block_lt_of_cell? w _ hx124_1)).trans hx124_1
                          replace p124 := eq_true p124
                          replace q124 := eq_true q124
                          have p129 : 0 ≤ (x11_2 : Int) := of_decide_eq_true (by first | (with_reducible assumption) | assumption)
                          have q129 : x11_2 < (l0_2.length : Int) := of_decide_eq_true (by first | (with_reducible assumption) | assumption)
                          obtain ⟨ad129, e129, hx129_0, hx129_1⟩ := at_T44 HR0_2.out x11_2 p129 q129
                          obtain rfl : ad124 = ad129 := (by injection e129)
                          replace hx129_0 := (HB.out.cell (World.block_lt_of_cell? w _ hx129_0)).trans hx129_0
                          replace hx129_1 := (HB.out.cell (World.block_lt_of_cell? w _ hx129_1)).trans hx129_1
                          replace p129 := eq_true p129
                          replace q129 := eq_true q129
                          go_wp2_with (first | ((with_reducible refine gate_builtin (b := .append) (xs := #[.tmp 65, .tmp 69]) rfl ?_); (try (refine gate_guard (by rfl) ?_; dsimp only)); at_builtin; refine Kd.R_append k44 (w0 := w) w.heap.size rfl (.tmp 65) (.tmp 69) 23 44 (.agg #[(.int .u32 0), (.int .u64 0)]) 16 rfl Try.underlying23 info44 rfl (by decide) (by omega) u9 x9_2 (⟨a1, a2⟩ : S44) [.int .u32 a1, .int .u64 a2] (fun _ => True) (fun _ => False) rfl rfl ?aP (fun _ hk => hk.elim) ?aF ?aO ?aB ?aS ?aL ?_; (case aP => exact k44_mkM _ _ _ (⟨a1, a2⟩ : S44)); (case aB => exact (by repeat (first | (with_reducible first | exact HB.out | apply below_alloc | apply pw_below_drewN | apply below_drew1 | refine below_set ?_ GE118.out | refine below_set ?_ GE119.out) | exact HB.out))); (case aF => exact (fun _ _ => trivial)); (case aO => exact (by (with_reducible repeat (first | apply Kd.R_alloc | apply Kd.R_drewN | apply Kd.R_drew)); exact HO_9.out)); (case aS => exact (below_size (by repeat (first | (with_reducible first | exact HB.out | apply below_alloc | apply pw_below_drewN | apply below_drew1 | refine below_set ?_ GE118.out | refine below_set ?_ GE119.out) | exact HB.out)))); (case aL => have := LMc36.out; omega); intro v131 w40 ho hb hg hat; rw [← Ny130.out] at ho; have n0_ := Aside0.mk (blk_grown (g := gb118) (o := .cells #[.int .u32 a0_0, .int .u32 a0_1, .slice (some ad124) l0_2.length c0_2] 25 (0, 0)) (by (with_reducible repeat (first | refine blk_drewN ?_ _ | refine blk_drew ?_ | refine blk_alloc ?_ _)); exact BK118.out) hg (Kd.R_ne HO_9.out BK118.out (by decide))); have n1_ := Aside0.mk (blk_grown (g := gb119) (o := .cells #[.int .u32 x120000_2, .int .u32 x120001_2, .slice none 0 0] 25 (0, 0)) (by (with_reducible repeat (first | refine blk_drewN ?_ _ | refine blk_drew ?_ | refine blk_alloc ?_ _)); exact BK119.out) hg (Kd.R_ne HO_9.out BK119.out (by decide))); have n2_ := Aside0.mk (hb); have n3_ := Aside0.mk (ho); clear BK118; clear BK119; clear HB; clear HO_9; have BK118 := n0_; have BK119 := n1_; have HB := n2_; have HO132 := n3_; clear n0_ n1_ n2_ n3_; clear ho hb hg hat; have hcz41_0 : w40.cell? ⟨gb118, 0, none⟩ = some (.int .u32 a0_0) := (blk_cell BK118.out 0).trans rfl; have hcz41_1 : w40.cell? ⟨gb118, 1, none⟩ = some (.int .u32 a0_1) := (blk_cell BK118.out 1).trans rfl; have hcz41_2 : w40.cell? ⟨gb118, 2, none⟩ = some (.slice (some ad124) l0_2.length c0_2) := (blk_cell BK118.out 2).trans rfl; have hfz41_0 := blk_frozen BK118.out 0; have hfz41_1 := blk_frozen BK118.out 1; have hfz41_2 := blk_frozen BK118.out 2; have p133 : 0 ≤ (x11_2 : Int) := of_decide_eq_true (by first | (with_reducible assumption) | assumption); have q133 : x11_2 < (l0_2.length : Int) := of_decide_eq_true (by first | (with_reducible assumption) | assumption); obtain ⟨ad133, e133, hx133_0, hx133_1⟩ := at_T44 HR0_2.out x11_2 p133 q133; obtain rfl : ad124 = ad133 := (by injection e133); replace hx133_0 := (HB.out.cell (World.block_lt_of_cell? w _ hx133_0)).trans hx133_0; replace hx133_1 := (HB.out.cell (World.block_lt_of_cell? w _ hx133_1)).trans hx133_1; replace p133 := eq_true p133; replace q133 := eq_true q133) | ((with_reducible refine gate_builtin (b := .append) (xs := #[.tmp 71, .tmp 77]) rfl ?_); (try (refine gate_guard (by rfl) ?_; dsimp only)); at_builtin; refine Kd.R_append k44 (w0 := w) w.heap.size rfl (.tmp 71) (.tmp 77) 23 44 (.agg #[(.int .u32 0), (.int .u64 0)]) 16 rfl Try.underlying23 info44 rfl (by decide) (by omega) v131 y130 (⟨(rd_T44 l0_2 x11_2).f0, (rd_T44 l0_2 x11_2).f1⟩ : S44) [.int .u32 ((rd_T44 l0_2 x11_2).f0), .int .u64 ((rd_T44 l0_2 x11_2).f1)] (fun _ => True) (fun _ => False) rfl rfl ?aP (fun _ hk => hk.elim) ?aF ?aO ?aB ?aS ?aL ?_; (case aP => exact k44_mkM _ _ _ (⟨(rd_T44 l0_2 x11_2).f0, (rd_T44 l0_2 x11_2).f1⟩ : S44)); (case aB => exact (by repeat (first | (with_reducible first | exact HB.out | apply below_alloc | apply pw_below_drewN | apply below_drew1 | refine below_set ?_ GE118.out | refine below_set ?_ GE119.out) | exact HB.out))); (case aF => exact (fun _ _ => trivial)); (case aO => exact (by (with_reducible repeat (first | apply Kd.R_alloc | apply Kd.R_drewN | apply Kd.R_drew)); exact HO132.out)); (case aS => exact (below_size (by repeat (first | (with_reducible first | exact HB.out | apply below_alloc | apply pw_below_drewN | apply below_drew1 | refine below_set ?_ GE118.out | refine below_set ?_ GE119.out) | exact HB.out)))); (case aL => have := LMc37.out; omega); intro v135 w42 ho hb hg hat; rw [← Ny134.out] at ho; have n0_ := Aside0.mk (blk_grown (g := gb118) (o := .cells #[.int .u32 a0_0, .int .u32 a0_1, .slice (some ad124) l0_2.length c0_2] 25 (0, 0)) (by (with_reducible repeat (first | refine blk_drewN ?_ _ | refine blk_drew ?_ | refine blk_alloc ?_ _)); exact BK118.out) hg (Kd.R_ne HO132.out BK118.out (by decide))); have n1_ := Aside0.mk (blk_grown (g := gb119) (o := .cells #[.int .u32 x120000_2, .int .u32 x120001_2, .slice none 0 0] 25 (0, 0)) (by (with_reducible repeat (first | refine blk_drewN ?_ _ | refine blk_drew ?_ | refine blk_alloc ?_ _)); exact BK119.out) hg (Kd.R_ne HO132.out BK119.out (by decide))); have n2_ := Aside0.mk (hb); have n3_ := Aside0.mk (ho); clear BK118; clear BK119; clear HB; clear HO132; have BK118 := n0_; have BK119 := n1_; have HB := n2_; have HO136 := n3_; clear n0_ n1_ n2_ n3_; clear ho hb hg hat))
                          go_roundg k2
                          case measure => have := HJ4.out; have := HK2.out; omega
                          case rel => exact ⟨(y134), (true), (wrap64 (x11_2 + 1)), (x120000_2), (x120001_2), (by first | rfl | (simp; done) | (simp [*]; done)), (by first | rfl | (simp; done) | (simp [*]; done)), H', ⟨by have := HJ4.out; have := HK2.out; omega⟩, ⟨by (with_reducible repeat (first | apply Kd.R_alloc | apply Kd.R_drewN | apply Kd.R_drew)); exact HO136.out⟩, ⟨by (with_reducible repeat (first | refine blk_drewN ?_ _ | refine blk_drew ?_ | refine blk_alloc ?_ _)); exact BK118.out⟩, ⟨by (with_reducible repeat (first | refine blk_drewN ?_ _ | refine blk_drew ?_ | refine blk_alloc ?_ _)); exact BK119.out⟩, ⟨by repeat (first | (with_reducible first | exact HB.out | apply below_alloc | apply pw_below_drewN | apply below_drew1 | refine below_set ?_ GE118.out | refine below_set ?_ GE119.out) | exact HB.out)⟩⟩
                        · rw [if_neg c37] at H
                          exact absurd H (by simp)
                      · rw [if_neg c36] at H
                        exact absurd H (by simp)
                    · rw [if_neg c35] at H
                      have c35b0 : decide (a1 < ((rd_T44 l0_2 x11_2).f0)) = false := decide_eq_false c35
                      clear c35
                      by_cases c43 : x9_2.length < 8796093022208
                      · rw [if_pos c43] at H
                        have LMc43 := Aside0.mk c43
                        clear c43
                        obtain ⟨y138, hy138⟩ : ∃ y_ : List (S44), y_ = (x9_2 ++ [(⟨(rd_T44 l0_2 x11_2).f0, (rd_T44 l0_2 x11_2).f1⟩ : S44)]) := ⟨_, rfl⟩
                        replace H : (bazaarref05_Give.l0 k2 a1 a2 y138 false (wrap64 (x11_2 + 1)) a0_0 a0_1 l0_2) = some (r1, r2, r3, r4) := by first | (rw [hy138]; with_reducible exact H) | (have H2_ := (Option.bind_some _ _).symm.trans H; rw [hy138]; with_reducible exact H2_) | (have H2_ := (Option.bind_some _ _).symm.trans H; with_reducible exact H2_) | with_reducible exact H | (rw [hy138]; exact H) | exact H
                        have Ny138 := Aside0.mk hy138
                        clear hy138
                        have H' := Aside0.mk H
                        clear H
                        have hnb44 := NB118_119.out
                        have hnc44 := NB119_118.out
                        have hcz45_0 : wr.cell? ⟨gb118, 0, none⟩ = some (.int .u32 a0_0) := (blk_cell BK118.out 0).trans rfl
                        have hcz45_1 : wr.cell? ⟨gb118, 1, none⟩ = some (.int .u32 a0_1) := (blk_cell BK118.out 1).trans rfl
                        have hcz45_2 : wr.cell? ⟨gb118, 2, none⟩ = some (.slice A0_2 l0_2.length c0_2) := (blk_cell BK118.out 2).trans rfl
                        have hfz45_0 := blk_frozen BK118.out 0
                        have hfz45_1 := blk_frozen BK118.out 1
                        have hfz45_2 := blk_frozen BK118.out 2
                        have p124 : 0 ≤ (x11_2 : Int) := of_decide_eq_true (by first | (with_reducible assumption) | assumption)
                        have q124 : x11_2 < (l0_2.length : Int) := of_decide_eq_true (by first | (with_reducible assumption) | assumption)
                        obtain ⟨ad124, e124, hx124_0, hx124_1⟩ := at_T44 HR0_2.out x11_2 p124 q124
                        cases e124
                        replace hx124_0 := (HB.out.cell (World.block_lt_of_cell? w _ hx124_0)).trans hx124_0
                        replace hx124_1 := (HB.out.cell (World.block_lt_of_cell? w _ hx124_1)).trans hx124_1
                        replace p124 := eq_true p124
                        replace q124 := eq_true q124
                        have p129 : 0 ≤ (x11_2 : Int) := of_decide_eq_true (by first | (with_reducible assumption) | assumption)
                        have q129 : x11_2 < (l0_2.length : Int) := of_decide_eq_true (by first | (with_reducible assumption) | assumption)
                        obtain ⟨ad129, e129, hx129_0, hx129_1⟩ := at_T44 HR0_2.out x11_2 p129 q129
                        obtain rfl : ad124 = ad129 := (by injection e129)
                        replace hx129_0 := (HB.out.cell (World.block_lt_of_cell? w _ hx129_0)).trans hx129_0
                        replace hx129_1 := (HB.out.cell (World.block_lt_of_cell? w _ hx129_1)).trans hx129_1
                        replace p129 := eq_true p129
                        replace q129 := eq_true q129
                        have p137 : 0 ≤ (x11_2 : Int) := of_decide_eq_true (by first | (with_reducible assumption) | assumption)
                        have q137 : x11_2 < (l0_2.length : Int) := of_decide_eq_true (by first | (with_reducible assumption) | assumption)
                        obtain ⟨ad137, e137, hx137_0, hx137_1⟩ := at_T44 HR0_2.out x11_2 p137 q137
                        obtain rfl : ad124 = ad137 := (by injection e137)
                        replace hx137_0 := (HB.out.cell (World.block_lt_of_cell? w _ hx137_0)).trans hx137_0
                        replace hx137_1 := (HB.out.cell (World.block_lt_of_cell? w _ hx137_1)).trans hx137_1
                        replace p137 := eq_true p137
                        replace q137 := eq_true q137
                        go_wp2_with (first | ((with_reducible refine gate_builtin (b := .append) (xs := #[.tmp 71, .tmp 77]) rfl ?_); (try (refine gate_guard (by rfl) ?_; dsimp only)); at_builtin; refine Kd.R_append k44 (w0 := w) w.heap.size rfl (.tmp 71) (.tmp 77) 23 44 (.agg #[(.int .u32 0), (.int .u64 0)]) 16 rfl Try.underlying23 info44 rfl (by decide) (by omega) u9 x9_2 (⟨(rd_T44 l0_2 x11_2).f0, (rd_T44 l0_2 x11_2).f1⟩ : S44) [.int .u32 ((rd_T44 l0_2 x11_2).f0), .int .u64 ((rd_T44 l0_2 x11_2).f1)] (fun _ => True) (fun _ => False) rfl rfl ?aP (fun _ hk => hk.elim) ?aF ?aO ?aB ?aS ?aL ?_; (case aP => exact k44_mkM _ _ _ (⟨(rd_T44 l0_2 x11_2).f0, (rd_T44 l0_2 x11_2).f1⟩ : S44)); (case aB => exact (by repeat (first | (with_reducible first | exact HB.out | apply below_alloc | apply pw_below_drewN | apply below_drew1 | refine below_set ?_ GE118.out | refine below_set ?_ GE119.out) | exact HB.out))); (case aF => exact (fun _ _ => trivial)); (case aO => exact (by (with_reducible repeat (first | apply Kd.R_alloc | apply Kd.R_drewN | apply Kd.R_drew)); exact HO_9.out)); (case aS => exact (below_size (by repeat (first | (with_reducible first | exact HB.out | apply below_alloc | apply pw_below_drewN | apply below_drew1 | refine below_set ?_ GE118.out | refine below_set ?_ GE119.out) | exact HB.out)))); (case aL => have := LMc43.out; omega); intro v139 w46 ho hb hg hat; rw [← Ny138.out] at ho; have n0_ := Aside0.mk (blk_grown (g := gb118) (o := .cells #[.int .u32 a0_0, .int .u32 a0_1, .slice (some ad124) l0_2.length c0_2] 25 (0, 0)) (by (with_reducible repeat (first | refine blk_drewN ?_ _ | refine blk_drew ?_ | refine blk_alloc ?_ _)); exact BK118.out) hg (Kd.R_ne HO_9.out BK118.out (by decide))); have n1_ := Aside0.mk (blk_grown (g := gb119) (o := .cells #[.int .u32 x120000_2, .int .u32 x120001_2, .slice none 0 0] 25 (0, 0)) (by (with_reducible repeat (first | refine blk_drewN ?_ _ | refine blk_drew ?_ | refine blk_alloc ?_ _)); exact BK119.out) hg (Kd.R_ne HO_9.out BK119.out (by decide))); have n2_ := Aside0.mk (hb); have n3_ := Aside0.mk (ho); clear BK118; clear BK119; clear HB; clear HO_9; have BK118 := n0_; have BK119 := n1_; have HB := n2_; have HO140 := n3_; clear n0_ n1_ n2_ n3_; clear ho hb hg hat))
                        go_roundg k2
                        case measure => have := HJ4.out; have := HK2.out; omega
                        case rel => exact ⟨(y138), (false), (wrap64 (x11_2 + 1)), (x120000_2), (x120001_2), (by first | rfl | (simp; done) | (simp [*]; done)), (by first | rfl | (simp; done) | (simp [*]; done)), H', ⟨by have := HJ4.out; have := HK2.out; omega⟩, ⟨by (with_reducible repeat (first | apply Kd.R_alloc | apply Kd.R_drewN | apply Kd.R_drew)); exact HO140.out⟩, ⟨by (with_reducible repeat (first | refine blk_drewN ?_ _ | refine blk_drew ?_ | refine blk_alloc ?_ _)); exact BK118.out⟩, ⟨by (with_reducible repeat (first | refine blk_drewN ?_ _ | refine blk_drew ?_ | refine blk_alloc ?_ _)); exact BK119.out⟩, ⟨by repeat (first | (with_reducible first | exact HB.out | apply below_alloc | apply pw_below_drewN | apply below_drew1 | refine below_set ?_ GE118.out | refine below_set ?_ GE119.out) | exact HB.out)⟩⟩
                      · rw [if_neg c43] at H
                        exact absurd H (by simp)
              · rw [if_neg c25] at H
                exact absurd H (by simp)
            · rw [if_neg c24] at H
              have c24b0 : decide (x11_2 < (l0_2.length : Int)) = false := decide_eq_false c24
              clear c24
              by_cases c47 : x10_2 = true
              · subst c47
                have H1 : (some (a0_0, a0_1, x9_2, 0)) = some (r1, r2, r3, r4) := by rw [if_pos rfl] at H; exact H
                clear H
                have H := H1
                clear H1
                simp only [Option.some.injEq, Prod.mk.injEq] at H
                obtain ⟨rfl, rfl, rfl, rfl⟩ := H
                have hnb48 := NB118_119.out
                have hnc48 := NB119_118.out
                have hcz49_0 : wr.cell? ⟨gb118, 0, none⟩ = some (.int .u32 a0_0) := (blk_cell BK118.out 0).trans rfl
                have hcz49_1 : wr.cell? ⟨gb118, 1, none⟩ = some (.int .u32 a0_1) := (blk_cell BK118.out 1).trans rfl
                have hcz49_2 : wr.cell? ⟨gb118, 2, none⟩ = some (.slice A0_2 l0_2.length c0_2) := (blk_cell BK118.out 2).trans rfl
                have hfz49_0 := blk_frozen BK118.out 0
                have hfz49_1 := blk_frozen BK118.out 1
                have hfz49_2 := blk_frozen BK118.out 2
                obtain ⟨Ao50, co50, eo50⟩ := Kd.R_slice HO_9.out
                subst eo50
                have hcz51_0 : wr.cell? ⟨gb119, 0, none⟩ = some (.int .u32 x120000_2) := (blk_cell BK119.out 0).trans rfl
                have hcz51_1 : wr.cell? ⟨gb119, 1, none⟩ = some (.int .u32 x120001_2) := (blk_cell BK119.out 1).trans rfl
                have hcz51_2 : wr.cell? ⟨gb119, 2, none⟩ = some (.slice none 0 0) := (blk_cell BK119.out 2).trans rfl
                have hfz51_0 := blk_frozen BK119.out 0
                have hfz51_1 := blk_frozen BK119.out 1
                have hfz51_2 := blk_frozen BK119.out 2
                go_wp2
                refine bodyPost_ret (results_ct rfl _ _ gb119 25 #[.int .u32 a0_0, .int .u32 a0_1, .slice Ao50 x9_2.length co50] (0, 0) _ rfl (by (with_reducible repeat (first | refine blk_drewN ?_ _ | refine blk_drew ?_ | refine blk_alloc ?_ _)); refine blk_put (cs := #[.int .u32 a0_0, .int .u32 a0_1, .slice none 0 0]) ?_ 2 _ rfl; (with_reducible repeat (first | refine blk_drewN ?_ _ | refine blk_drew ?_ | refine blk_alloc ?_ _)); refine blk_put (cs := #[.int .u32 a0_0, .int .u32 x120001_2, .slice none 0 0]) ?_ 1 _ rfl; (with_reducible repeat (first | refine blk_drewN ?_ _ | refine blk_drew ?_ | refine blk_alloc ?_ _)); refine blk_put (cs := #[.int .u32 x120000_2, .int .u32 x120001_2, .slice none 0 0]) ?_ 0 _ rfl; (with_reducible repeat (first | refine blk_drewN ?_ _ | refine blk_drew ?_ | refine blk_alloc ?_ _)); refine blk_far ?_ NB119_118.out _; (with_reducible repeat (first | refine blk_drewN ?_ _ | refine blk_drew ?_ | refine blk_alloc ?_ _)); exact BK119.out) Try.underlying25 rfl (by kernel_rfl)) rfl ?_
                exact ⟨_, by first | rfl | (simp [errW_none, errW_some] <;> rfl) | (simp [*, errW_none, errW_some] <;> rfl), by (with_reducible repeat (first | apply Kd.R_alloc | apply Kd.R_drewN | apply Kd.R_drew)); exact Kd.R_mono (Kd.R_far (p := ⟨gb119, 2, none⟩) (Kd.R_far (p := ⟨gb119, 1, none⟩) (Kd.R_far (p := ⟨gb119, 0, none⟩) (Kd.R_far (p := ⟨gb118, 2, none⟩) (Kd.R_types (Kd.R_types HO_9.out BK118.out (by decide)) BK119.out (by decide)) (fun _ hk => hk.1.2) (.slice Ao50 x9_2.length co50)) (fun _ hk => hk.2) (.int .u32 a0_0)) (fun _ hk => hk.2) (.int .u32 a0_1)) (fun _ hk => hk.2) (.slice Ao50 x9_2.length co50)) (fun _ hk => trivial), by repeat (first | (with_reducible first | exact HB.out | apply below_alloc | apply pw_below_drewN | apply below_drew1 | refine below_set ?_ GE118.out | refine below_set ?_ GE119.out) | exact HB.out)⟩
              · replace c47 := Bool.eq_false_iff.mpr c47
                subst c47
                have H1 : (if x9_2.length < 8796093022208 then (some (a0_0, a0_1, (x9_2 ++ [(⟨a1, a2⟩ : S44)]), 0)) else (none)) = some (r1, r2, r3, r4) := by rw [if_neg (show ¬ (false = true) by decide)] at H; exact H
                clear H
                have H := H1
                clear H1
                by_cases c52 : x9_2.length < 8796093022208
                · rw [if_pos c52] at H
                  have LMc52 := Aside0.mk c52
                  clear c52
                  obtain ⟨y121, hy121⟩ : ∃ y_ : List (S44), y_ = (x9_2 ++ [(⟨a1, a2⟩ : S44)]) := ⟨_, rfl⟩
                  replace H : (some (a0_0, a0_1, y121, 0)) = some (r1, r2, r3, r4) := by first | (rw [hy121]; with_reducible exact H) | (have H2_ := (Option.bind_some _ _).symm.trans H; rw [hy121]; with_reducible exact H2_) | (have H2_ := (Option.bind_some _ _).symm.trans H; with_reducible exact H2_) | with_reducible exact H | (rw [hy121]; exact H) | exact H
                  have Ny121 := Aside0.mk hy121
                  clear hy121
                  simp only [Option.some.injEq, Prod.mk.injEq] at H
                  obtain ⟨rfl, rfl, rfl, rfl⟩ := H
                  have hnb53 := NB118_119.out
                  have hnc53 := NB119_118.out
                  have hcz54_0 : wr.cell? ⟨gb118, 0, none⟩ = some (.int .u32 a0_0) := (blk_cell BK118.out 0).trans rfl
                  have hcz54_1 : wr.cell? ⟨gb118, 1, none⟩ = some (.int .u32 a0_1) := (blk_cell BK118.out 1).trans rfl
                  have hcz54_2 : wr.cell? ⟨gb118, 2, none⟩ = some (.slice A0_2 l0_2.length c0_2) := (blk_cell BK118.out 2).trans rfl
                  have hfz54_0 := blk_frozen BK118.out 0
                  have hfz54_1 := blk_frozen BK118.out 1
                  have hfz54_2 := blk_frozen BK118.out 2
                  go_wp2_with (first | ((with_reducible refine gate_builtin (b := .append) (xs := #[.tmp 81, .tmp 85]) rfl ?_); (try (refine gate_guard (by rfl) ?_; dsimp only)); at_builtin; refine Kd.R_append k44 (w0 := w) w.heap.size rfl (.tmp 81) (.tmp 85) 23 44 (.agg #[(.int .u32 0), (.int .u64 0)]) 16 rfl Try.underlying23 info44 rfl (by decide) (by omega) u9 x9_2 (⟨a1, a2⟩ : S44) [.int .u32 a1, .int .u64 a2] (fun _ => True) (fun _ => False) rfl rfl ?aP (fun _ hk => hk.elim) ?aF ?aO ?aB ?aS ?aL ?_; (case aP => exact k44_mkM _ _ _ (⟨a1, a2⟩ : S44)); (case aB => exact (by repeat (first | (with_reducible first | exact HB.out | apply below_alloc | apply pw_below_drewN | apply below_drew1 | refine below_set ?_ GE118.out | refine below_set ?_ GE119.out) | exact HB.out))); (case aF => exact (fun _ _ => trivial)); (case aO => exact (by (with_reducible repeat (first | apply Kd.R_alloc | apply Kd.R_drewN | apply Kd.R_drew)); exact HO_9.out)); (case aS => exact (below_size (by repeat (first | (with_reducible first | exact HB.out | apply below_alloc | apply pw_below_drewN | apply below_drew1 | refine below_set ?_ GE118.out | refine below_set ?_ GE119.out) | exact HB.out)))); (case aL => have := LMc52.out; omega); intro v122 w55 ho hb hg hat; rw [← Ny121.out] at ho; have n0_ := Aside0.mk (blk_grown (g := gb118) (o := .cells #[.int .u32 a0_0, .int .u32 a0_1, .slice A0_2 l0_2.length c0_2] 25 (0, 0)) (by (with_reducible repeat (first | refine blk_drewN ?_ _ | refine blk_drew ?_ | refine blk_alloc ?_ _)); exact BK118.out) hg (Kd.R_ne HO_9.out BK118.out (by decide))); have n1_ := Aside0.mk (blk_grown (g := gb119) (o := .cells #[.int .u32 x120000_2, .int .u32 x120001_2, .slice none 0 0] 25 (0, 0)) (by (with_reducible repeat (first | refine blk_drewN ?_ _ | refine blk_drew ?_ | refine blk_alloc ?_ _)); exact BK119.out) hg (Kd.R_ne HO_9.out BK119.out (by decide))); have n2_ := Aside0.mk (hb); have n3_ := Aside0.mk (ho); clear BK118; clear BK119; clear HB; clear HO_9; have BK118 := n0_; have BK119 := n1_; have HB := n2_; have HO123 := n3_; clear n0_ n1_ n2_ n3_; clear ho hb hg hat; obtain ⟨Ao56, co56, eo56⟩ := Kd.R_slice HO123.out; subst eo56; have hcz57_0 : w55.cell? ⟨gb118, 0, none⟩ = some (.int .u32 a0_0) := (blk_cell BK118.out 0).trans rfl; have hcz57_1 : w55.cell? ⟨gb118, 1, none⟩ = some (.int .u32 a0_1) := (blk_cell BK118.out 1).trans rfl; have hcz57_2 : w55.cell? ⟨gb118, 2, none⟩ = some (.slice A0_2 l0_2.length c0_2) := (blk_cell BK118.out 2).trans rfl; have hfz57_0 := blk_frozen BK118.out 0; have hfz57_1 := blk_frozen BK118.out 1; have hfz57_2 := blk_frozen BK118.out 2; have hcz58_0 : w55.cell? ⟨gb119, 0, none⟩ = some (.int .u32 x120000_2) := (blk_cell BK119.out 0).trans rfl; have hcz58_1 : w55.cell? ⟨gb119, 1, none⟩ = some (.int .u32 x120001_2) := (blk_cell BK119.out 1).trans rfl; have hcz58_2 : w55.cell? ⟨gb119, 2, none⟩ = some (.slice none 0 0) := (blk_cell BK119.out 2).trans rfl; have hfz58_0 := blk_frozen BK119.out 0; have hfz58_1 := blk_frozen BK119.out 1; have hfz58_2 := blk_frozen BK119.out 2))
                  refine bodyPost_ret (results_ct rfl _ _ gb119 25 #[.int .u32 a0_0, .int .u32 a0_1, .slice Ao56 y121.length co56] (0, 0) _ rfl (by (with_reducible repeat (first | refine blk_drewN ?_ _ | refine blk_drew ?_ | refine blk_alloc ?_ _)); refine blk_put (cs := #[.int .u32 a0_0, .int .u32 a0_1, .slice none 0 0]) ?_ 2 _ rfl; (with_reducible repeat (first | refine blk_drewN ?_ _ | refine blk_drew ?_ | refine blk_alloc ?_ _)); refine blk_put (cs := #[.int .u32 a0_0, .int .u32 x120001_2, .slice none 0 0]) ?_ 1 _ rfl; (with_reducible repeat (first | refine blk_drewN ?_ _ | refine blk_drew ?_ | refine blk_alloc ?_ _)); refine blk_put (cs := #[.int .u32 x120000_2, .int .u32 x120001_2, .slice none 0 0]) ?_ 0 _ rfl; (with_reducible repeat (first | refine blk_drewN ?_ _ | refine blk_drew ?_ | refine blk_alloc ?_ _)); refine blk_far ?_ NB119_118.out _; (with_reducible repeat (first | refine blk_drewN ?_ _ | refine blk_drew ?_ | refine blk_alloc ?_ _)); exact BK119.out) Try.underlying25 rfl (by kernel_rfl)) rfl ?_
                  exact ⟨_, by first | rfl | (simp [errW_none, errW_some] <;> rfl) | (simp [*, errW_none, errW_some] <;> rfl), by (with_reducible repeat (first | apply Kd.R_alloc | apply Kd.R_drewN | apply Kd.R_drew)); exact Kd.R_mono (Kd.R_far (p := ⟨gb119, 2, none⟩) (Kd.R_far (p := ⟨gb119, 1, none⟩) (Kd.R_far (p := ⟨gb119, 0, none⟩) (Kd.R_far (p := ⟨gb118, 2, none⟩) (Kd.R_types (Kd.R_types HO123.out BK118.out (by decide)) BK119.out (by decide)) (fun _ hk => hk.1.2) (.slice Ao56 y121.length co56)) (fun _ hk => hk.2) (.int .u32 a0_0)) (fun _ hk => hk.2) (.int .u32 a0_1)) (fun _ hk => hk.2) (.slice Ao56 y121.length co56)) (fun _ hk => trivial), by repeat (first | (with_reducible first | exact HB.out | apply below_alloc | apply pw_below_drewN | apply below_drew1 | refine below_set ?_ GE118.out | refine below_set ?_ GE119.out) | exact HB.out)⟩
                · rw [if_neg c52] at H
                  exact absurd H (by simp)

/-! ### bazaarref05_Same: function 20 -/
def bazaarref05_Same.l0 : Nat → List (S44) → List (S44) → Int → Option (Bool)
  | 0, _, _, _ => none
  | k + 1, x0, x1, x5 => if x5 < (x0.length : Int) then (if 0 ≤ x5 then (if x5 < (x1.length : Int) then (if (!(((rd_T44 x0 x5).f0) == ((rd_T44 x1 x5).f0)) || (!(((rd_T44 x0 x5).f1) == ((rd_T44 x1 x5).f1)))) = true then (some false) else (bazaarref05_Same.l0 k x0 x1 (wrap64 (x5 + 1)))) else (none)) else (none)) else (some true)
def bazaarref05_Same.f (k : Nat) (l0 : List (S44)) (l1 : List (S44)) : Option (Bool) := if (l0.length : Int) = (l1.length : Int) then (bazaarref05_Same.l0 k l0 l1 0) else (some false)
theorem bazaarref05_Same.mono_l : ∀ k, (∀ y0 y1 y2, LeO (bazaarref05_Same.l0 k y0 y1 y2) (bazaarref05_Same.l0 (k + 1) y0 y1 y2))
  | 0 => fun _ _ _ r h => by simp [bazaarref05_Same.l0] at h
  | k + 1 => by
    have ih0 := bazaarref05_Same.mono_l k
    · intro y0 y1 y2
      unfold bazaarref05_Same.l0
      repeat' first
      | (with_reducible exact ih0 _ _ _)
      | (with_reducible exact LeO.refl _)
      | (with_reducible exact LeO.none _)
      | (with_reducible refine LeO.ite ?_ ?_)
      | (with_reducible refine LeO.bind ?_ (fun _ => ?_))
      | exact ih0 _ _ _
      | exact LeO.none _
      | refine LeO.ite ?_ ?_
      | refine LeO.bind ?_ (fun _ => ?_)
theorem bazaarref05_Same.mono : ∀ a0 a1 k, LeO (bazaarref05_Same.f k a0 a1) (bazaarref05_Same.f (k + 1) a0 a1) := by
  intro a0 a1 k
  have ih0 := bazaarref05_Same.mono_l k
  unfold bazaarref05_Same.f
  repeat' first
      | (with_reducible exact ih0 _ _ _)
      | (with_reducible exact LeO.refl _)
      | (with_reducible exact LeO.none _)
      | (with_reducible refine LeO.ite ?_ ?_)
      | (with_reducible refine LeO.bind ?_ (fun _ => ?_))
      | exact ih0 _ _ _
      | exact LeO.none _
      | refine LeO.ite ?_ ?_
      | refine LeO.bind ?_ (fun _ => ?_)
set_option maxHeartbeats 8000000 in
set_option maxRecDepth 100000 in
theorem bazaarref05_Same.calls (k : Nat) (A0 : Option Addr) (c0 : Nat) (l0 : List (S44)) (A1 : Option Addr) (c1 : Nat) (l1 : List (S44)) (r : Bool) (w : World) (hr0 : Kd.C k44 w A0 l0.length l0) (hc0 : l0.length ≤ c0) (hr1 : Kd.C k44 w A1 l1.length l1) (hc1 : l1.length ≤ c1) (h : bazaarref05_Same.f k l0 l1 = some r) :
    Calls Try.prog 20 #[.slice A0 l0.length c0, .slice A1 l1.length c1] w fun e w' => e = .returned (.bool r) ∧ Drawn0 w w' := by
  have hu44 := Try.underlying44
  have HR0 := Aside0.mk hr0
  have HC0 := Aside0.mk hc0
  clear hr0 hc0
  have HR1 := Aside0.mk hr1
  have HC1 := Aside0.mk hc1
  clear hr1 hc1
  have H : (if (l0.length : Int) = (l1.length : Int) then (bazaarref05_Same.l0 k l0 l1 0) else (some false)) = some r := h
  clear h
  by_cases c3 : (l0.length : Int) = (l1.length : Int)
  · rw [if_pos c3] at H
    have c3b0 : ((l0.length : Int) == (l1.length : Int)) = true := beq_iff_eq.mpr c3
    have c3b1 : ((l0.length : Int) != (l1.length : Int)) = false := bne_eq_false_iff_eq.mpr c3
    have c3b2 : (l0.length == l1.length) = true := by first | simpa using c3 | (simp at c3 ⊢; omega)
    clear c3
    have H' := Aside0.mk H
    clear H
    go_enter Try.func20, Try.ntmps20
    go_wp2
    repeat (go_quiet (fail); try go_wp2)
    go_loopg [5] k (fun kq v5 w' => ∃ (x5_1 : Int), v5 = .int .i64 x5_1 ∧ Aside0 (bazaarref05_Same.l0 kq l0 l1 x5_1 = some r) ∧ Aside0 (kq ≤ k) ∧ Drawn0 w w')
    case atStart => exact ⟨(0), (by first | rfl | (simp; done) | (simp [*]; done)), H', ⟨Nat.le_refl _⟩, by repeat (first | exact Drawn0.refl _ | apply Drawn0.step)⟩
    case round =>
      clear H'
      try clear c1
      try clear c2
      try clear p2
      try clear c3
      try clear c3b0
      try clear c3b1
      try clear c3b2
      obtain ⟨x5_1, rfl, HA, HK1, ⟨m1, rfl⟩⟩ := hrel
      cases gk with
      | zero => exact absurd HA.out (by simp [bazaarref05_Same.l0])
      | succ k1 =>
        have H := HA.out
        clear HA
        simp only [bazaarref05_Same.l0] at H
        by_cases c4 : x5_1 < (l0.length : Int)
        · rw [if_pos c4] at H
          have c4b0 : decide (x5_1 < (l0.length : Int)) = true := decide_eq_true c4
          clear c4
          by_cases c5 : 0 ≤ x5_1
          · rw [if_pos c5] at H
            have c5b0 : decide (0 ≤ x5_1) = true := decide_eq_true c5
            clear c5
            by_cases c6 : x5_1 < (l1.length : Int)
            · rw [if_pos c6] at H
              have c6b0 : decide (x5_1 < (l1.length : Int)) = true := decide_eq_true c6
              clear c6
              by_cases c7 : (!(((rd_T44 l0 x5_1).f0) == ((rd_T44 l1 x5_1).f0)) || (!(((rd_T44 l0 x5_1).f1) == ((rd_T44 l1 x5_1).f1)))) = true
              · rw [if_pos c7] at H
                have c7b0 : (!(((rd_T44 l0 x5_1).f0) == ((rd_T44 l1 x5_1).f0)) || (!(((rd_T44 l0 x5_1).f1) == ((rd_T44 l1 x5_1).f1)))) = true := c7
                clear c7
                obtain rfl := Option.some.inj H
                have p141 : 0 ≤ (x5_1 : Int) := of_decide_eq_true (by first | (with_reducible assumption) | assumption)
                have q141 : x5_1 < (l0.length : Int) := of_decide_eq_true (by first | (with_reducible assumption) | assumption)
                obtain ⟨ad141, e141, hx141_0, hx141_1⟩ := at_T44 HR0.out x5_1 p141 q141
                cases e141
                replace p141 := eq_true p141
                replace q141 := eq_true q141
                have p142 : 0 ≤ (x5_1 : Int) := of_decide_eq_true (by first | (with_reducible assumption) | assumption)
                have q142 : x5_1 < (l1.length : Int) := of_decide_eq_true (by first | (with_reducible assumption) | assumption)
                obtain ⟨ad142, e142, hx142_0, hx142_1⟩ := at_T44 HR1.out x5_1 p142 q142
                cases e142
                replace p142 := eq_true p142
                replace q142 := eq_true q142
                go_wp2
                repeat (go_quiet (fail); try go_wp2)
                go_ret
                exact ⟨by first | rfl | (simp; done) | (simp [*]; done), by repeat (first | exact Drawn0.refl _ | apply Drawn0.step)⟩
              · rw [if_neg c7] at H
                have c7b0 : (!(((rd_T44 l0 x5_1).f0) == ((rd_T44 l1 x5_1).f0)) || (!(((rd_T44 l0 x5_1).f1) == ((rd_T44 l1 x5_1).f1)))) = false := by simpa using c7
                clear c7
                have H' := Aside0.mk H
                clear H
                have p141 : 0 ≤ (x5_1 : Int) := of_decide_eq_true (by first | (with_reducible assumption) | assumption)
                have q141 : x5_1 < (l0.length : Int) := of_decide_eq_true (by first | (with_reducible assumption) | assumption)
                obtain ⟨ad141, e141, hx141_0, hx141_1⟩ := at_T44 HR0.out x5_1 p141 q141
                cases e141
                replace p141 := eq_true p141
                replace q141 := eq_true q141
                have p142 : 0 ≤ (x5_1 : Int) := of_decide_eq_true (by first | (with_reducible assumption) | assumption)
                have q142 : x5_1 < (l1.length : Int) := of_decide_eq_true (by first | (with_reducible assumption) | assumption)
                obtain ⟨ad142, e142, hx142_0, hx142_1⟩ := at_T44 HR1.out x5_1 p142 q142
                cases e142
                replace p142 := eq_true p142
                replace q142 := eq_true q142
                go_wp2
                repeat (go_quiet (fail); try go_wp2)
                go_roundg k1
                case measure => have := HK1.out; omega
                case rel => exact ⟨(wrap64 (x5_1 + 1)), (by first | rfl | (simp; done) | (simp [*]; done)), H', ⟨by have := HK1.out; omega⟩, by repeat (first | exact Drawn0.refl _ | apply Drawn0.step)⟩
            · rw [if_neg c6] at H
              exact absurd H (by simp)
          · rw [if_neg c5] at H
            exact absurd H (by simp)
        · rw [if_neg c4] at H
          have c4b0 : decide (x5_1 < (l0.length : Int)) = false := decide_eq_false c4
          clear c4
          obtain rfl := Option.some.inj H
          go_wp2
          repeat (go_quiet (fail); try go_wp2)
          go_ret
          exact ⟨by first | rfl | (simp; done) | (simp [*]; done), by repeat (first | exact Drawn0.refl _ | apply Drawn0.step)⟩
  · rw [if_neg c3] at H
    have c3b0 : ((l0.length : Int) == (l1.length : Int)) = false := beq_eq_false_iff_ne.mpr c3
    have c3b1 : ((l0.length : Int) != (l1.length : Int)) = true := bne_iff_ne.mpr c3
    have c3b2 : (l0.length == l1.length) = false := by first | simpa using c3 | (simp at c3 ⊢; omega)
    obtain rfl := Option.some.inj H
    go_enter Try.func20, Try.ntmps20
    go_wp2
    repeat (go_quiet (fail); try go_wp2)
    go_ret
    exact ⟨by first | rfl | (simp; done) | (simp [*]; done), by repeat (first | exact Drawn0.refl _ | apply Drawn0.step)⟩

/-! ### bazaarlaw05_same: function 19 -/
def bazaarlaw05_same.f (k : Nat) (a0_0 : Int) (a0_1 : Int) (l0_2 : List (S44)) (a1_0 : Int) (a1_1 : Int) (l1_2 : List (S44)) : Option (Bool) := (bazaarref05_Same.f k l0_2 l1_2).bind fun t145 => (if t145 = true then (if a0_0 = a1_0 then (some (a0_1 == a1_1)) else (some false)) else (some false))
theorem bazaarlaw05_same.mono : ∀ a0 a1 a2 a3 a4 a5 k, LeO (bazaarlaw05_same.f k a0 a1 a2 a3 a4 a5) (bazaarlaw05_same.f (k + 1) a0 a1 a2 a3 a4 a5) := by
  intro a0 a1 a2 a3 a4 a5 k
  unfold bazaarlaw05_same.f
  repeat' first
      | (with_reducible exact bazaarref05_Same.mono _ _ _)
      | (with_reducible exact LeO.refl _)
      | (with_reducible exact LeO.none _)
      | (with_reducible refine LeO.ite ?_ ?_)
      | (with_reducible refine LeO.bind ?_ (fun _ => ?_))
      | exact bazaarref05_Same.mono _ _ _
      | exact LeO.none _
      | refine LeO.ite ?_ ?_
      | refine LeO.bind ?_ (fun _ => ?_)
set_option maxHeartbeats 8000000 in
set_option maxRecDepth 100000 in
theorem bazaarlaw05_same.calls (k : Nat) (a0_0 : Int) (a0_1 : Int) (A0_2 : Option Addr) (c0_2 : Nat) (l0_2 : List (S44)) (a1_0 : Int) (a1_1 : Int) (A1_2 : Option Addr) (c1_2 : Nat) (l1_2 : List (S44)) (r : Bool) (w : World) (hr0_2 : Kd.C k44 w A0_2 l0_2.length l0_2) (hc0_2 : l0_2.length ≤ c0_2) (hr1_2 : Kd.C k44 w A1_2 l1_2.length l1_2) (hc1_2 : l1_2.length ≤ c1_2) (h : bazaarlaw05_same.f k a0_0 a0_1 l0_2 a1_0 a1_1 l1_2 = some r) :
    Calls Try.prog 19 #[.agg #[.int .u32 a0_0, .int .u32 a0_1, .slice A0_2 l0_2.length c0_2], .agg #[.int .u32 a1_0, .int .u32 a1_1, .slice A1_2 l1_2.length c1_2]] w fun e w' => e = .returned (.bool r) ∧ Below w.heap.size w w' := by
  have hu25 := Try.underlying25
  have HR0_2 := Aside0.mk hr0_2
  have HC0_2 := Aside0.mk hc0_2
  clear hr0_2 hc0_2
  have HR1_2 := Aside0.mk hr1_2
  have HC1_2 := Aside0.mk hc1_2
  clear hr1_2 hc1_2
  have HB := Aside0.mk (Below.refl w.heap.size w)
  have H : ((bazaarref05_Same.f k l0_2 l1_2).bind fun t145 => (if t145 = true then (if a0_0 = a1_0 then (some (a0_1 == a1_1)) else (some false)) else (some false))) = some r := h
  clear h
  replace H := Option.bind_eq_some_iff.mp H
  obtain ⟨t145, A30, H⟩ := H
  replace H : (if t145 = true then (if a0_0 = a1_0 then (some (a0_1 == a1_1)) else (some false)) else (some false)) = some r := H
  have A3 := Aside0.mk A30
  clear A30
  by_cases c4 : t145 = true
  · subst c4
    have H1 : (if a0_0 = a1_0 then (some (a0_1 == a1_1)) else (some false)) = some r := by rw [if_pos rfl] at H; exact H
    clear H
    have H := H1
    clear H1
    by_cases c5 : a0_0 = a1_0
    · rw [if_pos c5] at H
      have c5b0 : (a0_0 == a1_0) = true := beq_iff_eq.mpr c5
      have c5b1 : (a0_0 != a1_0) = false := bne_eq_false_iff_eq.mpr c5
      clear c5
      obtain rfl := Option.some.inj H
      go_enter Try.func19, Try.ntmps19
      go_wp2_with (first | ((with_reducible refine gate_dst (N := 2) rfl ?_); refine box_event ?hg (N := 2) ?hd (cs := #[.int .u32 a0_0, .int .u32 a0_1, .slice A0_2 l0_2.length c0_2]) (t := 25) ?hr ?_; (case hd => rfl); (case hg => rfl); (case hr => first | (go_simp; done) | (go_simp; rfl)); intro gb143 hg w6 hbox hb; have n0_ := Aside0.mk (below_step (by repeat (first | (with_reducible first | exact HB.out | apply below_alloc | apply pw_below_drewN | apply below_drew1) | exact HB.out)) hb); have n1_ := Aside0.mk (hbox); have n2_ := Aside0.mk ((by rw [hg]; exact (below_size (by repeat (first | (with_reducible first | exact HB.out | apply below_alloc | apply pw_below_drewN | apply below_drew1) | exact HB.out))) : w.heap.size ≤ gb143)); have n3_ := Aside0.mk ((by rw [hg]; exact (below_size (by repeat (first | (with_reducible first | exact HB.out | apply below_alloc | apply pw_below_drewN | apply below_drew1) | exact HB.out))) : w.heap.size ≤ gb143)); clear HB; have HB := n0_; have BK143 := n1_; have GW143 := n2_; have GE143 := n3_; clear n0_ n1_ n2_ n3_; clear hb hbox hg) | ((with_reducible refine gate_dst (N := 3) rfl ?_); refine box_event ?hg (N := 3) ?hd (cs := #[.int .u32 a1_0, .int .u32 a1_1, .slice A1_2 l1_2.length c1_2]) (t := 25) ?hr ?_; (case hd => rfl); (case hg => rfl); (case hr => first | (go_simp; done) | (go_simp; rfl)); intro gb144 hg w7 hbox hb; have n0_ := Aside0.mk (blk_below (g := gb143) (o := .cells #[.int .u32 a0_0, .int .u32 a0_1, .slice A0_2 l0_2.length c0_2] 25 (0, 0)) (by (with_reducible repeat (first | refine blk_drewN ?_ _ | refine blk_drew ?_ | refine blk_alloc ?_ _)); exact BK143.out) hb); have n1_ := Aside0.mk (below_step (by repeat (first | (with_reducible first | exact HB.out | apply below_alloc | apply pw_below_drewN | apply below_drew1 | refine below_set ?_ GE143.out) | exact HB.out)) hb); have n2_ := Aside0.mk (hbox); have n3_ := Aside0.mk ((by rw [hg]; exact (below_size (by repeat (first | (with_reducible first | exact HB.out | apply below_alloc | apply pw_below_drewN | apply below_drew1 | refine below_set ?_ GE143.out) | exact HB.out))) : w.heap.size ≤ gb144)); have n4_ := Aside0.mk ((by rw [hg]; exact (below_size (by repeat (first | (with_reducible first | exact HB.out | apply below_alloc | apply pw_below_drewN | apply below_drew1 | refine below_set ?_ GE143.out) | exact HB.out))) : w.heap.size ≤ gb144)); have n5_ := Aside0.mk ((by rw [hg]; exact Nat.ne_of_lt (blk_lt (g := gb143) (o := .cells #[.int .u32 a0_0, .int .u32 a0_1, .slice A0_2 l0_2.length c0_2] 25 (0, 0)) (by (with_reducible repeat (first | refine blk_drewN ?_ _ | refine blk_drew ?_ | refine blk_alloc ?_ _)); exact BK143.out)) : gb143 ≠ gb144)); have n6_ := Aside0.mk ((by rw [hg]; exact Nat.ne_of_gt (blk_lt (g := gb143) (o := .cells #[.int .u32 a0_0, .int .u32 a0_1, .slice A0_2 l0_2.length c0_2] 25 (0, 0)) (by (with_reducible repeat (first | refine blk_drewN ?_ _ | refine blk_drew ?_ | refine blk_alloc ?_ _)); exact BK143.out)) : gb144 ≠ gb143)); clear BK143; clear HB; have BK143 := n0_; have HB := n1_; have BK144 := n2_; have GW144 := n3_; have GE144 := n4_; have NB143_144 := n5_; have NB144_143 := n6_; clear n0_ n1_ n2_ n3_ n4_ n5_ n6_; clear hb hbox hg; have hnb8 := NB143_144.out; have hnc8 := NB144_143.out; have hcz9_0 : w7.cell? ⟨gb143, 0, none⟩ = some (.int .u32 a0_0) := (blk_cell BK143.out 0).trans rfl; have hcz9_1 : w7.cell? ⟨gb143, 1, none⟩ = some (.int .u32 a0_1) := (blk_cell BK143.out 1).trans rfl; have hcz9_2 : w7.cell? ⟨gb143, 2, none⟩ = some (.slice A0_2 l0_2.length c0_2) := (blk_cell BK143.out 2).trans rfl; have hfz9_0 := blk_frozen BK143.out 0; have hfz9_1 := blk_frozen BK143.out 1; have hfz9_2 := blk_frozen BK143.out 2; have hcz10_0 : w7.cell? ⟨gb144, 0, none⟩ = some (.int .u32 a1_0) := (blk_cell BK144.out 0).trans rfl; have hcz10_1 : w7.cell? ⟨gb144, 1, none⟩ = some (.int .u32 a1_1) := (blk_cell BK144.out 1).trans rfl; have hcz10_2 : w7.cell? ⟨gb144, 2, none⟩ = some (.slice A1_2 l1_2.length c1_2) := (blk_cell BK144.out 2).trans rfl; have hfz10_0 := blk_frozen BK144.out 0; have hfz10_1 := blk_frozen BK144.out 1; have hfz10_2 := blk_frozen BK144.out 2) | ((with_reducible refine gate_callee (f := 20) rfl ?_); refine goesL_ (some 10) rfl rfl Try.func20 (by kernel_rfl) rfl #[.slice A0_2 l0_2.length c0_2, .slice A1_2 l1_2.length c1_2] rfl (by (try simp only [List.map_toArray, List.map_cons, List.map_nil]); first | done | rfl | (simp only [List.length_drop, List.length_take]; rfl)) ?_; (with_reducible refine (bazaarref05_Same.calls k _ _ l0_2 _ _ l1_2 true _ ?side1 ?side2 ?side3 ?side4 A3.out).mono ?_); (case side1 => repeat (first | exact (Kd.C_below HR0_2.out HB.out) | (with_reducible refine Kd.C_alloc ?_ _) | (with_reducible refine Kd.C_drewN ?_ _) | (with_reducible refine Kd.C_drew ?_))); (case side2 => exact HC0_2.out); (case side3 => repeat (first | exact (Kd.C_below HR1_2.out HB.out) | (with_reducible refine Kd.C_alloc ?_ _) | (with_reducible refine Kd.C_drewN ?_ _) | (with_reducible refine Kd.C_drew ?_))); (case side4 => exact HC1_2.out); rintro e w' ⟨rfl, ⟨nd, rfl⟩⟩; refine ⟨_, rfl, ?_⟩))
      go_ret
      exact ⟨by first | rfl | (simp [errW_none, errW_some] <;> rfl) | (simp [*, errW_none, errW_some] <;> rfl), by repeat (first | (with_reducible first | exact HB.out | apply below_alloc | apply pw_below_drewN | apply below_drew1 | refine below_set ?_ GE143.out | refine below_set ?_ GE144.out) | exact HB.out)⟩
    · rw [if_neg c5] at H
      have c5b0 : (a0_0 == a1_0) = false := beq_eq_false_iff_ne.mpr c5
      have c5b1 : (a0_0 != a1_0) = true := bne_iff_ne.mpr c5
      obtain rfl := Option.some.inj H
      go_enter Try.func19, Try.ntmps19
      go_wp2_with (first | ((with_reducible refine gate_dst (N := 2) rfl ?_); refine box_event ?hg (N := 2) ?hd (cs := #[.int .u32 a0_0, .int .u32 a0_1, .slice A0_2 l0_2.length c0_2]) (t := 25) ?hr ?_; (case hd => rfl); (case hg => rfl); (case hr => first | (go_simp; done) | (go_simp; rfl)); intro gb143 hg w11 hbox hb; have n0_ := Aside0.mk (below_step (by repeat (first | (with_reducible first | exact HB.out | apply below_alloc | apply pw_below_drewN | apply below_drew1) | exact HB.out)) hb); have n1_ := Aside0.mk (hbox); have n2_ := Aside0.mk ((by rw [hg]; exact (below_size (by repeat (first | (with_reducible first | exact HB.out | apply below_alloc | apply pw_below_drewN | apply below_drew1) | exact HB.out))) : w.heap.size ≤ gb143)); have n3_ := Aside0.mk ((by rw [hg]; exact (below_size (by repeat (first | (with_reducible first | exact HB.out | apply below_alloc | apply pw_below_drewN | apply below_drew1) | exact HB.out))) : w.heap.size ≤ gb143)); clear HB; have HB := n0_; have BK143 := n1_; have GW143 := n2_; have GE143 := n3_; clear n0_ n1_ n2_ n3_; clear hb hbox hg) | ((with_reducible refine gate_dst (N := 3) rfl ?_); refine box_event ?hg (N := 3) ?hd (cs := #[.int .u32 a1_0, .int .u32 a1_1, .slice A1_2 l1_2.length c1_2]) (t := 25) ?hr ?_; (case hd => rfl); (case hg => rfl); (case hr => first | (go_simp; done) | (go_simp; rfl)); intro gb144 hg w12 hbox hb; have n0_ := Aside0.mk (blk_below (g := gb143) (o := .cells #[.int .u32 a0_0, .int .u32 a0_1, .slice A0_2 l0_2.length c0_2] 25 (0, 0)) (by (with_reducible repeat (first | refine blk_drewN ?_ _ | refine blk_drew ?_ | refine blk_alloc ?_ _)); exact BK143.out) hb); have n1_ := Aside0.mk (below_step (by repeat (first | (with_reducible first | exact HB.out | apply below_alloc | apply pw_below_drewN | apply below_drew1 | refine below_set ?_ GE143.out) | exact HB.out)) hb); have n2_ := Aside0.mk (hbox); have n3_ := Aside0.mk ((by rw [hg]; exact (below_size (by repeat (first | (with_reducible first | exact HB.out | apply below_alloc | apply pw_below_drewN | apply below_drew1 | refine below_set ?_ GE143.out) | exact HB.out))) : w.heap.size ≤ gb144)); have n4_ := Aside0.mk ((by rw [hg]; exact (below_size (by repeat (first | (with_reducible first | exact HB.out | apply below_alloc | apply pw_below_drewN | apply below_drew1 | refine below_set ?_ GE143.out) | exact HB.out))) : w.heap.size ≤ gb144)); have n5_ := Aside0.mk ((by rw [hg]; exact Nat.ne_of_lt (blk_lt (g := gb143) (o := .cells #[.int .u32 a0_0, .int .u32 a0_1, .slice A0_2 l0_2.length c0_2] 25 (0, 0)) (by (with_reducible repeat (first | refine blk_drewN ?_ _ | refine blk_drew ?_ | refine blk_alloc ?_ _)); exact BK143.out)) : gb143 ≠ gb144)); have n6_ := Aside0.mk ((by rw [hg]; exact Nat.ne_of_gt (blk_lt (g := gb143) (o := .cells #[.int .u32 a0_0, .int .u32 a0_1, .slice A0_2 l0_2.length c0_2] 25 (0, 0)) (by (with_reducible repeat (first | refine blk_drewN ?_ _ | refine blk_drew ?_ | refine blk_alloc ?_ _)); exact BK143.out)) : gb144 ≠ gb143)); clear BK143; clear HB; have BK143 := n0_; have HB := n1_; have BK144 := n2_; have GW144 := n3_; have GE144 := n4_; have NB143_144 := n5_; have NB144_143 := n6_; clear n0_ n1_ n2_ n3_ n4_ n5_ n6_; clear hb hbox hg; have hnb13 := NB143_144.out; have hnc13 := NB144_143.out; have hcz14_0 : w12.cell? ⟨gb143, 0, none⟩ = some (.int .u32 a0_0) := (blk_cell BK143.out 0).trans rfl; have hcz14_1 : w12.cell? ⟨gb143, 1, none⟩ = some (.int .u32 a0_1) := (blk_cell BK143.out 1).trans rfl; have hcz14_2 : w12.cell? ⟨gb143, 2, none⟩ = some (.slice A0_2 l0_2.length c0_2) := (blk_cell BK143.out 2).trans rfl; have hfz14_0 := blk_frozen BK143.out 0; have hfz14_1 := blk_frozen BK143.out 1; have hfz14_2 := blk_frozen BK143.out 2; have hcz15_0 : w12.cell? ⟨gb144, 0, none⟩ = some (.int .u32 a1_0) := (blk_cell BK144.out 0).trans rfl; have hcz15_1 : w12.cell? ⟨gb144, 1, none⟩ = some (.int .u32 a1_1) := (blk_cell BK144.out 1).trans rfl; have hcz15_2 : w12.cell? ⟨gb144, 2, none⟩ = some (.slice A1_2 l1_2.length c1_2) := (blk_cell BK144.out 2).trans rfl; have hfz15_0 := blk_frozen BK144.out 0; have hfz15_1 := blk_frozen BK144.out 1; have hfz15_2 := blk_frozen BK144.out 2) | ((with_reducible refine gate_callee (f := 20) rfl ?_); refine goesL_ (some 10) rfl rfl Try.func20 (by kernel_rfl) rfl #[.slice A0_2 l0_2.length c0_2, .slice A1_2 l1_2.length c1_2] rfl (by (try simp only [List.map_toArray, List.map_cons, List.map_nil]); first | done | rfl | (simp only [List.length_drop, List.length_take]; rfl)) ?_; (with_reducible refine (bazaarref05_Same.calls k _ _ l0_2 _ _ l1_2 true _ ?side1 ?side2 ?side3 ?side4 A3.out).mono ?_); (case side1 => repeat (first | exact (Kd.C_below HR0_2.out HB.out) | (with_reducible refine Kd.C_alloc ?_ _) | (with_reducible refine Kd.C_drewN ?_ _) | (with_reducible refine Kd.C_drew ?_))); (case side2 => exact HC0_2.out); (case side3 => repeat (first | exact (Kd.C_below HR1_2.out HB.out) | (with_reducible refine Kd.C_alloc ?_ _) | (with_reducible refine Kd.C_drewN ?_ _) | (with_reducible refine Kd.C_drew ?_))); (case side4 => exact HC1_2.out); rintro e w' ⟨rfl, ⟨nd, rfl⟩⟩; refine ⟨_, rfl, ?_⟩))
      go_ret
      exact ⟨by first | rfl | (simp [errW_none, errW_some] <;> rfl) | (simp [*, errW_none, errW_some] <;> rfl), by repeat (first | (with_reducible first | exact HB.out | apply below_alloc | apply pw_below_drewN | apply below_drew1 | refine below_set ?_ GE143.out | refine below_set ?_ GE144.out) | exact HB.out)⟩
  · replace c4 := Bool.eq_false_iff.mpr c4
    subst c4
    have H1 : (some false) = some r := by rw [if_neg (show ¬ (false = true) by decide)] at H; exact H
    clear H
    have H := H1
    clear H1
    obtain rfl := Option.some.inj H
    go_enter Try.func19, Try.ntmps19
    go_wp2_with (first | ((with_reducible refine gate_dst (N := 2) rfl ?_); refine box_event ?hg (N := 2) ?hd (cs := #[.int .u32 a0_0, .int .u32 a0_1, .slice A0_2 l0_2.length c0_2]) (t := 25) ?hr ?_; (case hd => rfl); (case hg => rfl); (case hr => first | (go_simp; done) | (go_simp; rfl)); intro gb143 hg w16 hbox hb; have n0_ := Aside0.mk (below_step (by repeat (first | (with_reducible first | exact HB.out | apply below_alloc | apply pw_below_drewN | apply below_drew1) | exact HB.out)) hb); have n1_ := Aside0.mk (hbox); have n2_ := Aside0.mk ((by rw [hg]; exact (below_size (by repeat (first | (with_reducible first | exact HB.out | apply below_alloc | apply pw_below_drewN | apply below_drew1) | exact HB.out))) : w.heap.size ≤ gb143)); have n3_ := Aside0.mk ((by rw [hg]; exact (below_size (by repeat (first | (with_reducible first | exact HB.out | apply below_alloc | apply pw_below_drewN | apply below_drew1) | exact HB.out))) : w.heap.size ≤ gb143)); clear HB; have HB := n0_; have BK143 := n1_; have GW143 := n2_; have GE143 := n3_; clear n0_ n1_ n2_ n3_; clear hb hbox hg) | ((with_reducible refine gate_dst (N := 3) rfl ?_); refine box_event ?hg (N := 3) ?hd (cs := #[.int .u32 a1_0, .int .u32 a1_1, .slice A1_2 l1_2.length c1_2]) (t := 25) ?hr ?_; (case hd => rfl); (case hg => rfl); (case hr => first | (go_simp; done) | (go_simp; rfl)); intro gb144 hg w17 hbox hb; have n0_ := Aside0.mk (blk_below (g := gb143) (o := .cells #[.int .u32 a0_0, .int .u32 a0_1, .slice A0_2 l0_2.length c0_2] 25 (0, 0)) (by (with_reducible repeat (first | refine blk_drewN ?_ _ | refine blk_drew ?_ | refine blk_alloc ?_ _)); exact BK143.out) hb); have n1_ := Aside0.mk (below_step (by repeat (first | (with_reducible first | exact HB.out | apply below_alloc | apply pw_below_drewN | apply below_drew1 | refine below_set ?_ GE143.out) | exact HB.out)) hb); have n2_ := Aside0.mk (hbox); have n3_ := Aside0.mk ((by rw [hg]; exact (below_size (by repeat (first | (with_reducible first | exact HB.out | apply below_alloc | apply pw_below_drewN | apply below_drew1 | refine below_set ?_ GE143.out) | exact HB.out))) : w.heap.size ≤ gb144)); have n4_ := Aside0.mk ((by rw [hg]; exact (below_size (by repeat (first | (with_reducible first | exact HB.out | apply below_alloc | apply pw_below_drewN | apply below_drew1 | refine below_set ?_ GE143.out) | exact HB.out))) : w.heap.size ≤ gb144)); have n5_ := Aside0.mk ((by rw [hg]; exact Nat.ne_of_lt (blk_lt (g := gb143) (o := .cells #[.int .u32 a0_0, .int .u32 a0_1, .slice A0_2 l0_2.length c0_2] 25 (0, 0)) (by (with_reducible repeat (first | refine blk_drewN ?_ _ | refine blk_drew ?_ | refine blk_alloc ?_ _)); exact BK143.out)) : gb143 ≠ gb144)); have n6_ := Aside0.mk ((by rw [hg]; exact Nat.ne_of_gt (blk_lt (g := gb143) (o := .cells #[.int .u32 a0_0, .int .u32 a0_1, .slice A0_2 l0_2.length c0_2] 25 (0, 0)) (by (with_reducible repeat (first | refine blk_drewN ?_ _ | refine blk_drew ?_ | refine blk_alloc ?_ _)); exact BK143.out)) : gb144 ≠ gb143)); clear BK143; clear HB; have BK143 := n0_; have HB := n1_; have BK144 := n2_; have GW144 := n3_; have GE144 := n4_; have NB143_144 := n5_; have NB144_143 := n6_; clear n0_ n1_ n2_ n3_ n4_ n5_ n6_; clear hb hbox hg; have hnb18 := NB143_144.out; have hnc18 := NB144_143.out; have hcz19_0 : w17.cell? ⟨gb143, 0, none⟩ = some (.int .u32 a0_0) := (blk_cell BK143.out 0).trans rfl; have hcz19_1 : w17.cell? ⟨gb143, 1, none⟩ = some (.int .u32 a0_1) := (blk_cell BK143.out 1).trans rfl; have hcz19_2 : w17.cell? ⟨gb143, 2, none⟩ = some (.slice A0_2 l0_2.length c0_2) := (blk_cell BK143.out 2).trans rfl; have hfz19_0 := blk_frozen BK143.out 0; have hfz19_1 := blk_frozen BK143.out 1; have hfz19_2 := blk_frozen BK143.out 2; have hcz20_0 : w17.cell? ⟨gb144, 0, none⟩ = some (.int .u32 a1_0) := (blk_cell BK144.out 0).trans rfl; have hcz20_1 : w17.cell? ⟨gb144, 1, none⟩ = some (.int .u32 a1_1) := (blk_cell BK144.out 1).trans rfl; have hcz20_2 : w17.cell? ⟨gb144, 2, none⟩ = some (.slice A1_2 l1_2.length c1_2) := (blk_cell BK144.out 2).trans rfl; have hfz20_0 := blk_frozen BK144.out 0; have hfz20_1 := blk_frozen BK144.out 1; have hfz20_2 := blk_frozen BK144.out 2) | ((with_reducible refine gate_callee (f := 20) rfl ?_); refine goesL_ (some 10) rfl rfl Try.func20 (by kernel_rfl) rfl #[.slice A0_2 l0_2.length c0_2, .slice A1_2 l1_2.length c1_2] rfl (by (try simp only [List.map_toArray, List.map_cons, List.map_nil]); first | done | rfl | (simp only [List.length_drop, List.length_take]; rfl)) ?_; (with_reducible refine (bazaarref05_Same.calls k _ _ l0_2 _ _ l1_2 false _ ?side1 ?side2 ?side3 ?side4 A3.out).mono ?_); (case side1 => repeat (first | exact (Kd.C_below HR0_2.out HB.out) | (with_reducible refine Kd.C_alloc ?_ _) | (with_reducible refine Kd.C_drewN ?_ _) | (with_reducible refine Kd.C_drew ?_))); (case side2 => exact HC0_2.out); (case side3 => repeat (first | exact (Kd.C_below HR1_2.out HB.out) | (with_reducible refine Kd.C_alloc ?_ _) | (with_reducible refine Kd.C_drewN ?_ _) | (with_reducible refine Kd.C_drew ?_))); (case side4 => exact HC1_2.out); rintro e w' ⟨rfl, ⟨nd, rfl⟩⟩; refine ⟨_, rfl, ?_⟩))
    go_ret
    exact ⟨by first | rfl | (simp [errW_none, errW_some] <;> rfl) | (simp [*, errW_none, errW_some] <;> rfl), by repeat (first | (with_reducible first | exact HB.out | apply below_alloc | apply pw_below_drewN | apply below_drew1 | refine below_set ?_ GE143.out | refine below_set ?_ GE144.out) | exact HB.out)⟩

-- NOT PRINTED: function 3 (bazaarlaw05_AllocTakes)

end Go.Proofs.YtnbmpcdomdaimaaQ.PA
