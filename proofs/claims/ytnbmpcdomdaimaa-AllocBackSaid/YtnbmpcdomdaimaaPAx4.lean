/- What the functions answer, as plain Lean functions, and the walks through them: no condition. Printed by wip/tools/given.py. -/
import Derived.Test.YtnbmpcdomdaimaaPAx0
import Derived.Test.YtnbmpcdomdaimaaSho
namespace Go.Proofs.YtnbmpcdomdaimaaQ.PA
open Go.RowKit Go.Proofs.YtnbmpcdomdaimaaW.PrintWords Go.Proofs.YtnbmpcdomdaimaaW.PrintLast Go.Proofs.YtnbmpcdomdaimaaW.PrintMore
attribute [local go_sem] max2_int min2_int max_two min_two max_three min_three max_four min_four   -- for this text's walks alone
set_option linter.unusedVariables false
set_option linter.unusedSimpArgs false

/-! ### bazaarlaw05_AllocGated: function 5 -/
mutual
def bazaarlaw05_AllocGated.l0 : Nat → Int → Bool → Int → Bool → Int → Int → Int → List (S44) → Int → Int → List (S44) → Option (Bool)
  | 0, _, _, _, _, _, _, _, _, _, _, _ => none
  | k + 1, x1, x5, x7, x9, x10, x188000, x188001, x188002, x202000, x202001, x202002 => if x10 < (x188002.length : Int) then (if 0 ≤ x10 then (if ((rd_T44 x188002 x10).f0) = x7 then (if ((rd_T44 x188002 x10).f1) > x1 then (some false) else (if x9 = true then (bazaarlaw05_AllocGated.l0 k x1 x5 x7 true (wrap64 (x10 + 1)) x188000 x188001 x188002 x202000 x202001 x202002) else (bazaarlaw05_AllocGated.l0 k x1 x5 x7 (decide (((rd_T44 x188002 x10).f1) ≤ x1)) (wrap64 (x10 + 1)) x188000 x188001 x188002 x202000 x202001 x202002))) else (if x9 = true then (bazaarlaw05_AllocGated.l0 k x1 x5 x7 true (wrap64 (x10 + 1)) x188000 x188001 x188002 x202000 x202001 x202002) else (bazaarlaw05_AllocGated.l0 k x1 x5 x7 (decide (((rd_T44 x188002 x10).f1) ≤ x1)) (wrap64 (x10 + 1)) x188000 x188001 x188002 x202000 x202001 x202002))) else (none)) else (bazaarlaw05_AllocGated.l1 k x5 x7 x9 0 x188000 x188001 x188002 x202000 x202001 x202002)
def bazaarlaw05_AllocGated.l1 : Nat → Bool → Int → Bool → Int → Int → Int → List (S44) → Int → Int → List (S44) → Option (Bool)
  | 0, _, _, _, _, _, _, _, _, _, _ => none
  | k + 1, x5, x7, x9, x11, x188000, x188001, x188002, x202000, x202001, x202002 => if x11 < (x202002.length : Int) then (if 0 ≤ x11 then (if ((rd_T44 x202002 x11).f0) = x7 then (some false) else (bazaarlaw05_AllocGated.l1 k x5 x7 x9 (wrap64 (x11 + 1)) x188000 x188001 x188002 x202000 x202001 x202002)) else (none)) else (if x5 = true then (if (x9 == (x202000 == x188000)) = true then (if x9 = true then (some true) else (some (x7 == x188000))) else (some false)) else (some false))
end
def bazaarlaw05_AllocGated.f (k : Nat) (a0_0 : Int) (a0_1 : Int) (l0_2 : List (S44)) (a1 : Int) : Option (Bool) := (bazaarlaw05_shown.f).bind fun t188 => ((bazaarlaw05_cut.f a0_0 a0_1 l0_2).bind fun bt189 => ((alloc_Take.f bt189.1 bt189.2.1 bt189.2.2 a1).bind fun bt194 => (if bt194.2.2.2.2 = 0 then (bazaarlaw05_AllocGated.l0 k a1 t188 bt194.2.2.2.1 false 0 bt189.1 bt189.2.1 bt189.2.2 bt194.1 bt194.2.1 bt194.2.2.1) else (if t188 = true then (some (bt194.2.2.2.1 == 0)) else (some false)))))
theorem bazaarlaw05_AllocGated.mono_l : ∀ k, (∀ y0 y1 y2 y3 y4 y5 y6 y7 y8 y9 y10, LeO (bazaarlaw05_AllocGated.l0 k y0 y1 y2 y3 y4 y5 y6 y7 y8 y9 y10) (bazaarlaw05_AllocGated.l0 (k + 1) y0 y1 y2 y3 y4 y5 y6 y7 y8 y9 y10)) ∧ (∀ y0 y1 y2 y3 y4 y5 y6 y7 y8 y9, LeO (bazaarlaw05_AllocGated.l1 k y0 y1 y2 y3 y4 y5 y6 y7 y8 y9) (bazaarlaw05_AllocGated.l1 (k + 1) y0 y1 y2 y3 y4 y5 y6 y7 y8 y9))
  | 0 => ⟨fun _ _ _ _ _ _ _ _ _ _ _ r h => by simp [bazaarlaw05_AllocGated.l0] at h, fun _ _ _ _ _ _ _ _ _ _ r h => by simp [bazaarlaw05_AllocGated.l1] at h⟩
  | k + 1 => by
    obtain ⟨ih0, ih1⟩ := bazaarlaw05_AllocGated.mono_l k
    refine ⟨?_, ?_⟩
    · intro y0 y1 y2 y3 y4 y5 y6 y7 y8 y9 y10
      unfold bazaarlaw05_AllocGated.l0
      repeat' first
      | (with_reducible exact ih0 _ _ _ _ _ _ _ _ _ _ _)
      | (with_reducible exact ih1 _ _ _ _ _ _ _ _ _ _)
      | (with_reducible exact LeO.refl _)
      | (with_reducible exact LeO.none _)
      | (with_reducible refine LeO.ite ?_ ?_)
      | (with_reducible refine LeO.bind ?_ (fun _ => ?_))
      | exact ih0 _ _ _ _ _ _ _ _ _ _ _
      | exact ih1 _ _ _ _ _ _ _ _ _ _
      | exact LeO.none _
      | refine LeO.ite ?_ ?_
      | refine LeO.bind ?_ (fun _ => ?_)
    · intro y0 y1 y2 y3 y4 y5 y6 y7 y8 y9
      unfold bazaarlaw05_AllocGated.l1
      repeat' first
      | (with_reducible exact ih0 _ _ _ _ _ _ _ _ _ _ _)
      | (with_reducible exact ih1 _ _ _ _ _ _ _ _ _ _)
      | (with_reducible exact LeO.refl _)
      | (with_reducible exact LeO.none _)
      | (with_reducible refine LeO.ite ?_ ?_)
      | (with_reducible refine LeO.bind ?_ (fun _ => ?_))
      | exact ih0 _ _ _ _ _ _ _ _ _ _ _
      | exact ih1 _ _ _ _ _ _ _ _ _ _
      | exact LeO.none _
      | refine LeO.ite ?_ ?_
      | refine LeO.bind ?_ (fun _ => ?_)
theorem bazaarlaw05_AllocGated.mono : ∀ a0 a1 a2 a3 k, LeO (bazaarlaw05_AllocGated.f k a0 a1 a2 a3) (bazaarlaw05_AllocGated.f (k + 1) a0 a1 a2 a3) := by
  intro a0 a1 a2 a3 k
  obtain ⟨ih0, ih1⟩ := bazaarlaw05_AllocGated.mono_l k
  unfold bazaarlaw05_AllocGated.f
  repeat' first
      | (with_reducible exact ih0 _ _ _ _ _ _ _ _ _ _ _)
      | (with_reducible exact ih1 _ _ _ _ _ _ _ _ _ _)
      | (with_reducible exact LeO.refl _)
      | (with_reducible exact LeO.none _)
      | (with_reducible refine LeO.ite ?_ ?_)
      | (with_reducible refine LeO.bind ?_ (fun _ => ?_))
      | exact ih0 _ _ _ _ _ _ _ _ _ _ _
      | exact ih1 _ _ _ _ _ _ _ _ _ _
      | exact LeO.none _
      | refine LeO.ite ?_ ?_
      | refine LeO.bind ?_ (fun _ => ?_)
set_option maxHeartbeats 8000000 in
set_option maxRecDepth 100000 in
theorem bazaarlaw05_AllocGated.calls (k : Nat) (a0_0 : Int) (a0_1 : Int) (A0_2 : Option Addr) (c0_2 : Nat) (l0_2 : List (S44)) (a1 : Int) (r : Bool) (w : World) (hr0_2 : Kd.C k44 w A0_2 l0_2.length l0_2) (hc0_2 : l0_2.length ≤ c0_2) (h : bazaarlaw05_AllocGated.f k a0_0 a0_1 l0_2 a1 = some r) :
    Calls Try.prog 5 #[.agg #[.int .u32 a0_0, .int .u32 a0_1, .slice A0_2 l0_2.length c0_2], .int .u64 a1] w fun e w' => e = .returned (.bool r) ∧ Below w.heap.size w w' := by
  have hu25 := Try.underlying25
  have HR0_2 := Aside0.mk hr0_2
  have HC0_2 := Aside0.mk hc0_2
  clear hr0_2 hc0_2
  have HB := Aside0.mk (Below.refl w.heap.size w)
  have H : ((bazaarlaw05_shown.f).bind fun t188 => ((bazaarlaw05_cut.f a0_0 a0_1 l0_2).bind fun bt189 => ((alloc_Take.f bt189.1 bt189.2.1 bt189.2.2 a1).bind fun bt194 => (if bt194.2.2.2.2 = 0 then (bazaarlaw05_AllocGated.l0 k a1 t188 bt194.2.2.2.1 false 0 bt189.1 bt189.2.1 bt189.2.2 bt194.1 bt194.2.1 bt194.2.2.1) else (if t188 = true then (some (bt194.2.2.2.1 == 0)) else (some false)))))) = some r := h
  clear h
  replace H := Option.bind_eq_some_iff.mp H
  obtain ⟨t188, A30, H⟩ := H
  replace H : ((bazaarlaw05_cut.f a0_0 a0_1 l0_2).bind fun bt189 => ((alloc_Take.f bt189.1 bt189.2.1 bt189.2.2 a1).bind fun bt194 => (if bt194.2.2.2.2 = 0 then (bazaarlaw05_AllocGated.l0 k a1 t188 bt194.2.2.2.1 false 0 bt189.1 bt189.2.1 bt189.2.2 bt194.1 bt194.2.1 bt194.2.2.1) else (if t188 = true then (some (bt194.2.2.2.1 == 0)) else (some false))))) = some r := H
  have A3 := Aside0.mk A30
  clear A30
  replace H := Option.bind_eq_some_iff.mp H
  obtain ⟨⟨t189, t190, t191⟩, A40, H⟩ := H
  replace H : ((alloc_Take.f t189 t190 t191 a1).bind fun bt194 => (if bt194.2.2.2.2 = 0 then (bazaarlaw05_AllocGated.l0 k a1 t188 bt194.2.2.2.1 false 0 t189 t190 t191 bt194.1 bt194.2.1 bt194.2.2.1) else (if t188 = true then (some (bt194.2.2.2.1 == 0)) else (some false)))) = some r := H
  have A4 := Aside0.mk A40
  clear A40
  replace H := Option.bind_eq_some_iff.mp H
  obtain ⟨⟨t194, t195, t196, t199, t200⟩, A50, H⟩ := H
  replace H : (if t200 = 0 then (bazaarlaw05_AllocGated.l0 k a1 t188 t199 false 0 t189 t190 t191 t194 t195 t196) else (if t188 = true then (some (t199 == 0)) else (some false))) = some r := H
  have A5 := Aside0.mk A50
  clear A50
  by_cases c6 : t200 = 0
  · rw [if_pos c6] at H
    have c6b0 : (t200 == 0) = true := beq_iff_eq.mpr c6
    have c6b1 : (t200 != 0) = false := bne_eq_false_iff_eq.mpr c6
    clear c6
    have H' := Aside0.mk H
    clear H
    go_enter Try.func5, Try.ntmps5
    go_wp2_with (first | ((with_reducible refine gate_dst (N := 2) rfl ?_); refine box_event ?hg (N := 2) ?hd (cs := #[.int .u32 a0_0, .int .u32 a0_1, .slice A0_2 l0_2.length c0_2]) (t := 25) ?hr ?_; (case hd => rfl); (case hg => rfl); (case hr => first | (go_simp; done) | (go_simp; rfl)); intro gb187 hg w7 hbox hb; have n0_ := Aside0.mk (below_step (by repeat (first | (with_reducible first | exact HB.out | apply below_alloc | apply pw_below_drewN | apply below_drew1) | exact HB.out)) hb); have n1_ := Aside0.mk (hbox); have n2_ := Aside0.mk ((by rw [hg]; exact (below_size (by repeat (first | (with_reducible first | exact HB.out | apply below_alloc | apply pw_below_drewN | apply below_drew1) | exact HB.out))) : w.heap.size ≤ gb187)); have n3_ := Aside0.mk ((by rw [hg]; exact (below_size (by repeat (first | (with_reducible first | exact HB.out | apply below_alloc | apply pw_below_drewN | apply below_drew1) | exact HB.out))) : w.heap.size ≤ gb187)); clear HB; have HB := n0_; have BK187 := n1_; have GW187 := n2_; have GE187 := n3_; clear n0_ n1_ n2_ n3_; clear hb hbox hg) | ((with_reducible refine gate_callee (f := 11) rfl ?_); refine goesL_ (some 12) rfl rfl Try.func11 (by kernel_rfl) rfl #[] rfl (by (try simp only [List.map_toArray, List.map_cons, List.map_nil]); first | done | rfl | (simp only [List.length_drop, List.length_take]; rfl)) ?_; (with_reducible refine (bazaarlaw05_shown.calls  t188 _ A3.out).mono ?_); rintro e w8 ⟨rfl, hb⟩; refine ⟨_, rfl, ?_⟩; have n0_ := Aside0.mk (blk_below (g := gb187) (o := .cells #[.int .u32 a0_0, .int .u32 a0_1, .slice A0_2 l0_2.length c0_2] 25 (0, 0)) (by (with_reducible repeat (first | refine blk_drewN ?_ _ | refine blk_drew ?_ | refine blk_alloc ?_ _)); exact BK187.out) hb); have n1_ := Aside0.mk (below_step (by repeat (first | (with_reducible first | exact HB.out | apply below_alloc | apply pw_below_drewN | apply below_drew1 | refine below_set ?_ GE187.out) | exact HB.out)) hb); clear BK187; clear HB; have BK187 := n0_; have HB := n1_; clear n0_ n1_; (try clear hb); (try clear hb2); (try clear hk); (try clear hi); have hcz9_0 : w8.cell? ⟨gb187, 0, none⟩ = some (.int .u32 a0_0) := (blk_cell BK187.out 0).trans rfl; have hcz9_1 : w8.cell? ⟨gb187, 1, none⟩ = some (.int .u32 a0_1) := (blk_cell BK187.out 1).trans rfl; have hcz9_2 : w8.cell? ⟨gb187, 2, none⟩ = some (.slice A0_2 l0_2.length c0_2) := (blk_cell BK187.out 2).trans rfl; have hfz9_0 := blk_frozen BK187.out 0; have hfz9_1 := blk_frozen BK187.out 1; have hfz9_2 := blk_frozen BK187.out 2) | ((with_reducible refine gate_callee (f := 12) rfl ?_); refine goesL_ (some 14) rfl rfl Try.func12 (by kernel_rfl) rfl #[.agg #[.int .u32 a0_0, .int .u32 a0_1, .slice A0_2 l0_2.length c0_2]] rfl (by (try simp only [List.map_toArray, List.map_cons, List.map_nil]); first | done | rfl | (simp only [List.length_drop, List.length_take]; rfl)) ?_; (with_reducible refine (bazaarlaw05_cut.calls a0_0 a0_1 _ _ l0_2 t189 t190 t191 _ ?side1 ?side2 A4.out).mono ?_); (case side1 => repeat (first | exact (Kd.C_below HR0_2.out HB.out) | (with_reducible refine Kd.C_alloc ?_ _) | (with_reducible refine Kd.C_drewN ?_ _) | (with_reducible refine Kd.C_drew ?_))); (case side2 => exact HC0_2.out); rintro e w10 ⟨v192, rfl, ho0, hb⟩; refine ⟨_, rfl, ?_⟩; have n0_ := Aside0.mk (Kd.R_lower ho0 (below_size (by repeat (first | (with_reducible first | exact HB.out | apply below_alloc | apply pw_below_drewN | apply below_drew1 | refine below_set ?_ GE187.out) | exact HB.out)))); have n1_ := Aside0.mk (blk_below (g := gb187) (o := .cells #[.int .u32 a0_0, .int .u32 a0_1, .slice A0_2 l0_2.length c0_2] 25 (0, 0)) (by (with_reducible repeat (first | refine blk_drewN ?_ _ | refine blk_drew ?_ | refine blk_alloc ?_ _)); exact BK187.out) hb); have n2_ := Aside0.mk (below_step (by repeat (first | (with_reducible first | exact HB.out | apply below_alloc | apply pw_below_drewN | apply below_drew1 | refine below_set ?_ GE187.out) | exact HB.out)) hb); clear BK187; clear HB; have HO193 := n0_; have BK187 := n1_; have HB := n2_; clear n0_ n1_ n2_; (try clear hb); (try clear hb2); (try clear hk); (try clear hi); (try clear ho0); have hcz11_0 : w10.cell? ⟨gb187, 0, none⟩ = some (.int .u32 a0_0) := (blk_cell BK187.out 0).trans rfl; have hcz11_1 : w10.cell? ⟨gb187, 1, none⟩ = some (.int .u32 a0_1) := (blk_cell BK187.out 1).trans rfl; have hcz11_2 : w10.cell? ⟨gb187, 2, none⟩ = some (.slice A0_2 l0_2.length c0_2) := (blk_cell BK187.out 2).trans rfl; have hfz11_0 := blk_frozen BK187.out 0; have hfz11_1 := blk_frozen BK187.out 1; have hfz11_2 := blk_frozen BK187.out 2; obtain ⟨Ao12, co12, eo12⟩ := Kd.R_slice HO193.out; subst eo12) | ((with_reducible refine gate_callee (f := 13) rfl ?_); refine goesL_ (some 18) rfl rfl Try.func13 (by kernel_rfl) rfl #[.agg #[.int .u32 t189, .int .u32 t190, .slice Ao12 t191.length co12], .int .u64 a1] rfl (by (try simp only [List.map_toArray, List.map_cons, List.map_nil]); first | done | rfl | (simp only [List.length_drop, List.length_take]; rfl)) ?_; (with_reducible refine (alloc_Take.calls t189 t190 _ _ t191 a1 t194 t195 t196 t199 t200 _ ?side1 ?side2 A5.out).mono ?_); (case side1 => refine (Kd.R_reads' (e := 44) (base := w.heap.size) (ok := fun k_ => True) (n := t191.length) (c := co12) ?_).2.2; exact (by (with_reducible repeat (first | apply Kd.R_alloc | apply Kd.R_drewN | apply Kd.R_drew)); exact (Kd.R_mono (Kd.R_far (p := ⟨gb187, 2, none⟩) (Kd.R_far (p := ⟨gb187, 1, none⟩) (Kd.R_far (p := ⟨gb187, 0, none⟩) (Kd.R_types HO193.out BK187.out (by decide)) (fun _ hk => hk.2) (.int .u32 t189)) (fun _ hk => hk.2) (.int .u32 t190)) (fun _ hk => hk.2) (.slice Ao12 t191.length co12)) (fun _ h_ => h_.1)))); (case side2 => exact (Kd.R_reads' HO193.out).2.1); rintro e w13 ⟨v197, rfl, ho0, hb⟩; refine ⟨_, rfl, ?_⟩; have n0_ := Aside0.mk (Kd.R_elder' (by (with_reducible repeat (first | apply Kd.R_alloc | apply Kd.R_drewN | apply Kd.R_drew)); exact (Kd.R_mono (Kd.R_far (p := ⟨gb187, 2, none⟩) (Kd.R_far (p := ⟨gb187, 1, none⟩) (Kd.R_far (p := ⟨gb187, 0, none⟩) (Kd.R_types HO193.out BK187.out (by decide)) (fun _ hk => hk.2) (.int .u32 t189)) (fun _ hk => hk.2) (.int .u32 t190)) (fun _ hk => hk.2) (.slice Ao12 t191.length co12)) (fun _ h_ => h_.1))) (Kd.R_base ho0) hb); have n1_ := Aside0.mk (Kd.R_lower (Kd.R_new' ho0 (Kd.R_lt (by (with_reducible repeat (first | apply Kd.R_alloc | apply Kd.R_drewN | apply Kd.R_drew)); exact (Kd.R_mono (Kd.R_far (p := ⟨gb187, 2, none⟩) (Kd.R_far (p := ⟨gb187, 1, none⟩) (Kd.R_far (p := ⟨gb187, 0, none⟩) (Kd.R_types HO193.out BK187.out (by decide)) (fun _ hk => hk.2) (.int .u32 t189)) (fun _ hk => hk.2) (.int .u32 t190)) (fun _ hk => hk.2) (.slice Ao12 t191.length co12)) (fun _ h_ => h_.1))))) (below_size (by repeat (first | (with_reducible first | exact HB.out | apply below_alloc | apply pw_below_drewN | apply below_drew1 | refine below_set ?_ GE187.out) | exact HB.out)))); have n2_ := Aside0.mk (blk_below (g := gb187) (o := .cells #[.int .u32 t189, .int .u32 t190, .slice Ao12 t191.length co12] 25 (0, 0)) (by (with_reducible repeat (first | refine blk_drewN ?_ _ | refine blk_drew ?_ | refine blk_alloc ?_ _)); refine blk_put (cs := #[.int .u32 t189, .int .u32 t190, .slice A0_2 l0_2.length c0_2]) ?_ 2 _ rfl; (with_reducible repeat (first | refine blk_drewN ?_ _ | refine blk_drew ?_ | refine blk_alloc ?_ _)); refine blk_put (cs := #[.int .u32 t189, .int .u32 a0_1, .slice A0_2 l0_2.length c0_2]) ?_ 1 _ rfl; (with_reducible repeat (first | refine blk_drewN ?_ _ | refine blk_drew ?_ | refine blk_alloc ?_ _)); refine blk_put (cs := #[.int .u32 a0_0, .int .u32 a0_1, .slice A0_2 l0_2.length c0_2]) ?_ 0 _ rfl; (with_reducible repeat (first | refine blk_drewN ?_ _ | refine blk_drew ?_ | refine blk_alloc ?_ _)); exact BK187.out) hb); have n3_ := Aside0.mk (below_step (by repeat (first | (with_reducible first | exact HB.out | apply below_alloc | apply pw_below_drewN | apply below_drew1 | refine below_set ?_ GE187.out) | exact HB.out)) hb); clear HO193; clear BK187; clear HB; have HO193 := n0_; have HO198 := n1_; have BK187 := n2_; have HB := n3_; clear n0_ n1_ n2_ n3_; (try clear hb); (try clear hb2); (try clear hk); (try clear hi); (try clear ho0)) | ((with_reducible refine gate_dst (N := 6) rfl ?_); refine box_event ?hg (N := 6) ?hd (cs := #[.int .u32 0, .int .u32 0, .slice none 0 0]) (t := 25) ?hr ?_; (case hd => rfl); (case hg => rfl); (case hr => first | (go_simp; done) | (go_simp; rfl)); intro gb201 hg w14 hbox hb; have n0_ := Aside0.mk (Kd.R_below (by (with_reducible repeat (first | apply Kd.R_alloc | apply Kd.R_drewN | apply Kd.R_drew)); exact HO193.out) hb); have n1_ := Aside0.mk (Kd.R_below (by (with_reducible repeat (first | apply Kd.R_alloc | apply Kd.R_drewN | apply Kd.R_drew)); exact HO198.out) hb); have n2_ := Aside0.mk (blk_below (g := gb187) (o := .cells #[.int .u32 t189, .int .u32 t190, .slice Ao12 t191.length co12] 25 (0, 0)) (by (with_reducible repeat (first | refine blk_drewN ?_ _ | refine blk_drew ?_ | refine blk_alloc ?_ _)); exact BK187.out) hb); have n3_ := Aside0.mk (below_step (by repeat (first | (with_reducible first | exact HB.out | apply below_alloc | apply pw_below_drewN | apply below_drew1 | refine below_set ?_ GE187.out) | exact HB.out)) hb); have n4_ := Aside0.mk (hbox); have n5_ := Aside0.mk ((by rw [hg]; exact (below_size (by repeat (first | (with_reducible first | exact HB.out | apply below_alloc | apply pw_below_drewN | apply below_drew1 | refine below_set ?_ GE187.out) | exact HB.out))) : w.heap.size ≤ gb201)); have n6_ := Aside0.mk ((by rw [hg]; exact (below_size (by repeat (first | (with_reducible first | exact HB.out | apply below_alloc | apply pw_below_drewN | apply below_drew1 | refine below_set ?_ GE187.out) | exact HB.out))) : w.heap.size ≤ gb201)); have n7_ := Aside0.mk ((by rw [hg]; exact Nat.ne_of_lt (blk_lt (g := gb187) (o := .cells #[.int .u32 t189, .int .u32 t190, .slice Ao12 t191.length co12] 25 (0, 0)) (by (with_reducible repeat (first | refine blk_drewN ?_ _ | refine blk_drew ?_ | refine blk_alloc ?_ _)); exact BK187.out)) : gb187 ≠ gb201)); have n8_ := Aside0.mk ((by rw [hg]; exact Nat.ne_of_gt (blk_lt (g := gb187) (o := .cells #[.int .u32 t189, .int .u32 t190, .slice Ao12 t191.length co12] 25 (0, 0)) (by (with_reducible repeat (first | refine blk_drewN ?_ _ | refine blk_drew ?_ | refine blk_alloc ?_ _)); exact BK187.out)) : gb201 ≠ gb187)); clear HO193; clear HO198; clear BK187; clear HB; have HO193 := n0_; have HO198 := n1_; have BK187 := n2_; have HB := n3_; have BK201 := n4_; have GW201 := n5_; have GE201 := n6_; have NB187_201 := n7_; have NB201_187 := n8_; clear n0_ n1_ n2_ n3_ n4_ n5_ n6_ n7_ n8_; clear hb hbox hg; have hnb15 := NB201_187.out; have hnc15 := NB187_201.out; have hcz16_0 : w14.cell? ⟨gb201, 0, none⟩ = some (.int .u32 0) := (blk_cell BK201.out 0).trans rfl; have hcz16_1 : w14.cell? ⟨gb201, 1, none⟩ = some (.int .u32 0) := (blk_cell BK201.out 1).trans rfl; have hcz16_2 : w14.cell? ⟨gb201, 2, none⟩ = some (.slice none 0 0) := (blk_cell BK201.out 2).trans rfl; have hfz16_0 := blk_frozen BK201.out 0; have hfz16_1 := blk_frozen BK201.out 1; have hfz16_2 := blk_frozen BK201.out 2; obtain ⟨Ao17, co17, eo17⟩ := Kd.R_slice HO198.out; subst eo17))
    go_loopg [9, 10] k (fun kq v9 v10 w' => ∃ (x9_1 : Bool) (x10_1 : Int), v9 = .bool x9_1 ∧ v10 = .int .i64 x10_1 ∧ Aside0 (bazaarlaw05_AllocGated.l0 kq a1 t188 t199 x9_1 x10_1 t189 t190 t191 t194 t195 t196 = some r) ∧ Aside0 (kq ≤ k) ∧ Aside0 (Kd.R k44 44 w' w.heap.size (fun k_ => some k_ ≠ ((.slice Ao17 t196.length co17) : Value).ownBlock) (.slice Ao12 t191.length co12) t191) ∧ Aside0 (Kd.R k44 44 w' w.heap.size (fun k_ => some k_ ≠ ((.slice Ao12 t191.length co12) : Value).ownBlock) (.slice Ao17 t196.length co17) t196) ∧ Aside0 (w'.heap[gb187]? = some (.cells #[.int .u32 t189, .int .u32 t190, (.slice Ao12 t191.length co12)] 25 (0, 0))) ∧ Aside0 (w'.heap[gb201]? = some (.cells #[.int .u32 t194, .int .u32 t195, (.slice Ao17 t196.length co17)] 25 (0, 0))) ∧ Aside0 (Below w.heap.size w w'))
    case atStart => exact ⟨(false), (0), (by first | rfl | (simp; done) | (simp [*]; done)), (by first | rfl | (simp; done) | (simp [*]; done)), H', ⟨Nat.le_refl _⟩, ⟨by (with_reducible repeat (first | apply Kd.R_alloc | apply Kd.R_drewN | apply Kd.R_drew)); exact Kd.R_mono (Kd.R_far (p := ⟨gb201, 2, none⟩) (Kd.R_far (p := ⟨gb201, 1, none⟩) (Kd.R_far (p := ⟨gb201, 0, none⟩) (Kd.R_types HO193.out BK201.out (by decide)) (fun _ hk => hk.2) (.int .u32 t194)) (fun _ hk => hk.2) (.int .u32 t195)) (fun _ hk => hk.2) (.slice Ao17 t196.length co17)) (fun _ hk => hk.1.2)⟩, ⟨by (with_reducible repeat (first | apply Kd.R_alloc | apply Kd.R_drewN | apply Kd.R_drew)); exact Kd.R_mono (Kd.R_far (p := ⟨gb201, 2, none⟩) (Kd.R_far (p := ⟨gb201, 1, none⟩) (Kd.R_far (p := ⟨gb201, 0, none⟩) (Kd.R_types HO198.out BK201.out (by decide)) (fun _ hk => hk.2) (.int .u32 t194)) (fun _ hk => hk.2) (.int .u32 t195)) (fun _ hk => hk.2) (.slice Ao17 t196.length co17)) (fun _ hk => hk.1.2)⟩, ⟨by (with_reducible repeat (first | refine blk_drewN ?_ _ | refine blk_drew ?_ | refine blk_alloc ?_ _)); refine blk_far ?_ NB187_201.out _; (with_reducible repeat (first | refine blk_drewN ?_ _ | refine blk_drew ?_ | refine blk_alloc ?_ _)); refine blk_far ?_ NB187_201.out _; (with_reducible repeat (first | refine blk_drewN ?_ _ | refine blk_drew ?_ | refine blk_alloc ?_ _)); refine blk_far ?_ NB187_201.out _; (with_reducible repeat (first | refine blk_drewN ?_ _ | refine blk_drew ?_ | refine blk_alloc ?_ _)); exact BK187.out⟩, ⟨by (with_reducible repeat (first | refine blk_drewN ?_ _ | refine blk_drew ?_ | refine blk_alloc ?_ _)); refine blk_put (cs := #[.int .u32 t194, .int .u32 t195, .slice none 0 0]) ?_ 2 _ rfl; (with_reducible repeat (first | refine blk_drewN ?_ _ | refine blk_drew ?_ | refine blk_alloc ?_ _)); refine blk_put (cs := #[.int .u32 t194, .int .u32 0, .slice none 0 0]) ?_ 1 _ rfl; (with_reducible repeat (first | refine blk_drewN ?_ _ | refine blk_drew ?_ | refine blk_alloc ?_ _)); refine blk_put (cs := #[.int .u32 0, .int .u32 0, .slice none 0 0]) ?_ 0 _ rfl; (with_reducible repeat (first | refine blk_drewN ?_ _ | refine blk_drew ?_ | refine blk_alloc ?_ _)); exact BK201.out⟩, ⟨by repeat (first | (with_reducible first | exact HB.out | apply below_alloc | apply pw_below_drewN | apply below_drew1 | refine below_set ?_ GE187.out | refine below_set ?_ GE201.out) | exact HB.out)⟩⟩
    case round =>
      clear H'
      try clear c1
      try clear p2
      try clear c5
      try clear c6
      try clear c6b0
      try clear c6b1
      try clear c11
      try clear c12
      try clear c13
      try clear c15
      try clear hcz11_0
      try clear hcz11_1
      try clear hcz11_2
      try clear hcz16_0
      try clear hcz16_1
      try clear hcz16_2
      try clear hcz9_0
      try clear hcz9_1
      try clear hcz9_2
      try clear hfz11_0
      try clear hfz11_1
      try clear hfz11_2
      try clear hfz16_0
      try clear hfz16_1
      try clear hfz16_2
      try clear hfz9_0
      try clear hfz9_1
      try clear hfz9_2
      obtain ⟨x9_1, x10_1, rfl, rfl, HA, HK1, HO_188002, HO_202002, BK187, BK201, HB⟩ := hrel
      cases gk with
      | zero => exact absurd HA.out (by simp [bazaarlaw05_AllocGated.l0])
      | succ k1 =>
        have H := HA.out
        clear HA
        simp only [bazaarlaw05_AllocGated.l0] at H
        by_cases c18 : x10_1 < (t191.length : Int)
        · rw [if_pos c18] at H
          have c18b0 : decide (x10_1 < (t191.length : Int)) = true := decide_eq_true c18
          clear c18
          by_cases c19 : 0 ≤ x10_1
          · rw [if_pos c19] at H
            have c19b0 : decide (0 ≤ x10_1) = true := decide_eq_true c19
            clear c19
            by_cases c20 : ((rd_T44 t191 x10_1).f0) = t199
            · rw [if_pos c20] at H
              have c20b0 : (((rd_T44 t191 x10_1).f0) == t199) = true := beq_iff_eq.mpr c20
              have c20b1 : (((rd_T44 t191 x10_1).f0) != t199) = false := bne_eq_false_iff_eq.mpr c20
              clear c20
              by_cases c21 : ((rd_T44 t191 x10_1).f1) > a1
              · rw [if_pos c21] at H
                have c21b0 : decide (a1 < ((rd_T44 t191 x10_1).f1)) = true := decide_eq_true c21
                clear c21
                obtain rfl := Option.some.inj H
                have hnb22 := NB187_201.out
                have hnc22 := NB201_187.out
                have hcz23_0 : wr.cell? ⟨gb187, 0, none⟩ = some (.int .u32 t189) := (blk_cell BK187.out 0).trans rfl
                have hcz23_1 : wr.cell? ⟨gb187, 1, none⟩ = some (.int .u32 t190) := (blk_cell BK187.out 1).trans rfl
                have hcz23_2 : wr.cell? ⟨gb187, 2, none⟩ = some (.slice Ao12 t191.length co12) := (blk_cell BK187.out 2).trans rfl
                have hfz23_0 := blk_frozen BK187.out 0
                have hfz23_1 := blk_frozen BK187.out 1
                have hfz23_2 := blk_frozen BK187.out 2
                have p202 : 0 ≤ (x10_1 : Int) := of_decide_eq_true (by first | (with_reducible assumption) | assumption)
                have q202 : x10_1 < (t191.length : Int) := of_decide_eq_true (by first | (with_reducible assumption) | assumption)
                obtain ⟨ad202, e202, hx202_0, hx202_1⟩ := at_T44 (Kd.R_reads' HO_188002.out).2.2 x10_1 p202 q202
                cases e202
                replace p202 := eq_true p202
                replace q202 := eq_true q202
                have p203 : 0 ≤ (x10_1 : Int) := of_decide_eq_true (by first | (with_reducible assumption) | assumption)
                have q203 : x10_1 < (t191.length : Int) := of_decide_eq_true (by first | (with_reducible assumption) | assumption)
                obtain ⟨ad203, e203, hx203_0, hx203_1⟩ := at_T44 (Kd.R_reads' HO_188002.out).2.2 x10_1 p203 q203
                obtain rfl : ad202 = ad203 := (by injection e203)
                replace p203 := eq_true p203
                replace q203 := eq_true q203
                go_wp2
                go_ret
                exact ⟨by first | rfl | (simp [errW_none, errW_some] <;> rfl) | (simp [*, errW_none, errW_some] <;> rfl), by repeat (first | (with_reducible first | exact HB.out | apply below_alloc | apply pw_below_drewN | apply below_drew1 | refine below_set ?_ GE187.out | refine below_set ?_ GE201.out) | exact HB.out)⟩
              · rw [if_neg c21] at H
                have c21b0 : decide (a1 < ((rd_T44 t191 x10_1).f1)) = false := decide_eq_false c21
                clear c21
                by_cases c24 : x9_1 = true
                · subst c24
                  have H1 : (bazaarlaw05_AllocGated.l0 k1 a1 t188 t199 true (wrap64 (x10_1 + 1)) t189 t190 t191 t194 t195 t196) = some r := by rw [if_pos rfl] at H; exact H
                  clear H
                  have H := H1
                  clear H1
                  have H' := Aside0.mk H
                  clear H
                  have hnb25 := NB187_201.out
                  have hnc25 := NB201_187.out
                  have hcz26_0 : wr.cell? ⟨gb187, 0, none⟩ = some (.int .u32 t189) := (blk_cell BK187.out 0).trans rfl
                  have hcz26_1 : wr.cell? ⟨gb187, 1, none⟩ = some (.int .u32 t190) := (blk_cell BK187.out 1).trans rfl
                  have hcz26_2 : wr.cell? ⟨gb187, 2, none⟩ = some (.slice Ao12 t191.length co12) := (blk_cell BK187.out 2).trans rfl
                  have hfz26_0 := blk_frozen BK187.out 0
                  have hfz26_1 := blk_frozen BK187.out 1
                  have hfz26_2 := blk_frozen BK187.out 2
                  have p202 : 0 ≤ (x10_1 : Int) := of_decide_eq_true (by first | (with_reducible assumption) | assumption)
                  have q202 : x10_1 < (t191.length : Int) := of_decide_eq_true (by first | (with_reducible assumption) | assumption)
                  obtain ⟨ad202, e202, hx202_0, hx202_1⟩ := at_T44 (Kd.R_reads' HO_188002.out).2.2 x10_1 p202 q202
                  cases e202
                  replace p202 := eq_true p202
                  replace q202 := eq_true q202
                  have p203 : 0 ≤ (x10_1 : Int) := of_decide_eq_true (by first | (with_reducible assumption) | assumption)
                  have q203 : x10_1 < (t191.length : Int) := of_decide_eq_true (by first | (with_reducible assumption) | assumption)
                  obtain ⟨ad203, e203, hx203_0, hx203_1⟩ := at_T44 (Kd.R_reads' HO_188002.out).2.2 x10_1 p203 q203
                  obtain rfl : ad202 = ad203 := (by injection e203)
                  replace p203 := eq_true p203
                  replace q203 := eq_true q203
                  go_wp2
                  go_roundg k1
                  case measure => have := HK1.out; omega
                  case rel => exact ⟨(true), (wrap64 (x10_1 + 1)), (by first | rfl | (simp; done) | (simp [*]; done)), (by first | rfl | (simp; done) | (simp [*]; done)), H', ⟨by have := HK1.out; omega⟩, ⟨by (with_reducible repeat (first | apply Kd.R_alloc | apply Kd.R_drewN | apply Kd.R_drew)); exact HO_188002.out⟩, ⟨by (with_reducible repeat (first | apply Kd.R_alloc | apply Kd.R_drewN | apply Kd.R_drew)); exact HO_202002.out⟩, ⟨by (with_reducible repeat (first | refine blk_drewN ?_ _ | refine blk_drew ?_ | refine blk_alloc ?_ _)); exact BK187.out⟩, ⟨by (with_reducible repeat (first | refine blk_drewN ?_ _ | refine blk_drew ?_ | refine blk_alloc ?_ _)); exact BK201.out⟩, ⟨by repeat (first | (with_reducible first | exact HB.out | apply below_alloc | apply pw_below_drewN | apply below_drew1 | refine below_set ?_ GE187.out | refine below_set ?_ GE201.out) | exact HB.out)⟩⟩
                · replace c24 := Bool.eq_false_iff.mpr c24
                  subst c24
                  have H1 : (bazaarlaw05_AllocGated.l0 k1 a1 t188 t199 (decide (((rd_T44 t191 x10_1).f1) ≤ a1)) (wrap64 (x10_1 + 1)) t189 t190 t191 t194 t195 t196) = some r := by rw [if_neg (show ¬ (false = true) by decide)] at H; exact H
                  clear H
                  have H := H1
                  clear H1
                  have H' := Aside0.mk H
                  clear H
                  have hnb27 := NB187_201.out
                  have hnc27 := NB201_187.out
                  have hcz28_0 : wr.cell? ⟨gb187, 0, none⟩ = some (.int .u32 t189) := (blk_cell BK187.out 0).trans rfl
                  have hcz28_1 : wr.cell? ⟨gb187, 1, none⟩ = some (.int .u32 t190) := (blk_cell BK187.out 1).trans rfl
                  have hcz28_2 : wr.cell? ⟨gb187, 2, none⟩ = some (.slice Ao12 t191.length co12) := (blk_cell BK187.out 2).trans rfl
                  have hfz28_0 := blk_frozen BK187.out 0
                  have hfz28_1 := blk_frozen BK187.out 1
                  have hfz28_2 := blk_frozen BK187.out 2
                  have p202 : 0 ≤ (x10_1 : Int) := of_decide_eq_true (by first | (with_reducible assumption) | assumption)
                  have q202 : x10_1 < (t191.length : Int) := of_decide_eq_true (by first | (with_reducible assumption) | assumption)
                  obtain ⟨ad202, e202, hx202_0, hx202_1⟩ := at_T44 (Kd.R_reads' HO_188002.out).2.2 x10_1 p202 q202
                  cases e202
                  replace p202 := eq_true p202
                  replace q202 := eq_true q202
                  have p203 : 0 ≤ (x10_1 : Int) := of_decide_eq_true (by first | (with_reducible assumption) | assumption)
                  have q203 : x10_1 < (t191.length : Int) := of_decide_eq_true (by first | (with_reducible assumption) | assumption)
                  obtain ⟨ad203, e203, hx203_0, hx203_1⟩ := at_T44 (Kd.R_reads' HO_188002.out).2.2 x10_1 p203 q203
                  obtain rfl : ad202 = ad203 := (by injection e203)
                  replace p203 := eq_true p203
                  replace q203 := eq_true q203
                  have p204 : 0 ≤ (x10_1 : Int) := of_decide_eq_true (by first | (with_reducible assumption) | assumption)
                  have q204 : x10_1 < (t191.length : Int) := of_decide_eq_true (by first | (with_reducible assumption) | assumption)
                  obtain ⟨ad204, e204, hx204_0, hx204_1⟩ := at_T44 (Kd.R_reads' HO_188002.out).2.2 x10_1 p204 q204
                  obtain rfl : ad202 = ad204 := (by injection e204)
                  replace p204 := eq_true p204
                  replace q204 := eq_true q204
                  go_wp2
                  go_roundg k1
                  case measure => have := HK1.out; omega
                  case rel => exact ⟨(decide (((rd_T44 t191 x10_1).f1) ≤ a1)), (wrap64 (x10_1 + 1)), (by first | rfl | (simp; done) | (simp [*]; done)), (by first | rfl | (simp; done) | (simp [*]; done)), H', ⟨by have := HK1.out; omega⟩, ⟨by (with_reducible repeat (first | apply Kd.R_alloc | apply Kd.R_drewN | apply Kd.R_drew)); exact HO_188002.out⟩, ⟨by (with_reducible repeat (first | apply Kd.R_alloc | apply Kd.R_drewN | apply Kd.R_drew)); exact HO_202002.out⟩, ⟨by (with_reducible repeat (first | refine blk_drewN ?_ _ | refine blk_drew ?_ | refine blk_alloc ?_ _)); exact BK187.out⟩, ⟨by (with_reducible repeat (first | refine blk_drewN ?_ _ | refine blk_drew ?_ | refine blk_alloc ?_ _)); exact BK201.out⟩, ⟨by repeat (first | (with_reducible first | exact HB.out | apply below_alloc | apply pw_below_drewN | apply below_drew1 | refine below_set ?_ GE187.out | refine below_set ?_ GE201.out) | exact HB.out)⟩⟩
            · rw [if_neg c20] at H
              have c20b0 : (((rd_T44 t191 x10_1).f0) == t199) = false := beq_eq_false_iff_ne.mpr c20
              have c20b1 : (((rd_T44 t191 x10_1).f0) != t199) = true := bne_iff_ne.mpr c20
              by_cases c29 : x9_1 = true
              · subst c29
                have H1 : (bazaarlaw05_AllocGated.l0 k1 a1 t188 t199 true (wrap64 (x10_1 + 1)) t189 t190 t191 t194 t195 t196) = some r := by rw [if_pos rfl] at H; exact H
                clear H
                have H := H1
                clear H1
                have H' := Aside0.mk H
                clear H
                have hnb30 := NB187_201.out
                have hnc30 := NB201_187.out
                have hcz31_0 : wr.cell? ⟨gb187, 0, none⟩ = some (.int .u32 t189) := (blk_cell BK187.out 0).trans rfl
                have hcz31_1 : wr.cell? ⟨gb187, 1, none⟩ = some (.int .u32 t190) := (blk_cell BK187.out 1).trans rfl
                have hcz31_2 : wr.cell? ⟨gb187, 2, none⟩ = some (.slice Ao12 t191.length co12) := (blk_cell BK187.out 2).trans rfl
                have hfz31_0 := blk_frozen BK187.out 0
                have hfz31_1 := blk_frozen BK187.out 1
                have hfz31_2 := blk_frozen BK187.out 2
                have p202 : 0 ≤ (x10_1 : Int) := of_decide_eq_true (by first | (with_reducible assumption) | assumption)
                have q202 : x10_1 < (t191.length : Int) := of_decide_eq_true (by first | (with_reducible assumption) | assumption)
                obtain ⟨ad202, e202, hx202_0, hx202_1⟩ := at_T44 (Kd.R_reads' HO_188002.out).2.2 x10_1 p202 q202
                cases e202
                replace p202 := eq_true p202
                replace q202 := eq_true q202
                go_wp2
                go_roundg k1
                case measure => have := HK1.out; omega
                case rel => exact ⟨(true), (wrap64 (x10_1 + 1)), (by first | rfl | (simp; done) | (simp [*]; done)), (by first | rfl | (simp; done) | (simp [*]; done)), H', ⟨by have := HK1.out; omega⟩, ⟨by (with_reducible repeat (first | apply Kd.R_alloc | apply Kd.R_drewN | apply Kd.R_drew)); exact HO_188002.out⟩, ⟨by (with_reducible repeat (first | apply Kd.R_alloc | apply Kd.R_drewN | apply Kd.R_drew)); exact HO_202002.out⟩, ⟨by (with_reducible repeat (first | refine blk_drewN ?_ _ | refine blk_drew ?_ | refine blk_alloc ?_ _)); exact BK187.out⟩, ⟨by (with_reducible repeat (first | refine blk_drewN ?_ _ | refine blk_drew ?_ | refine blk_alloc ?_ _)); exact BK201.out⟩, ⟨by repeat (first | (with_reducible first | exact HB.out | apply below_alloc | apply pw_below_drewN | apply below_drew1 | refine below_set ?_ GE187.out | refine below_set ?_ GE201.out) | exact HB.out)⟩⟩
              · replace c29 := Bool.eq_false_iff.mpr c29
                subst c29
                have H1 : (bazaarlaw05_AllocGated.l0 k1 a1 t188 t199 (decide (((rd_T44 t191 x10_1).f1) ≤ a1)) (wrap64 (x10_1 + 1)) t189 t190 t191 t194 t195 t196) = some r := by rw [if_neg (show ¬ (false = true) by decide)] at H; exact H
                clear H
                have H := H1
                clear H1
                have H' := Aside0.mk H
                clear H
                have hnb32 := NB187_201.out
                have hnc32 := NB201_187.out
                have hcz33_0 : wr.cell? ⟨gb187, 0, none⟩ = some (.int .u32 t189) := (blk_cell BK187.out 0).trans rfl
                have hcz33_1 : wr.cell? ⟨gb187, 1, none⟩ = some (.int .u32 t190) := (blk_cell BK187.out 1).trans rfl
                have hcz33_2 : wr.cell? ⟨gb187, 2, none⟩ = some (.slice Ao12 t191.length co12) := (blk_cell BK187.out 2).trans rfl
                have hfz33_0 := blk_frozen BK187.out 0
                have hfz33_1 := blk_frozen BK187.out 1
                have hfz33_2 := blk_frozen BK187.out 2
                have p202 : 0 ≤ (x10_1 : Int) := of_decide_eq_true (by first | (with_reducible assumption) | assumption)
                have q202 : x10_1 < (t191.length : Int) := of_decide_eq_true (by first | (with_reducible assumption) | assumption)
                obtain ⟨ad202, e202, hx202_0, hx202_1⟩ := at_T44 (Kd.R_reads' HO_188002.out).2.2 x10_1 p202 q202
                cases e202
                replace p202 := eq_true p202
                replace q202 := eq_true q202
                have p205 : 0 ≤ (x10_1 : Int) := of_decide_eq_true (by first | (with_reducible assumption) | assumption)
                have q205 : x10_1 < (t191.length : Int) := of_decide_eq_true (by first | (with_reducible assumption) | assumption)
                obtain ⟨ad205, e205, hx205_0, hx205_1⟩ := at_T44 (Kd.R_reads' HO_188002.out).2.2 x10_1 p205 q205
                obtain rfl : ad202 = ad205 := (by injection e205)
                replace p205 := eq_true p205
                replace q205 := eq_true q205
                go_wp2
                go_roundg k1
                case measure => have := HK1.out; omega
                case rel => exact ⟨(decide (((rd_T44 t191 x10_1).f1) ≤ a1)), (wrap64 (x10_1 + 1)), (by first | rfl | (simp; done) | (simp [*]; done)), (by first | rfl | (simp; done) | (simp [*]; done)), H', ⟨by have := HK1.out; omega⟩, ⟨by (with_reducible repeat (first | apply Kd.R_alloc | apply Kd.R_drewN | apply Kd.R_drew)); exact HO_188002.out⟩, ⟨by (with_reducible repeat (first | apply Kd.R_alloc | apply Kd.R_drewN | apply Kd.R_drew)); exact HO_202002.out⟩, ⟨by (with_reducible repeat (first | refine blk_drewN ?_ _ | refine blk_drew ?_ | refine blk_alloc ?_ _)); exact BK187.out⟩, ⟨by (with_reducible repeat (first | refine blk_drewN ?_ _ | refine blk_drew ?_ | refine blk_alloc ?_ _)); exact BK201.out⟩, ⟨by repeat (first | (with_reducible first | exact HB.out | apply below_alloc | apply pw_below_drewN | apply below_drew1 | refine below_set ?_ GE187.out | refine below_set ?_ GE201.out) | exact HB.out)⟩⟩
          · rw [if_neg c19] at H
            exact absurd H (by simp)
        · rw [if_neg c18] at H
          have c18b0 : decide (x10_1 < (t191.length : Int)) = false := decide_eq_false c18
          clear c18
          have H' := Aside0.mk H
          clear H
          have hnb34 := NB187_201.out
          have hnc34 := NB201_187.out
          have hcz35_0 : wr.cell? ⟨gb187, 0, none⟩ = some (.int .u32 t189) := (blk_cell BK187.out 0).trans rfl
          have hcz35_1 : wr.cell? ⟨gb187, 1, none⟩ = some (.int .u32 t190) := (blk_cell BK187.out 1).trans rfl
          have hcz35_2 : wr.cell? ⟨gb187, 2, none⟩ = some (.slice Ao12 t191.length co12) := (blk_cell BK187.out 2).trans rfl
          have hfz35_0 := blk_frozen BK187.out 0
          have hfz35_1 := blk_frozen BK187.out 1
          have hfz35_2 := blk_frozen BK187.out 2
          go_wp2
          go_loopg [11] k1 (fun kq v11 w' => ∃ (x11_2 : Int), v11 = .int .i64 x11_2 ∧ Aside0 (bazaarlaw05_AllocGated.l1 kq t188 t199 x9_1 x11_2 t189 t190 t191 t194 t195 t196 = some r) ∧ Aside0 (kq ≤ k1) ∧ Aside0 (Kd.R k44 44 w' w.heap.size (fun k_ => some k_ ≠ ((.slice Ao17 t196.length co17) : Value).ownBlock) (.slice Ao12 t191.length co12) t191) ∧ Aside0 (Kd.R k44 44 w' w.heap.size (fun k_ => some k_ ≠ ((.slice Ao12 t191.length co12) : Value).ownBlock) (.slice Ao17 t196.length co17) t196) ∧ Aside0 (w'.heap[gb187]? = some (.cells #[.int .u32 t189, .int .u32 t190, (.slice Ao12 t191.length co12)] 25 (0, 0))) ∧ Aside0 (w'.heap[gb201]? = some (.cells #[.int .u32 t194, .int .u32 t195, (.slice Ao17 t196.length co17)] 25 (0, 0))) ∧ Aside0 (Below w.heap.size w w'))
          case atStart => exact ⟨(0), (by first | rfl | (simp; done) | (simp [*]; done)), H', ⟨Nat.le_refl _⟩, ⟨by (with_reducible repeat (first | apply Kd.R_alloc | apply Kd.R_drewN | apply Kd.R_drew)); exact HO_188002.out⟩, ⟨by (with_reducible repeat (first | apply Kd.R_alloc | apply Kd.R_drewN | apply Kd.R_drew)); exact HO_202002.out⟩, ⟨by (with_reducible repeat (first | refine blk_drewN ?_ _ | refine blk_drew ?_ | refine blk_alloc ?_ _)); exact BK187.out⟩, ⟨by (with_reducible repeat (first | refine blk_drewN ?_ _ | refine blk_drew ?_ | refine blk_alloc ?_ _)); exact BK201.out⟩, ⟨by repeat (first | (with_reducible first | exact HB.out | apply below_alloc | apply pw_below_drewN | apply below_drew1 | refine below_set ?_ GE187.out | refine below_set ?_ GE201.out) | exact HB.out)⟩⟩
          case round =>
            clear H'
            try clear c1
            try clear c2
            try clear p2
            try clear q2
            try clear hx2
            try clear c3
            try clear c5
            try clear c6
            try clear c6b0
            try clear c6b1
            try clear p6
            try clear c11
            try clear c12
            try clear c13
            try clear c15
            try clear c18
            try clear c18b0
            try clear c19
            try clear c19b0
            try clear c20
            try clear c20b0
            try clear c20b1
            try clear p20
            try clear q20
            try clear hx20
            try clear c21
            try clear c21b0
            try clear c22
            try clear c24
            try clear c25
            try clear c27
            try clear c29
            try clear c30
            try clear c32
            try clear c34
            try clear hcz11_0
            try clear hcz11_1
            try clear hcz11_2
            try clear hcz16_0
            try clear hcz16_1
            try clear hcz16_2
            try clear hcz23_0
            try clear hcz23_1
            try clear hcz23_2
            try clear hcz26_0
            try clear hcz26_1
            try clear hcz26_2
            try clear hcz28_0
            try clear hcz28_1
            try clear hcz28_2
            try clear hcz31_0
            try clear hcz31_1
            try clear hcz31_2
            try clear hcz33_0
            try clear hcz33_1
            try clear hcz33_2
            try clear hcz35_0
            try clear hcz35_1
            try clear hcz35_2
            try clear hcz9_0
            try clear hcz9_1
            try clear hcz9_2
            try clear hfz11_0
            try clear hfz11_1
            try clear hfz11_2
            try clear hfz16_0
            try clear hfz16_1
            try clear hfz16_2
            try clear hfz23_0
            try clear hfz23_1
            try clear hfz23_2
            try clear hfz26_0
            try clear hfz26_1
            try clear hfz26_2
            try clear hfz28_0
            try clear hfz28_1
            try clear hfz28_2
            try clear hfz31_0
            try clear hfz31_1
            try clear hfz31_2
            try clear hfz33_0
            try clear hfz33_1
            try clear hfz33_2
            try clear hfz35_0
            try clear hfz35_1
            try clear hfz35_2
            try clear hfz9_0
            try clear hfz9_1
            try clear hfz9_2
            try clear hx202_0
            try clear hx202_1
            try clear hx203_0
            try clear hx203_1
            try clear hx204_0
            try clear hx204_1
            try clear hx205_0
            try clear hx205_1
            try clear p2
            try clear p202
            try clear p203
            try clear p204
            try clear p205
            try clear q202
            try clear q203
            try clear q204
            try clear q205
            obtain ⟨x11_2, rfl, HA, HK2, HO_188002, HO_202002, BK187, BK201, HB⟩ := hrel
            cases gk with
            | zero => exact absurd HA.out (by simp [bazaarlaw05_AllocGated.l1])
            | succ k2 =>
              have H := HA.out
              clear HA
              simp only [bazaarlaw05_AllocGated.l1] at H
              by_cases c36 : x11_2 < (t196.length : Int)
              · rw [if_pos c36] at H
                have c36b0 : decide (x11_2 < (t196.length : Int)) = true := decide_eq_true c36
                clear c36
                by_cases c37 : 0 ≤ x11_2
                · rw [if_pos c37] at H
                  have c37b0 : decide (0 ≤ x11_2) = true := decide_eq_true c37
                  clear c37
                  by_cases c38 : ((rd_T44 t196 x11_2).f0) = t199
                  · rw [if_pos c38] at H
                    have c38b0 : (((rd_T44 t196 x11_2).f0) == t199) = true := beq_iff_eq.mpr c38
                    have c38b1 : (((rd_T44 t196 x11_2).f0) != t199) = false := bne_eq_false_iff_eq.mpr c38
                    clear c38
                    obtain rfl := Option.some.inj H
                    have hnb39 := NB201_187.out
                    have hnc39 := NB187_201.out
                    have hcz40_0 : wr.cell? ⟨gb201, 0, none⟩ = some (.int .u32 t194) := (blk_cell BK201.out 0).trans rfl
                    have hcz40_1 : wr.cell? ⟨gb201, 1, none⟩ = some (.int .u32 t195) := (blk_cell BK201.out 1).trans rfl
                    have hcz40_2 : wr.cell? ⟨gb201, 2, none⟩ = some (.slice Ao17 t196.length co17) := (blk_cell BK201.out 2).trans rfl
                    have hfz40_0 := blk_frozen BK201.out 0
                    have hfz40_1 := blk_frozen BK201.out 1
                    have hfz40_2 := blk_frozen BK201.out 2
                    have p206 : 0 ≤ (x11_2 : Int) := of_decide_eq_true (by first | (with_reducible assumption) | assumption)
                    have q206 : x11_2 < (t196.length : Int) := of_decide_eq_true (by first | (with_reducible assumption) | assumption)
                    obtain ⟨ad206, e206, hx206_0, hx206_1⟩ := at_T44 (Kd.R_reads' HO_202002.out).2.2 x11_2 p206 q206
                    cases e206
                    replace p206 := eq_true p206
                    replace q206 := eq_true q206
                    go_wp2
                    go_ret
                    exact ⟨by first | rfl | (simp [errW_none, errW_some] <;> rfl) | (simp [*, errW_none, errW_some] <;> rfl), by repeat (first | (with_reducible first | exact HB.out | apply below_alloc | apply pw_below_drewN | apply below_drew1 | refine below_set ?_ GE187.out | refine below_set ?_ GE201.out) | exact HB.out)⟩
                  · rw [if_neg c38] at H
                    have c38b0 : (((rd_T44 t196 x11_2).f0) == t199) = false := beq_eq_false_iff_ne.mpr c38
                    have c38b1 : (((rd_T44 t196 x11_2).f0) != t199) = true := bne_iff_ne.mpr c38
                    have H' := Aside0.mk H
                    clear H
                    have hnb41 := NB201_187.out
                    have hnc41 := NB187_201.out
                    have hcz42_0 : wr.cell? ⟨gb201, 0, none⟩ = some (.int .u32 t194) := (blk_cell BK201.out 0).trans rfl
                    have hcz42_1 : wr.cell? ⟨gb201, 1, none⟩ = some (.int .u32 t195) := (blk_cell BK201.out 1).trans rfl
                    have hcz42_2 : wr.cell? ⟨gb201, 2, none⟩ = some (.slice Ao17 t196.length co17) := (blk_cell BK201.out 2).trans rfl
                    have hfz42_0 := blk_frozen BK201.out 0
                    have hfz42_1 := blk_frozen BK201.out 1
                    have hfz42_2 := blk_frozen BK201.out 2
                    have p206 : 0 ≤ (x11_2 : Int) := of_decide_eq_true (by first | (with_reducible assumption) | assumption)
                    have q206 : x11_2 < (t196.length : Int) := of_decide_eq_true (by first | (with_reducible assumption) | assumption)
                    obtain ⟨ad206, e206, hx206_0, hx206_1⟩ := at_T44 (Kd.R_reads' HO_202002.out).2.2 x11_2 p206 q206
                    cases e206
                    replace p206 := eq_true p206
                    replace q206 := eq_true q206
                    go_wp2
                    go_roundg k2
                    case measure => have := HK1.out; have := HK2.out; omega
                    case rel => exact ⟨(wrap64 (x11_2 + 1)), (by first | rfl | (simp; done) | (simp [*]; done)), H', ⟨by have := HK1.out; have := HK2.out; omega⟩, ⟨by (with_reducible repeat (first | apply Kd.R_alloc | apply Kd.R_drewN | apply Kd.R_drew)); exact HO_188002.out⟩, ⟨by (with_reducible repeat (first | apply Kd.R_alloc | apply Kd.R_drewN | apply Kd.R_drew)); exact HO_202002.out⟩, ⟨by (with_reducible repeat (first | refine blk_drewN ?_ _ | refine blk_drew ?_ | refine blk_alloc ?_ _)); exact BK187.out⟩, ⟨by (with_reducible repeat (first | refine blk_drewN ?_ _ | refine blk_drew ?_ | refine blk_alloc ?_ _)); exact BK201.out⟩, ⟨by repeat (first | (with_reducible first | exact HB.out | apply below_alloc | apply pw_below_drewN | apply below_drew1 | refine below_set ?_ GE187.out | refine below_set ?_ GE201.out) | exact HB.out)⟩⟩
                · rw [if_neg c37] at H
                  exact absurd H (by simp)
              · rw [if_neg c36] at H
                have c36b0 : decide (x11_2 < (t196.length : Int)) = false := decide_eq_false c36
                clear c36
                by_cases c43 : t188 = true
                · subst c43
                  have H1 : (if (x9_1 == (t194 == t189)) = true then (if x9_1 = true then (some true) else (some (t199 == t189))) else (some false)) = some r := by rw [if_pos rfl] at H; exact H
                  clear H
                  have H := H1
                  clear H1
                  by_cases c44 : (x9_1 == (t194 == t189)) = true
                  · rw [if_pos c44] at H
                    have c44b0 : (x9_1 == (t194 == t189)) = true := c44
                    (try (have c44b1 : decide (x9_1 = (t194 == t189)) = true := by simpa using c44))
                    (try (have c44b2 : (x9_1 == (t194 == t189)) = true := by simpa using c44))
                    clear c44
                    by_cases c45 : x9_1 = true
                    · subst c45
                      have H1 : (some true) = some r := by rw [if_pos rfl] at H; exact H
                      clear H
                      have H := H1
                      clear H1
                      obtain rfl := Option.some.inj H
                      have hnb46 := NB201_187.out
                      have hnc46 := NB187_201.out
                      have hcz47_0 : wr.cell? ⟨gb201, 0, none⟩ = some (.int .u32 t194) := (blk_cell BK201.out 0).trans rfl
                      have hcz47_1 : wr.cell? ⟨gb201, 1, none⟩ = some (.int .u32 t195) := (blk_cell BK201.out 1).trans rfl
                      have hcz47_2 : wr.cell? ⟨gb201, 2, none⟩ = some (.slice Ao17 t196.length co17) := (blk_cell BK201.out 2).trans rfl
                      have hfz47_0 := blk_frozen BK201.out 0
                      have hfz47_1 := blk_frozen BK201.out 1
                      have hfz47_2 := blk_frozen BK201.out 2
                      have hcz48_0 : wr.cell? ⟨gb187, 0, none⟩ = some (.int .u32 t189) := (blk_cell BK187.out 0).trans rfl
                      have hcz48_1 : wr.cell? ⟨gb187, 1, none⟩ = some (.int .u32 t190) := (blk_cell BK187.out 1).trans rfl
                      have hcz48_2 : wr.cell? ⟨gb187, 2, none⟩ = some (.slice Ao12 t191.length co12) := (blk_cell BK187.out 2).trans rfl
                      have hfz48_0 := blk_frozen BK187.out 0
                      have hfz48_1 := blk_frozen BK187.out 1
                      have hfz48_2 := blk_frozen BK187.out 2
                      go_wp2
                      go_ret
                      exact ⟨by first | rfl | (simp [errW_none, errW_some] <;> rfl) | (simp [*, errW_none, errW_some] <;> rfl), by repeat (first | (with_reducible first | exact HB.out | apply below_alloc | apply pw_below_drewN | apply below_drew1 | refine below_set ?_ GE187.out | refine below_set ?_ GE201.out) | exact HB.out)⟩
                    · replace c45 := Bool.eq_false_iff.mpr c45
                      subst c45
                      have H1 : (some (t199 == t189)) = some r := by rw [if_neg (show ¬ (false = true) by decide)] at H; exact H
                      clear H
                      have H := H1
                      clear H1
                      obtain rfl := Option.some.inj H
                      have hnb49 := NB201_187.out
                      have hnc49 := NB187_201.out
                      have hcz50_0 : wr.cell? ⟨gb201, 0, none⟩ = some (.int .u32 t194) := (blk_cell BK201.out 0).trans rfl
                      have hcz50_1 : wr.cell? ⟨gb201, 1, none⟩ = some (.int .u32 t195) := (blk_cell BK201.out 1).trans rfl
                      have hcz50_2 : wr.cell? ⟨gb201, 2, none⟩ = some (.slice Ao17 t196.length co17) := (blk_cell BK201.out 2).trans rfl
                      have hfz50_0 := blk_frozen BK201.out 0
                      have hfz50_1 := blk_frozen BK201.out 1
                      have hfz50_2 := blk_frozen BK201.out 2
                      have hcz51_0 : wr.cell? ⟨gb187, 0, none⟩ = some (.int .u32 t189) := (blk_cell BK187.out 0).trans rfl
                      have hcz51_1 : wr.cell? ⟨gb187, 1, none⟩ = some (.int .u32 t190) := (blk_cell BK187.out 1).trans rfl
                      have hcz51_2 : wr.cell? ⟨gb187, 2, none⟩ = some (.slice Ao12 t191.length co12) := (blk_cell BK187.out 2).trans rfl
                      have hfz51_0 := blk_frozen BK187.out 0
                      have hfz51_1 := blk_frozen BK187.out 1
                      have hfz51_2 := blk_frozen BK187.out 2
                      go_wp2
                      go_ret
                      exact ⟨by first | rfl | (simp [errW_none, errW_some] <;> rfl) | (simp [*, errW_none, errW_some] <;> rfl), by repeat (first | (with_reducible first | exact HB.out | apply below_alloc | apply pw_below_drewN | apply below_drew1 | refine below_set ?_ GE187.out | refine below_set ?_ GE201.out) | exact HB.out)⟩
                  · rw [if_neg c44] at H
                    have c44b0 : (x9_1 == (t194 == t189)) = false := by simpa using c44
                    (try (have c44b1 : decide (x9_1 = (t194 == t189)) = false := by simpa using c44))
                    (try (have c44b2 : (x9_1 == (t194 == t189)) = false := by simpa using c44))
                    (try (have c44b3 : ¬ (x9_1 = (t194 == t189)) := by simpa using c44))
                    clear c44
                    obtain rfl := Option.some.inj H
                    have hnb52 := NB201_187.out
                    have hnc52 := NB187_201.out
                    have hcz53_0 : wr.cell? ⟨gb201, 0, none⟩ = some (.int .u32 t194) := (blk_cell BK201.out 0).trans rfl
                    have hcz53_1 : wr.cell? ⟨gb201, 1, none⟩ = some (.int .u32 t195) := (blk_cell BK201.out 1).trans rfl
                    have hcz53_2 : wr.cell? ⟨gb201, 2, none⟩ = some (.slice Ao17 t196.length co17) := (blk_cell BK201.out 2).trans rfl
                    have hfz53_0 := blk_frozen BK201.out 0
                    have hfz53_1 := blk_frozen BK201.out 1
                    have hfz53_2 := blk_frozen BK201.out 2
                    have hcz54_0 : wr.cell? ⟨gb187, 0, none⟩ = some (.int .u32 t189) := (blk_cell BK187.out 0).trans rfl
                    have hcz54_1 : wr.cell? ⟨gb187, 1, none⟩ = some (.int .u32 t190) := (blk_cell BK187.out 1).trans rfl
                    have hcz54_2 : wr.cell? ⟨gb187, 2, none⟩ = some (.slice Ao12 t191.length co12) := (blk_cell BK187.out 2).trans rfl
                    have hfz54_0 := blk_frozen BK187.out 0
                    have hfz54_1 := blk_frozen BK187.out 1
                    have hfz54_2 := blk_frozen BK187.out 2
                    go_wp2
                    go_ret
                    exact ⟨by first | rfl | (simp [errW_none, errW_some] <;> rfl) | (simp [*, errW_none, errW_some] <;> rfl), by repeat (first | (with_reducible first | exact HB.out | apply below_alloc | apply pw_below_drewN | apply below_drew1 | refine below_set ?_ GE187.out | refine below_set ?_ GE201.out) | exact HB.out)⟩
                · replace c43 := Bool.eq_false_iff.mpr c43
                  subst c43
                  have H1 : (some false) = some r := by rw [if_neg (show ¬ (false = true) by decide)] at H; exact H
                  clear H
                  have H := H1
                  clear H1
                  obtain rfl := Option.some.inj H
                  have hnb55 := NB201_187.out
                  have hnc55 := NB187_201.out
                  have hcz56_0 : wr.cell? ⟨gb201, 0, none⟩ = some (.int .u32 t194) := (blk_cell BK201.out 0).trans rfl
                  have hcz56_1 : wr.cell? ⟨gb201, 1, none⟩ = some (.int .u32 t195) := (blk_cell BK201.out 1).trans rfl
                  have hcz56_2 : wr.cell? ⟨gb201, 2, none⟩ = some (.slice Ao17 t196.length co17) := (blk_cell BK201.out 2).trans rfl
                  have hfz56_0 := blk_frozen BK201.out 0
                  have hfz56_1 := blk_frozen BK201.out 1
                  have hfz56_2 := blk_frozen BK201.out 2
                  go_wp2
                  go_ret
                  exact ⟨by first | rfl | (simp [errW_none, errW_some] <;> rfl) | (simp [*, errW_none, errW_some] <;> rfl), by repeat (first | (with_reducible first | exact HB.out | apply below_alloc | apply pw_below_drewN | apply below_drew1 | refine below_set ?_ GE187.out | refine below_set ?_ GE201.out) | exact HB.out)⟩
  · rw [if_neg c6] at H
    have c6b0 : (t200 == 0) = false := beq_eq_false_iff_ne.mpr c6
    have c6b1 : (t200 != 0) = true := bne_iff_ne.mpr c6
    by_cases c57 : t188 = true
    · subst c57
      have H1 : (some (t199 == 0)) = some r := by rw [if_pos rfl] at H; exact H
      clear H
      have H := H1
      clear H1
      obtain rfl := Option.some.inj H
      go_enter Try.func5, Try.ntmps5
      go_wp2_with (first | ((with_reducible refine gate_dst (N := 2) rfl ?_); refine box_event ?hg (N := 2) ?hd (cs := #[.int .u32 a0_0, .int .u32 a0_1, .slice A0_2 l0_2.length c0_2]) (t := 25) ?hr ?_; (case hd => rfl); (case hg => rfl); (case hr => first | (go_simp; done) | (go_simp; rfl)); intro gb187 hg w58 hbox hb; have n0_ := Aside0.mk (below_step (by repeat (first | (with_reducible first | exact HB.out | apply below_alloc | apply pw_below_drewN | apply below_drew1) | exact HB.out)) hb); have n1_ := Aside0.mk (hbox); have n2_ := Aside0.mk ((by rw [hg]; exact (below_size (by repeat (first | (with_reducible first | exact HB.out | apply below_alloc | apply pw_below_drewN | apply below_drew1) | exact HB.out))) : w.heap.size ≤ gb187)); have n3_ := Aside0.mk ((by rw [hg]; exact (below_size (by repeat (first | (with_reducible first | exact HB.out | apply below_alloc | apply pw_below_drewN | apply below_drew1) | exact HB.out))) : w.heap.size ≤ gb187)); clear HB; have HB := n0_; have BK187 := n1_; have GW187 := n2_; have GE187 := n3_; clear n0_ n1_ n2_ n3_; clear hb hbox hg) | ((with_reducible refine gate_callee (f := 11) rfl ?_); refine goesL_ (some 12) rfl rfl Try.func11 (by kernel_rfl) rfl #[] rfl (by (try simp only [List.map_toArray, List.map_cons, List.map_nil]); first | done | rfl | (simp only [List.length_drop, List.length_take]; rfl)) ?_; (with_reducible refine (bazaarlaw05_shown.calls  true _ A3.out).mono ?_); rintro e w59 ⟨rfl, hb⟩; refine ⟨_, rfl, ?_⟩; have n0_ := Aside0.mk (blk_below (g := gb187) (o := .cells #[.int .u32 a0_0, .int .u32 a0_1, .slice A0_2 l0_2.length c0_2] 25 (0, 0)) (by (with_reducible repeat (first | refine blk_drewN ?_ _ | refine blk_drew ?_ | refine blk_alloc ?_ _)); exact BK187.out) hb); have n1_ := Aside0.mk (below_step (by repeat (first | (with_reducible first | exact HB.out | apply below_alloc | apply pw_below_drewN | apply below_drew1 | refine below_set ?_ GE187.out) | exact HB.out)) hb); clear BK187; clear HB; have BK187 := n0_; have HB := n1_; clear n0_ n1_; (try clear hb); (try clear hb2); (try clear hk); (try clear hi); have hcz60_0 : w59.cell? ⟨gb187, 0, none⟩ = some (.int .u32 a0_0) := (blk_cell BK187.out 0).trans rfl; have hcz60_1 : w59.cell? ⟨gb187, 1, none⟩ = some (.int .u32 a0_1) := (blk_cell BK187.out 1).trans rfl; have hcz60_2 : w59.cell? ⟨gb187, 2, none⟩ = some (.slice A0_2 l0_2.length c0_2) := (blk_cell BK187.out 2).trans rfl; have hfz60_0 := blk_frozen BK187.out 0; have hfz60_1 := blk_frozen BK187.out 1; have hfz60_2 := blk_frozen BK187.out 2) | ((with_reducible refine gate_callee (f := 12) rfl ?_); refine goesL_ (some 14) rfl rfl Try.func12 (by kernel_rfl) rfl #[.agg #[.int .u32 a0_0, .int .u32 a0_1, .slice A0_2 l0_2.length c0_2]] rfl (by (try simp only [List.map_toArray, List.map_cons, List.map_nil]); first | done | rfl | (simp only [List.length_drop, List.length_take]; rfl)) ?_; (with_reducible refine (bazaarlaw05_cut.calls a0_0 a0_1 _ _ l0_2 t189 t190 t191 _ ?side1 ?side2 A4.out).mono ?_); (case side1 => repeat (first | exact (Kd.C_below HR0_2.out HB.out) | (with_reducible refine Kd.C_alloc ?_ _) | (with_reducible refine Kd.C_drewN ?_ _) | (with_reducible refine Kd.C_drew ?_))); (case side2 => exact HC0_2.out); rintro e w61 ⟨v192, rfl, ho0, hb⟩; refine ⟨_, rfl, ?_⟩; have n0_ := Aside0.mk (Kd.R_lower ho0 (below_size (by repeat (first | (with_reducible first | exact HB.out | apply below_alloc | apply pw_below_drewN | apply below_drew1 | refine below_set ?_ GE187.out) | exact HB.out)))); have n1_ := Aside0.mk (blk_below (g := gb187) (o := .cells #[.int .u32 a0_0, .int .u32 a0_1, .slice A0_2 l0_2.length c0_2] 25 (0, 0)) (by (with_reducible repeat (first | refine blk_drewN ?_ _ | refine blk_drew ?_ | refine blk_alloc ?_ _)); exact BK187.out) hb); have n2_ := Aside0.mk (below_step (by repeat (first | (with_reducible first | exact HB.out | apply below_alloc | apply pw_below_drewN | apply below_drew1 | refine below_set ?_ GE187.out) | exact HB.out)) hb); clear BK187; clear HB; have HO193 := n0_; have BK187 := n1_; have HB := n2_; clear n0_ n1_ n2_; (try clear hb); (try clear hb2); (try clear hk); (try clear hi); (try clear ho0); have hcz62_0 : w61.cell? ⟨gb187, 0, none⟩ = some (.int .u32 a0_0) := (blk_cell BK187.out 0).trans rfl; have hcz62_1 : w61.cell? ⟨gb187, 1, none⟩ = some (.int .u32 a0_1) := (blk_cell BK187.out 1).trans rfl; have hcz62_2 : w61.cell? ⟨gb187, 2, none⟩ = some (.slice A0_2 l0_2.length c0_2) := (blk_cell BK187.out 2).trans rfl; have hfz62_0 := blk_frozen BK187.out 0; have hfz62_1 := blk_frozen BK187.out 1; have hfz62_2 := blk_frozen BK187.out 2; obtain ⟨Ao63, co63, eo63⟩ := Kd.R_slice HO193.out; subst eo63) | ((with_reducible refine gate_callee (f := 13) rfl ?_); refine goesL_ (some 18) rfl rfl Try.func13 (by kernel_rfl) rfl #[.agg #[.int .u32 t189, .int .u32 t190, .slice Ao63 t191.length co63], .int .u64 a1] rfl (by (try simp only [List.map_toArray, List.map_cons, List.map_nil]); first | done | rfl | (simp only [List.length_drop, List.length_take]; rfl)) ?_; (with_reducible refine (alloc_Take.calls t189 t190 _ _ t191 a1 t194 t195 t196 t199 t200 _ ?side1 ?side2 A5.out).mono ?_); (case side1 => refine (Kd.R_reads' (e := 44) (base := w.heap.size) (ok := fun k_ => True) (n := t191.length) (c := co63) ?_).2.2; exact (by (with_reducible repeat (first | apply Kd.R_alloc | apply Kd.R_drewN | apply Kd.R_drew)); exact (Kd.R_mono (Kd.R_far (p := ⟨gb187, 2, none⟩) (Kd.R_far (p := ⟨gb187, 1, none⟩) (Kd.R_far (p := ⟨gb187, 0, none⟩) (Kd.R_types HO193.out BK187.out (by decide)) (fun _ hk => hk.2) (.int .u32 t189)) (fun _ hk => hk.2) (.int .u32 t190)) (fun _ hk => hk.2) (.slice Ao63 t191.length co63)) (fun _ h_ => h_.1)))); (case side2 => exact (Kd.R_reads' HO193.out).2.1); rintro e w64 ⟨v197, rfl, ho0, hb⟩; refine ⟨_, rfl, ?_⟩; have n0_ := Aside0.mk (Kd.R_elder' (by (with_reducible repeat (first | apply Kd.R_alloc | apply Kd.R_drewN | apply Kd.R_drew)); exact (Kd.R_mono (Kd.R_far (p := ⟨gb187, 2, none⟩) (Kd.R_far (p := ⟨gb187, 1, none⟩) (Kd.R_far (p := ⟨gb187, 0, none⟩) (Kd.R_types HO193.out BK187.out (by decide)) (fun _ hk => hk.2) (.int .u32 t189)) (fun _ hk => hk.2) (.int .u32 t190)) (fun _ hk => hk.2) (.slice Ao63 t191.length co63)) (fun _ h_ => h_.1))) (Kd.R_base ho0) hb); have n1_ := Aside0.mk (Kd.R_lower (Kd.R_new' ho0 (Kd.R_lt (by (with_reducible repeat (first | apply Kd.R_alloc | apply Kd.R_drewN | apply Kd.R_drew)); exact (Kd.R_mono (Kd.R_far (p := ⟨gb187, 2, none⟩) (Kd.R_far (p := ⟨gb187, 1, none⟩) (Kd.R_far (p := ⟨gb187, 0, none⟩) (Kd.R_types HO193.out BK187.out (by decide)) (fun _ hk => hk.2) (.int .u32 t189)) (fun _ hk => hk.2) (.int .u32 t190)) (fun _ hk => hk.2) (.slice Ao63 t191.length co63)) (fun _ h_ => h_.1))))) (below_size (by repeat (first | (with_reducible first | exact HB.out | apply below_alloc | apply pw_below_drewN | apply below_drew1 | refine below_set ?_ GE187.out) | exact HB.out)))); have n2_ := Aside0.mk (blk_below (g := gb187) (o := .cells #[.int .u32 t189, .int .u32 t190, .slice Ao63 t191.length co63] 25 (0, 0)) (by (with_reducible repeat (first | refine blk_drewN ?_ _ | refine blk_drew ?_ | refine blk_alloc ?_ _)); refine blk_put (cs := #[.int .u32 t189, .int .u32 t190, .slice A0_2 l0_2.length c0_2]) ?_ 2 _ rfl; (with_reducible repeat (first | refine blk_drewN ?_ _ | refine blk_drew ?_ | refine blk_alloc ?_ _)); refine blk_put (cs := #[.int .u32 t189, .int .u32 a0_1, .slice A0_2 l0_2.length c0_2]) ?_ 1 _ rfl; (with_reducible repeat (first | refine blk_drewN ?_ _ | refine blk_drew ?_ | refine blk_alloc ?_ _)); refine blk_put (cs := #[.int .u32 a0_0, .int .u32 a0_1, .slice A0_2 l0_2.length c0_2]) ?_ 0 _ rfl; (with_reducible repeat (first | refine blk_drewN ?_ _ | refine blk_drew ?_ | refine blk_alloc ?_ _)); exact BK187.out) hb); have n3_ := Aside0.mk (below_step (by repeat (first | (with_reducible first | exact HB.out | apply below_alloc | apply pw_below_drewN | apply below_drew1 | refine below_set ?_ GE187.out) | exact HB.out)) hb); clear HO193; clear BK187; clear HB; have HO193 := n0_; have HO198 := n1_; have BK187 := n2_; have HB := n3_; clear n0_ n1_ n2_ n3_; (try clear hb); (try clear hb2); (try clear hk); (try clear hi); (try clear ho0)) | ((with_reducible refine gate_dst (N := 6) rfl ?_); refine box_event ?hg (N := 6) ?hd (cs := #[.int .u32 0, .int .u32 0, .slice none 0 0]) (t := 25) ?hr ?_; (case hd => rfl); (case hg => rfl); (case hr => first | (go_simp; done) | (go_simp; rfl)); intro gb201 hg w65 hbox hb; have n0_ := Aside0.mk (Kd.R_below (by (with_reducible repeat (first | apply Kd.R_alloc | apply Kd.R_drewN | apply Kd.R_drew)); exact HO193.out) hb); have n1_ := Aside0.mk (Kd.R_below (by (with_reducible repeat (first | apply Kd.R_alloc | apply Kd.R_drewN | apply Kd.R_drew)); exact HO198.out) hb); have n2_ := Aside0.mk (blk_below (g := gb187) (o := .cells #[.int .u32 t189, .int .u32 t190, .slice Ao63 t191.length co63] 25 (0, 0)) (by (with_reducible repeat (first | refine blk_drewN ?_ _ | refine blk_drew ?_ | refine blk_alloc ?_ _)); exact BK187.out) hb); have n3_ := Aside0.mk (below_step (by repeat (first | (with_reducible first | exact HB.out | apply below_alloc | apply pw_below_drewN | apply below_drew1 | refine below_set ?_ GE187.out) | exact HB.out)) hb); have n4_ := Aside0.mk (hbox); have n5_ := Aside0.mk ((by rw [hg]; exact (below_size (by repeat (first | (with_reducible first | exact HB.out | apply below_alloc | apply pw_below_drewN | apply below_drew1 | refine below_set ?_ GE187.out) | exact HB.out))) : w.heap.size ≤ gb201)); have n6_ := Aside0.mk ((by rw [hg]; exact (below_size (by repeat (first | (with_reducible first | exact HB.out | apply below_alloc | apply pw_below_drewN | apply below_drew1 | refine below_set ?_ GE187.out) | exact HB.out))) : w.heap.size ≤ gb201)); have n7_ := Aside0.mk ((by rw [hg]; exact Nat.ne_of_lt (blk_lt (g := gb187) (o := .cells #[.int .u32 t189, .int .u32 t190, .slice Ao63 t191.length co63] 25 (0, 0)) (by (with_reducible repeat (first | refine blk_drewN ?_ _ | refine blk_drew ?_ | refine blk_alloc ?_ _)); exact BK187.out)) : gb187 ≠ gb201)); have n8_ := Aside0.mk ((by rw [hg]; exact Nat.ne_of_gt (blk_lt (g := gb187) (o := .cells #[.int .u32 t189, .int .u32 t190, .slice Ao63 t191.length co63] 25 (0, 0)) (by (with_reducible repeat (first | refine blk_drewN ?_ _ | refine blk_drew ?_ | refine blk_alloc ?_ _)); exact BK187.out)) : gb201 ≠ gb187)); clear HO193; clear HO198; clear BK187; clear HB; have HO193 := n0_; have HO198 := n1_; have BK187 := n2_; have HB := n3_; have BK201 := n4_; have GW201 := n5_; have GE201 := n6_; have NB187_201 := n7_; have NB201_187 := n8_; clear n0_ n1_ n2_ n3_ n4_ n5_ n6_ n7_ n8_; clear hb hbox hg; have hnb66 := NB201_187.out; have hnc66 := NB187_201.out; have hcz67_0 : w65.cell? ⟨gb201, 0, none⟩ = some (.int .u32 0) := (blk_cell BK201.out 0).trans rfl; have hcz67_1 : w65.cell? ⟨gb201, 1, none⟩ = some (.int .u32 0) := (blk_cell BK201.out 1).trans rfl; have hcz67_2 : w65.cell? ⟨gb201, 2, none⟩ = some (.slice none 0 0) := (blk_cell BK201.out 2).trans rfl; have hfz67_0 := blk_frozen BK201.out 0; have hfz67_1 := blk_frozen BK201.out 1; have hfz67_2 := blk_frozen BK201.out 2; obtain ⟨Ao68, co68, eo68⟩ := Kd.R_slice HO198.out; subst eo68))
      go_ret
      exact ⟨by first | rfl | (simp [errW_none, errW_some] <;> rfl) | (simp [*, errW_none, errW_some] <;> rfl), by repeat (first | (with_reducible first | exact HB.out | apply below_alloc | apply pw_below_drewN | apply below_drew1 | refine below_set ?_ GE187.out | refine below_set ?_ GE201.out) | exact HB.out)⟩
    · replace c57 := Bool.eq_false_iff.mpr c57
      subst c57
      have H1 : (some false) = some r := by rw [if_neg (show ¬ (false = true) by decide)] at H; exact H
      clear H
      have H := H1
      clear H1
      obtain rfl := Option.some.inj H
      go_enter Try.func5, Try.ntmps5
      go_wp2_with (first | ((with_reducible refine gate_dst (N := 2) rfl ?_); refine box_event ?hg (N := 2) ?hd (cs := #[.int .u32 a0_0, .int .u32 a0_1, .slice A0_2 l0_2.length c0_2]) (t := 25) ?hr ?_; (case hd => rfl); (case hg => rfl); (case hr => first | (go_simp; done) | (go_simp; rfl)); intro gb187 hg w69 hbox hb; have n0_ := Aside0.mk (below_step (by repeat (first | (with_reducible first | exact HB.out | apply below_alloc | apply pw_below_drewN | apply below_drew1) | exact HB.out)) hb); have n1_ := Aside0.mk (hbox); have n2_ := Aside0.mk ((by rw [hg]; exact (below_size (by repeat (first | (with_reducible first | exact HB.out | apply below_alloc | apply pw_below_drewN | apply below_drew1) | exact HB.out))) : w.heap.size ≤ gb187)); have n3_ := Aside0.mk ((by rw [hg]; exact (below_size (by repeat (first | (with_reducible first | exact HB.out | apply below_alloc | apply pw_below_drewN | apply below_drew1) | exact HB.out))) : w.heap.size ≤ gb187)); clear HB; have HB := n0_; have BK187 := n1_; have GW187 := n2_; have GE187 := n3_; clear n0_ n1_ n2_ n3_; clear hb hbox hg) | ((with_reducible refine gate_callee (f := 11) rfl ?_); refine goesL_ (some 12) rfl rfl Try.func11 (by kernel_rfl) rfl #[] rfl (by (try simp only [List.map_toArray, List.map_cons, List.map_nil]); first | done | rfl | (simp only [List.length_drop, List.length_take]; rfl)) ?_; (with_reducible refine (bazaarlaw05_shown.calls  false _ A3.out).mono ?_); rintro e w70 ⟨rfl, hb⟩; refine ⟨_, rfl, ?_⟩; have n0_ := Aside0.mk (blk_below (g := gb187) (o := .cells #[.int .u32 a0_0, .int .u32 a0_1, .slice A0_2 l0_2.length c0_2] 25 (0, 0)) (by (with_reducible repeat (first | refine blk_drewN ?_ _ | refine blk_drew ?_ | refine blk_alloc ?_ _)); exact BK187.out) hb); have n1_ := Aside0.mk (below_step (by repeat (first | (with_reducible first | exact HB.out | apply below_alloc | apply pw_below_drewN | apply below_drew1 | refine below_set ?_ GE187.out) | exact HB.out)) hb); clear BK187; clear HB; have BK187 := n0_; have HB := n1_; clear n0_ n1_; (try clear hb); (try clear hb2); (try clear hk); (try clear hi); have hcz71_0 : w70.cell? ⟨gb187, 0, none⟩ = some (.int .u32 a0_0) := (blk_cell BK187.out 0).trans rfl; have hcz71_1 : w70.cell? ⟨gb187, 1, none⟩ = some (.int .u32 a0_1) := (blk_cell BK187.out 1).trans rfl; have hcz71_2 : w70.cell? ⟨gb187, 2, none⟩ = some (.slice A0_2 l0_2.length c0_2) := (blk_cell BK187.out 2).trans rfl; have hfz71_0 := blk_frozen BK187.out 0; have hfz71_1 := blk_frozen BK187.out 1; have hfz71_2 := blk_frozen BK187.out 2) | ((with_reducible refine gate_callee (f := 12) rfl ?_); refine goesL_ (some 14) rfl rfl Try.func12 (by kernel_rfl) rfl #[.agg #[.int .u32 a0_0, .int .u32 a0_1, .slice A0_2 l0_2.length c0_2]] rfl (by (try simp only [List.map_toArray, List.map_cons, List.map_nil]); first | done | rfl | (simp only [List.length_drop, List.length_take]; rfl)) ?_; (with_reducible refine (bazaarlaw05_cut.calls a0_0 a0_1 _ _ l0_2 t189 t190 t191 _ ?side1 ?side2 A4.out).mono ?_); (case side1 => repeat (first | exact (Kd.C_below HR0_2.out HB.out) | (with_reducible refine Kd.C_alloc ?_ _) | (with_reducible refine Kd.C_drewN ?_ _) | (with_reducible refine Kd.C_drew ?_))); (case side2 => exact HC0_2.out); rintro e w72 ⟨v192, rfl, ho0, hb⟩; refine ⟨_, rfl, ?_⟩; have n0_ := Aside0.mk (Kd.R_lower ho0 (below_size (by repeat (first | (with_reducible first | exact HB.out | apply below_alloc | apply pw_below_drewN | apply below_drew1 | refine below_set ?_ GE187.out) | exact HB.out)))); have n1_ := Aside0.mk (blk_below (g := gb187) (o := .cells #[.int .u32 a0_0, .int .u32 a0_1, .slice A0_2 l0_2.length c0_2] 25 (0, 0)) (by (with_reducible repeat (first | refine blk_drewN ?_ _ | refine blk_drew ?_ | refine blk_alloc ?_ _)); exact BK187.out) hb); have n2_ := Aside0.mk (below_step (by repeat (first | (with_reducible first | exact HB.out | apply below_alloc | apply pw_below_drewN | apply below_drew1 | refine below_set ?_ GE187.out) | exact HB.out)) hb); clear BK187; clear HB; have HO193 := n0_; have BK187 := n1_; have HB := n2_; clear n0_ n1_ n2_; (try clear hb); (try clear hb2); (try clear hk); (try clear hi); (try clear ho0); have hcz73_0 : w72.cell? ⟨gb187, 0, none⟩ = some (.int .u32 a0_0) := (blk_cell BK187.out 0).trans rfl; have hcz73_1 : w72.cell? ⟨gb187, 1, none⟩ = some (.int .u32 a0_1) := (blk_cell BK187.out 1).trans rfl; have hcz73_2 : w72.cell? ⟨gb187, 2, none⟩ = some (.slice A0_2 l0_2.length c0_2) := (blk_cell BK187.out 2).trans rfl; have hfz73_0 := blk_frozen BK187.out 0; have hfz73_1 := blk_frozen BK187.out 1; have hfz73_2 := blk_frozen BK187.out 2; obtain ⟨Ao74, co74, eo74⟩ := Kd.R_slice HO193.out; subst eo74) | ((with_reducible refine gate_callee (f := 13) rfl ?_); refine goesL_ (some 18) rfl rfl Try.func13 (by kernel_rfl) rfl #[.agg #[.int .u32 t189, .int .u32 t190, .slice Ao74 t191.length co74], .int .u64 a1] rfl (by (try simp only [List.map_toArray, List.map_cons, List.map_nil]); first | done | rfl | (simp only [List.length_drop, List.length_take]; rfl)) ?_; (with_reducible refine (alloc_Take.calls t189 t190 _ _ t191 a1 t194 t195 t196 t199 t200 _ ?side1 ?side2 A5.out).mono ?_); (case side1 => refine (Kd.R_reads' (e := 44) (base := w.heap.size) (ok := fun k_ => True) (n := t191.length) (c := co74) ?_).2.2; exact (by (with_reducible repeat (first | apply Kd.R_alloc | apply Kd.R_drewN | apply Kd.R_drew)); exact (Kd.R_mono (Kd.R_far (p := ⟨gb187, 2, none⟩) (Kd.R_far (p := ⟨gb187, 1, none⟩) (Kd.R_far (p := ⟨gb187, 0, none⟩) (Kd.R_types HO193.out BK187.out (by decide)) (fun _ hk => hk.2) (.int .u32 t189)) (fun _ hk => hk.2) (.int .u32 t190)) (fun _ hk => hk.2) (.slice Ao74 t191.length co74)) (fun _ h_ => h_.1)))); (case side2 => exact (Kd.R_reads' HO193.out).2.1); rintro e w75 ⟨v197, rfl, ho0, hb⟩; refine ⟨_, rfl, ?_⟩; have n0_ := Aside0.mk (Kd.R_elder' (by (with_reducible repeat (first | apply Kd.R_alloc | apply Kd.R_drewN | apply Kd.R_drew)); exact (Kd.R_mono (Kd.R_far (p := ⟨gb187, 2, none⟩) (Kd.R_far (p := ⟨gb187, 1, none⟩) (Kd.R_far (p := ⟨gb187, 0, none⟩) (Kd.R_types HO193.out BK187.out (by decide)) (fun _ hk => hk.2) (.int .u32 t189)) (fun _ hk => hk.2) (.int .u32 t190)) (fun _ hk => hk.2) (.slice Ao74 t191.length co74)) (fun _ h_ => h_.1))) (Kd.R_base ho0) hb); have n1_ := Aside0.mk (Kd.R_lower (Kd.R_new' ho0 (Kd.R_lt (by (with_reducible repeat (first | apply Kd.R_alloc | apply Kd.R_drewN | apply Kd.R_drew)); exact (Kd.R_mono (Kd.R_far (p := ⟨gb187, 2, none⟩) (Kd.R_far (p := ⟨gb187, 1, none⟩) (Kd.R_far (p := ⟨gb187, 0, none⟩) (Kd.R_types HO193.out BK187.out (by decide)) (fun _ hk => hk.2) (.int .u32 t189)) (fun _ hk => hk.2) (.int .u32 t190)) (fun _ hk => hk.2) (.slice Ao74 t191.length co74)) (fun _ h_ => h_.1))))) (below_size (by repeat (first | (with_reducible first | exact HB.out | apply below_alloc | apply pw_below_drewN | apply below_drew1 | refine below_set ?_ GE187.out) | exact HB.out)))); have n2_ := Aside0.mk (blk_below (g := gb187) (o := .cells #[.int .u32 t189, .int .u32 t190, .slice Ao74 t191.length co74] 25 (0, 0)) (by (with_reducible repeat (first | refine blk_drewN ?_ _ | refine blk_drew ?_ | refine blk_alloc ?_ _)); refine blk_put (cs := #[.int .u32 t189, .int .u32 t190, .slice A0_2 l0_2.length c0_2]) ?_ 2 _ rfl; (with_reducible repeat (first | refine blk_drewN ?_ _ | refine blk_drew ?_ | refine blk_alloc ?_ _)); refine blk_put (cs := #[.int .u32 t189, .int .u32 a0_1, .slice A0_2 l0_2.length c0_2]) ?_ 1 _ rfl; (with_reducible repeat (first | refine blk_drewN ?_ _ | refine blk_drew ?_ | refine blk_alloc ?_ _)); refine blk_put (cs := #[.int .u32 a0_0, .int .u32 a0_1, .slice A0_2 l0_2.length c0_2]) ?_ 0 _ rfl; (with_reducible repeat (first | refine blk_drewN ?_ _ | refine blk_drew ?_ | refine blk_alloc ?_ _)); exact BK187.out) hb); have n3_ := Aside0.mk (below_step (by repeat (first | (with_reducible first | exact HB.out | apply below_alloc | apply pw_below_drewN | apply below_drew1 | refine below_set ?_ GE187.out) | exact HB.out)) hb); clear HO193; clear BK187; clear HB; have HO193 := n0_; have HO198 := n1_; have BK187 := n2_; have HB := n3_; clear n0_ n1_ n2_ n3_; (try clear hb); (try clear hb2); (try clear hk); (try clear hi); (try clear ho0)) | ((with_reducible refine gate_dst (N := 6) rfl ?_); refine box_event ?hg (N := 6) ?hd (cs := #[.int .u32 0, .int .u32 0, .slice none 0 0]) (t := 25) ?hr ?_; (case hd => rfl); (case hg => rfl); (case hr => first | (go_simp; done) | (go_simp; rfl)); intro gb201 hg w76 hbox hb; have n0_ := Aside0.mk (Kd.R_below (by (with_reducible repeat (first | apply Kd.R_alloc | apply Kd.R_drewN | apply Kd.R_drew)); exact HO193.out) hb); have n1_ := Aside0.mk (Kd.R_below (by (with_reducible repeat (first | apply Kd.R_alloc | apply Kd.R_drewN | apply Kd.R_drew)); exact HO198.out) hb); have n2_ := Aside0.mk (blk_below (g := gb187) (o := .cells #[.int .u32 t189, .int .u32 t190, .slice Ao74 t191.length co74] 25 (0, 0)) (by (with_reducible repeat (first | refine blk_drewN ?_ _ | refine blk_drew ?_ | refine blk_alloc ?_ _)); exact BK187.out) hb); have n3_ := Aside0.mk (below_step (by repeat (first | (with_reducible first | exact HB.out | apply below_alloc | apply pw_below_drewN | apply below_drew1 | refine below_set ?_ GE187.out) | exact HB.out)) hb); have n4_ := Aside0.mk (hbox); have n5_ := Aside0.mk ((by rw [hg]; exact (below_size (by repeat (first | (with_reducible first | exact HB.out | apply below_alloc | apply pw_below_drewN | apply below_drew1 | refine below_set ?_ GE187.out) | exact HB.out))) : w.heap.size ≤ gb201)); have n6_ := Aside0.mk ((by rw [hg]; exact (below_size (by repeat (first | (with_reducible first | exact HB.out | apply below_alloc | apply pw_below_drewN | apply below_drew1 | refine below_set ?_ GE187.out) | exact HB.out))) : w.heap.size ≤ gb201)); have n7_ := Aside0.mk ((by rw [hg]; exact Nat.ne_of_lt (blk_lt (g := gb187) (o := .cells #[.int .u32 t189, .int .u32 t190, .slice Ao74 t191.length co74] 25 (0, 0)) (by (with_reducible repeat (first | refine blk_drewN ?_ _ | refine blk_drew ?_ | refine blk_alloc ?_ _)); exact BK187.out)) : gb187 ≠ gb201)); have n8_ := Aside0.mk ((by rw [hg]; exact Nat.ne_of_gt (blk_lt (g := gb187) (o := .cells #[.int .u32 t189, .int .u32 t190, .slice Ao74 t191.length co74] 25 (0, 0)) (by (with_reducible repeat (first | refine blk_drewN ?_ _ | refine blk_drew ?_ | refine blk_alloc ?_ _)); exact BK187.out)) : gb201 ≠ gb187)); clear HO193; clear HO198; clear BK187; clear HB; have HO193 := n0_; have HO198 := n1_; have BK187 := n2_; have HB := n3_; have BK201 := n4_; have GW201 := n5_; have GE201 := n6_; have NB187_201 := n7_; have NB201_187 := n8_; clear n0_ n1_ n2_ n3_ n4_ n5_ n6_ n7_ n8_; clear hb hbox hg; have hnb77 := NB201_187.out; have hnc77 := NB187_201.out; have hcz78_0 : w76.cell? ⟨gb201, 0, none⟩ = some (.int .u32 0) := (blk_cell BK201.out 0).trans rfl; have hcz78_1 : w76.cell? ⟨gb201, 1, none⟩ = some (.int .u32 0) := (blk_cell BK201.out 1).trans rfl; have hcz78_2 : w76.cell? ⟨gb201, 2, none⟩ = some (.slice none 0 0) := (blk_cell BK201.out 2).trans rfl; have hfz78_0 := blk_frozen BK201.out 0; have hfz78_1 := blk_frozen BK201.out 1; have hfz78_2 := blk_frozen BK201.out 2; obtain ⟨Ao79, co79, eo79⟩ := Kd.R_slice HO198.out; subst eo79))
      go_ret
      exact ⟨by first | rfl | (simp [errW_none, errW_some] <;> rfl) | (simp [*, errW_none, errW_some] <;> rfl), by repeat (first | (with_reducible first | exact HB.out | apply below_alloc | apply pw_below_drewN | apply below_drew1 | refine below_set ?_ GE187.out | refine below_set ?_ GE201.out) | exact HB.out)⟩

end Go.Proofs.YtnbmpcdomdaimaaQ.PA
